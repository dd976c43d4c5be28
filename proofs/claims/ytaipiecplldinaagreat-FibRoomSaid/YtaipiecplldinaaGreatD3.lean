/- Part of a proof. -/
import Derived.Test.YtaipiecplldinaaGreatD2
import Derived.Test.YtaipiecplldinaaGreatD1
import Derived.Test.YtaipiecplldinaaGreatRows
import Derived.DeepKeys
import Derived.Lib.BytesEntry
import Derived.Maps.Keyed
set_option maxRecDepth 20000
set_option linter.unusedSimpArgs false
set_option linter.unusedVariables false
namespace Go.Kb
open Go.aC
def gV(c:CV)(l:List Int):Prop:= ∀n∈l,n=0∨(1≤n∧2≤(n -1)/c.pages∧(n -1)/c.pages<(c.blocks.length:Int))
theorem gV.bS{c d:CV}{l:List Int}(h:gV c l)(g:dw c d):gV d l:=fun n hn=>by
  rcases h n hn with h|h
  ·exact .inl h
  ·exact .inr (by rw[g.pages,g.len];exact h)
theorem gV.append{c:CV}{a b:List Int}(h:gV c a)(g:gV c b):gV c (a++b):=fun n hn=>(List.mem_append.1 hn).elim (h n) (g n)
theorem eF{c:CV}(h:aT c=true):1≤(c.blocks.length:Int)∧(c.blocks.length:Int)≤32∧1≤c.pages∧c.pages≤16∧1≤c.size∧c.size≤256:=jI.1 (eU.1 h).1
theorem Fc{n p b:Int}(hp:1≤p)(iK:p≤16)(hb:b≤32)(h:(n -1)/p<b):n≤512:=by
  have h1:n -1=p*((n -1)/p)+(n -1)%p:=(Int.mul_ediv_add_emod (n -1) p).symm
  have h2:=Int.emod_lt_of_pos (n -1) (show 0<p by omega)
  have h3:(n -1)/p≤31:=by omega
  have h4:p*((n -1)/p)≤p*31:=Int.mul_le_mul_of_nonneg_left h3 (by omega)
  omega
theorem gV.kn{c:CV}{l:List Int}(h:gV c l)(hk:aT c=true)(h2:2≤c.blocks.length)(hl:l.length≤1000000):qe c l:=
  ⟨⟨hk,hl⟩,h2,fun n hn=>by
    rcases h n hn with h|h
    ·exact .inl h
    ·have hd:=eF hk
     have:=Fc (n:=n) hd.2.2.1 hd.2.2.2.1 hd.2.1 h.2.2
     exact .inr ⟨h.1,by omega,h.2.1,h.2.2⟩⟩
theorem Fe{c:CV}{fl:List Int}{i:Nat}(hi:i<c.blocks.length -2):(av c fl)[i]? =some (nc (rb (aj c ((i:Int)+2)) (ju c.pages fl fl.length i))):=by
  rw[av,iD,jv,List.getElem?_map,List.getElem?_map,List.getElem?_range hi];rfl
theorem BR{c:CV}{fl:List Int}{i:Nat}{x:ax}(h:(av c fl)[i]? =some x):x.bad=(aj c ((i:Int)+2)).bad:=by
  have hi:=(List.getElem?_eq_some_iff.1 h).1
  rw[kA]at hi
  rw[Fe hi]at h
  obtain rfl:=Option.some.inj h
  rw[nc];split
  ·rename_i hb;exact hb.symm
  ·rfl
theorem qj{c:CV}(hk:aT c=true){b:Int}(h0:0≤b)(h1:b<c.blocks.length):mo c.pages c.size (aj c b)=true:=oB (gv.2 ⟨hk,h0,h1⟩)
structure BS(c:CV)(n:Nat)(x:ax):Prop where
  KN:0≤x.live
  S5:x.live≤n
  zd:0≤x.used
  wQ:x.used≤c.pages
  KO:0≤x.aS
  KP:x.aS≤cI
theorem rk{c:CV}{fl:List Int}(hk:aT c=true){x:ax}(h:x∈av c fl):BS c fl.length x:=by
  obtain⟨i,hi⟩:=List.getElem?_of_mem h
  have eP:=(List.getElem?_eq_some_iff.1 hi).1
  rw[kA]at eP
  rw[Fe eP]at hi
  obtain rfl:=Option.some.inj hi
  have hd:=eF hk
  have oE:cI=1099511627776:=rfl
  rw[nc];split
  ·exact⟨by simp[bj],by simp[bj],by simp[bj],by simp only[bj];omega,by simp[bj],by simp only[bj];omega⟩
  ·have ho:=dX.1 (qj hk (b:=(i:Int)+2) (by omega) (by omega))
   have:=Ky c.pages fl fl.length i
   exact⟨by simp only[rb];omega,by simp only[rb];omega,ho.2.1,ho.2.2.1,ho.2.2.2.1,ho.2.2.2.2.1⟩
theorem Ff{R:ax→Bool}{l:List ax}{i:Nat}{x:ax}(h:(bR R l)[i]? =some x): ∃y,l[i]? =some y∧x=gJ R y:=by
  rw[bR,List.getElem?_map,Option.map_eq_some_iff]at h
  obtain⟨y,hy,rfl⟩:=h
  exact⟨y,hy,rfl⟩
theorem S6{R:ax→Bool}{y:ax}(h:(gJ R y).bad=false):gJ R y=y∧y.bad=false∧R y=true:=by
  unfold gJ at h⊢
  split at h
  ·cases h
  ·rename_i hn
   rw[if_neg hn]
   refine⟨rfl,h,?_⟩
   cases hR:R y with
   |true=>rfl
   |false=>exact absurd (.inr hR) hn
theorem qk{p:Int}{x:ax}(h:ln p x=true):x.bad=false∧x.used<p:=by
  simpa[ln]using h
theorem kB{x:ax}(h:kW x=true):x.bad=false∧x.live=0∧0<x.used:=by
  simpa[kW,and_assoc]using h
theorem nf{R:ax→Bool}{l:List ax}{p:Int}{dR:ax→Bool}{os:List (ax→ax→Int)}(hr: ∀x,dR x=true→x.bad=false)(h:(fj (bR R l) p dR os).2=true):
    ∃x,l[(fj (bR R l) p dR os).1.toNat]? =some x∧x.bad=false∧R x=true∧dR x=true∧0≤(fj (bR R l) p dR os).1∧(fj (bR R l) p dR os).1<l.length:=by
  obtain⟨h1,h2,h3,h4⟩:=wM h
  rw[tu]at h3
  have hi:(bR R l)[(fj (bR R l) p dR os).1.toNat]? =some ((bR R l).getD (fj (bR R l) p dR os).1.toNat dH):=oh (by rw[tu];omega)
  obtain⟨y,hy,he⟩:=Ff hi
  rw[he]at h4
  obtain⟨k1,k2,k3⟩:=S6 (hr _ h4)
  rw[k1]at h4
  exact⟨y,hy,k2,k3,h4,h2,h3⟩
def pt(x:ax):Bool:=decide (0<x.live)
def fM(x:ax):Bool:=decide (x.live=0)
def dx(l:List ax):Nat:=(l.filter fun x=> !x.bad&&decide (x.live=0)).length
def kX(c:CV)(fl:List Int):Int×Bool:=eE (bR pt (av c fl)) c.pages
def jw(c:CV)(fl:List Int):Int×Bool:=eE (bR fM (av c fl)) c.pages
def iL(c:CV)(fl:List Int):Int:=(eK (bR fM (av c fl)) c.pages).1
def bk(c:CV)(fl:List Int)(aE:Bool):CV×Int×Int:=
  if(kX c fl).2=true then(c,(kX c fl).1+2,0)
  else if dx (av c fl)=0∨(dx (av c fl)=1∧aE=false)then(c,0,5)
  else if(jw c fl).2=true then(c,(jw c fl).1+2,0)
  else((cy c (iL c fl+2)).1,iL c fl+2,(cy c (iL c fl+2)).2)
theorem S7{l:List ax}{i:Nat}{x:ax}(h:l[i]? =some x):((l.take (i+1)).filter fun z=> !z.bad&&decide (z.live=0)).length=((l.take i).filter fun z=> !z.bad&&decide (z.live=0)).length+(if x.bad=false∧x.live=0 then 1 else 0):=by
  rw[List.take_add_one,h,List.filter_append,List.length_append]
  congr 1
  simp only[Option.toList_some,List.filter_cons,List.filter_nil]
  split<;>simp_all
theorem S8(l:List ax):(l.filter fun z=> !z.bad&&decide (z.live=0)).length≤l.length:=List.length_filter_le _ _
theorem KQ{c:CV}{fl:List Int}(hk:aT c=true)(h2:3≤c.blocks.length)(hi:dx (av c fl)≠0)(hb: ¬(jw c fl).2=true):0≤iL c fl∧iL c fl<(c.blocks.length:Int) -2∧(aj c (iL c fl+2)).bad=false:=by
  have hd:=eF hk
  have dt:=kA c fl
  have hw:ky (bR fM (av c fl)) c.pages=true:=qg.2 ⟨by rw[tu];omega,by rw[tu];omega,by omega,by omega,fun x hx=>by
    obtain⟨i,hi⟩:=List.getElem?_of_mem hx
    obtain⟨y,hy,rfl⟩:=Ff hi
    have t:=rk hk (List.mem_of_getElem? hy)
    have oE:cI=1099511627776:=rfl
    unfold gJ
    split
    ·exact pq.2 (by simp only[bj];omega)
    ·rename_i hn
     have hl:y.live=0:=by
        cases hR:fM y with
        |true=>simpa[fM]using hR
        |false=>exact absurd (.inr hR) hn
     exact pq.2 ⟨by omega,by have:=t.zd;omega,t.wQ,t.KO,t.KP⟩⟩
  have pv:(jw c fl).2=false:=by simpa using hb
  have Fg:=re hw (show(fj _ _ _ _).2=false from pv)
  have wR:0<((av c fl).filter fun x=> !x.bad&&decide (x.live=0)).length:=by rw[dx]at hi;omega
  obtain⟨x,hx⟩:=List.exists_mem_of_length_pos wR
  obtain⟨ng,jL⟩:=List.mem_filter.1 hx
  simp only[Bool.and_eq_true,Bool.not_eq_true',decide_eq_true_eq]at jL
  have rl:gJ fM x=x:=by
    unfold gJ
    rw[if_neg]
    rintro(g|g)
    ·rw[jL.1]at g;cases g
    ·rw[show fM x=true by simp[fM,jL.2]]at g;cases g
  have ze:x∈bR fM (av c fl):=by
    rw[←rl];exact List.mem_map_of_mem ng
  have zf:=Fg x ze
  have t:=rk hk ng
  have lq:kW x=true:=by
    have: ¬x.used<c.pages:=fun h=>by
      rw[ln,jL.1,decide_eq_true h]at zf;cases zf
    simp only[kW,jL.1,Bool.not_false,Bool.true_and,Bool.and_eq_true,decide_eq_true_eq]
    omega
  have hf:(eK (bR fM (av c fl)) c.pages).2=true:=by
    cases hq:(eK (bR fM (av c fl)) c.pages).2 with
    |true=>rfl
    |false=>have:=re hw hq x ze;rw[lq]at this;cases this
  obtain⟨y,hy,k1,_,_,k4,k5⟩:=nf (fun x h=>(kB h).1) hf
  have ql:=BR hy
  change 0≤iL c fl at k4
  change iL c fl<_ at k5
  refine⟨k4,by omega,?_⟩
  rw[←k1,ql]
  congr 2
  change _=((iL c fl).toNat:Int)+2
  omega
theorem KR{c:CV}{fl:List Int}(h:(kX c fl).2=true):0≤(kX c fl).1∧(kX c fl).1<((c.blocks.length -2:Nat):Int)∧(aj c ((kX c fl).1+2)).bad=false:=by
  obtain⟨y,hy,k1,_,_,k4,k5⟩:=nf (fun x h=>(qk h).1) h
  have ql:=BR hy
  rw[kA]at k5
  refine⟨k4,k5,?_⟩
  rw[←k1,ql]
  congr 2
  change _=((kX c fl).1.toNat:Int)+2
  change 0≤(kX c fl).1 at k4
  omega
theorem KS{c:CV}{fl:List Int}(h:(jw c fl).2=true):0≤(jw c fl).1∧(jw c fl).1<((c.blocks.length -2:Nat):Int)∧(aj c ((jw c fl).1+2)).bad=false:=by
  obtain⟨y,hy,k1,_,_,k4,k5⟩:=nf (fun x h=>(qk h).1) h
  have ql:=BR hy
  rw[kA]at k5
  refine⟨k4,k5,?_⟩
  rw[←k1,ql]
  congr 2
  change _=((jw c fl).1.toNat:Int)+2
  change 0≤(jw c fl).1 at k4
  omega
theorem zg{c:CV}{b:Int}(h:dF c b=0):m0 c b=true∧c.off=false∧(aj c b).bad=false∧(bn c).2=false∧da c b=jZ c b:=by
  have h0:=h
  rw[dF]at h
  by_cases h1:m0 c b=true
  ·rw[if_pos h1]at h
   by_cases h2:c.off=true
   ·rw[if_pos h2]at h;cases h
   ·rw[if_neg h2]at h
    by_cases h3:(aj c b).bad=true
    ·rw[if_pos h3]at h;cases h
    ·rw[if_neg h3]at h
     by_cases h4:(bn c).2=true
     ·rw[if_pos h4,kt]at h
      split at h<;>cases h
     ·refine⟨h1,by simpa using h2,by simpa using h3,by simpa using h4,?_⟩
      rw[da,iE,h0,if_neg (by decide),fA,if_pos ⟨h1,by simpa using h2,by simpa using h3⟩]
  ·rw[if_neg h1]at h;cases h
theorem KT{c:CV}{b:Int}(h:dF c b=0):(aj (da c b) b).bad=false:=by
  obtain⟨h1,h2,h3,h4,h5⟩:=zg h
  rw[h5,jZ,oD (nJ.1 h1).1];exact h3
theorem BT: ∀(n:Nat) {c:CV} {b:Int},(eY n c b).2=0→(aj (eY n c b).1 b).bad=false
  |0,c,b,h=>KT h
  |n+1,c,b,h=>by
   rw[eY]at h⊢
   by_cases h0:bC c b (gT c)≠0
   ·rw[if_pos h0]at h;exact absurd h h0
   ·rw[if_neg h0]at h⊢;exact BT n h
theorem Fh{c:CV}{fl:List Int}{aE:Bool}(hk:aT c=true)(h2:3≤c.blocks.length):aT (bk c fl aE).1=true∧dw c (bk c fl aE).1∧c.ops≤(bk c fl aE).1.ops∧
    ((bk c fl aE).2.2=0→2≤(bk c fl aE).2.1∧(bk c fl aE).2.1<c.blocks.length∧(aj (bk c fl aE).1 (bk c fl aE).2.1).bad=false)∧((bk c fl aE).2.2=9→c.ops<(bk c fl aE).1.ops):=by
  rw[bk]
  by_cases h1:(kX c fl).2=true
  ·rw[if_pos h1]
   have:=KR h1
   exact⟨hk, .cX c,Int.le_refl _,fun _=>⟨by simp only;omega,by simp only;omega,this.2.2⟩,fun h=>absurd (show(0:Int)=9 from h) (by decide)⟩
  ·rw[if_neg h1]
   by_cases h3:dx (av c fl)=0∨(dx (av c fl)=1∧aE=false)
   ·rw[if_pos h3]
    exact⟨hk, .cX c,Int.le_refl _,fun h=>absurd (show(5:Int)=0 from h) (by decide),fun h=>absurd (show(5:Int)=9 from h) (by decide)⟩
   ·rw[if_neg h3]
    by_cases h4:(jw c fl).2=true
    ·rw[if_pos h4]
     have:=KS h4
     exact⟨hk, .cX c,Int.le_refl _,fun _=>⟨by simp only;omega,by simp only;omega,this.2.2⟩,fun h=>absurd (show(0:Int)=9 from h) (by decide)⟩
    ·rw[if_neg h4]
     obtain⟨d1,d2,d3⟩:=KQ hk h2 (fun e=>h3 (.inl e)) h4
     have hc:=tt (iL c fl+2) hk
     exact⟨hc.1,hc.2,wO _ _ _,fun h=>⟨by simp only;omega,by simp only;omega,BT _ h⟩,fun h=>BQ d3 (.inl h)⟩
def ia:Nat→CV→List Int→Bool→List UInt8→CV×Int×Int
  |0,c,_,_,_=>(c,0,0)
  |n+1,c,fl,aE,b=>
   if(bk c fl aE).2.2=0 then
      (if bC (bk c fl aE).1 (bk c fl aE).2.1 b=0 then(bD (bk c fl aE).1 (bk c fl aE).2.1 b,(bk c fl aE).2.1*c.pages+(aj (bk c fl aE).1 (bk c fl aE).2.1).used+1,0)
       else if bC (bk c fl aE).1 (bk c fl aE).2.1 b≠9 then(bD (bk c fl aE).1 (bk c fl aE).2.1 b,0,bC (bk c fl aE).1 (bk c fl aE).2.1 b)
       else ia n (bD (bk c fl aE).1 (bk c fl aE).2.1 b) fl aE b)
   else if(bk c fl aE).2.2≠9 then((bk c fl aE).1,0,(bk c fl aE).2.2)
   else ia n (bk c fl aE).1 fl aE b
def cT(c:CV)(fl:List Int)(aE:Bool)(p:PV):CV×Int×Int:=
  if(c8 p c.size).2≠0 then(c,0,(c8 p c.size).2)else ia ((cI -c.ops).toNat+1) c fl aE (c8 p c.size).1
theorem qm{c:CV}(h:aT c=true):c.ops≤cI:=(eU.1 h).2.2.1
theorem Fi: ∀(n:Nat) {c:CV} {fl:List Int} {aE:Bool} {b:List UInt8},aT c=true→3≤c.blocks.length→(cI -c.ops).toNat<n→
    aT (ia n c fl aE b).1=true∧dw c (ia n c fl aE b).1∧c.ops≤(ia n c fl aE b).1.ops∧((ia n c fl aE b).2.2=0→1≤(ia n c fl aE b).2.1∧2≤((ia n c fl aE b).2.1 -1)/c.pages∧((ia n c fl aE b).2.1 -1)/c.pages<c.blocks.length)
  |0,c,fl,aE,b,_,_,hn=>by omega
  |n+1,c,fl,aE,b,hk,h2,hn=>by
   obtain⟨f1,f2,f3,f4,f5⟩:=Fh (fl:=fl) (aE:=aE) hk h2
   have hd:=eF hk
   rw[ia]
   by_cases h0:(bk c fl aE).2.2=0
   ·rw[if_pos h0]
    obtain⟨g1,g2,g3⟩:=f4 h0
    by_cases h1:bC (bk c fl aE).1 (bk c fl aE).2.1 b=0
    ·rw[if_pos h1]
     have hl:=f2.trans (gU (bk c fl aE).1 (bk c fl aE).2.1 b)
     have hp:=iW.1 (nM h1).1
     rw[f2.pages]at hp
     have hu:0≤(aj (bk c fl aE).1 (bk c fl aE).2.1).used:=hp.2.1
     have S9:=hp.2.2.1
     have hq:((bk c fl aE).2.1*c.pages+(aj (bk c fl aE).1 (bk c fl aE).2.1).used+1 -1)/c.pages=(bk c fl aE).2.1:=by
          rw[Int.add_sub_cancel,Int.add_comm,Int.add_mul_ediv_right _ _ (by omega),Int.ediv_eq_zero_of_lt hu S9,Int.zero_add]
     refine⟨kz f1 _ _,hl,?_,fun _=>⟨?_,by simp only;rw[hq];exact g1,by simp only;rw[hq];exact g2⟩⟩
     ·have:=uZ (bk c fl aE).1 (bk c fl aE).2.1 b;simp only;omega
     ·have:0≤(bk c fl aE).2.1*c.pages:=Int.mul_nonneg (by omega) (by omega)
      simp only;omega
    ·rw[if_neg h1]
     by_cases h9:bC (bk c fl aE).1 (bk c fl aE).2.1 b≠9
     ·rw[if_pos h9]
      exact⟨kz f1 _ _,f2.trans (gU _ _ _),by have:=uZ (bk c fl aE).1 (bk c fl aE).2.1 b;simp only;omega,fun h=>absurd h h1⟩
     ·rw[if_neg h9]
      have ho:=rf g3 (p:=b) (.inl (by simpa using h9))
      have bP:=kz f1 (bk c fl aE).2.1 b
      have hl:=f2.trans (gU (bk c fl aE).1 (bk c fl aE).2.1 b)
      have hle:=qm bP
      have:=Fi n (fl:=fl) (aE:=aE) (b:=b) bP (by rw[hl.len];exact h2) (by omega)
      refine⟨this.1,hl.trans this.2.1,by omega,fun h=> ?_⟩
      have g:=this.2.2.2 h
      rw[hl.pages,hl.len]at g
      exact g
   ·rw[if_neg h0]
    by_cases h9:(bk c fl aE).2.2≠9
    ·rw[if_pos h9]
     exact⟨f1,f2,f3,fun h=>absurd h h0⟩
    ·rw[if_neg h9]
     have ho:=f5 (by simpa using h9)
     have hle:=qm f1
     have:=Fi n (fl:=fl) (aE:=aE) (b:=b) f1 (by rw[f2.len];exact h2) (by omega)
     refine⟨this.1,f2.trans this.2.1,by omega,fun h=> ?_⟩
     have g:=this.2.2.2 h
     rw[f2.pages,f2.len]at g
     exact g
theorem KU{c:CV}{fl:List Int}{aE:Bool}{p:PV}(hk:aT c=true)(h2:3≤c.blocks.length):
    aT (cT c fl aE p).1=true∧dw c (cT c fl aE p).1∧c.ops≤(cT c fl aE p).1.ops∧((cT c fl aE p).2.2=0→1≤(cT c fl aE p).2.1∧2≤((cT c fl aE p).2.1 -1)/c.pages∧((cT c fl aE p).2.1 -1)/c.pages<c.blocks.length):=by
  rw[cT];split
  ·rename_i h;exact⟨hk, .cX c,Int.le_refl _,fun h'=>absurd h' h⟩
  ·exact Fi _ hk h2 (by omega)
def j9(p:Int)(x:ax):Int:=if x.live=0∧p -x.used=0 then p else p -x.used
def qn(p:Int)(s:Int×Int)(x:ax):Int×Int:=if x.bad=true then s else(s.1+j9 p x,if x.live=0 then max s.2 (j9 p x)else s.2)
def fm(p:Int)(l:List ax):Int×Int:=l.foldl (qn p) (0,0)
def jx(c:CV)(fl:List Int):Int×Int:=((fm c.pages (av c fl)).1 -(fm c.pages (av c fl)).2,(fm c.pages (av c fl)).1)
theorem KV{p:Int}{l:List ax}{i:Nat}{x:ax}(h:l[i]? =some x):fm p (l.take (i+1))=qn p (fm p (l.take i)) x:=by
  rw[fm,List.take_add_one,h];simp[fm]
theorem BU{c:CV}{n:Nat}{x:ax}(h:BS c n x)(hk:aT c=true):0≤j9 c.pages x∧j9 c.pages x≤c.pages:=by
  have hd:=eF hk
  have:=h.zd;have:=h.wQ
  rw[j9];split<;>omega
theorem KW{c:CV}{n:Nat}(hk:aT c=true)(l:List ax)(h: ∀x∈l,BS c n x): ∀i,i≤l.length→0≤(fm c.pages (l.take i)).1∧(fm c.pages (l.take i)).1≤16*(i:Int)∧0≤(fm c.pages (l.take i)).2∧(fm c.pages (l.take i)).2≤16
  |0,_=>by simp[fm]
  |i+1,hi=>by
   obtain⟨x,hx⟩:=get_some (xs:=l) (i:=i) (by omega)
   have ih:=KW hk l h i (by omega)
   have hr:=BU (h x (List.mem_of_getElem? hx)) hk
   have hd:=eF hk
   rw[KV hx,qn]
   split
   ·omega
   ·refine⟨by simp only;omega,by simp only;omega,?_,?_⟩
    ·simp only;split<;>omega
    ·simp only;split<;>omega
open Go.aC
structure cO(x:WV):Prop where
 ae:aT x.v.ae=true
 len:4≤(x.v.ae.blocks.length:Int)
 pages:2≤x.v.ae.pages
 size:24≤x.v.ae.size
 last:x.v.last=0∨x.v.last=1
 gen:x.v.gen<281474976710656
 si:gV x.v.ae x.v.at_
 ka:x.v.at_.length≤64
theorem cO.on{x:WV}(h:cO x){c:CV}(hk:aT c=true)(hl:dw x.v.ae c):cO (x.on c):=
 ⟨hk,by simp only[WV.on];rw[hl.len];exact h.len,by simp only[WV.on];rw[hl.pages];exact h.pages,by simp only[WV.on];rw[hl.size];exact h.size,h.last,h.gen,h.si.bS hl,h.ka⟩
theorem cO.qo{x:WV}(h:cO x):4≤x.v.ae.blocks.length:=by have:=h.len;omega
theorem KX(x:WV):x.on x.v.ae=x:=rfl
theorem KY(x:WV)(c d:CV):(x.on c).on d=x.on d:=rfl
def aW(c:CV)(last:Int):CV×Int×Int:=
 if 0<dG c last then(c,last,0)
 else if 0<dG c (1 -last)then(c,1 -last,0)
 else if(aj c (1 -last)).bad=true then(c,0,9)
 else(da c (1 -last),1 -last,dF c (1 -last))
theorem BW{c:CV}{b:Int}(h:0<dG c b):(aj c b).bad=false:=by
 rw[dG]at h;split at h
 ·
  omega
 ·
  rename_i hn;simpa using hn
theorem BX{c:CV}{last:Int}(hk:aT c=true)(hl:last=0∨last=1):aT (aW c last).1=true∧dw c (aW c last).1∧c.ops≤(aW c last).1.ops∧
  ((aW c last).2.2=0→((aW c last).2.1=0∨(aW c last).2.1=1)∧(aj (aW c last).1 (aW c last).2.1).bad=false):=by
 rw[aW]
 by_cases h1:0<dG c last
 ·
  rw[if_pos h1];exact⟨hk, .cX c,Int.le_refl _,fun _=>⟨hl,BW h1⟩⟩
 ·
  rw[if_neg h1]
  by_cases h2:0<dG c (1 -last)
  ·
   rw[if_pos h2];exact⟨hk, .cX c,Int.le_refl _,fun _=>⟨by simp only;omega,BW h2⟩⟩
  ·
   rw[if_neg h2]
   by_cases h3:(aj c (1 -last)).bad=true
   ·
    rw[if_pos h3];exact⟨hk, .cX c,Int.le_refl _,fun h=>absurd (show(9:Int)=0 from h) (by decide)⟩
   ·
    rw[if_neg h3];exact⟨za hk _,tr _ _,KG _ _,fun h=>⟨by simp only;omega,KT h⟩⟩
def gf:Nat→WV→List Int→List UInt8→WV×Int
 |0,x,_,_=>(x,0)
 |n+1,x,a,b=>
  if(aW x.v.ae x.v.last).2.2≠0 then(x.on (aW x.v.ae x.v.last).1,(aW x.v.ae x.v.last).2.2)
  else if bC (aW x.v.ae x.v.last).1 (aW x.v.ae x.v.last).2.1 b=0 then
   (⟨⟨bD (aW x.v.ae x.v.last).1 (aW x.v.ae x.v.last).2.1 b,a,x.v.gen+1,if j8 (bD (aW x.v.ae x.v.last).1 (aW x.v.ae x.v.last).2.1 b) 1=x.v.gen+1 then 1 else(aW x.v.ae x.v.last).2.1⟩,x.beyond⟩,0)
  else if bC (aW x.v.ae x.v.last).1 (aW x.v.ae x.v.last).2.1 b≠9 then
   (x.on (bD (aW x.v.ae x.v.last).1 (aW x.v.ae x.v.last).2.1 b),bC (aW x.v.ae x.v.last).1 (aW x.v.ae x.v.last).2.1 b)
  else gf n (x.on (bD (aW x.v.ae x.v.last).1 (aW x.v.ae x.v.last).2.1 b)) a b
def dI(x:WV)(a:List Int):WV×Int:=
 if(cN ⟨x.v.gen+1,a⟩ x.v.ae.size).2≠0 then(x,(cN ⟨x.v.gen+1,a⟩ x.v.ae.size).2)
 else gf ((cI -x.v.ae.ops).toNat+1) x a (cN ⟨x.v.gen+1,a⟩ x.v.ae.size).1
structure iM(x y:WV):Prop where
 ok:cO y
 bS:dw x.v.ae y.v.ae
 ops:x.v.ae.ops≤y.v.ae.ops
 u4:y.v.at_.length=x.v.at_.length
theorem iM.cX{x:WV}(h:cO x):iM x x:=⟨h, .cX _,Int.le_refl _,rfl⟩
theorem iM.trans{x y z:WV}(h:iM x y)(g:iM y z):iM x z:=⟨g.ok,h.bS.trans g.bS,Int.le_trans h.ops g.ops,g.u4.trans h.u4⟩
theorem iM.on{x:WV}(h:cO x){c:CV}(hk:aT c=true)(hl:dw x.v.ae c)(ho:x.v.ae.ops≤c.ops):iM x (x.on c):=⟨h.on hk hl,hl,ho,rfl⟩
theorem Ta{r:RV}{n:Int}(h:(cN r n).2=0):r.gen<281474976710656∧(r.at_.length:Int)≤jt n:=by
 rw[cN]at h;split at h
 ·
  rename_i hm;have:=tn.1 hm;exact⟨this.2.1,this.2.2.1⟩
 ·
  cases h
theorem Tb(n:Int):jt n≤64:=by rw[jt];omega
theorem KZ: ∀(n:Nat) {x:WV} {a:List Int} {b:List UInt8},cO x→gV x.v.ae a→a.length=x.v.at_.length→x.v.gen+1<281474976710656→(cI -x.v.ae.ops).toNat<n→iM x (gf n x a b).1∧((gf n x a b).2=0→x.v.ae.ops<(gf n x a b).1.v.ae.ops)
 |0,x,a,b,_,_,_,_,hn=>by omega
 |n+1,x,a,b,hx,ha,dD,hg,hn=>by
  obtain⟨r1,r2,r3,r4⟩:=BX (c:=x.v.ae) (last:=x.v.last) hx.ae hx.last
  rw[gf]
  by_cases h0:(aW x.v.ae x.v.last).2.2≠0
  ·
   rw[if_pos h0];exact⟨.on hx r1 r2 r3,fun h=>absurd h h0⟩
  ·
   rw[if_neg h0]
   obtain⟨r5,r6⟩:=r4 (by simpa using h0)
   have fw:=kz r1 (aW x.v.ae x.v.last).2.1 b
   have bU:=r2.trans (gU (aW x.v.ae x.v.last).1 (aW x.v.ae x.v.last).2.1 b)
   have lr:=uZ (aW x.v.ae x.v.last).1 (aW x.v.ae x.v.last).2.1 b
   by_cases h1:bC (aW x.v.ae x.v.last).1 (aW x.v.ae x.v.last).2.1 b=0
   ·
    rw[if_pos h1]
    have ho:=rf r6 (p:=b) (.inr h1)
    have ft:=hx.on fw bU
    refine⟨⟨⟨fw,ft.len,ft.pages,ft.size,?_,hg,ha.bS bU,by simp only;rw[dD];exact hx.ka⟩,bU,by simp only;omega,dD⟩,fun _=>by simp only;omega⟩
    simp only;split
    ·
     exact .inr rfl
    ·
     exact r5
   ·
    rw[if_neg h1]
    by_cases h9:bC (aW x.v.ae x.v.last).1 (aW x.v.ae x.v.last).2.1 b≠9
    ·
     rw[if_pos h9];exact⟨.on hx fw bU (by omega),fun h=>absurd h h1⟩
    ·
     rw[if_neg h9]
     have ho:=rf r6 (p:=b) (.inl (by simpa using h9))
     have hle:=qm fw
     have ft:=hx.on fw bU
     have:=KZ n (x:=x.on (bD (aW x.v.ae x.v.last).1 (aW x.v.ae x.v.last).2.1 b)) (a:=a) (b:=b) ft (ha.bS bU) dD hg (by simp only[WV.on];omega)
     exact⟨(iM.on hx fw bU (by omega)).trans this.1,fun h=>by
      have h2:(bD (aW x.v.ae x.v.last).1 (aW x.v.ae x.v.last).2.1 b).ops<_:=this.2 h
      omega⟩
theorem Fj{x:WV}{a:List Int}(hx:cO x)(ha:gV x.v.ae a)(dD:a.length=x.v.at_.length):iM x (dI x a).1∧((dI x a).2=0→x.v.ae.ops<(dI x a).1.v.ae.ops):=by
 rw[dI];split
 ·
  rename_i h;exact⟨.cX hx,fun h'=>absurd h' h⟩
 ·
  rename_i h
  have:=Ta (r:=⟨x.v.gen+1,a⟩) (n:=x.v.ae.size) (by simpa using h)
  exact KZ _ hx ha dD this.1 (by omega)
def lU:Nat→Int→CV→CV×Int
 |0,_,c=>(c,0)
 |n+1,b,c=>if wP c b=false then lU n (b+1) c
  else if dF c b≠0∧dF c b≠9 then(da c b,dF c b)else lU n (b+1) (da c b)
def nh(c:CV)(b:Int)(ids:Nat):List UInt8×Int:=cN ⟨fL c b,List.replicate ids 0⟩ c.size
def BY(c:CV)(b:Int)(ids:Nat)(g:Nat):VV:=⟨c,List.replicate ids 0,g,b⟩
def tv:Nat→Int→WV→Nat→WV×Int
 |0,_,x,_=>(x,9)
 |n+1,b,x,ids=>
  if(nh x.v.ae b ids).2≠0∨dG x.v.ae b=0 then tv n (b+1) x ids
  else if bC x.v.ae b (nh x.v.ae b ids).1=0 then(⟨BY (bD x.v.ae b (nh x.v.ae b ids).1) b ids (fL x.v.ae b),x.beyond⟩,0)
  else if bC x.v.ae b (nh x.v.ae b ids).1≠9 then(x.on (bD x.v.ae b (nh x.v.ae b ids).1),bC x.v.ae b (nh x.v.ae b ids).1)
  else tv n (b+1) (x.on (bD x.v.ae b (nh x.v.ae b ids).1)) ids
def pw(x:WV)(ids:Nat):WV×Int:=
 if(lU x.v.ae.blocks.length 0 x.v.ae).2≠0 then(x.on (lU x.v.ae.blocks.length 0 x.v.ae).1,(lU x.v.ae.blocks.length 0 x.v.ae).2)
 else tv 2 0 (x.on (lU x.v.ae.blocks.length 0 x.v.ae).1) ids
open Go.aC
def tw(s:Int×Int)(i:Nat)(x:ax):Int×Int:=
 if x.bad=true∨x.live=0∨cI≤x.aS then s else if s.2<x.used -x.live then((i:Int),x.used -x.live)else s
def fN(l:List ax):Nat→Int×Int
 |0=>(0,0)
 |k+1=>tw (fN l k) k (l.getD k dH)
def gy(l:List ax)(p:Int):Int×Bool:=if(qi l p).2=true then((qi l p).1,true)else((fN l l.length).1,decide (0<(fN l l.length).2))
theorem Fk(l:List ax): ∀k,0≤(fN l k).1∧0≤(fN l k).2∧(0<(fN l k).2→(fN l k).1<k)
 |0=>by simp[fN]
 |k+1=>by
  have:=Fk l k
  rw[fN,tw]
  split
  ·
   exact⟨this.1,this.2.1,fun h=>by have:=this.2.2 h;omega⟩
  ·
   split
   ·
    exact⟨by simp only;omega,by simp only;omega,fun _=>by simp only;omega⟩
   ·
    exact⟨this.1,this.2.1,fun h=>by have:=this.2.2 h;omega⟩
theorem Fl{l:List ax}{p:Int}(h:(gy l p).2=true):0≤(gy l p).1∧(gy l p).1<l.length:=by
 rw[gy]at h⊢
 split
 ·
  rename_i hv
  have:=wM hv
  exact⟨this.2.1,this.2.2.1⟩
 ·
  rename_i hv
  rw[if_neg hv]at h
  have:=Fk l l.length
  exact⟨this.1,this.2.2 (by simpa using h)⟩
def px(x:ax):Bool:=decide (x.used=0)
def qp(p:Int)(x:ax):Bool:=decide (x.used=p)
def qq(x:ax):Bool:=decide (x.aS<cI)
def kY(c:CV)(l:List ax):Int×Bool:=eE (bR px l) c.pages
def ja(c:CV)(l:List ax):Int×Bool:=eK (bR (qp c.pages) l) c.pages
def jb(c:CV)(l:List ax):Int×Bool:=eK (bR qq l) c.pages
def bT(c:CV)(l:List ax):CV×Int×Int:=
 if(kY c l).2=true then(c,(kY c l).1+2,0)
 else if(ja c l).2=true then((cy c ((ja c l).1+2)).1,(ja c l).1+2,(cy c ((ja c l).1+2)).2)
 else if(jb c l).2=true then((cy c ((jb c l).1+2)).1,(jb c l).1+2,(cy c ((jb c l).1+2)).2)
 else(c,0,6)
def kb(c:CV)(l:List ax):Prop:=l.length=c.blocks.length -2∧ ∀(i:Nat) (x:ax),l[i]? =some x→x.bad=false→(aj c ((i:Int)+2)).bad=false
theorem u5(c:CV)(fl:List Int):kb c (av c fl):=⟨kA c fl,fun i x hx hb=>by rw[←BR hx];exact hb⟩
theorem kb.set{c:CV}{l:List ax}(h:kb c l)(i:Nat):kb c (l.set i bj):=⟨by rw[List.length_set];exact h.1,fun j x hx hb=>by
 rw[List.getElem?_set]at hx
 split at hx
 ·
  split at hx
  ·
   obtain rfl:=Option.some.inj hx;cases hb
  ·
   cases hx
 ·
  exact h.2 j x hx hb⟩
theorem tA{c:CV}{R:ax→Bool}{l:List ax}{dR:ax→Bool}{os:List (ax→ax→Int)}(ht:kb c l)(hr: ∀x,dR x=true→x.bad=false)(h:(fj (bR R l) c.pages dR os).2=true):
  0≤(fj (bR R l) c.pages dR os).1∧(fj (bR R l) c.pages dR os).1<((c.blocks.length -2:Nat):Int)∧(aj c ((fj (bR R l) c.pages dR os).1+2)).bad=false:=by
 obtain⟨x,hx,k1,_,_,k4,k5⟩:=nf hr h
 rw[ht.1]at k5
 refine⟨k4,k5,?_⟩
 have:=ht.2 _ x hx k1
 rwa [show(((fj (bR R l) c.pages dR os).1.toNat:Nat):Int)=(fj (bR R l) c.pages dR os).1 by omega]at this
theorem Fm{c:CV}{l:List ax}(hk:aT c=true)(ht:kb c l):aT (bT c l).1=true∧dw c (bT c l).1∧c.ops≤(bT c l).1.ops∧
  ((bT c l).2.2=0→2≤(bT c l).2.1∧(bT c l).2.1<c.blocks.length∧(aj (bT c l).1 (bT c l).2.1).bad=false)∧((bT c l).2.2=9→c.ops<(bT c l).1.ops)∧((bT c l).2.2=6→(bT c l).1=c):=by
 rw[bT]
 have e6: ∀{b:Int},(cy c b).2≠6:=fun{b}=>by
  have: ∀n {c:CV},(eY n c b).2≠6:=by
   intro n
   induction n with
   |zero=>
    intro c
    simp only[eY,dF]
    split
    ·
     split
     ·
      decide
     ·
      split
      ·
       decide
      ·
       split
       ·
        rw[kt];split<;>decide
       ·
        decide
    ·
     decide
   |succ n ih=>
    intro c
    rw[eY];split
    ·
     simp only[bC,jq]
     split
     ·
      split
      ·
       decide
      ·
       split
       ·
        decide
       ·
        split
        ·
         rw[kt];split<;>decide
        ·
         decide
     ·
      decide
    ·
     exact ih
  exact this _
 by_cases h1:(kY c l).2=true
 ·
  rw[if_pos h1]
  have:=tA ht (fun x h=>(qk h).1) h1
  change 0≤(kY c l).1∧(kY c l).1<_∧(aj c ((kY c l).1+2)).bad=false at this
  exact⟨hk, .cX c,Int.le_refl _,fun _=>⟨by simp only;omega,by simp only;omega,this.2.2⟩,fun h=>absurd (show(0:Int)=9 from h) (by decide),fun h=>absurd (show(0:Int)=6 from h) (by decide)⟩
 ·
  rw[if_neg h1]
  by_cases h2:(ja c l).2=true
  ·
   rw[if_pos h2]
   have:=tA ht (fun x h=>(kB h).1) h2
   change 0≤(ja c l).1∧(ja c l).1<_∧(aj c ((ja c l).1+2)).bad=false at this
   have hc:=tt ((ja c l).1+2) hk
   exact⟨hc.1,hc.2,wO _ _ _,fun h=>⟨by simp only;omega,by simp only;omega,BT _ h⟩,fun h=>BQ this.2.2 (.inl h),fun h=>absurd h e6⟩
  ·
   rw[if_neg h2]
   by_cases h3:(jb c l).2=true
   ·
    rw[if_pos h3]
    have:=tA ht (fun x h=>(kB h).1) h3
    change 0≤(jb c l).1∧(jb c l).1<_∧(aj c ((jb c l).1+2)).bad=false at this
    have hc:=tt ((jb c l).1+2) hk
    exact⟨hc.1,hc.2,wO _ _ _,fun h=>⟨by simp only;omega,by simp only;omega,BT _ h⟩,fun h=>BQ this.2.2 (.inl h),fun h=>absurd h e6⟩
   ·
    rw[if_neg h3]
    exact⟨hk, .cX c,Int.le_refl _,fun h=>absurd (show(6:Int)=0 from h) (by decide),fun h=>absurd (show(6:Int)=9 from h) (by decide),fun _=>rfl⟩
def cf(c:CV)(a0 a:List Int)(src to:Int):Int×Bool:=
 if to<0 then(if(eE ((av c (a0++a)).set (src -2).toNat bj) c.pages).2=true then((eE ((av c (a0++a)).set (src -2).toNat bj) c.pages).1+2,true)else(0,false))else(to,true)
def dJ(c:CV)(g id n:Int):List UInt8×Int:=c8 ⟨1,id,g.toNat,iC c n⟩ c.size
structure MV where
 c:CV
 a:List Int
 e:Option Int
def bV(v:VV)(src to:Int):List Int→Nat→CV→List Int→MV
 |[],_,c,a=>⟨c,a,none⟩
 |n::r,id,c,a=>
  if n=0∨(n -1)/v.ae.pages≠src then bV v src to r (id+1) c a
  else if(cf c v.at_ a src to).2=false then⟨c,a,some 6⟩
  else if(dJ c ((v.gen:Int)+1) id n).2≠0 then⟨c,a,some (dJ c ((v.gen:Int)+1) id n).2⟩
  else if bC c (cf c v.at_ a src to).1 (dJ c ((v.gen:Int)+1) id n).1≠0 then
   ⟨bD c (cf c v.at_ a src to).1 (dJ c ((v.gen:Int)+1) id n).1,a,some (iZ (bC c (cf c v.at_ a src to).1 (dJ c ((v.gen:Int)+1) id n).1))⟩
  else bV v src to r (id+1) (bD c (cf c v.at_ a src to).1 (dJ c ((v.gen:Int)+1) id n).1) (a.set id ((cf c v.at_ a src to).1*v.ae.pages+(aj c (cf c v.at_ a src to).1).used+1))
def cU(x:WV)(src to:Int):WV×Bool×Int:=
 match(bV x.v src to x.v.at_ 0 x.v.ae x.v.at_).e with
 |some e=>(x.on (bV x.v src to x.v.at_ 0 x.v.ae x.v.at_).c,false,e)
 |none=>((dI (x.on (bV x.v src to x.v.at_ 0 x.v.ae x.v.at_).c) (bV x.v src to x.v.at_ 0 x.v.ae x.v.at_).a).1,decide ((dI (x.on (bV x.v src to x.v.at_ 0 x.v.ae x.v.at_).c) (bV x.v src to x.v.at_ 0 x.v.ae x.v.at_).a).2=0),(dI (x.on (bV x.v src to x.v.at_ 0 x.v.ae x.v.at_).c) (bV x.v src to x.v.at_ 0 x.v.ae x.v.at_).a).2)
theorem Fo{x:WV}{src to:Int}{c:CV}{a:List Int}{e:Int}(h:bV x.v src to x.v.at_ 0 x.v.ae x.v.at_=⟨c,a,some e⟩):cU x src to=(x.on c,false,e):=by
 rw[cU,h]
theorem Tc{x:WV}{src to:Int}{c:CV}{a:List Int}(h:bV x.v src to x.v.at_ 0 x.v.ae x.v.at_=⟨c,a,none⟩):cU x src to=((dI (x.on c) a).1,decide ((dI (x.on c) a).2=0),(dI (x.on c) a).2):=by
 rw[cU,h]
theorem K0{c:CV}{a0 a:List Int}{src to:Int}(h:(cf c a0 a src to).2=true)(ht:0≤to→2≤to∧to<c.blocks.length∧(aj c to).bad=false):
  2≤(cf c a0 a src to).1∧(cf c a0 a src to).1<c.blocks.length∧(aj c (cf c a0 a src to).1).bad=false:=by
 rw[cf]at h⊢
 by_cases h1:to<0
 ·
  rw[if_pos h1]at h⊢
  by_cases h2:(eE ((av c (a0++a)).set (src -2).toNat bj) c.pages).2=true
  ·
   rw[if_pos h2]
   have hT:=(u5 c (a0++a)).set (src -2).toNat
   obtain⟨k1,k2,k3,k4⟩:=wM h2
   change 0≤(eE ((av c (a0++a)).set (src -2).toNat bj) c.pages).1 at k2
   change(eE ((av c (a0++a)).set (src -2).toNat bj) c.pages).1<_ at k3
   change ln _ (List.getD _ (eE ((av c (a0++a)).set (src -2).toNat bj) c.pages).1.toNat _)=true at k4
   rw[hT.1]at k3
   have hi:((av c (a0++a)).set (src -2).toNat bj)[(eE ((av c (a0++a)).set (src -2).toNat bj) c.pages).1.toNat]? =some _:=oh (d:=dH) (by rw[hT.1];omega)
   have:=hT.2 _ _ hi (qk k4).1
   rw[show(((eE ((av c (a0++a)).set (src -2).toNat bj) c.pages).1.toNat:Nat):Int)=(eE ((av c (a0++a)).set (src -2).toNat bj) c.pages).1 by omega]at this
   exact⟨by simp only;omega,by simp only;omega,this⟩
  ·
   rw[if_neg h2]at h;cases h
 ·
  rw[if_neg h1]
  exact ht (by omega)
theorem zh(c:CV)(b g:Int)(p:List UInt8):jq c b g p=0∨jq c b g p=1∨jq c b g p=7∨jq c b g p=9:=by
 rw[jq];split
 ·
  split
  ·
   omega
  ·
   split
   ·
    omega
   ·
    split
    ·
     rw[kt];split<;>omega
    ·
     omega
 ·
  omega
theorem wS(p:PV)(n:Int):(c8 p n).2=0∨(c8 p n).2=1:=by
 rw[c8];split<;>simp
theorem Fp{c:CV}{b:Int}{p:List UInt8}(h:bC c b p=0)(b':Int):(aj (bD c b p) b').bad=(aj c b').bad:=by
 obtain⟨h1,h2,h3,h4,h5⟩:=nM h
 have hh:=(iW.1 h1).1
 obtain⟨_,g2,g3⟩:=gv.1 hh
 rw[h5,gR]
 simp only[aj,List.getD,List.getElem?_set]
 by_cases e:b.toNat=b'.toNat
 ·
  rw[if_pos e,if_pos (by omega),e]
  simp
 ·
  rw[if_neg e]
theorem Fq{v:VV}{src to:Int}: ∀(l:List Int) (id:Nat) {c:CV} {a:List Int},aT c=true→dw v.ae c→v.ae.ops≤c.ops→gV v.ae a→(0≤to→2≤to∧to<c.blocks.length∧(aj c to).bad=false)→
  aT (bV v src to l id c a).c=true∧dw v.ae (bV v src to l id c a).c∧c.ops≤(bV v src to l id c a).c.ops∧gV v.ae (bV v src to l id c a).a∧(bV v src to l id c a).a.length=a.length∧
   ((bV v src to l id c a).e=some 0→c.ops<(bV v src to l id c a).c.ops)∧((bV v src to l id c a).e=some 6→ ∀b,(aj (bV v src to l id c a).c b).bad=(aj c b).bad)
 |[],id,c,a,hk,hl,ho,ha,ht=>⟨hk,hl,Int.le_refl _,ha,rfl,fun h=>by simp[bV]at h,fun h=>by simp[bV]at h⟩
 |n::r,id,c,a,hk,hl,ho,ha,ht=>by
  rw[bV]
  by_cases h1:n=0∨(n -1)/v.ae.pages≠src
  ·
   rw[if_pos h1];exact Fq r (id+1) hk hl ho ha ht
  ·
   rw[if_neg h1]
   by_cases h2:(cf c v.at_ a src to).2=false
   ·
    rw[if_pos h2];exact⟨hk,hl,Int.le_refl _,ha,rfl,fun h=>by simp at h,fun _ _=>rfl⟩
   ·
    rw[if_neg h2]
    obtain⟨m1,m2,m3⟩:=K0 (by simpa using h2) ht
    by_cases h3:(dJ c ((v.gen:Int)+1) id n).2≠0
    ·
     rw[if_pos h3]
     have wT:(dJ c ((v.gen:Int)+1) id n).2=1:=(wS _ _).resolve_left h3
     exact⟨hk,hl,Int.le_refl _,ha,rfl,fun h=>absurd (Option.some.inj h) h3,fun h=>absurd (wT.symm.trans (Option.some.inj h)) (by decide)⟩
    ·
     rw[if_neg h3]
     by_cases h4:bC c (cf c v.at_ a src to).1 (dJ c ((v.gen:Int)+1) id n).1≠0
     ·
      rw[if_pos h4]
      have gF:bC c (cf c v.at_ a src to).1 (dJ c ((v.gen:Int)+1) id n).1=1∨bC c (cf c v.at_ a src to).1 (dJ c ((v.gen:Int)+1) id n).1=7∨bC c (cf c v.at_ a src to).1 (dJ c ((v.gen:Int)+1) id n).1=9:=(zh _ _ _ _).resolve_left h4
      refine⟨kz hk _ _,hl.trans (gU _ _ _),uZ _ _ _,ha,rfl,fun h=> ?_,fun h=> ?_⟩
      ·
       have h:=Option.some.inj h
       rw[iZ]at h
       split at h
       ·
        rename_i h9
        have:=rf m3 (.inl h9)
        simp only;omega
       ·
        exact absurd h h4
      ·
       have h:=Option.some.inj h
       rw[iZ]at h
       split at h
       ·
        cases h
       ·
        omega
     ·
      rw[if_neg h4]
      have rn:bC c (cf c v.at_ a src to).1 (dJ c ((v.gen:Int)+1) id n).1=0:=by simpa using h4
      have fw:=iW.1 (nM rn).1
      have hd:=eF hk
      have lQ:=hl.trans (gU c (cf c v.at_ a src to).1 (dJ c ((v.gen:Int)+1) id n).1)
      have dN:=rf m3 (p:=(dJ c ((v.gen:Int)+1) id n).1) (.inr rn)
      have BZ:v.ae.pages=c.pages:=hl.pages.symm
      have ih:=Fq r (id+1) (src:=src) (to:=to) (kz hk (cf c v.at_ a src to).1 (dJ c ((v.gen:Int)+1) id n).1) lQ (by omega) (a:=a.set id ((cf c v.at_ a src to).1*v.ae.pages+(aj c (cf c v.at_ a src to).1).used+1)) (fun y hy=>by
       rcases List.mem_or_eq_of_mem_set hy with hy|rfl
       ·
        exact ha y hy
       ·
        have hq:((cf c v.at_ a src to).1*v.ae.pages+(aj c (cf c v.at_ a src to).1).used+1 -1)/v.ae.pages=(cf c v.at_ a src to).1:=by
         rw[BZ,Int.add_sub_cancel,Int.add_comm,Int.add_mul_ediv_right _ _ (by omega),Int.ediv_eq_zero_of_lt fw.2.1 fw.2.2.1,Int.zero_add]
        have h0:0≤(cf c v.at_ a src to).1*v.ae.pages:=Int.mul_nonneg (by omega) (by omega)
        have:=fw.2.1
        exact .inr ⟨by omega,by rw[hq];exact m1,by rw[hq,←hl.len];exact m2⟩) (fun h=>by
       have:=ht h
       rw[(gU c _ _).len,Fp rn]
       exact this)
      obtain⟨i1,i2,i3,i4,i5,i6,i7⟩:=ih
      refine⟨i1,i2,by omega,i4,by rw[i5,List.length_set],fun h=>by have:=i6 h;omega,fun h b=> ?_⟩
      rw[i7 h b,Fp rn]
theorem Fs(c:CV)(b:Int):dF c b=0∨dF c b=1∨dF c b=7∨dF c b=9:=by
 rw[dF];split
 ·
  split
  ·
   omega
  ·
   split
   ·
    omega
   ·
    split
    ·
     rw[kt];split<;>omega
    ·
     omega
 ·
  omega
theorem Td(c:CV)(l:Int):(aW c l).2.2=0∨(aW c l).2.2=1∨(aW c l).2.2=7∨(aW c l).2.2=9:=by
 rw[aW]
 split
 ·
  exact .inl rfl
 ·
  split
  ·
   exact .inl rfl
  ·
   split
   ·
    exact .inr (.inr (.inr rfl))
   ·
    exact Fs _ _
theorem K1: ∀(n:Nat) (y:WV) (a:List Int) (b:List UInt8),(gf n y a b).2≠6
 |0,y,a,b=>by simp[gf]
 |n+1,y,a,b=>by
  rw[gf]
  split
  ·
   have:=Td y.v.ae y.v.last
   simp only;omega
  ·
   split
   ·
    simp
   ·
    split
    ·
     have:=zh (aW y.v.ae y.v.last).1 (aW y.v.ae y.v.last).2.1 (aj (aW y.v.ae y.v.last).1 (aW y.v.ae y.v.last).2.1).used b
     simp only[bC];omega
    ·
     exact K1 n _ _ _
theorem Fu(y:WV)(a:List Int):(dI y a).2≠6:=by
 rw[dI]
 split
 ·
  rw[cN]
  split
  ·
   have:=wS ⟨2,max 0 ((a.length:Int) -1),y.v.gen+1,fZ a⟩ y.v.ae.size
   simp only;omega
  ·
   simp
 ·
  exact K1 _ _ _ _
theorem B2{x:WV}{src to:Int}(hx:cO x)(ht:0≤to→2≤to∧to<x.v.ae.blocks.length∧(aj x.v.ae to).bad=false):
  iM x (cU x src to).1∧((cU x src to).2.2=0→x.v.ae.ops<(cU x src to).1.v.ae.ops)∧((cU x src to).2.1=true→(cU x src to).2.2=0)∧((cU x src to).2.1=false∧(cU x src to).2.2=6→ ∀b,(aj (cU x src to).1.v.ae b).bad=(aj x.v.ae b).bad):=by
 obtain⟨h1,h2,h3,h4,h5,h6,h7⟩:=Fq x.v.at_ 0 (src:=src) hx.ae (.cX _) (Int.le_refl _) hx.si ht
 rw[cU]
 split
 ·
  rename_i e he
  refine⟨.on hx h1 h2 h3,fun h=>h6 (by rw[he];exact congrArg some h),fun h=>absurd (show false=true from h) (by simp),fun h b=>h7 (by rw[he];exact congrArg some h.2) b⟩
 ·
  rename_i he
  have ft:=hx.on h1 h2
  have hw:=Fj ft (a:=(bV x.v src to x.v.at_ 0 x.v.ae x.v.at_).a) (h4.bS h2) h5
  refine⟨(iM.on hx h1 h2 h3).trans hw.1,fun h=> ?_,fun h=>by simpa using h,fun h=> ?_⟩
  ·
   have g:(bV x.v src to x.v.at_ 0 x.v.ae x.v.at_).c.ops<_:=hw.2 h
   simp only;omega
  ·
   exact absurd h.2 (Fu _ _)
open Go.aC
theorem K2: ∀(n:Nat) (c:CV) (b:Int),(eY n c b).2≠6
 |0,c,b=>by have:=Fs c b;simp only[eY];omega
 |n+1,c,b=>by
  rw[eY];split
  ·
   have:=zh c b (aj c b).used (gT c);simp only[bC];omega
  ·
   exact K2 n _ _
theorem K3(c:CV)(b:Int):(cy c b).2≠6:=K2 _ _ _
def oF(c:CV)(l:List ax)(i:Int):Bool:=decide ((bT c (l.set i.toNat bj)).2.2=6)&&decide ((l.getD i.toNat dH).live≤y9 (l.set i.toNat bj) c.pages)
def cJ(c:CV)(l:List ax)(i:Int):Int×Int:=if oF c l i=true then(-1,0)else(bT c (l.set i.toNat bj)).2
def eZ(x:WV)(l:List ax)(i:Int):WV×Int:=
 if(cJ x.v.ae l i).2≠0 then(x.on (bT x.v.ae (l.set i.toNat bj)).1,iZ (cJ x.v.ae l i).2)
 else if(cU (x.on (bT x.v.ae (l.set i.toNat bj)).1) (i+2) (cJ x.v.ae l i).1).2.1=false∨(l.getD i.toNat dH).used=x.v.ae.pages then
  ((cU (x.on (bT x.v.ae (l.set i.toNat bj)).1) (i+2) (cJ x.v.ae l i).1).1,(cU (x.on (bT x.v.ae (l.set i.toNat bj)).1) (i+2) (cJ x.v.ae l i).1).2.2)
 else((cU (x.on (bT x.v.ae (l.set i.toNat bj)).1) (i+2) (cJ x.v.ae l i).1).1.on (cy (cU (x.on (bT x.v.ae (l.set i.toNat bj)).1) (i+2) (cJ x.v.ae l i).1).1.v.ae (i+2)).1,
  iZ (cy (cU (x.on (bT x.v.ae (l.set i.toNat bj)).1) (i+2) (cJ x.v.ae l i).1).1.v.ae (i+2)).2)
theorem K4{e:Int}(h:iZ e=0):e=0∨e=9:=by
 rw[iZ]at h;split at h
 ·
  exact .inr (by assumption)
 ·
  exact .inl h
theorem B3{e:Int}(h:iZ e=6):e=6:=by
 rw[iZ]at h;split at h
 ·
  cases h
 ·
  exact h
theorem B4{c:CV}{l:List ax}{i:Int}(hk:aT c=true)(ht:kb c l):(cJ c l i).2=0→0≤(cJ c l i).1→2≤(cJ c l i).1∧(cJ c l i).1<c.blocks.length∧(aj (bT c (l.set i.toNat bj)).1 (cJ c l i).1).bad=false:=by
 intro h h0
 rw[cJ]at h h0⊢
 split at h
 ·
  rename_i ha;rw[if_pos ha]at h0;exact absurd (show(0:Int)≤ -1 from h0) (by decide)
 ·
  rename_i ha;rw[if_neg ha];exact(Fm hk (ht.set i.toNat)).2.2.2.1 h
theorem Te{x:WV}{src to:Int}(hx:cO x)(ht:0≤to→2≤to∧to<x.v.ae.blocks.length∧(aj x.v.ae to).bad=false):cO (cU x src to).1∧dw x.v.ae (cU x src to).1.v.ae:=
 ⟨(B2 hx ht).1.ok,(B2 hx ht).1.bS⟩
theorem Fv{x:WV}{l:List ax}{i:Int}(hx:cO x)(ht:kb x.v.ae l):
  iM x (eZ x l i).1∧((eZ x l i).2=0→x.v.ae.ops<(eZ x l i).1.v.ae.ops)∧((eZ x l i).2=6→ ∀b,(aj (eZ x l i).1.v.ae b).bad=(aj x.v.ae b).bad):=by
 obtain⟨t1,t2,t3,t4,t5,t6⟩:=Fm hx.ae (ht.set i.toNat)
 have hn:=iM.on hx t1 t2 t3
 rw[eZ]
 by_cases h0:(cJ x.v.ae l i).2≠0
 ·
  rw[if_pos h0]
  have he:(cJ x.v.ae l i).2=(bT x.v.ae (l.set i.toNat bj)).2.2:=by
   rw[cJ]at h0⊢
   split at h0
   ·
    exact absurd rfl h0
   ·
    rename_i ha;rw[if_neg ha]
  refine⟨hn,fun h=> ?_,fun h b=> ?_⟩
  ·
   rcases K4 h with g|g
   ·
    exact absurd g h0
   ·
    exact t5 (he▸g)
  ·
   have:=t6 (he▸B3 h)
   simp only[WV.on];rw[this]
 ·
  rw[if_neg h0]
  have pe:(cJ x.v.ae l i).2=0:=by simpa using h0
  have hr:=B4 (i:=i) hx.ae ht pe
  obtain⟨m1,m2,m3,m4⟩:=B2 (x:=x.on (bT x.v.ae (l.set i.toNat bj)).1) (src:=i+2) (to:=(cJ x.v.ae l i).1) hn.ok (fun h=>by
   have:=hr h
   exact⟨this.1,by simp only[WV.on];rw[t2.len];exact this.2.1,this.2.2⟩)
  have hb:(cJ x.v.ae l i).2=0→(bT x.v.ae (l.set i.toNat bj)).2.2=6→(bT x.v.ae (l.set i.toNat bj)).1=x.v.ae:=fun _ h=>t6 h
  by_cases h1:(cU (x.on (bT x.v.ae (l.set i.toNat bj)).1) (i+2) (cJ x.v.ae l i).1).2.1=false∨(l.getD i.toNat dH).used=x.v.ae.pages
  ·
   rw[if_pos h1]
   refine⟨hn.trans m1,fun h=> ?_,fun h b=> ?_⟩
   ·
    have g:(bT x.v.ae (l.set i.toNat bj)).1.ops<_:=m2 h
    simp only;omega
   ·
    have hf:(cU (x.on (bT x.v.ae (l.set i.toNat bj)).1) (i+2) (cJ x.v.ae l i).1).2.1=false:=by
     cases hq:(cU (x.on (bT x.v.ae (l.set i.toNat bj)).1) (i+2) (cJ x.v.ae l i).1).2.1 with
     |false=>rfl
     |true=>have:=m3 hq;exact absurd (this.symm.trans h) (by decide)
    rw[m4 ⟨hf,h⟩ b]
    by_cases ha:oF x.v.ae l i=true
    ·
     simp only[oF,Bool.and_eq_true,decide_eq_true_eq]at ha
     simp only[WV.on];rw[t6 ha.1]
    ·
     exact absurd h (Tf (by
      have:(cJ x.v.ae l i).1=(bT x.v.ae (l.set i.toNat bj)).2.1:=by rw[cJ,if_neg ha]
      have g:(bT x.v.ae (l.set i.toNat bj)).2.2=0:=by
       rw[cJ,if_neg ha]at pe;exact pe
      have:=(t4 g).1
      omega))
  ·
   rw[if_neg h1]
   have hm:(cU (x.on (bT x.v.ae (l.set i.toNat bj)).1) (i+2) (cJ x.v.ae l i).1).2.1=true:=by
    cases hq:(cU (x.on (bT x.v.ae (l.set i.toNat bj)).1) (i+2) (cJ x.v.ae l i).1).2.1 with
    |true=>rfl
    |false=>exact absurd (.inl hq) h1
   have hz:=m2 (m3 hm)
   have hc:=tt (i+2) m1.ok.ae
   have ho:=wO (dG (cU (x.on (bT x.v.ae (l.set i.toNat bj)).1) (i+2) (cJ x.v.ae l i).1).1.v.ae (i+2)).toNat (cU (x.on (bT x.v.ae (l.set i.toNat bj)).1) (i+2) (cJ x.v.ae l i).1).1.v.ae (i+2)
   refine⟨(hn.trans m1).trans (.on m1.ok hc.1 hc.2 ho),fun _=> ?_,fun h=>absurd (B3 h) (K3 _ _)⟩
   have g:(bT x.v.ae (l.set i.toNat bj)).1.ops<_:=hz
   have g2:(cU (x.on (bT x.v.ae (l.set i.toNat bj)).1) (i+2) (cJ x.v.ae l i).1).1.v.ae.ops≤(cy (cU (x.on (bT x.v.ae (l.set i.toNat bj)).1) (i+2) (cJ x.v.ae l i).1).1.v.ae (i+2)).1.ops:=ho
   simp only[WV.on]at*;omega
where
 Tf {x:WV} {src to:Int} (h:0≤to):(cU x src to).2.2≠6:=by
  have key: ∀(l:List Int) (id:Nat) (c:CV) (a:List Int),(bV x.v src to l id c a).e≠some 6:=by
   intro l
   induction l with
   |nil=>intro id c a;simp[bV]
   |cons n r ih=>
    intro id c a
    rw[bV]
    split
    ·
     exact ih _ _ _
    ·
     split
     ·
      rename_i h2;rw[cf,if_neg (by omega)]at h2;cases h2
     ·
      split
      ·
       rename_i h3
       have:=(wS ⟨1,id,((x.v.gen:Int)+1).toNat,iC c n⟩ c.size).resolve_left h3
       intro h;have h:=Option.some.inj h;rw[dJ]at h;omega
      ·
       split
       ·
        intro h
        have h:=B3 (Option.some.inj h)
        have:=zh c (cf c x.v.at_ a src to).1 (aj c (cf c x.v.at_ a src to).1).used (dJ c ((x.v.gen:Int)+1) id n).1
        rw[bC]at h;omega
       ·
        exact ih _ _ _
  rw[cU]
  split
  ·
   rename_i e he
   intro h
   exact key _ _ _ _ (by rw[he];exact congrArg some h)
  ·
   exact Fu _ _
def lV(p:Int)(x:ax):Bool:=decide (x.used<p)&&decide (x.aS<cI)
def mw(c:CV)(l:List ax):Int×Bool:=eK (bR (lV c.pages) l) c.pages
def jM(x:WV)(l:List ax):WV×Int:=
 if(mw x.v.ae l).2=false then(x,6)else(x.on (cy x.v.ae ((mw x.v.ae l).1+2)).1,iZ (cy x.v.ae ((mw x.v.ae l).1+2)).2)
def cV(x:WV):List ax:=av x.v.ae x.v.at_
def qt(x:WV):Int×Bool:=gy (cV x) x.v.ae.pages
def et(x:WV):WV×Int:=
 if(qt x).2=true∧u3 x.v.gen=false then
  (if(eZ x (cV x) (qt x).1).2≠6 then eZ x (cV x) (qt x).1 else jM (eZ x (cV x) (qt x).1).1 (cV x))
 else jM x (cV x)
theorem kb.bS{c d:CV}{l:List ax}(h:kb c l)(hl:dw c d)(hb: ∀b,(aj d b).bad=(aj c b).bad):kb d l:=⟨by rw[h.1,hl.len],fun i x hx jL=>by rw[hb];exact h.2 i x hx jL⟩
theorem Fw{x:WV}{l:List ax}(hx:cO x)(ht:kb x.v.ae l):iM x (jM x l).1∧((jM x l).2=0→x.v.ae.ops<(jM x l).1.v.ae.ops):=by
 rw[jM];split
 ·
  exact⟨.cX hx,fun h=>absurd (show(6:Int)=0 from h) (by decide)⟩
 ·
  rename_i h
  have hd:=tA ht (fun x h=>(kB h).1) (show(mw x.v.ae l).2=true by simpa using h)
  change 0≤(mw x.v.ae l).1∧(mw x.v.ae l).1<_∧(aj x.v.ae ((mw x.v.ae l).1+2)).bad=false at hd
  have hc:=tt ((mw x.v.ae l).1+2) hx.ae
  exact⟨.on hx hc.1 hc.2 (wO _ _ _),fun h=>BQ hd.2.2 (K4 h).symm⟩
theorem B5{x:WV}(hx:cO x):iM x (et x).1∧((et x).2=0→x.v.ae.ops<(et x).1.v.ae.ops):=by
 have ht:kb x.v.ae (cV x):=u5 _ _
 rw[et];split
 ·
  obtain⟨r1,r2,r3⟩:=Fv (i:=(qt x).1) hx ht
  split
  ·
   exact⟨r1,r2⟩
  ·
   rename_i h6
   have wU:(eZ x (cV x) (qt x).1).2=6:=by simpa using h6
   have:=Fw r1.ok (ht.bS r1.bS (r3 wU))
   exact⟨r1.trans this.1,fun h=>by have:=this.2 h;have:=r1.ops;omega⟩
 ·
  exact Fw hx ht
def lW:Nat→WV→Int→WV×Int
 |0,x,_=>(x,0)
 |n+1,x,need=>
  if need≤(jx x.v.ae x.v.at_).1 then(x,0)
  else if need≤(jx x.v.ae x.v.at_).2∧rj x.v.ae x.v.last<2 then({x with beyond:=true},0)
  else if(et x).2=0 then lW n (et x).1 need
  else if(et x).2≠6 then et x
  else if need≤(jx x.v.ae x.v.at_).2 then({(et x).1 with beyond:=true},0)
  else((et x).1,5)
def jN(x:WV)(need:Int):WV×Int:=lW ((cI -x.v.ae.ops).toNat+1) x need
theorem cO.by{x:WV}(h:cO x)(b:Bool):cO {x with beyond:=b}:=⟨h.ae,h.len,h.pages,h.size,h.last,h.gen,h.si,h.ka⟩
theorem iM.by{x y:WV}(h:iM x y)(b:Bool):iM x {y with beyond:=b}:=⟨h.ok.by b,h.bS,h.ops,h.u4⟩
theorem K5: ∀(n:Nat) {x:WV} {need:Int},cO x→iM x (lW n x need).1
 |0,x,need,hx=> .cX hx
 |n+1,x,need,hx=>by
  have hc:=B5 hx
  rw[lW]
  split
  ·
   exact .cX hx
  ·
   split
   ·
    exact(iM.cX hx).by true
   ·
    split
    ·
     exact hc.1.trans (K5 n hc.1.ok)
    ·
     split
     ·
      exact hc.1
     ·
      split
      ·
       exact hc.1.by true
      ·
       exact hc.1
theorem Tg{x:WV}{need:Int}(hx:cO x):iM x (jN x need).1:=K5 _ hx
def bo(x:It):Int×List UInt8:=(x.id,x.body.xs)
def kZ(l:List (Int×List UInt8)):Nat:=(l.filter fun x=>decide (0<x.2.length)).length
theorem Th{l:List (Int×List UInt8)}{i:Nat}{x:Int×List UInt8}(h:l[i]? =some x):((l.take (i+1)).filter fun x=>decide (0<x.2.length)).length=((l.take i).filter fun x=>decide (0<x.2.length)).length+(if 0<x.2.length then 1 else 0):=by
 rw[List.take_add_one,h,List.filter_append,List.length_append]
 congr 1
 simp only[Option.toList_some,List.filter_cons,List.filter_nil]
 split<;>simp_all
def gW(v:VV)(x:Int×List UInt8):PV:=⟨1,x.1,v.gen+1,x.2⟩
def fV(v:VV)(aE:Bool):List (Int×List UInt8)→CV→List Int→CV×List Int×Int
 |[],c,a=>(c,a,0)
 |x::r,c,a=>
  if x.2.length=0 then fV v aE r c (a.set x.1.toNat 0)
  else if(cT c (v.at_++a) aE (gW v x)).2.2≠0 then((cT c (v.at_++a) aE (gW v x)).1,a,(cT c (v.at_++a) aE (gW v x)).2.2)
  else fV v aE r (cT c (v.at_++a) aE (gW v x)).1 (a.set x.1.toNat (cT c (v.at_++a) aE (gW v x)).2.1)
def cA(x:WV)(l:List (Int×List UInt8)):WV×Int:=jN {x with beyond:=false} (kZ l)
def fF(x:WV)(l:List (Int×List UInt8)):CV×List Int×Int:=fV (cA x l).1.v (cA x l).1.beyond l (cA x l).1.v.ae (cA x l).1.v.at_
def gz(x:WV)(l:List (Int×List UInt8)):WV×Int:=
 if(cA x l).2≠0 then cA x l
 else if(fF x l).2.2≠0 then((cA x l).1.on (fF x l).1,(fF x l).2.2)
 else dI ((cA x l).1.on (fF x l).1) (fF x l).2.1
theorem Fx{v:VV}{aE:Bool}: ∀(l:List (Int×List UInt8)) {c:CV} {a:List Int},aT c=true→3≤c.blocks.length→gV c a→
  aT (fV v aE l c a).1=true∧dw c (fV v aE l c a).1∧c.ops≤(fV v aE l c a).1.ops∧gV c (fV v aE l c a).2.1∧(fV v aE l c a).2.1.length=a.length
 |[],c,a,hk,h2,ha=>⟨hk, .cX c,Int.le_refl _,ha,rfl⟩
 |x::r,c,a,hk,h2,ha=>by
  rw[fV]
  split
  ·
   have:=Fx r (v:=v) (aE:=aE) hk h2 (a:=a.set x.1.toNat 0) (fun y hy=>by
    rcases List.mem_or_eq_of_mem_set hy with hy|rfl
    ·
     exact ha y hy
    ·
     exact .inl rfl)
   rwa [List.length_set]at this
  ·
   obtain⟨p1,p2,p3,p4⟩:=KU (fl:=v.at_++a) (aE:=aE) (p:=gW v x) hk h2
   split
   ·
    exact⟨p1,p2,p3,ha,rfl⟩
   ·
    rename_i h0
    have p5:=p4 (by simpa using h0)
    have:=Fx r (v:=v) (aE:=aE) p1 (by rw[p2.len];exact h2) (a:=a.set x.1.toNat (cT c (v.at_++a) aE (gW v x)).2.1) (fun y hy=>by
     rw[p2.pages,p2.len]
     rcases List.mem_or_eq_of_mem_set hy with hy|rfl
     ·
      exact ha y hy
     ·
      exact .inr p5)
    obtain⟨i1,i2,i3,i4,i5⟩:=this
    refine⟨i1,p2.trans i2,by omega,fun y hy=> ?_,by rw[i5,List.length_set]⟩
    have:=i4 y hy
    rwa [p2.pages,p2.len]at this
theorem B6{x:WV}{l:List (Int×List UInt8)}(hx:cO x):iM x (cA x l).1:=by
 have:=Tg (need:=kZ l) (hx.by false)
 exact⟨this.ok,this.bS,this.ops,this.u4⟩
theorem Fy{x:WV}{l:List (Int×List UInt8)}(hx:cO x):iM x (gz x l).1:=by
 have hs:=B6 (l:=l) hx
 rw[gz];split
 ·
  exact hs
 ·
  have hl:=hs.ok.qo
  obtain⟨i1,i2,i3,i4,i5⟩:=Fx (v:=(cA x l).1.v) (aE:=(cA x l).1.beyond) l hs.ok.ae (by omega) hs.ok.si
  have ft:=hs.trans (.on hs.ok i1 i2 i3)
  split
  ·
   exact ft
  ·
   exact ft.trans (Fj ft.ok (i4.bS i2) i5).1
def ni:Nat→WV→List (Int×List UInt8)→WV×Int
 |0,x,_=>(x,0)
 |n+1,x,l=>if(gz x l).2=5∧lp x.v.ae<lp (gz x l).1.v.ae then ni n (gz x l).1 l else gz x l
theorem K6(c:CV):lp c≤c.blocks.length:=List.length_filter_le _ _
def rp(v:VV)(x:Int×List UInt8):Bool:=decide (0≤x.1)&&decide (x.1<(v.at_.length:Int))&&decide ((x.2.length:Int)≤dv v.ae.size)
def rr(v:VV)(l:List (Int×List UInt8))(i:Nat):Bool:=rp v (l.getD i (0,[]))&& !((l.take i).map Prod.fst).contains (l.getD i (0,[])).1
def py(v:VV)(l:List (Int×List UInt8)):Bool:=(List.range l.length).all (rr v l)
theorem zj{v:VV}{l:List (Int×List UInt8)}:py v l=true↔ ∀i,i<l.length→rr v l i=true:=by simp only[py,List.all_eq_true,List.mem_range]
def ru(l:List Int)(i:Nat):Int→Option Unit:=fun x=>if x∈l.take i then some ()else none
theorem K7{l:List Int}{i:Nat}{x:Int}:(ru l i x).isSome=decide (x∈l.take i):=by
 unfold ru;split<;>simp_all
theorem Ti{l:List Int}:(fun _=>none)=ru l 0:=by
 funext x;simp[ru]
theorem Tj{l:List Int}{i:Nat}{y:Int}(h:l[i]? =some y):(fun z=>if z=y then some ()else ru l i z)=ru l (i+1):=by
 funext x
 unfold ru
 rw[List.take_add_one,h]
 by_cases hx:x=y
 ·
  subst hx;simp
 ·
  simp[hx]
def fo(v:VV)(l:List (Int×List UInt8)):VV×Int:=
 if ¬(kx v=true∧v.gen<281474976710655∧py v l=true)then(v,1)
 else if v.ae.off=true then(v,7)
 else((ni (v.ae.blocks.length+1) ⟨v,false⟩ l).1.v,(ni (v.ae.blocks.length+1) ⟨v,false⟩ l).2)
def qu(b p:Int):Int:=if b<4∨32<b∨p<1∨16<p then 0 else(b -4)*p
def my(c:CV)(ids:Int):WV×Int:=pw ⟨⟨c,[],0,0⟩,false⟩ ids.toNat
def lX(c:CV)(ids:Int):VV×Int:=
 if ¬(fB c=true∧1≤ids∧ids≤jt c.size)then(⟨c,[],0,0⟩,1)
 else if c.off=true then(⟨c,[],0,0⟩,7)
 else if(my c ids).2≠0 then(⟨(my c ids).1.v.ae,[],0,0⟩,(my c ids).2)
 else((my c ids).1.v,0)
theorem Tk{b:List UInt8}:(bB b).1.at_.length≤64∧(bB b).1.gen<281474976710656:=by
 rw[bB]
 split
 ·
  simp[gx]
 ·
  rename_i h1
  split
  ·
   simp[gx]
  ·
   rename_i h2
   split
   ·
    simp[gx]
   ·
    rename_i h3
    have hf:sh (cr b).1=true:=by simpa using h3
    simp only[sh,Bool.and_eq_true,decide_eq_true_eq]at hf
    refine⟨?_,KI b⟩
    have ib:(cr b).1.id<64:=by
     have qv:(cr b).2=0:=by simpa using h1
     rw[cr]at qv h2⊢
     by_cases g1:lR b.length=false
     ·
      rw[if_pos g1]at qv;cases qv
     ·
      rw[if_neg g1]at qv h2⊢
      by_cases g2:iX b=true
      ·
       rw[if_pos g2]at h2;exact absurd rfl h2
      ·
       rw[if_neg g2]at qv h2⊢
       by_cases g3:de (uV b)≠lP (kV b)
       ·
        rw[if_pos g3]at qv;cases qv
       ·
        rw[if_neg g3]at qv h2⊢
        by_cases g4:na b=false
        ·
         rw[if_pos g4]at qv;cases qv
        ·
         rw[if_neg g4]at qv h2⊢
         have g5:na b=true:=by simpa using g4
         simp only[na,Bool.and_eq_true]at g5
         have:=(pj.1 g5.2).2.2.2.1
         split
         ·
          simp[jr]
         ·
          exact this
    simp only[BM]
    omega
theorem K8(l:List (List UInt8)): ∀k,(dj l k).new.at_.length≤64∧(dj l k).new.gen<281474976710656
 |0=>by simp[dj,gx]
 |k+1=>by
  rw[dj,uX]
  split
  ·
   exact Tk
  ·
   exact K8 l k
theorem Tl(l:List (List UInt8)):(fh l).2.1.at_.length≤64∧(fh l).2.1.gen<281474976710656:=by
 rw[fh]
 split
 ·
  exact K8 _ _
 ·
  split<;>simp[gx]
theorem B7{v:VV}{b:Bool}(h:kx v=true):cO ⟨v,b⟩:=by
 have hr:=y7 h
 have ha:= @Kw v h
 simp only[kx,Bool.and_eq_true,decide_eq_true_eq]at h
 obtain⟨⟨⟨h1,h2⟩,h3⟩,h4⟩:=h
 obtain⟨hb,hl,hf⟩:=E5 h1
 obtain⟨b1,b2,b3,b4⟩:=fv.1 hb
 have wV:=Tl ((aj {v.ae with off:=false} 0).pages++(aj {v.ae with off:=false} 1).pages)
 rw[hf]at h2 h3 h4
 simp only at h2 h3 h4
 have hd:=eF hr.1
 have ql:4≤(v.ae.blocks.length:Int):=b2
 refine⟨hr.1,b2,b3,b4,?_,by rw[←h2];exact wV.2,fun n hn=> ?_,by rw[←h4];exact wV.1⟩
 ·
  rw[←h3]
  have ho0:=dX.1 (qj hr.1 (b:=0) (by omega) (by omega))
  have ho1:=dX.1 (qj hr.1 (b:=1) (by omega) (by omega))
  have hlen:((aj v.ae 0).pages++(aj v.ae 1).pages).length=(aj v.ae 0).pages.length+(aj v.ae 1).pages.length:=List.length_append
  have kC:=EY (l:=(aj v.ae 0).pages++(aj v.ae 1).pages) (by rw[hlen];omega)
  change 0≤(bN {v.ae with off:=false}).1∧(bN {v.ae with off:=false}).1<_ at kC
  rw[hlen]at kC
  have g0:0≤(bN {v.ae with off:=false}).1/v.ae.pages:=Int.ediv_nonneg kC.1 (by omega)
  have g1:(bN {v.ae with off:=false}).1/v.ae.pages<2:=Int.ediv_lt_of_lt_mul (by omega) (by
   have h9:(bN {v.ae with off:=false}).1<(((aj v.ae 0).pages.length+(aj v.ae 1).pages.length:Nat):Int):=kC.2
   omega)
  change(bN {v.ae with off:=false}).1/v.ae.pages=0∨(bN {v.ae with off:=false}).1/v.ae.pages=1
  omega
 ·
  by_cases h0:n=0
  ·
   exact .inl h0
  ·
   obtain⟨i,hi⟩:=List.getElem?_of_mem hn
   have:=ha hi h0
   have hp:=lj.1 this.2.2
   exact .inr ⟨this.1,hp.1,hp.2.1⟩
open Go.aC
def K9(b:BV):Bool:=decide (b.pages.length≤20)&&b.pages.all fun p=>decide (p.length≤300)
def Fz(c:CV):Bool:=decide (c.blocks.length≤40)&&decide (c.aR.length≤80)&&c.blocks.all K9
theorem abO{c:CV}:Fz c=true↔c.blocks.length≤40∧c.aR.length≤80∧ ∀b∈c.blocks,b.pages.length≤20∧ ∀p∈b.pages,p.length≤300:=by
 simp only[Fz,K9,Bool.and_eq_true,decide_eq_true_eq,List.all_eq_true,and_assoc]
theorem FA{a b:BV}:a=b↔a.used=b.used∧a.aS=b.aS∧a.bad=b.bad∧a.pages=b.pages:=by
 constructor
 ·
  rintro rfl;exact⟨rfl,rfl,rfl,rfl⟩
 ·
  rintro⟨h1,h2,h3,h4⟩
  obtain⟨a1,a2,a3,a4⟩:=a
  obtain⟨b1,b2,b3,b4⟩:=b
  simp only at h1 h2 h3 h4
  subst h1 h2 h3 h4;rfl
theorem B8{a b:CV}:a=b↔a.pages=b.pages∧a.size=b.size∧a.ops=b.ops∧a.off=b.off∧a.blocks=b.blocks∧a.aR=b.aR:=by
 constructor
 ·
  rintro rfl;exact⟨rfl,rfl,rfl,rfl,rfl,rfl⟩
 ·
  rintro⟨h1,h2,h3,h4,h5,h6⟩
  obtain⟨a1,a2,a3,a4,a5,a6⟩:=a
  obtain⟨b1,b2,b3,b4,b5,b6⟩:=b
  simp only at h1 h2 h3 h4 h5 h6
  subst h1 h2 h3 h4 h5 h6;rfl
theorem B9{α:Type}{a b:List α}(hl:a.length=b.length)(h: ∀j,j<a.length→a[j]? =b[j]?):a=b:=List.ext_getElem? fun j=>by
 rcases Nat.lt_or_ge j a.length with hj|hj
 ·
  exact h j hj
 ·
  rw[List.getElem?_eq_none hj,List.getElem?_eq_none (by omega)]
def u6(l:List (List UInt8))(i:Nat):Bool:=decide ((bB (l.getD i [])).2=0)&&(List.range l.length).all fun k=> !(decide ((bB (l.getD k [])).2=0)&&(decide ((bB (l.getD i [])).1.gen<(bB (l.getD k [])).1.gen)||(decide ((bB (l.getD k [])).1.gen=(bB (l.getD i [])).1.gen)&&decide (i<k))))
theorem FB(l:List (List UInt8)): ∀k,k≤l.length→
  ((dj l k).found=true→ ∃i,i<k∧(dj l k).at_=(i:Int)∧(bB (l.getD i [])).2=0∧(dj l k).new=(bB (l.getD i [])).1∧ ∀j,j<k→(bB (l.getD j [])).2=0→(bB (l.getD j [])).1.gen<(bB (l.getD i [])).1.gen∨((bB (l.getD j [])).1.gen=(bB (l.getD i [])).1.gen∧j≤i))∧
  ((dj l k).found=false→ ∀j,j<k→(bB (l.getD j [])).2≠0)∧(dj l k).blank=(l.take k).all iX
 |0,_=>⟨fun h=>by simp[dj]at h,fun _ j hj=>by omega,by simp[dj]⟩
 |k+1,hk=>by
  obtain⟨h1,h2,h3⟩:=FB l k (by omega)
  obtain⟨b,hb⟩:=get_some (xs:=l) (i:=k) (by omega)
  have hg:l.getD k []=b:=by simp[List.getD,hb]
  have dt:(l.take (k+1)).all iX=((l.take k).all iX&&iX b):=by rw[List.take_add_one,hb];simp
  by_cases hq:(bB b).2=0∧((dj l k).found=false∨(dj l k).new.gen≤(bB b).1.gen)
  ·
   rw[Kj hb hq,h3,dt]
   refine⟨fun _=>⟨k,by omega,rfl,by rw[hg];exact hq.1,by rw[hg],fun j hj hv=> ?_⟩,fun h=>by simp at h,rfl⟩
   rw[hg]
   by_cases e:j=k
   ·
    subst e;rw[hg];exact .inr ⟨rfl,Nat.le_refl _⟩
   ·
    have AD:j<k:=by omega
    rcases hq.2 with hf|hf
    ·
     exact absurd hv (h2 hf j AD)
    ·
     cases ke:(dj l k).found with
     |false=>exact absurd hv (h2 ke j AD)
     |true=>
      obtain⟨i,hi,ha,Bg,hn,hG⟩:=h1 ke
      rw[hn]at hf
      rcases hG j AD hv with g|g
      ·
       exact .inl (by omega)
      ·
       by_cases bp:(bB (l.getD j [])).1.gen<(bB b).1.gen
       ·
        exact .inl bp
       ·
        exact .inr ⟨by omega,by omega⟩
  ·
   rw[Kk hb hq]
   refine⟨fun ke=> ?_,fun ke j hj=> ?_,by simp only[h3,dt]⟩
   ·
    obtain⟨i,hi,ha,Bg,hn,hG⟩:=h1 ke
    refine⟨i,by omega,ha,Bg,hn,fun j hj hv=> ?_⟩
    by_cases e:j=k
    ·
     subst e
     rw[hg]at hv⊢
     have: ¬(dj l j).new.gen≤(bB b).1.gen:=fun h=>hq ⟨hv, .inr h⟩
     rw[hn]at this
     exact .inl (by omega)
    ·
     exact hG j (by omega) hv
   ·
    by_cases e:j=k
    ·
     subst e;rw[hg];exact fun hv=>hq ⟨hv, .inl ke⟩
    ·
     exact h2 ke j (by omega)
theorem Ca{l:List (List UInt8)}{i:Nat}:u6 l i=true↔(bB (l.getD i [])).2=0∧ ∀k,k<l.length→(bB (l.getD k [])).2=0→ ¬((bB (l.getD i [])).1.gen<(bB (l.getD k [])).1.gen∨((bB (l.getD k [])).1.gen=(bB (l.getD i [])).1.gen∧i<k)):=by
 simp only[u6,Bool.and_eq_true,decide_eq_true_eq,List.all_eq_true,List.mem_range,Bool.not_eq_true',Bool.and_eq_false_iff,Bool.or_eq_false_iff,decide_eq_false_iff_not]
 constructor
 ·
  rintro⟨h1,h2⟩
  refine⟨h1,fun k hk hv hc=> ?_⟩
  rcases h2 k hk with g|g
  ·
   exact g hv
  ·
   rcases hc with c|c
   ·
    exact g.1 c
   ·
    rcases g.2 with g|g
    ·
     exact g c.1
    ·
     exact g c.2
 ·
  rintro⟨h1,h2⟩
  refine⟨h1,fun k hk=> ?_⟩
  by_cases hv:(bB (l.getD k [])).2=0
  ·
   have:=h2 k hk hv
   refine .inr ⟨fun c=>this (.inl c),?_⟩
   by_cases e:(bB (l.getD k [])).1.gen=(bB (l.getD i [])).1.gen
   ·
    exact .inr fun c=>this (.inr ⟨e,c⟩)
   ·
    exact .inl e
  ·
   exact .inl hv
theorem La{l:List (List UInt8)}{i:Nat}(hi:i<l.length)(h:u6 l i=true):fh l=((i:Int),(bB (l.getD i [])).1,0):=by
 obtain⟨h1,h2⟩:=Ca.1 h
 obtain⟨s1,s2,s3⟩:=FB l l.length (Nat.le_refl _)
 cases hf:(dj l l.length).found with
 |false=>exact absurd h1 (s2 hf i hi)
 |true=>
  obtain⟨j,hj,ha,hv,hn,hG⟩:=s1 hf
  have e:j=i:=by
   have g1:=hG i hi h1
   have g2:=h2 j hj hv
   omega
  subst e
  rw[fh,if_pos hf,ha,hn]
theorem Tm{l:List (List UInt8)}(h: ∀i,i<l.length→u6 l i=false):fh l=(0,gx,if l.all iX=true then 6 else 2):=by
 obtain⟨s1,s2,s3⟩:=FB l l.length (Nat.le_refl _)
 rw[List.take_length]at s3
 cases hf:(dj l l.length).found with
 |false=>
  rw[fh,if_neg (by rw[hf];simp),s3]
  split<;>rfl
 |true=>
  obtain⟨j,hj,ha,hv,hn,hG⟩:=s1 hf
  have:u6 l j=true:=Ca.2 ⟨hv,fun k hk Tn hc=>by have:=hG k hk Tn;omega⟩
  rw[h j hj]at this;cases this
def sj(c:CV):VV×Int:=
 if(bN c).2.2≠0 then(j6,(bN c).2.2)else if ll c=false then(j6,2)else(⟨c,(bN c).2.1.at_,(bN c).2.1.gen,(bN c).1/c.pages⟩,0)
theorem Lb{c:CV}{l:List Int}{i:Nat}{y:Int}(h:l.getD i 0=y):po c l i=(decide (y=0)||(!(l.take i).contains y&&lS c (i:Int) y)):=by rw[po,h]
theorem To{a b:VV}:a=b↔a.ae=b.ae∧a.at_=b.at_∧a.gen=b.gen∧a.last=b.last:=by
 constructor
 ·
  rintro rfl;exact⟨rfl,rfl,rfl,rfl⟩
 ·
  obtain⟨a1,a2,a3,a4⟩:=a
  obtain⟨b1,b2,b3,b4⟩:=b
  rintro⟨h1,h2,h3,h4⟩
  simp only at h1 h2 h3 h4
  subst h1 h2 h3 h4;rfl
theorem Tp(c:CV):bw c=if fB c=false then(j6,1)else if c.off=true then(j6,7)else sj c:=rfl
theorem Tq(x:VV):kx x=(fB x.ae&&(decide ((sj x.ae).2=0)&&decide (x.at_=(sj x.ae).1.at_)&&decide (x.gen=(sj x.ae).1.gen)&&decide (x.last=(sj x.ae).1.last))):=by
 have hb:fB {x.ae with off:=false}=fB x.ae:=rfl
 have eQ:ll {x.ae with off:=false}=ll x.ae:=rfl
 have wW:bN {x.ae with off:=false}=bN x.ae:=rfl
 rw[kx,Tp,hb]
 cases h:fB x.ae with
 |false=>rw[if_pos rfl];rfl
 |true=>
  rw[if_neg (by simp),if_neg (by simp),sj,sj,wW,eQ]
  by_cases h1:(bN x.ae).2.2≠0
  ·
   rw[if_pos h1,if_pos h1,decide_eq_false h1];rfl
  ·
   rw[if_neg h1,if_neg h1]
   by_cases h2:ll x.ae=false
   ·
    rw[if_pos h2,if_pos h2];rfl
   ·
    rw[if_neg h2,if_neg h2]
    rw[Bool.eq_iff_iff];simp only[Bool.and_eq_true,decide_eq_true_eq,true_and,Bool.true_and]
    constructor
    ·
     rintro⟨⟨g1,g2⟩,g3⟩;exact⟨⟨g3.symm,g1.symm⟩,g2.symm⟩
    ·
     rintro⟨⟨g1,g2⟩,g3⟩;exact⟨⟨g2.symm,g3.symm⟩,g1.symm⟩
open Go.aC
theorem Ts{c:CV}(h:(bw c).2≠0):(bw c).1=j6:=by
 rw[bw]at h⊢
 repeat' split
 all_goals first|rfl|(exfalso;simp_all)
theorem Tt(c:CV):(if(bw c).2=0 then(bw c).1 else j6)=(bw c).1:=by
 by_cases h:(bw c).2=0
 ·
  rw[if_pos h]
 ·
  rw[if_neg h,Ts h]
def FC(pages:Int)(l:List Int)(i:Nat)(n:Nat):Nat:=((List.range n).filter fun j=>decide (0<l.getD j 0)&&decide ((l.getD j 0 -1)/pages=(i:Int)+2)).length
theorem Tu{v:VV}(h:kx v=true)(i:Nat):ju v.ae.pages v.at_ v.at_.length i=FC v.ae.pages v.at_ i v.at_.length:=by
 obtain⟨-,h2,h3⟩:=y7 h
 rw[ju,FC]
 congr 1
 refine List.filter_congr fun j hj=> ?_
 have iz:j<v.at_.length:=List.mem_range.1 hj
 have hp:=y5.1 h2 j iz
 have hr:=h3 (v.at_.getD j 0) (by rw[show v.at_.getD j 0=v.at_[j] by simp[List.getD,iz]];exact List.getElem_mem _)
 congr 1
 rw[po]at hp
 rw[lT]
 by_cases h0:v.at_.getD j 0=0
 ·
  rw[h0];simp
 ·
  rw[decide_eq_true h0,decide_eq_true (show 0<v.at_.getD j 0 by omega)]
  rw[decide_eq_false h0,Bool.false_or,Bool.and_eq_true]at hp
  rw[hp.1];rfl
open Go.aC
def pz(t:List Rt)(n id:Nat):List UInt8:=((t.drop (id*n)).take n).flatMap eJ
def kD(t:List Rt)(ids n:Nat):List (List UInt8):=(List.range ids).map (pz t n)
def iN(a b:Int):Int:=if a<1∨64<a∨b<20∨240<b then 0 else min (a*(b/20)) 256
def jc(t:List Rt)(ids room:Int):Int:=if dr t=false∨iN ids room=0 then 1 else if iN ids room<t.length then 5 else 0
def jO(t:List Rt)(ids room:Int):List (List UInt8):=if jc t ids room=0 then kD t ids.toNat (room/20).toNat else[]
theorem tB(t:List Rt)(ids n:Nat):(kD t ids n).length=ids:=by simp[kD]
theorem Tw(l:List Rt):(l.flatMap eJ).length=20*l.length:=by
 induction l with
 |nil=>rfl
 |cons a l ih=>rw[List.flatMap_cons,List.length_append,ih,oC,List.length_cons];omega
theorem Tx(t:List Rt)(n id:Nat):(pz t n id).length=20*min n (t.length -id*n):=by
 rw[pz,Tw,List.length_take,List.length_drop]
theorem FD(t:List Rt)(n id:Nat):(pz t n id).length≤20*n:=by rw[Tx];omega
theorem Cb{a b:Int}(h: ¬iN a b=0):1≤a∧a≤64∧20≤b∧b≤240∧iN a b=min (a*(b/20)) 256∧1≤b/20∧b/20≤12:=by
 unfold iN at h⊢
 split at h
 ·
  exact absurd rfl h
 ·
  rename_i hn
  rw[if_neg hn]
  have:1≤b/20∧b/20≤12:=by omega
  exact⟨by omega,by omega,by omega,by omega,rfl,this.1,this.2⟩
theorem Ty{t:List Rt}{r:Rt}{i n id:Nat}(hn:0<n)(hr:t[i]? =some r):pz (t.take (i+1)) n id=pz (t.take i) n id++(if id=i/n then eJ r else[]):=by
 have bp:i<t.length:=(List.getElem?_eq_some_iff.1 hr).1
 have e1:t.take (i+1)=t.take i++[r]:=by rw[List.take_add_one,hr];rfl
 have hd:=Nat.div_add_mod i n
 have hm:=Nat.mod_lt i hn
 have hc:n*(i/n)=i/n*n:=Nat.mul_comm _ _
 unfold pz
 have l1:(t.take i).length=i:=by rw[List.length_take];omega
 rw[e1]
 by_cases h1:id=i/n
 ·
  subst h1
  have e2:(t.take i++[r]).drop (i/n*n)=(t.take i).drop (i/n*n)++[r]:=List.drop_append_of_le_length (by rw[l1];omega)
  have e3:((t.take i).drop (i/n*n)++[r]).take n=(t.take i).drop (i/n*n)++[r]:=List.take_of_length_le (by rw[List.length_append,List.length_drop,l1];simp only[List.length_cons,List.length_nil];omega)
  have e4:((t.take i).drop (i/n*n)).take n=(t.take i).drop (i/n*n):=List.take_of_length_le (by rw[List.length_drop,l1];omega)
  rw[if_pos rfl,e2,e3,e4]
  simp
 ·
  rw[if_neg h1,List.append_nil]
  rcases Nat.lt_or_gt_of_ne h1 with h2|h2
  ·
   have:(id+1)*n≤i/n*n:=Nat.mul_le_mul_right _ h2
   rw[Nat.add_mul]at this
   rw[List.drop_append_of_le_length (by rw[l1];omega),List.take_append_of_le_length (by rw[List.length_drop,l1];omega)]
  ·
   have:(i/n+1)*n≤id*n:=Nat.mul_le_mul_right _ h2
   rw[Nat.add_mul]at this
   rw[List.drop_eq_nil_of_le (by rw[List.length_append,l1];simp;omega),List.drop_eq_nil_of_le (by rw[l1];omega)]
theorem Tz{t:List Rt}{r:Rt}{i n ids:Nat}{x:List UInt8}(hn:0<n)(hr:t[i]? =some r)(hx:(kD (t.take i) ids n)[i/n]? =some x):
  kD (t.take (i+1)) ids n=(kD (t.take i) ids n).set (i/n) (x++eJ r):=by
 refine List.ext_getElem? fun j=> ?_
 rw[List.getElem?_set]
 have hk:i/n<ids:=by have:=(List.getElem?_eq_some_iff.1 hx).1;rwa [tB]at this
 by_cases hj:j<ids
 ·
  have e: ∀t',(kD t' ids n)[j]? =some (pz t' n j):=fun t'=>by simp[kD,hj]
  rw[e,Ty hn hr]
  by_cases h:i/n=j
  ·
   subst h
   rw[e]at hx
   rw[if_pos rfl,if_pos rfl,if_pos (by rw[tB];exact hk)]
   rw[Option.some.inj hx]
  ·
   rw[if_neg (fun e=>h e.symm),if_neg h,List.append_nil,e]
 ·
  rw[List.getElem?_eq_none (by rw[tB];omega),if_neg (by omega),List.getElem?_eq_none (by rw[tB];omega)]
theorem TA(t:List Rt)(ids n:Nat):kD (t.take 0) ids n=List.replicate ids []:=by
 refine List.eq_replicate_iff.2 ⟨tB _ _ _,fun x hx=> ?_⟩
 obtain⟨j,_,rfl⟩:=List.mem_map.1 hx
 simp[pz]
theorem TB(t:List Rt)(id n:Nat):kD t (id+1) n=kD t id n++[pz t n id]:=by simp[kD,List.range_succ]
def oG(b:List UInt8):Rt:=⟨⟨if b.getD 0 0=1 then 128 else 32,(b.getD 1 0).toNat,oo fun i=>(b.getD (2+i) 0).toNat⟩,UInt16.ofNat ((b.getD 18 0).toNat*256+(b.getD 19 0).toNat)⟩
def rd(b:List UInt8):Option Rt:=if b.getD 0 0≤1 then some (oG b)else none
def lu(b:List UInt8):Option (List Rt):=
 if h:b.length<20 then(if b.length=0 then some []else none)
 else match rd (b.take 20),lu (b.drop 20)with
  |some r,some l=>some (r::l)
  |_,_=>none
termination_by b.length
decreasing_by rw[List.length_drop];omega
theorem Lc:lu []=some []:=by rw[lu];simp
theorem FE{b:List UInt8}(h:20≤b.length):lu b=(rd (b.take 20)).bind fun r=>(lu (b.drop 20)).map (r:: ·):=by
 rw[lu,dif_neg (by omega)]
 cases rd (b.take 20)<;>simp
 cases lu (b.drop 20)<;>simp
theorem Ld: ∀(k:Nat) (b:List UInt8),b.length≤k→ ¬b.length%20=0→lu b=none
 |0,b,h,hm=>by have:b.length=0:=by omega
               rw[this]at hm;simp at hm
 |k+1,b,h,hm=>by
  by_cases h2:b.length<20
  ·
   rw[lu,dif_pos h2,if_neg (fun e=>by rw[e]at hm;simp at hm)]
  ·
   rw[FE (by omega),Ld k (b.drop 20) (by rw[List.length_drop];omega) (by rw[List.length_drop];omega)]
   cases rd (b.take 20)<;>rfl
def gg:List (List UInt8)→Option (List Rt)
 |[]=>some []
 |b::r=>(lu b).bind fun l=>(gg r).map (l++ ·)
theorem Cc: ∀a b:List (List UInt8),gg (a++b)=(gg a).bind fun l=>(gg b).map (l++ ·)
 |[],b=>by simp[gg]
 |x::a,b=>by
  rw[List.cons_append,gg,gg,Cc a b]
  cases lu x<;>simp
  cases gg a<;>simp
  cases gg b<;>simp
theorem FF{bs:List (List UInt8)}{i:Nat}{b:List UInt8}(h:bs[i]? =some b):gg (bs.take (i+1))=(gg (bs.take i)).bind fun l=>(lu b).map (l++ ·):=by
 rw[List.take_add_one,h,Option.toList_some,Cc,gg,gg]
 cases gg (bs.take i)with
 |none=>rfl
 |some l=>cases lu b<;>simp
theorem Le{bs:List (List UInt8)}{i:Nat}(h:gg (bs.take i)=none):gg bs=none:=by
 rw[←List.take_append_drop i bs,Cc,h];rfl
def jd(bs:List (List UInt8)):List Rt:=match gg bs with
 |some t=>if dr t=true then t else[]
 |none=>[]
def jP(bs:List (List UInt8)):Int:=match gg bs with
 |some t=>if dr t=true then 0 else 2
 |none=>2
theorem Cd{bs:List (List UInt8)}(h:gg bs=none):jd bs=[]∧jP bs=2:=by simp[jd,jP,h]
theorem Lf{bs:List (List UInt8)}{t:List Rt}(h:gg bs=some t)(hr:dr t=false):jd bs=[]∧jP bs=2:=by simp[jd,jP,h,hr]
theorem FG{bs:List (List UInt8)}{t:List Rt}(h:gg bs=some t)(hr:dr t=true):jd bs=t∧jP bs=0:=by simp[jd,jP,h,hr]
def rv(a b:List (List UInt8))(i:Nat):Option (Int×List UInt8):=if a.getD i []=b.getD i []then none else some ((i:Int),b.getD i [])
def mz(a b:List (List UInt8))(n:Nat):List (Int×List UInt8):=(List.range n).filterMap (rv a b)
def eu(a b:List (List UInt8)):List (Int×List UInt8):=mz a b (max a.length b.length)
theorem Lg{a b:List (List UInt8)}{n:Nat}(h:a.getD n []=b.getD n []):mz a b (n+1)=mz a b n:=by
 have e:rv a b n=none:=by rw[rv,if_pos h]
 simp[mz,List.range_succ,e]
theorem Lh{a b:List (List UInt8)}{n:Nat}(h: ¬a.getD n []=b.getD n []):mz a b (n+1)=mz a b n++[((n:Int),b.getD n [])]:=by
 have e:rv a b n=some ((n:Int),b.getD n []):=by rw[rv,if_neg h]
 simp[mz,List.range_succ,e]
theorem Ce(a b:List (List UInt8))(n:Nat):(mz a b n).length≤n:=by
 have:=List.length_filterMap_le (rv a b) (List.range n)
 simpa[mz]using this
def nN(b:List UInt8):Bool:=decide (b.getD 0 0≤1)
def rdv(b:List UInt8):Rt:=if nN b=true then oG b else jm
theorem Li(b:List UInt8):rd b=if nN b=true then some (oG b)else none:=by simp[rd,nN]
theorem TC(b:List UInt8):(oG b).dN=qT (b.getD 18 0) (b.getD 19 0):=rfl
theorem TD{b:List UInt8}(hb:b.length=20)(v:Int)(hv:v=if b.getD 0 0=1 then 128 else 32):
  (cP (((ay jm).setIfInBounds 0 (.int .i64 v)).setIfInBounds 1 (.int .i64 (b.getD 1 0).toNat)) 2 (aK aM ((b.drop 2).take 16)).toArray).setIfInBounds 18 (.int .u16 (qT (b.getD 18 0) (b.getD 19 0)).toNat)=ay (oG b):=by
 have hk:(aK aM ((b.drop 2).take 16)).toArray.size=16:=by rw[List.size_toArray,gQ,List.length_take,List.length_drop,hb];rfl
 have h0:(ay jm).size=19:=km _
 have hs:2+(aK aM ((b.drop 2).take 16)).toArray.size≤(((ay jm).setIfInBounds 0 (.int .i64 v)).setIfInBounds 1 (.int .i64 (b.getD 1 0).toNat)).size:=by rw[hk];simp[h0]
 refine Array.ext_getElem? fun j=> ?_
 rw[Array.getElem?_setIfInBounds,mQ hs,uA hs,hk]
 by_cases yZ:18=j
 ·
  subst yZ;rw[if_pos rfl,wc,TC];simp[h0]
 rw[if_neg yZ]
 by_cases h2:2≤j∧j<2+16
 ·
  rw[if_pos h2,ot _ j (by omega),show j=2+(j -2) by omega,pX,lM _ _ (by omega),show 2+(j -2) -2=j -2 by omega]
  have hg:((b.drop 2).take 16)[j -2]? =some (b.getD j 0):=by
   rw[List.getElem?_take,if_pos (by omega),List.getElem?_drop,show 2+(j -2)=j by omega,List.getD,List.getElem?_eq_getElem (by omega)];rfl
  have:=mR (enc:=aM) ((b.drop 2).take 16) (j -2) _ hg 0 (by decide)
  simp only[Nat.mul_one,Nat.add_zero]at this
  rw[show(aK aM ((b.drop 2).take 16)).toArray[j -2]? =(aK aM ((b.drop 2).take 16))[j -2]?by simp,this]
  have e:cF (oG b).p.key (j -2)=(b.getD j 0).toNat:=by
   show cF (oo fun i=>(b.getD (2+i) 0).toNat) (j -2)=_
   rw[yE _ _ (by omega),show 2+(j -2)=j by omega]
   have:=(b.getD j 0).toNat_lt;omega
  rw[e];rfl
 rw[if_neg h2,Array.getElem?_setIfInBounds]
 by_cases h1:1=j
 ·
  subst h1;rw[if_pos rfl,ot _ 1 (by decide),uI];simp[h0,oG]
 rw[if_neg h1,Array.getElem?_setIfInBounds]
 by_cases hj:0=j
 ·
  subst hj;rw[if_pos rfl,ot _ 0 (by decide),uH];simp[h0,oG,hv]
 ·
  rw[if_neg hj,Array.getElem?_eq_none (by rw[h0];omega),Array.getElem?_eq_none (by rw[km];omega)]
theorem Lj{t:List Rt}{ids room:Int}(h:iN ids room=0∨dr t=false):jc t ids room=1∧jO t ids room=[]:=by
 have e:jc t ids room=1:=if_pos h.symm
 exact⟨e,by rw[jO,e];rfl⟩
theorem Lk{t:List Rt}{ids room:Int}(h: ¬iN ids room=0)(h':dr t=true)(h2:iN ids room<t.length):jc t ids room=5∧jO t ids room=[]:=by
 have e:jc t ids room=5:=by
  rw[jc,if_neg (by simp[h,h']),if_pos h2]
 exact⟨e,by rw[jO,e];rfl⟩
theorem FI{t:List Rt}{ids room:Int}(h: ¬iN ids room=0)(h':dr t=true)(h2: ¬iN ids room<t.length):jc t ids room=0∧jO t ids room=kD t ids.toNat (room/20).toNat:=by
 have e:jc t ids room=0:=by
  rw[jc,if_neg (by simp[h,h']),if_neg h2]
 exact⟨e,by rw[jO,if_pos e]⟩
theorem TE{s:Sv}{xs:List (Sl UInt8)}{i:Nat}{y:Sl UInt8}:lx (⟨s,xs.set i y⟩:Sl (Sl UInt8))=(xs.map (·.xs)).set i y.xs:=by simp[lx,List.map_set]
section
variable {bits:Int} {ns:List Nd} {i:Nat} {a a2:List Int} {nd:Nd}
end
section
variable {bits:Int} {W:List Wy} {R:List Rt}
end
section
variable {bits:Int} {t:List Rt}
end
def kE(p:Nat→Bool):Nat→Nat→Nat→Nat
 |0,i,_=>i
 |f+1,i,j=>if i<j then(if p ((i+j)/2)=true then kE p f i ((i+j)/2)else kE p f ((i+j)/2+1) j)else i
def bs(p:Nat→Bool)(n:Nat):Nat:=kE p (n+1) 0 n
theorem Cf(p:Nat→Bool): ∀(f g i j:Nat),j -i<f→j -i<g→kE p f i j=kE p g i j
 |0,_,_,_,h,_=>by omega
 |_+1,0,_,_,_,h=>by omega
 |f+1,g+1,i,j,h1,h2=>by
  rw[kE,kE]
  split
  ·
   split
   ·
    exact Cf p f g _ _ (by omega) (by omega)
   ·
    exact Cf p f g _ _ (by omega) (by omega)
  ·
   rfl
theorem Ll{p:Nat→Bool}{f i j:Nat}(h:i<j)(hf:j -i<f):kE p f i j=if p ((i+j)/2)=true then kE p f i ((i+j)/2)else kE p f ((i+j)/2+1) j:=by
 match f,hf with
 |f+1,hf=>
  rw[kE,if_pos h]
  split
  ·
   exact Cf p f (f+1) _ _ (by omega) (by omega)
  ·
   exact Cf p f (f+1) _ _ (by omega) (by omega)
theorem TF{p:Nat→Bool}{f i j:Nat}(h: ¬i<j)(hf:0<f):kE p f i j=i:=by
 match f,hf with
 |f+1,_=>rw[kE,if_neg h]
theorem FJ{p:Nat→Bool}{n:Nat}(hm: ∀a b,a≤b→b<n→p a=true→p b=true): ∀(f i j:Nat),j -i<f→i≤j→j≤n→(∀a,a<i→p a=false)→(∀a,j≤a→a<n→p a=true)→
  kE p f i j≤n∧(∀a,a<kE p f i j→p a=false)∧ ∀a,kE p f i j≤a→a<n→p a=true
 |0,_,_,h,_,_,_,_=>by omega
 |f+1,i,j,h,n8,sR,h1,h2=>by
  rw[kE]
  split
  ·
   rename_i bp
   split
   ·
    rename_i hp
    exact FJ hm f _ _ (by omega) (by omega) (by omega) h1 fun a ha TG=>hm _ a ha TG hp
   ·
    rename_i hp
    refine FJ hm f _ _ (by omega) (by omega) sR (fun a ha=> ?_) h2
    cases oH:p a with
    |false=>rfl
    |true=>exact absurd (hm a ((i+j)/2) (by omega) (by omega) oH) hp
  ·
   obtain rfl:i=j:=by omega
   exact⟨sR,h1,h2⟩
theorem Lm{p:Nat→Bool}{n:Nat}(hm: ∀a b,a≤b→b<n→p a=true→p b=true):bs p n≤n∧(∀a,a<bs p n→p a=false)∧ ∀a,bs p n≤a→a<n→p a=true:=
 FJ hm (n+1) 0 n (by omega) (Nat.zero_le _) (Nat.le_refl _) (fun a ha=>by omega) (fun a h1 h2=>by omega)
def behind(t:List Rt)(q:dh)(j:Nat):Bool:=match t[j]?with
 |some r=> !dV r.p q
 |none=>true
def cK(t:List Rt)(q:dh):Nat:=bs (behind t q) t.length
def kF(t:List Rt)(q:dh):Bool:=match t[cK t q]?with
 |some r=>decide (r.p=q)
 |none=>false
theorem FK{p:Nat→Bool}: ∀(f i j:Nat),i≤j→kE p f i j≤j
 |0,_,_,h=>h
 |f+1,i,j,h=>by
  rw[kE];split
  ·
   split
   ·
    exact Nat.le_trans (FK f _ _ (by omega)) (by omega)
   ·
    exact FK f _ _ (by omega)
  ·
   exact h
theorem Lo(t:List Rt)(q:dh):cK t q≤t.length:=FK _ _ _ (Nat.zero_le _)
theorem TH(t:List Rt)(q:dh):kF t q=(decide (((cK t q:Nat):Int)<(t.length:Int))&&decide ((t.getD (cK t q) jm).p=q)):=by
 rcases Nat.lt_or_ge (cK t q) t.length with h|h
 ·
  have e:t[cK t q]? =some t[cK t q]:=by simp[h]
  rw[kF,e,List.getD_eq_getElem?_getD,e];simp[h]
 ·
  rw[kF,List.getElem?_eq_none h,decide_eq_false (by omega)];rfl
def wX(t:List Rt)(k:Key)(bits:Int)(n:Nat):Option Rt:=if kF t ⟨bits,n,hQ k n⟩=true then t[cK t ⟨bits,n,hQ k n⟩]?else none
def ry(t:List Rt)(k:Key)(bits:Int):Nat→Option Rt
 |0=>wX t k bits 0
 |n+1=>match wX t k bits (n+1)with
  |some r=>some r
  |none=>ry t k bits n
def wY(t:List Rt)(k:Key)(bits:Int):Bool:=dr t&&c5 ⟨bits,bits,k⟩
def u7(t:List Rt)(k:Key)(bits:Int):Rt:=if wY t k bits=true then(ry t k bits bits.toNat).getD jm else jm
def u9(t:List Rt)(k:Key)(bits:Int):Int:=if wY t k bits=true then(if(ry t k bits bits.toNat).isSome=true then 0 else 6)else 1
theorem Cg{t:List Rt}(h:dr t=true): ∀(i j:Nat) (a b:Rt),i<j→t[i]? =some a→t[j]? =some b→dV a.p b.p=true:=by
 intro i j
 induction j with
 |zero=>intro a b n8;omega
 |succ j ih=>
  intro a b n8 ha hb
  have jj:=(List.getElem?_eq_some_iff.1 hb).1
  obtain⟨c,hc⟩: ∃c,t[j]? =some c:=⟨t[j],by simp[show j<t.length by omega]⟩
  have oI:dV c.p b.p=true:=by
   cases hx:dV c.p b.p with
   |true=>rfl
   |false=>
    have:=A7 jj (by rw[A8 hb hc,hx];simp)
    rw[this]at h;cases h
  rcases Nat.lt_or_ge i j with h1|h1
  ·
   have TI:=ih a c h1 ha hc
   have m1:=wx h (List.mem_of_getElem? ha)
   have m2:=wx h (List.mem_of_getElem? hb)
   have m3:=wx h (List.mem_of_getElem? hc)
   rw[lN m1 m3]at TI
   rw[lN m3 m2]at oI
   rw[lN m1 m2]
   omega
  ·
   obtain rfl:i=j:=by omega
   obtain rfl:=Option.some.inj (ha.symm.trans hc)
   exact oI
theorem zk{p:dh}(h:c5 p=true):dV p p=false:=by
 cases hx:dV p p with
 |false=>rfl
 |true=>rw[lN h h]at hx;omega
theorem Lp{t:List Rt}(h:dr t=true){q:dh}(hq:c5 q=true)(a b:Nat)(Av:a≤b)(hb:b<t.length)(ha:behind t q a=true):behind t q b=true:=by
 obtain⟨x,hx⟩: ∃x,t[a]? =some x:=⟨t[a],by simp[show a<t.length by omega]⟩
 obtain⟨y,hy⟩: ∃y,t[b]? =some y:=⟨t[b],by simp[hb]⟩
 simp only[behind,hx,hy,Bool.not_eq_true']at ha⊢
 rcases Nat.lt_or_ge a b with h1|h1
 ·
  have hl:=Cg h a b x y h1 hx hy
  have m1:=wx h (List.mem_of_getElem? hx)
  have m2:=wx h (List.mem_of_getElem? hy)
  cases hz:dV y.p q with
  |false=>rfl
  |true=>
   rw[lN m1 m2]at hl
   rw[lN m2 hq]at hz
   have:dV x.p q=true:=by rw[lN m1 hq];omega
   rw[this]at ha;cases ha
 ·
  obtain rfl:a=b:=by omega
  obtain rfl:=Option.some.inj (hx.symm.trans hy)
  exact ha
theorem TJ{t:List Rt}(h:dr t=true){q:dh}(hq:c5 q=true){r:Rt}(hr:r∈t)(e:r.p=q):t[cK t q]? =some r∧kF t q=true:=by
 obtain⟨h1,h2,h3⟩:=Lm (p:=behind t q) (n:=t.length) fun a b=>Lp h hq a b
 obtain⟨i,hi⟩:=List.mem_iff_getElem?.1 hr
 have eP:=(List.getElem?_eq_some_iff.1 hi).1
 have e1:cK t q=i:=by
  have Lr:behind t q i=true:=by simp only[behind,hi,e,zk hq];rfl
  rcases Nat.lt_trichotomy (cK t q) i with h4|h4|h4
  ·
   obtain⟨x,hx⟩: ∃x,t[cK t q]? =some x:=⟨t[cK t q],by simp[show cK t q<t.length by omega]⟩
   have h5:=h3 (cK t q) (Nat.le_refl _) (by omega)
   have h6:=Cg h _ _ x r h4 hx hi
   simp only[behind,hx]at h5
   rw[e]at h6;rw[h6]at h5;cases h5
  ·
   exact h4
  ·
   have:=h2 i h4;rw[this]at Lr;cases Lr
 rw[kF,e1,hi]
 exact⟨rfl,by simp[e]⟩
theorem zl{t:List Rt}{q:dh}(h:kF t q=true): ∃r∈t,t[cK t q]? =some r∧r.p=q:=by
 rw[kF]at h
 cases e:t[cK t q]?with
 |none=>rw[e]at h;cases h
 |some r=>rw[e]at h;exact⟨r,List.mem_of_getElem? e,rfl,by simpa using h⟩
section
variable {t:List Rt} {k:Key} {bits:Int}
end
structure Ord(t:List Rt):Prop where
 may: ∀r∈t,c5 r.p=true
 less:t.Pairwise fun a b=>dV a.p b.p=true
theorem Ci{t:List Rt}(h:dr t=true):Ord t:=⟨fun _ hr=>wx h hr,by
 rw[List.pairwise_iff_getElem]
 intro i j hi hj n8
 exact Cg h i j _ _ n8 (by simp[hi]) (by simp[hj])⟩
theorem TK{t:List Rt}(h:Ord t)(hl:t.length≤256):dr t=true:=by
 refine I7 hl ?_
 have key: ∀n,n≤t.length→pZ t n=true:=by
  intro n
  induction n with
  |zero=>intro _;rfl
  |succ n ih=>
   intro hn
   rw[D7,ih (by omega),Bool.true_and]
   have hi:t[n]? =some t[n]:=by simp[show n<t.length by omega]
   have hm:=h.may _ (List.mem_of_getElem? hi)
   cases n with
   |zero=>rw[D8 hi,hm]
   |succ m=>
    have hq:t[m]? =some t[m]:=by simp[show m<t.length by omega]
    rw[A8 hi hq,hm,Bool.true_and]
    exact(List.pairwise_iff_getElem.1 h.less) m (m+1) (by omega) (by omega) (by omega)
 exact key _ (Nat.le_refl _)
theorem Ord.sub{s t:List Rt}(h:Ord t)(hs:s.Sublist t):Ord s:=⟨fun r hr=>h.may r (hs.subset hr),h.less.sublist hs⟩
def TL(r:Rt)(p:dh):Bool:=decide (r.p≠p)&&QH r.p p
def TM(t:List Rt)(p:dh):Option Rt:=t.reverse.find? fun r=>TL r p
def abP(t:List Rt)(r:Rt):Bool:=match TM t r.p with
 |none=>true
 |some o=> !decide (o.dN=r.dN)
structure Ch where
 r:Rt
 gone:Bool
 deriving DecidableEq
def Ls:Ch:=⟨jm,false⟩
def fO(x:Ch):Array Value:=ay x.r++ #[.bool x.gone]
theorem Lt(x:Ch):(fO x).size=20:=by unfold fO;rw[Array.size_append,km];rfl
theorem Lu(x:Ch)(j:Nat)(h:j<19):(fO x)[j]? =(ay x.r)[j]? :=by
 unfold fO;rw[Array.getElem?_append_left (by rw[km];exact h)]
theorem TN(x:Ch):(fO x)[19]? =some (.bool x.gone):=by
 unfold fO;rw[Array.getElem?_append_right (by rw[km];omega),km];rfl
def fq(t:List Rt)(c:Ch):Int:=if c5 c.r.p=true then(if kF t c.r.p=true then 0 else if c.gone=true then 6 else if 256≤t.length then 5 else 0)else 1
def jy(t:List Rt)(c:Ch):List Rt:=
 if fq t c=0 then(if c.gone=true then t.take (cK t c.r.p)++t.drop (cK t c.r.p+1)else if kF t c.r.p=true then t.set (cK t c.r.p) c.r else t.take (cK t c.r.p)++c.r::t.drop (cK t c.r.p))else t
theorem Lw{t:List Rt}(h:t.length≤256)(c:Ch):(jy t c).length≤256:=by
 unfold jy
 split
 ·
  rename_i he
  split
  ·
   simp only[List.length_append,List.length_take,List.length_drop];omega
  ·
   split
   ·
    simpa using h
   ·
    rename_i h1 h2
    have:t.length<256:=by
     apply Classical.byContradiction;intro hn
     unfold fq at he
     rw[if_neg h2,if_neg h1,if_pos (show 256≤t.length by omega)]at he
     split at he<;>omega
    have hp:=Lo t c.r.p
    simp only[List.length_append,List.length_take,List.length_cons,List.length_drop];omega
 ·
  exact h
def k7:List Rt→List Ch→List Rt×Int
 |t,[]=>(t,0)
 |t,c::l=>if fq t c=0 then k7 (jy t c) l else(t,fq t c)
theorem Ly{t:List Rt}{l:List Ch}{i:Nat}{c:Ch}(hc:l[i]? =some c):k7 t (l.drop i)=if fq t c=0 then k7 (jy t c) (l.drop (i+1))else(t,fq t c):=by
 obtain⟨hi,rfl⟩:=List.getElem?_eq_some_iff.1 hc
 rw[List.drop_eq_getElem_cons hi,k7]
def dS(t:List Rt)(l:List Ch):Int:=if dr t=true then(k7 t l).2 else 1
def cH(t:List Rt)(l:List Ch):List Rt:=if dS t l=0 then(k7 t l).1 else t
end Go.Kb
namespace Go.Proofs.YtaipiecplldinaaGreat
open Go.aC
instance abQ:gM Tryz.prog 3:=⟨⟨_,Tryz.underlying3,rfl⟩,by kernel_rfl⟩
instance abR:l5 Tryz.prog 3 .i64:=⟨Tryz.underlying3⟩
instance abS:gM Tryz.prog 4:=⟨⟨_,Tryz.underlying4,rfl⟩,by kernel_rfl⟩
instance abT:gM Tryz.prog 5:=⟨⟨_,Tryz.underlying5,rfl⟩,by kernel_rfl⟩
instance abU:l5 Tryz.prog 5 .u8:=⟨Tryz.underlying5⟩
instance abV:gM Tryz.prog 22:=⟨⟨_,Tryz.underlying22,rfl⟩,by kernel_rfl⟩
instance abW:eW Tryz.prog 22 48 4:=⟨Tryz.underlying22,by kernel_rfl⟩
instance abX:gM Tryz.prog 23:=⟨⟨_,Tryz.underlying23,rfl⟩,by kernel_rfl⟩
instance abY:eW Tryz.prog 23 94 4:=⟨Tryz.underlying23,by kernel_rfl⟩
instance abZ:gn Tryz.prog 25 6:=⟨⟨_,Tryz.underlying25,rfl⟩,by kernel_rfl⟩
instance ab0:dO Tryz.prog 25 0 0:=⟨⟨_,_,0,Tryz.underlying25,rfl,rfl,by kernel_rfl⟩⟩
instance ab1:dO Tryz.prog 25 1 1:=⟨⟨_,_,0,Tryz.underlying25,rfl,rfl,by kernel_rfl⟩⟩
instance ab2:dO Tryz.prog 25 2 2:=⟨⟨_,_,0,Tryz.underlying25,rfl,rfl,by kernel_rfl⟩⟩
instance ab3:dO Tryz.prog 25 3 3:=⟨⟨_,_,0,Tryz.underlying25,rfl,rfl,by kernel_rfl⟩⟩
instance ab4:dO Tryz.prog 25 4 4:=⟨⟨_,_,0,Tryz.underlying25,rfl,rfl,by kernel_rfl⟩⟩
instance ab5:dO Tryz.prog 25 5 5:=⟨⟨_,_,0,Tryz.underlying25,rfl,rfl,by kernel_rfl⟩⟩
instance ab6:gM Tryz.prog 26:=⟨⟨_,Tryz.underlying26,rfl⟩,by kernel_rfl⟩
instance ab7:eW Tryz.prog 26 3 1:=⟨Tryz.underlying26,by kernel_rfl⟩
instance ab8:gM Tryz.prog 27:=⟨⟨_,Tryz.underlying27,rfl⟩,by kernel_rfl⟩
instance ab9:l5 Tryz.prog 27 .u64:=⟨Tryz.underlying27⟩
instance aca:gn Tryz.prog 29 9:=⟨⟨_,Tryz.underlying29,rfl⟩,by kernel_rfl⟩
instance acb:dO Tryz.prog 29 0 0:=⟨⟨_,_,5,Tryz.underlying29,rfl,rfl,by kernel_rfl⟩⟩
instance acd:dO Tryz.prog 29 1 6:=⟨⟨_,_,0,Tryz.underlying29,rfl,rfl,by kernel_rfl⟩⟩
instance ace:dO Tryz.prog 29 2 7:=⟨⟨_,_,0,Tryz.underlying29,rfl,rfl,by kernel_rfl⟩⟩
instance acf:dO Tryz.prog 29 3 8:=⟨⟨_,_,0,Tryz.underlying29,rfl,rfl,by kernel_rfl⟩⟩
instance acg:gM Tryz.prog 38:=⟨⟨_,Tryz.underlying38,rfl⟩,by kernel_rfl⟩
instance ach:eW Tryz.prog 38 5 1:=⟨Tryz.underlying38,by kernel_rfl⟩
instance aci:eW Tryz.prog 43 50 4:=⟨Tryz.underlying43,by kernel_rfl⟩
instance acj:gM Tryz.prog 46:=⟨⟨_,Tryz.underlying46,rfl⟩,by kernel_rfl⟩
instance ack:eW Tryz.prog 46 38 1:=⟨Tryz.underlying46,by kernel_rfl⟩
instance acm:gn Tryz.prog 48 4:=⟨⟨_,Tryz.underlying48,rfl⟩,by kernel_rfl⟩
instance acn:dO Tryz.prog 48 0 0:=⟨⟨_,_,0,Tryz.underlying48,rfl,rfl,by kernel_rfl⟩⟩
instance aco:dO Tryz.prog 48 1 1:=⟨⟨_,_,0,Tryz.underlying48,rfl,rfl,by kernel_rfl⟩⟩
instance acp:dO Tryz.prog 48 2 2:=⟨⟨_,_,0,Tryz.underlying48,rfl,rfl,by kernel_rfl⟩⟩
instance acq:dO Tryz.prog 48 3 3:=⟨⟨_,_,0,Tryz.underlying48,rfl,rfl,by kernel_rfl⟩⟩
instance acr:gn Tryz.prog 50 4:=⟨⟨_,Tryz.underlying50,rfl⟩,by kernel_rfl⟩
instance acs:dO Tryz.prog 50 0 0:=⟨⟨_,_,0,Tryz.underlying50,rfl,rfl,by kernel_rfl⟩⟩
instance acu:dO Tryz.prog 50 1 1:=⟨⟨_,_,0,Tryz.underlying50,rfl,rfl,by kernel_rfl⟩⟩
instance acv:dO Tryz.prog 50 2 2:=⟨⟨_,_,0,Tryz.underlying50,rfl,rfl,by kernel_rfl⟩⟩
instance acw:dO Tryz.prog 50 3 3:=⟨⟨_,_,0,Tryz.underlying50,rfl,rfl,by kernel_rfl⟩⟩
instance acx:gM Tryz.prog 52:=⟨⟨_,Tryz.underlying52,rfl⟩,by kernel_rfl⟩
instance acy:eW Tryz.prog 52 68 19:=⟨Tryz.underlying52,by kernel_rfl⟩
instance acz:gn Tryz.prog 54 10:=⟨⟨_,Tryz.underlying54,rfl⟩,by kernel_rfl⟩
instance acA:dO Tryz.prog 54 0 0:=⟨⟨_,_,8,Tryz.underlying54,rfl,rfl,by kernel_rfl⟩⟩
instance acB:dO Tryz.prog 54 1 9:=⟨⟨_,_,0,Tryz.underlying54,rfl,rfl,by kernel_rfl⟩⟩
instance acC:gn Tryz.prog 56 16:=⟨⟨_,Tryz.underlying56,rfl⟩,by kernel_rfl⟩
instance acD:um Tryz.prog 56 16 1:=⟨⟨_,Tryz.underlying56,by kernel_rfl⟩⟩
instance acE:gn Tryz.prog 65 18:=⟨⟨_,Tryz.underlying65,rfl⟩,by kernel_rfl⟩
instance acF:dO Tryz.prog 65 0 0:=⟨⟨_,_,0,Tryz.underlying65,rfl,rfl,by kernel_rfl⟩⟩
instance acG:dO Tryz.prog 65 1 1:=⟨⟨_,_,0,Tryz.underlying65,rfl,rfl,by kernel_rfl⟩⟩
instance acH:dO Tryz.prog 65 2 2:=⟨⟨_,_,15,Tryz.underlying65,rfl,rfl,by kernel_rfl⟩⟩
instance acI:gM Tryz.prog 66:=⟨⟨_,Tryz.underlying66,rfl⟩,by kernel_rfl⟩
instance acJ:l5 Tryz.prog 66 .u16:=⟨Tryz.underlying66⟩
instance acK:gn Tryz.prog 68 19:=⟨⟨_,Tryz.underlying68,rfl⟩,by kernel_rfl⟩
instance acL:dO Tryz.prog 68 0 0:=⟨⟨_,_,17,Tryz.underlying68,rfl,rfl,by kernel_rfl⟩⟩
instance acM:dO Tryz.prog 68 1 18:=⟨⟨_,_,0,Tryz.underlying68,rfl,rfl,by kernel_rfl⟩⟩
instance acN:gM Tryz.prog 76:=⟨⟨_,Tryz.underlying76,rfl⟩,by kernel_rfl⟩
instance acO:eW Tryz.prog 76 91 20:=⟨Tryz.underlying76,by kernel_rfl⟩
instance acP:eW Tryz.prog 88 76 1:=⟨Tryz.underlying88,by kernel_rfl⟩
instance acQ:gn Tryz.prog 91 20:=⟨⟨_,Tryz.underlying91,rfl⟩,by kernel_rfl⟩
instance acR:dO Tryz.prog 91 0 0:=⟨⟨_,_,18,Tryz.underlying91,rfl,rfl,by kernel_rfl⟩⟩
instance acS:dO Tryz.prog 91 1 19:=⟨⟨_,_,0,Tryz.underlying91,rfl,rfl,by kernel_rfl⟩⟩
instance acT:gn Tryz.prog 94 4:=⟨⟨_,Tryz.underlying94,rfl⟩,by kernel_rfl⟩
instance acU:dO Tryz.prog 94 0 0:=⟨⟨_,_,0,Tryz.underlying94,rfl,rfl,by kernel_rfl⟩⟩
instance acV:dO Tryz.prog 94 1 1:=⟨⟨_,_,0,Tryz.underlying94,rfl,rfl,by kernel_rfl⟩⟩
instance acW:dO Tryz.prog 94 2 2:=⟨⟨_,_,0,Tryz.underlying94,rfl,rfl,by kernel_rfl⟩⟩
instance acX:dO Tryz.prog 94 3 3:=⟨⟨_,_,0,Tryz.underlying94,rfl,rfl,by kernel_rfl⟩⟩
instance acY:gn Tryz.prog 102 2:=⟨⟨_,Tryz.underlying102,rfl⟩,by kernel_rfl⟩
instance acZ:dO Tryz.prog 102 0 0:=⟨⟨_,_,0,Tryz.underlying102,rfl,rfl,by kernel_rfl⟩⟩
instance ac0:dO Tryz.prog 102 1 1:=⟨⟨_,_,0,Tryz.underlying102,rfl,rfl,by kernel_rfl⟩⟩
instance ac1:eW Tryz.prog 103 102 2:=⟨Tryz.underlying103,by kernel_rfl⟩
instance ac2:gn Tryz.prog 110 4:=⟨⟨_,Tryz.underlying110,rfl⟩,by kernel_rfl⟩
instance ac3:dO Tryz.prog 110 0 0:=⟨⟨_,_,0,Tryz.underlying110,rfl,rfl,by kernel_rfl⟩⟩
instance ac4:dO Tryz.prog 110 1 1:=⟨⟨_,_,0,Tryz.underlying110,rfl,rfl,by kernel_rfl⟩⟩
instance ac5:dO Tryz.prog 110 2 2:=⟨⟨_,_,0,Tryz.underlying110,rfl,rfl,by kernel_rfl⟩⟩
instance ac6:dO Tryz.prog 110 3 3:=⟨⟨_,_,0,Tryz.underlying110,rfl,rfl,by kernel_rfl⟩⟩
instance ac7:gM Tryz.prog 139:=⟨⟨_,Tryz.underlying139,rfl⟩,by kernel_rfl⟩
instance ac8:dO Tryz.prog 141 0 0:=⟨⟨_,_,8,Tryz.underlying141,rfl,rfl,by kernel_rfl⟩⟩
instance ac9:dO Tryz.prog 141 1 9:=⟨⟨_,_,0,Tryz.underlying141,rfl,rfl,by kernel_rfl⟩⟩
instance ada:gn Tryz.prog 147 2:=⟨⟨_,Tryz.underlying147,rfl⟩,by kernel_rfl⟩
instance adb:dO Tryz.prog 147 0 0:=⟨⟨_,_,0,Tryz.underlying147,rfl,rfl,by kernel_rfl⟩⟩
instance ade:dO Tryz.prog 147 1 1:=⟨⟨_,_,0,Tryz.underlying147,rfl,rfl,by kernel_rfl⟩⟩
instance adf:eW Tryz.prog 161 26 1:=⟨Tryz.underlying161,by kernel_rfl⟩
instance adg:gn Tryz.prog 163 0:=⟨⟨_,Tryz.underlying163,rfl⟩,by kernel_rfl⟩
instance adh:eW Tryz.prog 186 46 1:=⟨Tryz.underlying186,by kernel_rfl⟩
instance adi:l5 Tryz.prog 191 .u32:=⟨Tryz.underlying191⟩
instance adj:um Tryz.prog 197 20 1:=⟨⟨_,Tryz.underlying197,by kernel_rfl⟩⟩
instance adk:l5 Tryz.prog 198 .u64:=⟨Tryz.underlying198⟩
instance adl:gn Tryz.prog 234 5:=⟨⟨_,Tryz.underlying234,rfl⟩,by kernel_rfl⟩
instance adm:dO Tryz.prog 234 0 0:=⟨⟨_,_,3,Tryz.underlying234,rfl,rfl,by kernel_rfl⟩⟩
instance adn:dO Tryz.prog 234 1 4:=⟨⟨_,_,0,Tryz.underlying234,rfl,rfl,by kernel_rfl⟩⟩
instance ado:gM Tryz.prog 235:=⟨⟨_,Tryz.underlying235,rfl⟩,by kernel_rfl⟩
instance adp:eW Tryz.prog 238 235 1:=⟨Tryz.underlying238,by kernel_rfl⟩
instance adq:aQ Tryz.prog 12:=⟨⟨Tryz.f12,Tryz.func12,by kernel_rfl,by kernel_rfl⟩⟩
instance adr:aQ Tryz.prog 14:=⟨⟨Tryz.f14,Tryz.func14,by kernel_rfl,by kernel_rfl⟩⟩
instance ads:aQ Tryz.prog 19:=⟨⟨Tryz.f19,Tryz.func19,by kernel_rfl,by kernel_rfl⟩⟩
instance adt:aQ Tryz.prog 20:=⟨⟨Tryz.f20,Tryz.func20,by kernel_rfl,by kernel_rfl⟩⟩
instance adu:aQ Tryz.prog 21:=⟨⟨Tryz.f21,Tryz.func21,by kernel_rfl,by kernel_rfl⟩⟩
instance adv:aQ Tryz.prog 23:=⟨⟨Tryz.f23,Tryz.func23,by kernel_rfl,by kernel_rfl⟩⟩
instance adw:aQ Tryz.prog 24:=⟨⟨Tryz.f24,Tryz.func24,by kernel_rfl,by kernel_rfl⟩⟩
instance adx:aQ Tryz.prog 27:=⟨⟨Tryz.f27,Tryz.func27,by kernel_rfl,by kernel_rfl⟩⟩
instance ady:aQ Tryz.prog 28:=⟨⟨Tryz.f28,Tryz.func28,by kernel_rfl,by kernel_rfl⟩⟩
instance adz:aQ Tryz.prog 31:=⟨⟨Tryz.f31,Tryz.func31,by kernel_rfl,by kernel_rfl⟩⟩
instance adA:aQ Tryz.prog 32:=⟨⟨Tryz.f32,Tryz.func32,by kernel_rfl,by kernel_rfl⟩⟩
instance adB:aQ Tryz.prog 33:=⟨⟨Tryz.f33,Tryz.func33,by kernel_rfl,by kernel_rfl⟩⟩
instance adC:aQ Tryz.prog 34:=⟨⟨Tryz.f34,Tryz.func34,by kernel_rfl,by kernel_rfl⟩⟩
instance adD:aQ Tryz.prog 35:=⟨⟨Tryz.f35,Tryz.func35,by kernel_rfl,by kernel_rfl⟩⟩
instance adE:aQ Tryz.prog 36:=⟨⟨Tryz.f36,Tryz.func36,by kernel_rfl,by kernel_rfl⟩⟩
instance adF:aQ Tryz.prog 37:=⟨⟨Tryz.f37,Tryz.func37,by kernel_rfl,by kernel_rfl⟩⟩
instance adG:aQ Tryz.prog 38:=⟨⟨Tryz.f38,Tryz.func38,by kernel_rfl,by kernel_rfl⟩⟩
instance adH:aQ Tryz.prog 39:=⟨⟨Tryz.f39,Tryz.func39,by kernel_rfl,by kernel_rfl⟩⟩
instance adI:aQ Tryz.prog 40:=⟨⟨Tryz.f40,Tryz.func40,by kernel_rfl,by kernel_rfl⟩⟩
instance adJ:aQ Tryz.prog 41:=⟨⟨Tryz.f41,Tryz.func41,by kernel_rfl,by kernel_rfl⟩⟩
instance adK:aQ Tryz.prog 42:=⟨⟨Tryz.f42,Tryz.func42,by kernel_rfl,by kernel_rfl⟩⟩
instance adL:aQ Tryz.prog 43:=⟨⟨Tryz.f43,Tryz.func43,by kernel_rfl,by kernel_rfl⟩⟩
instance adM:aQ Tryz.prog 44:=⟨⟨Tryz.f44,Tryz.func44,by kernel_rfl,by kernel_rfl⟩⟩
instance adN:aQ Tryz.prog 47:=⟨⟨Tryz.f47,Tryz.func47,by kernel_rfl,by kernel_rfl⟩⟩
instance adO:aQ Tryz.prog 48:=⟨⟨Tryz.f48,Tryz.func48,by kernel_rfl,by kernel_rfl⟩⟩
instance adP:aQ Tryz.prog 49:=⟨⟨Tryz.f49,Tryz.func49,by kernel_rfl,by kernel_rfl⟩⟩
instance adQ:aQ Tryz.prog 51:=⟨⟨Tryz.f51,Tryz.func51,by kernel_rfl,by kernel_rfl⟩⟩
instance adR:aQ Tryz.prog 52:=⟨⟨Tryz.f52,Tryz.func52,by kernel_rfl,by kernel_rfl⟩⟩
instance adS:aQ Tryz.prog 53:=⟨⟨Tryz.f53,Tryz.func53,by kernel_rfl,by kernel_rfl⟩⟩
instance adT:aQ Tryz.prog 54:=⟨⟨Tryz.f54,Tryz.func54,by kernel_rfl,by kernel_rfl⟩⟩
instance adU:aQ Tryz.prog 57:=⟨⟨Tryz.f57,Tryz.func57,by kernel_rfl,by kernel_rfl⟩⟩
instance adV:aQ Tryz.prog 58:=⟨⟨Tryz.f58,Tryz.func58,by kernel_rfl,by kernel_rfl⟩⟩
instance adW:aQ Tryz.prog 59:=⟨⟨Tryz.f59,Tryz.func59,by kernel_rfl,by kernel_rfl⟩⟩
instance adX:aQ Tryz.prog 62:=⟨⟨Tryz.f62,Tryz.func62,by kernel_rfl,by kernel_rfl⟩⟩
instance adY:aQ Tryz.prog 65:=⟨⟨Tryz.f65,Tryz.func65,by kernel_rfl,by kernel_rfl⟩⟩
instance adZ:aQ Tryz.prog 66:=⟨⟨Tryz.f66,Tryz.func66,by kernel_rfl,by kernel_rfl⟩⟩
instance ad0:aQ Tryz.prog 67:=⟨⟨Tryz.f67,Tryz.func67,by kernel_rfl,by kernel_rfl⟩⟩
instance ad1:aQ Tryz.prog 68:=⟨⟨Tryz.f68,Tryz.func68,by kernel_rfl,by kernel_rfl⟩⟩
instance ad3:aQ Tryz.prog 69:=⟨⟨Tryz.f69,Tryz.func69,by kernel_rfl,by kernel_rfl⟩⟩
instance ad4:aQ Tryz.prog 70:=⟨⟨Tryz.f70,Tryz.func70,by kernel_rfl,by kernel_rfl⟩⟩
instance ad5:aQ Tryz.prog 71:=⟨⟨Tryz.f71,Tryz.func71,by kernel_rfl,by kernel_rfl⟩⟩
instance ad6:aQ Tryz.prog 72:=⟨⟨Tryz.f72,Tryz.func72,by kernel_rfl,by kernel_rfl⟩⟩
instance ad7:aQ Tryz.prog 73:=⟨⟨Tryz.f73,Tryz.func73,by kernel_rfl,by kernel_rfl⟩⟩
instance ad8:aQ Tryz.prog 74:=⟨⟨Tryz.f74,Tryz.func74,by kernel_rfl,by kernel_rfl⟩⟩
instance ad9:aQ Tryz.prog 75:=⟨⟨Tryz.f75,Tryz.func75,by kernel_rfl,by kernel_rfl⟩⟩
instance aea:aQ Tryz.prog 76:=⟨⟨Tryz.f76,Tryz.func76,by kernel_rfl,by kernel_rfl⟩⟩
instance aeb:aQ Tryz.prog 77:=⟨⟨Tryz.f77,Tryz.func77,by kernel_rfl,by kernel_rfl⟩⟩
instance aec:aQ Tryz.prog 78:=⟨⟨Tryz.f78,Tryz.func78,by kernel_rfl,by kernel_rfl⟩⟩
instance aed:aQ Tryz.prog 79:=⟨⟨Tryz.f79,Tryz.func79,by kernel_rfl,by kernel_rfl⟩⟩
instance aee:aQ Tryz.prog 80:=⟨⟨Tryz.f80,Tryz.func80,by kernel_rfl,by kernel_rfl⟩⟩
instance aef:aQ Tryz.prog 81:=⟨⟨Tryz.f81,Tryz.func81,by kernel_rfl,by kernel_rfl⟩⟩
instance aeg:aQ Tryz.prog 82:=⟨⟨Tryz.f82,Tryz.func82,by kernel_rfl,by kernel_rfl⟩⟩
instance aeh:aQ Tryz.prog 83:=⟨⟨Tryz.f83,Tryz.func83,by kernel_rfl,by kernel_rfl⟩⟩
instance aei:aQ Tryz.prog 84:=⟨⟨Tryz.f84,Tryz.func84,by kernel_rfl,by kernel_rfl⟩⟩
instance aej:aQ Tryz.prog 85:=⟨⟨Tryz.f85,Tryz.func85,by kernel_rfl,by kernel_rfl⟩⟩
instance aek:aQ Tryz.prog 86:=⟨⟨Tryz.f86,Tryz.func86,by kernel_rfl,by kernel_rfl⟩⟩
instance ael:aQ Tryz.prog 87:=⟨⟨Tryz.f87,Tryz.func87,by kernel_rfl,by kernel_rfl⟩⟩
instance aem:aQ Tryz.prog 88:=⟨⟨Tryz.f88,Tryz.func88,by kernel_rfl,by kernel_rfl⟩⟩
instance aen:aQ Tryz.prog 89:=⟨⟨Tryz.f89,Tryz.func89,by kernel_rfl,by kernel_rfl⟩⟩
instance aeo:aQ Tryz.prog 90:=⟨⟨Tryz.f90,Tryz.func90,by kernel_rfl,by kernel_rfl⟩⟩
instance aep:aQ Tryz.prog 91:=⟨⟨Tryz.f91,Tryz.func91,by kernel_rfl,by kernel_rfl⟩⟩
instance aeq:aQ Tryz.prog 92:=⟨⟨Tryz.f92,Tryz.func92,by kernel_rfl,by kernel_rfl⟩⟩
instance aer:aQ Tryz.prog 96:=⟨⟨Tryz.f96,Tryz.func96,by kernel_rfl,by kernel_rfl⟩⟩
instance aes:aQ Tryz.prog 100:=⟨⟨Tryz.f100,Tryz.func100,by kernel_rfl,by kernel_rfl⟩⟩
instance aet:aQ Tryz.prog 101:=⟨⟨Tryz.f101,Tryz.func101,by kernel_rfl,by kernel_rfl⟩⟩
instance aeu:aQ Tryz.prog 104:=⟨⟨Tryz.f104,Tryz.func104,by kernel_rfl,by kernel_rfl⟩⟩
instance aev:aQ Tryz.prog 105:=⟨⟨Tryz.f105,Tryz.func105,by kernel_rfl,by kernel_rfl⟩⟩
instance aew:aQ Tryz.prog 107:=⟨⟨Tryz.f107,Tryz.func107,by kernel_rfl,by kernel_rfl⟩⟩
instance aex:aQ Tryz.prog 108:=⟨⟨Tryz.f108,Tryz.func108,by kernel_rfl,by kernel_rfl⟩⟩
instance aey:aQ Tryz.prog 109:=⟨⟨Tryz.f109,Tryz.func109,by kernel_rfl,by kernel_rfl⟩⟩
instance aez:aQ Tryz.prog 110:=⟨⟨Tryz.f110,Tryz.func110,by kernel_rfl,by kernel_rfl⟩⟩
instance aeA:aQ Tryz.prog 111:=⟨⟨Tryz.f111,Tryz.func111,by kernel_rfl,by kernel_rfl⟩⟩
instance aeB:aQ Tryz.prog 112:=⟨⟨Tryz.f112,Tryz.func112,by kernel_rfl,by kernel_rfl⟩⟩
instance aeC:aQ Tryz.prog 113:=⟨⟨Tryz.f113,Tryz.func113,by kernel_rfl,by kernel_rfl⟩⟩
instance aeD:aQ Tryz.prog 114:=⟨⟨Tryz.f114,Tryz.func114,by kernel_rfl,by kernel_rfl⟩⟩
instance aeE:aQ Tryz.prog 115:=⟨⟨Tryz.f115,Tryz.func115,by kernel_rfl,by kernel_rfl⟩⟩
instance aeF:aQ Tryz.prog 116:=⟨⟨Tryz.f116,Tryz.func116,by kernel_rfl,by kernel_rfl⟩⟩
instance aeG:aQ Tryz.prog 117:=⟨⟨Tryz.f117,Tryz.func117,by kernel_rfl,by kernel_rfl⟩⟩
instance aeH:aQ Tryz.prog 118:=⟨⟨Tryz.f118,Tryz.func118,by kernel_rfl,by kernel_rfl⟩⟩
instance aeI:aQ Tryz.prog 119:=⟨⟨Tryz.f119,Tryz.func119,by kernel_rfl,by kernel_rfl⟩⟩
instance aeJ:aQ Tryz.prog 120:=⟨⟨Tryz.f120,Tryz.func120,by kernel_rfl,by kernel_rfl⟩⟩
instance aeK:aQ Tryz.prog 121:=⟨⟨Tryz.f121,Tryz.func121,by kernel_rfl,by kernel_rfl⟩⟩
instance aeL:aQ Tryz.prog 122:=⟨⟨Tryz.f122,Tryz.func122,by kernel_rfl,by kernel_rfl⟩⟩
instance aeM:aQ Tryz.prog 123:=⟨⟨Tryz.f123,Tryz.func123,by kernel_rfl,by kernel_rfl⟩⟩
instance aeN:aQ Tryz.prog 124:=⟨⟨Tryz.f124,Tryz.func124,by kernel_rfl,by kernel_rfl⟩⟩
instance aeO:aQ Tryz.prog 125:=⟨⟨Tryz.f125,Tryz.func125,by kernel_rfl,by kernel_rfl⟩⟩
instance aeP:aQ Tryz.prog 126:=⟨⟨Tryz.f126,Tryz.func126,by kernel_rfl,by kernel_rfl⟩⟩
instance aeQ:aQ Tryz.prog 127:=⟨⟨Tryz.f127,Tryz.func127,by kernel_rfl,by kernel_rfl⟩⟩
instance aeR:aQ Tryz.prog 128:=⟨⟨Tryz.f128,Tryz.func128,by kernel_rfl,by kernel_rfl⟩⟩
instance aeS:aQ Tryz.prog 129:=⟨⟨Tryz.f129,Tryz.func129,by kernel_rfl,by kernel_rfl⟩⟩
instance aeT:aQ Tryz.prog 130:=⟨⟨Tryz.f130,Tryz.func130,by kernel_rfl,by kernel_rfl⟩⟩
instance aeU:aQ Tryz.prog 131:=⟨⟨Tryz.f131,Tryz.func131,by kernel_rfl,by kernel_rfl⟩⟩
instance aeV:aQ Tryz.prog 132:=⟨⟨Tryz.f132,Tryz.func132,by kernel_rfl,by kernel_rfl⟩⟩
instance aeW:aQ Tryz.prog 134:=⟨⟨Tryz.f134,Tryz.func134,by kernel_rfl,by kernel_rfl⟩⟩
instance aeX:aQ Tryz.prog 135:=⟨⟨Tryz.f135,Tryz.func135,by kernel_rfl,by kernel_rfl⟩⟩
instance aeY:aQ Tryz.prog 136:=⟨⟨Tryz.f136,Tryz.func136,by kernel_rfl,by kernel_rfl⟩⟩
instance aeZ:aQ Tryz.prog 137:=⟨⟨Tryz.f137,Tryz.func137,by kernel_rfl,by kernel_rfl⟩⟩
instance ae0:aQ Tryz.prog 139:=⟨⟨Tryz.f139,Tryz.func139,by kernel_rfl,by kernel_rfl⟩⟩
instance ae1:aQ Tryz.prog 144:=⟨⟨Tryz.f144,Tryz.func144,by kernel_rfl,by kernel_rfl⟩⟩
instance ae2:aQ Tryz.prog 145:=⟨⟨Tryz.f145,Tryz.func145,by kernel_rfl,by kernel_rfl⟩⟩
instance ae3:aQ Tryz.prog 146:=⟨⟨Tryz.f146,Tryz.func146,by kernel_rfl,by kernel_rfl⟩⟩
instance ae4:aQ Tryz.prog 147:=⟨⟨Tryz.f147,Tryz.func147,by kernel_rfl,by kernel_rfl⟩⟩
instance ae5:aQ Tryz.prog 148:=⟨⟨Tryz.f148,Tryz.func148,by kernel_rfl,by kernel_rfl⟩⟩
instance ae6:aQ Tryz.prog 149:=⟨⟨Tryz.f149,Tryz.func149,by kernel_rfl,by kernel_rfl⟩⟩
instance ae7:aQ Tryz.prog 150:=⟨⟨Tryz.f150,Tryz.func150,by kernel_rfl,by kernel_rfl⟩⟩
instance ae8:aQ Tryz.prog 151:=⟨⟨Tryz.f151,Tryz.func151,by kernel_rfl,by kernel_rfl⟩⟩
instance ae9:aQ Tryz.prog 152:=⟨⟨Tryz.f152,Tryz.func152,by kernel_rfl,by kernel_rfl⟩⟩
instance afa:aQ Tryz.prog 153:=⟨⟨Tryz.f153,Tryz.func153,by kernel_rfl,by kernel_rfl⟩⟩
instance afb:aQ Tryz.prog 154:=⟨⟨Tryz.f154,Tryz.func154,by kernel_rfl,by kernel_rfl⟩⟩
instance afc:aQ Tryz.prog 155:=⟨⟨Tryz.f155,Tryz.func155,by kernel_rfl,by kernel_rfl⟩⟩
instance afd:aQ Tryz.prog 159:=⟨⟨Tryz.f159,Tryz.func159,by kernel_rfl,by kernel_rfl⟩⟩
instance afe:aQ Tryz.prog 160:=⟨⟨Tryz.f160,Tryz.func160,by kernel_rfl,by kernel_rfl⟩⟩
instance aff:aQ Tryz.prog 161:=⟨⟨Tryz.f161,Tryz.func161,by kernel_rfl,by kernel_rfl⟩⟩
instance afg:aQ Tryz.prog 162:=⟨⟨Tryz.f162,Tryz.func162,by kernel_rfl,by kernel_rfl⟩⟩
instance afh:aQ Tryz.prog 163:=⟨⟨Tryz.f163,Tryz.func163,by kernel_rfl,by kernel_rfl⟩⟩
instance afi:aQ Tryz.prog 164:=⟨⟨Tryz.f164,Tryz.func164,by kernel_rfl,by kernel_rfl⟩⟩
instance afj:aQ Tryz.prog 165:=⟨⟨Tryz.f165,Tryz.func165,by kernel_rfl,by kernel_rfl⟩⟩
instance afk:aQ Tryz.prog 166:=⟨⟨Tryz.f166,Tryz.func166,by kernel_rfl,by kernel_rfl⟩⟩
instance afl:aQ Tryz.prog 167:=⟨⟨Tryz.f167,Tryz.func167,by kernel_rfl,by kernel_rfl⟩⟩
instance afm:aQ Tryz.prog 168:=⟨⟨Tryz.f168,Tryz.func168,by kernel_rfl,by kernel_rfl⟩⟩
instance afn:aQ Tryz.prog 169:=⟨⟨Tryz.f169,Tryz.func169,by kernel_rfl,by kernel_rfl⟩⟩
instance afo:aQ Tryz.prog 170:=⟨⟨Tryz.f170,Tryz.func170,by kernel_rfl,by kernel_rfl⟩⟩
instance afp:aQ Tryz.prog 171:=⟨⟨Tryz.f171,Tryz.func171,by kernel_rfl,by kernel_rfl⟩⟩
instance afq:aQ Tryz.prog 172:=⟨⟨Tryz.f172,Tryz.func172,by kernel_rfl,by kernel_rfl⟩⟩
instance afr:aQ Tryz.prog 173:=⟨⟨Tryz.f173,Tryz.func173,by kernel_rfl,by kernel_rfl⟩⟩
instance afs:aQ Tryz.prog 174:=⟨⟨Tryz.f174,Tryz.func174,by kernel_rfl,by kernel_rfl⟩⟩
instance aft:aQ Tryz.prog 175:=⟨⟨Tryz.f175,Tryz.func175,by kernel_rfl,by kernel_rfl⟩⟩
instance afu:aQ Tryz.prog 176:=⟨⟨Tryz.f176,Tryz.func176,by kernel_rfl,by kernel_rfl⟩⟩
instance afv:aQ Tryz.prog 178:=⟨⟨Tryz.f178,Tryz.func178,by kernel_rfl,by kernel_rfl⟩⟩
instance afw:aQ Tryz.prog 179:=⟨⟨Tryz.f179,Tryz.func179,by kernel_rfl,by kernel_rfl⟩⟩
instance afx:aQ Tryz.prog 180:=⟨⟨Tryz.f180,Tryz.func180,by kernel_rfl,by kernel_rfl⟩⟩
instance afy:aQ Tryz.prog 181:=⟨⟨Tryz.f181,Tryz.func181,by kernel_rfl,by kernel_rfl⟩⟩
instance afz:aQ Tryz.prog 182:=⟨⟨Tryz.f182,Tryz.func182,by kernel_rfl,by kernel_rfl⟩⟩
instance afA:aQ Tryz.prog 183:=⟨⟨Tryz.f183,Tryz.func183,by kernel_rfl,by kernel_rfl⟩⟩
instance afB:aQ Tryz.prog 184:=⟨⟨Tryz.f184,Tryz.func184,by kernel_rfl,by kernel_rfl⟩⟩
instance afC:aQ Tryz.prog 185:=⟨⟨Tryz.f185,Tryz.func185,by kernel_rfl,by kernel_rfl⟩⟩
instance afD:aQ Tryz.prog 186:=⟨⟨Tryz.f186,Tryz.func186,by kernel_rfl,by kernel_rfl⟩⟩
instance afE:aQ Tryz.prog 187:=⟨⟨Tryz.f187,Tryz.func187,by kernel_rfl,by kernel_rfl⟩⟩
instance afF:aQ Tryz.prog 188:=⟨⟨Tryz.f188,Tryz.func188,by kernel_rfl,by kernel_rfl⟩⟩
instance afG:aQ Tryz.prog 189:=⟨⟨Tryz.f189,Tryz.func189,by kernel_rfl,by kernel_rfl⟩⟩
instance afH:aQ Tryz.prog 190:=⟨⟨Tryz.f190,Tryz.func190,by kernel_rfl,by kernel_rfl⟩⟩
instance afI:aQ Tryz.prog 191:=⟨⟨Tryz.f191,Tryz.func191,by kernel_rfl,by kernel_rfl⟩⟩
instance afJ:aQ Tryz.prog 192:=⟨⟨Tryz.f192,Tryz.func192,by kernel_rfl,by kernel_rfl⟩⟩
instance afK:aQ Tryz.prog 193:=⟨⟨Tryz.f193,Tryz.func193,by kernel_rfl,by kernel_rfl⟩⟩
instance afL:aQ Tryz.prog 194:=⟨⟨Tryz.f194,Tryz.func194,by kernel_rfl,by kernel_rfl⟩⟩
instance afM:aQ Tryz.prog 195:=⟨⟨Tryz.f195,Tryz.func195,by kernel_rfl,by kernel_rfl⟩⟩
instance afN:aQ Tryz.prog 196:=⟨⟨Tryz.f196,Tryz.func196,by kernel_rfl,by kernel_rfl⟩⟩
instance afO:aQ Tryz.prog 197:=⟨⟨Tryz.f197,Tryz.func197,by kernel_rfl,by kernel_rfl⟩⟩
instance afP:aQ Tryz.prog 198:=⟨⟨Tryz.f198,Tryz.func198,by kernel_rfl,by kernel_rfl⟩⟩
end Go.Proofs.YtaipiecplldinaaGreat
namespace Go.aC
def rz:Nat→Value→Value→Prop
 |0, .int k _, .int k' _=>k=k'
 |1, .bool _, .bool _=>True
 |2, .string _, .string _=>True
 |_,_,_=>False
def oJ:Value→Bool
 | .agg _=>true
 |_=>false
def va(P:Program)(d:Nat)(t:TypeId)(jz:Bool)(ks:List Nat):Prop:=
 ∀(w:World) (x y:Value),oJ x=jz→oJ y=jz→x.cells.size=ks.length→y.cells.size=ks.length→
  (∀(i k:Nat),ks[i]? =some k→ ∃u v,x.cells[i]? =some u∧y.cells[i]? =some v∧rz k u v)→
  ∃r:Bool,(Op.equalIn d t x y).run P w= .ok r w∧(r=true↔ ∀i,i<ks.length→x.cells[i]? =y.cells[i]?)
section
variable {P:Program} {d:Nat} {t:TypeId}
theorem cells_one{x:Value}(h:oJ x=false):x.cells= #[x]:=by
 cases x<;>simp_all[oJ,Value.cells]
theorem FL{q:IntKind}(hu:P.underlying t=some (.int q)):va P (d+1) t false [0]:=fun w x y hx hy _ _ hk=>by
 obtain⟨u,v,h1,h2,h3⟩:=hk 0 0 rfl
 rw[cells_one hx]at h1⊢
 rw[cells_one hy]at h2⊢
 simp at h1 h2
 subst h1 h2
 cases x<;>cases y<;>simp only[rz]at h3
 subst h3
 exact⟨_,run_equalIn_int w d t _ q _ _ hu,by simp⟩
theorem TO(hu:P.underlying t=some .bool):va P (d+1) t false [1]:=fun w x y hx hy _ _ hk=>by
 obtain⟨u,v,h1,h2,h3⟩:=hk 0 1 rfl
 rw[cells_one hx]at h1⊢
 rw[cells_one hy]at h2⊢
 simp at h1 h2
 subst h1 h2
 cases x<;>cases y<;>simp only[rz]at h3
 exact⟨_,run_equalIn_bool' w d t _ _ hu,by simp⟩
theorem Lz{e:TypeId}{jz:Bool}{n:Nat}(hA: ∃de,P.underlying e=some de∧vL de=jz)(hn:(P.info? e).map (·.size)=some n)(h1:jz=false→n=1)
  {xs:Array Value} {off:Nat} (bp:off+n≤xs.size) (hp: ∀i u,off≤i→i<off+n→xs[i]? =some u→oJ u=false) (w:World):
  ∃a,(part e xs off).run P w= .ok a w∧oJ a=jz∧a.cells.size=n∧ ∀i,i<n→a.cells[i]? =xs[off+i]? :=by
 obtain⟨de,hu,hr⟩:=hA
 cases jz with
 |true=>
  refine⟨.agg (xs.extract off (off+n)),?_,rfl,by simp[Value.cells];omega,fun i hi=> ?_⟩
  ·
   simp only[part,Sem.run_bind,AK w hu,hr,Result.andThen_ok,if_true,kL w hn,Sem.run_pure]
  ·
   simp[Value.cells,Array.getElem?_extract]
   intro h;omega
 |false=>
  have:=h1 rfl
  subst this
  have hx:xs[off]? =some xs[off]:=by simp[show off<xs.size by omega]
  have FM:=hp off _ (Nat.le_refl _) (by omega) hx
  refine⟨xs[off],?_,FM,by rw[cells_one FM];rfl,fun i hi=> ?_⟩
  ·
   simp only[part,Sem.run_bind,AK w hu,hr,Result.andThen_ok,hx,Bool.false_eq_true,if_false,Sem.run_pure]
  ·
   obtain rfl:i=0:=by omega
   rw[cells_one FM,Nat.add_zero,hx];rfl
theorem LA{k:Nat}{u v:Value}(h:rz k u v):oJ u=false∧oJ v=false:=by
 unfold rz at h
 split at h<;>simp_all[oJ]
structure pA(P:Program)(d:Nat)(e:TypeId)(jz:Bool)(ks:List Nat):Prop where
 row: ∃de,P.underlying e=some de∧vL de=jz
 size:(P.info? e).map (·.size)=some ks.length
 one:jz=false→ks.length=1
 eq:va P d e jz ks
theorem LB{e:TypeId}{jz:Bool}{ks:List Nat}(he:pA P d e jz ks){xs ys:Array Value}{off:Nat}(hx:off+ks.length≤xs.size)(hy:off+ks.length≤ys.size)
  (hk: ∀(i k:Nat),ks[i]? =some k→ ∃u v,xs[off+i]? =some u∧ys[off+i]? =some v∧rz k u v) (w:World):
  ∃a b r,(part e xs off).run P w= .ok a w∧(part e ys off).run P w= .ok b w∧(Op.equalIn d e a b).run P w= .ok r w∧(r=true↔ ∀i,i<ks.length→xs[off+i]? =ys[off+i]?):=by
 have plain: ∀i,off≤i→i<off+ks.length→ ∃u v k,xs[i]? =some u∧ys[i]? =some v∧rz k u v:=fun i h1 h2=>by
  obtain⟨u,v,h3,h4,h5⟩:=hk (i -off) _ (List.getElem?_eq_getElem (by omega))
  rw[show off+(i -off)=i by omega]at h3 h4
  exact⟨u,v,_,h3,h4,h5⟩
 obtain⟨a,a1,a2,a3,a4⟩:=Lz he.row he.size he.one hx (fun i u h1 h2 h3=>by
  obtain⟨u',v,k,h4,h5,h6⟩:=plain i h1 h2
  rw[h4]at h3;cases h3;exact(LA h6).1) w
 obtain⟨b,b1,b2,b3,b4⟩:=Lz he.row he.size he.one hy (fun i u h1 h2 h3=>by
  obtain⟨u',v,k,h4,h5,h6⟩:=plain i h1 h2
  rw[h5]at h3;cases h3;exact(LA h6).2) w
 obtain⟨r,r1,r2⟩:=he.eq w a b a2 b2 a3 b3 (fun i k mh=>by
  obtain⟨u,v,h1,h2,h3⟩:=hk i k mh
  have hi:i<ks.length:=(List.getElem?_eq_some_iff.1 mh).1
  exact⟨u,v,by rw[a4 i hi];exact h1,by rw[b4 i hi];exact h2,h3⟩)
 refine⟨a,b,r,a1,b1,r1,r2.trans ⟨fun h i hi=> ?_,fun h i hi=> ?_⟩⟩
 ·
  rw[←a4 i hi,←b4 i hi];exact h i hi
 ·
  rw[a4 i hi,b4 i hi];exact h i hi
theorem LC{e:TypeId}{jz:Bool}{ks:List Nat}(he:pA P d e jz ks){xs ys:Array Value}(w:World): ∀(is:List Nat),
  (∀j∈is,j*ks.length+ks.length≤xs.size∧j*ks.length+ks.length≤ys.size∧ ∀(i k:Nat),ks[i]? =some k→ ∃u v,xs[j*ks.length+i]? =some u∧ys[j*ks.length+i]? =some v∧rz k u v)→
  ∃r:Bool,(Op.eqItems d e ks.length xs ys is).run P w= .ok r w∧(r=true↔ ∀j∈is,∀i,i<ks.length→xs[j*ks.length+i]? =ys[j*ks.length+i]?)
 |[],_=>⟨true,by simp[Op.eqItems],by simp⟩
 |j::is,h=>by
  obtain⟨h1,h2,h3⟩:=h j (by simp)
  obtain⟨a,b,r,p1,p2,p3,sk⟩:=LB he h1 h2 h3 w
  obtain⟨r',FN,FO⟩:=LC he w is (fun j' iz=>h j' (by simp[iz]))
  simp only[Op.eqItems,Sem.run_bind,p1,p2,p3,Result.andThen_ok]
  cases r
  ·
   refine⟨false,by simp,?_⟩
   simp only[Bool.false_eq_true,false_iff]
   intro e
   exact absurd (sk.2 (e j (by simp))) (by simp)
  ·
   refine⟨r',by simpa using FN,?_⟩
   rw[FO]
   have:=sk.1 rfl
   constructor
   ·
    intro e j' iz
    rcases List.mem_cons.1 iz with rfl|iz
    ·
     exact this
    ·
     exact e j' iz
   ·
    intro e j' iz;exact e j' (by simp[iz])
theorem wD{ks:List Nat}: ∀{n j i:Nat},j<n→i<ks.length→(List.replicate n ks).flatten[j*ks.length+i]? =ks[i]?
 |0,j,i,h,_=>by omega
 |n+1,0,i,_,hi=>by
  rw[List.replicate_succ,List.flatten_cons,Nat.zero_mul,Nat.zero_add,List.getElem?_append_left hi]
 |n+1,j+1,i,h,hi=>by
  rw[List.replicate_succ,List.flatten_cons,List.getElem?_append_right (by rw[Nat.add_mul];omega),Nat.add_mul,show j*ks.length+1*ks.length+i -ks.length=j*ks.length+i by omega]
  exact wD (by omega) hi
theorem TP{e:TypeId}{n:Nat}{jz:Bool}{ks:List Nat}(hu:P.underlying t=some (.array n e))(he:pA P d e jz ks):va P (d+1) t true (List.replicate n ks).flatten:=fun w x y hx hy sx sy hk=>by
 cases x<;>simp only[oJ,Bool.false_eq_true]at hx
 cases y<;>simp only[oJ,Bool.false_eq_true]at hy
 rename_i xs ys
 simp only[Value.cells]at sx sy hk⊢
 have hl:(List.replicate n ks).flatten.length=n*ks.length:=by simp
 rw[hl]at sx sy⊢
 obtain⟨i,hi⟩: ∃i,P.info? e=some i:=by
  cases h:P.info? e with
  |none=>have:=he.size;simp[h]at this
  |some i=>exact⟨i,rfl⟩
 have hc:P.cellsOf e=ks.length:=by have:=he.size;simp[Program.cellsOf,hi]at this⊢;exact this
 have bound: ∀j,j<n→j*ks.length+ks.length≤n*ks.length:=fun j hj=>by
  rw[←Nat.succ_mul];exact Nat.mul_le_mul_right _ hj
 obtain⟨r,hr,sk⟩:=LC he (xs:=xs) (ys:=ys) w (List.range n) (fun j hj=>by
  have iz:=List.mem_range.1 hj
  have:=bound j iz
  refine⟨by omega,by omega,fun i k mh=> ?_⟩
  have eP:i<ks.length:=(List.getElem?_eq_some_iff.1 mh).1
  exact hk (j*ks.length+i) k (by rw[wD iz eP];exact mh))
 refine⟨r,by rw[run_equalIn_array w d xs ys hu hi,hc];exact hr,sk.trans ⟨fun h q hq=> ?_,fun h j hj i hi=> ?_⟩⟩
 ·
  have wR:0<ks.length:=by
   rcases Nat.eq_zero_or_pos ks.length with h0|h0
   ·
    rw[h0]at hq;omega
   ·
    exact h0
  have h1:q/ks.length<n:=Nat.div_lt_of_lt_mul (by rw[Nat.mul_comm];exact hq)
  have h2:=h (q/ks.length) (List.mem_range.2 h1) (q%ks.length) (Nat.mod_lt _ wR)
  rw[Nat.div_add_mod']at h2
  exact h2
 ·
  have:=bound j (List.mem_range.1 hj)
  exact h _ (by omega)
def Cj(P:Program)(d:Nat):Nat→List Field→List Nat→Prop
 |_,[],ks=>ks=[]
 |off,f::fs,ks=>f.name≠ "_" ∧f.offset=off∧ ∃jz k1 k2,ks=k1++k2∧pA P d f.type jz k1∧Cj P d (off+k1.length) fs k2
theorem LD{xs ys:Array Value}(w:World): ∀(fs:List Field) (off:Nat) (ks:List Nat),Cj P d off fs ks→off+ks.length≤xs.size→off+ks.length≤ys.size→
  (∀(i k:Nat),ks[i]? =some k→ ∃u v,xs[off+i]? =some u∧ys[off+i]? =some v∧rz k u v)→
  ∃r:Bool,(Op.eqFields d xs ys fs).run P w= .ok r w∧(r=true↔ ∀i,i<ks.length→xs[off+i]? =ys[off+i]?)
 |[],off,ks,h,_,_,_=>by
  simp only[Cj]at h
  subst h
  exact⟨true,by simp[Op.eqFields],by simp⟩
 |f::fs,off,ks,h,hx,hy,hk=>by
  obtain⟨hn,ho,jz,k1,k2,rfl,hp,Bh⟩:=h
  simp only[List.length_append]at hx hy
  obtain⟨a,b,r,p1,p2,p3,sk⟩:=LB hp (xs:=xs) (ys:=ys) (off:=off) (by omega) (by omega) (fun i k mh=>by
   have hi:i<k1.length:=(List.getElem?_eq_some_iff.1 mh).1
   exact hk i k (by rw[List.getElem?_append_left hi];exact mh)) w
  obtain⟨r',FN,FO⟩:=LD (xs:=xs) (ys:=ys) w fs (off+k1.length) k2 Bh (by omega) (by omega) (fun i k mh=>by
   have:=hk (k1.length+i) k (by rw[List.getElem?_append_right (by omega)];simpa using mh)
   rw[Nat.add_assoc];exact this)
  subst ho
  simp only[Op.eqFields,hn,ne_eq,not_false_eq_true,if_true,Sem.run_bind,p1,p2,p3,Result.andThen_ok]
  cases r
  ·
   refine⟨false,by simp,?_⟩
   simp only[Bool.false_eq_true,false_iff]
   intro e
   exact absurd (sk.2 fun i hi=>e i (by simp;omega)) (by simp)
  ·
   refine⟨r',by simpa using FN,?_⟩
   rw[FO]
   have:=sk.1 rfl
   simp only[List.length_append]
   constructor
   ·
    intro e i hi
    by_cases h1:i<k1.length
    ·
     exact this i h1
    ·
     have:=e (i -k1.length) (by omega)
     rw[show f.offset+k1.length+(i -k1.length)=f.offset+i by omega]at this
     exact this
   ·
    intro e i hi
    have:=e (k1.length+i) (by omega)
    rw[Nat.add_assoc];exact this
theorem FP{fs:Array Field}{ks:List Nat}(hu:P.underlying t=some (.struct fs))(hp:P.stoodInHeld t=false)(hf:Cj P d 0 fs.toList ks):va P (d+1) t true ks:=fun w x y hx hy sx sy hk=>by
 cases x<;>simp only[oJ,Bool.false_eq_true]at hx
 cases y<;>simp only[oJ,Bool.false_eq_true]at hy
 rename_i xs ys
 simp only[Value.cells]at sx sy hk⊢
 have ke:P.fieldsOf t=fs:=by simp[Program.fieldsOf,hu]
 obtain⟨r,hr,sk⟩:=LD (xs:=xs) (ys:=ys) w fs.toList 0 ks hf (by omega) (by omega) (fun i k mh=>by
  have:=hk i k mh
  simpa using this)
 refine⟨r,?_,by simpa using sk⟩
 rw[run_equalIn_struct w d t xs ys (by rw[ke];exact hu) hp,ke]
 exact hr
theorem va.val{jz:Bool}{ks:List Nat}(h:va P 10000 t jz ks)(hA:jz=true)(hg:P.eqGuardType P.depth t=false){xs ys:Array Value}{r:Bool}(sx:xs.size=ks.length)(sy:ys.size=ks.length)
  (hk: ∀(i k:Nat),ks[i]? =some k→ ∃u v,xs[i]? =some u∧ys[i]? =some v∧rz k u v) (hr:xs=ys↔r=true):uo P t (.agg xs) (.agg ys) r where
 h w:=by
  subst hA
  obtain⟨q,h1,h2⟩:=h w (.agg xs) (.agg ys) rfl rfl sx sy hk
  have:q=r:=by
   rw[Bool.eq_iff_iff,h2,←hr]
   simp only[Value.cells]
   constructor
   ·
    intro e
    apply Array.ext_getElem?
    intro i
    by_cases hi:i<ks.length
    ·
     exact e i hi
    ·
     simp[show ¬i<xs.size by omega,show ¬i<ys.size by omega]
   ·
    rintro rfl i _;rfl
  rw[h1,this]
 plain:=hg
 agg:=⟨xs,ys,rfl,rfl⟩
end
end Go.aC
namespace Go.Proofs.YtaipiecplldinaaGreat
open Go.aC Go.Kb
instance (k:Key):fW (cW k) 16:=⟨gH k,by
 rw[Array.all_eq_true_iff_forall_mem];intro v hv
 simp only[cW,List.mem_toArray,List.mem_map]at hv
 obtain⟨i,_,rfl⟩:=hv;rfl⟩
instance (p:dh):fW (c6 p) 18:=⟨oq p,by
 have h:(cW p.key).all (·.oneCell')=true:=(inferInstance:fW (cW p.key) 16).one
 rw[c6,Array.all_append,h];simp[Value.oneCell']⟩
instance (p:dh):cq (c6 p) 0 (.int .i64 p.bits):=⟨uH p⟩
instance (p:dh):cq (c6 p) 1 (.int .i64 p.len):=⟨uI p⟩
instance (p:dh):ob (c6 p) 2 16 (cW p.key):=⟨gH _,fun j _=>pX p j⟩
theorem LF(d:Nat):pA Tryz.prog (d+1) 5 false [0]:=⟨⟨_,Tryz.underlying5,rfl⟩,by kernel_rfl,fun _=>rfl,FL Tryz.underlying5⟩
theorem FQ(d:Nat):pA Tryz.prog (d+1) 3 false [0]:=⟨⟨_,Tryz.underlying3,rfl⟩,by kernel_rfl,fun _=>rfl,FL Tryz.underlying3⟩
theorem LG(d:Nat):pA Tryz.prog (d+1+1) 56 true (List.replicate 16 [0]).flatten:=⟨⟨_,Tryz.underlying56,rfl⟩,by kernel_rfl,(fun h=>by cases h),TP Tryz.underlying56 (LF d)⟩
theorem TQ:Tryz.prog.stoodInHeld 65=false:=by kernel_rfl
theorem LH(d:Nat):pA Tryz.prog (d+1+1+1) 65 true ([0]++([0]++((List.replicate 16 [0]).flatten++[]))):=⟨⟨_,Tryz.underlying65,rfl⟩,by kernel_rfl,(fun h=>by cases h),
 FP Tryz.underlying65 TQ ⟨by decide,rfl,_,_,_,rfl,FQ _,by decide,rfl,_,_,_,rfl,FQ _,by decide,rfl,_,_,_,rfl,LG _,rfl⟩⟩
theorem TR:Tryz.prog.eqGuardType Tryz.prog.depth 56=false:=by kernel_rfl
theorem TS:Tryz.prog.eqGuardType Tryz.prog.depth 65=false:=by kernel_rfl
instance (a b:Key):uo Tryz.prog 56 (.agg (cW a)) (.agg (cW b)) (decide (a=b)):=
 (LG 9998).eq.val rfl TR (gH a) (gH b) (fun i k hk=>by
  have hi:i<16:=(List.getElem?_eq_some_iff.1 hk).1
  have h0:k=0:=by
   have:k∈(List.replicate 16 [0]).flatten:=List.mem_of_getElem? hk
   simpa using this
  subst h0
  exact⟨_,_,lM a i hi,lM b i hi,rfl⟩) (by rw[decide_eq_true_iff];exact⟨IZ,fun h=>by rw[h]⟩)
instance (a b:dh):uo Tryz.prog 65 (.agg (c6 a)) (.agg (c6 b)) (decide (a=b)):=
 (LH 9997).eq.val rfl TS (oq a) (oq b) (fun i k hk=>by
  have h0:k=0:=by
   have:k∈([0]++([0]++((List.replicate 16 [0]).flatten++[]))):=List.mem_of_getElem? hk
   simpa using this
  subst h0
  have hi:i<18:=(List.getElem?_eq_some_iff.1 hk).1
  match i,hi with
  |0,_=>exact⟨_,_,uH a,uH b,rfl⟩
  |1,_=>exact⟨_,_,uI a,uI b,rfl⟩
  |j+2,hi=>rw[Nat.add_comm j 2];exact⟨_,_,(pX a j).trans (lM _ j (by omega)),(pX b j).trans (lM _ j (by omega)),rfl⟩) (by rw[decide_eq_true_iff];exact⟨I1,fun h=>by rw[h]⟩)
theorem zm:cW 0#128=(List.replicate 16 (Value.int .u8 0)).toArray:=by
 apply Array.ext'
 simp only[cW]
 refine List.eq_replicate_iff.2 ⟨by simp,fun v hv=> ?_⟩
 simp only[List.mem_map]at hv
 obtain⟨i,_,rfl⟩:=hv
 simp[cF]
instance (n m:Int)(k:Key):yn Tryz.prog 65 [(0, .int .i64 n),(1, .int .i64 m),(2, .agg (cW k))] (.agg (c6 ⟨n,m,k⟩)):=⟨fun w=>by kernel_rfl⟩
instance:fe Tryz.prog 56 (.agg (cW 0#128)):=⟨by rw[zm];kernel_rfl⟩
instance:fe Tryz.prog 65 (.agg (c6 ⟨0,0,0#128⟩)):=⟨by unfold c6;rw[zm];kernel_rfl⟩
open Go.aC Go.Kb
theorem TT(n:Int):oW Tryz.prog 116 [.int .i64 n] (.bool (decide (n=32)||decide (n=128))):=⟨fun w=>by
 refine ba (args:=[_]) Tryz.func116 rfl Tryz.ntmps116 rfl ?_
 change Cw _ _ _ _ _ [(0, .int .i64 n)] []
 refine aO ?_
 refine aZ ?_
 refine ag (bl rfl) ?_
 refine aX ?_
 refine aN ?_
 refine aO ?_
 refine aZ ?_
 refine ag (aD rfl) ?_
 refine ag (cx rfl rfl rfl) ?_
 refine ag (aD rfl) ?_
 refine bZ rfl rfl rfl (fun hg=>(aD rfl).yl) ?_
 refine bZ rfl rfl rfl (fun hg=>(cx (aG hg rfl) rfl rfl).yl) ?_
 refine ag (mL rfl rfl rfl) ?_
 refine ag (bl rfl) ?_
 refine aX ?_
 refine aN ?_
 refine eC ?_
 refine aq (.inl rfl) (kj rfl rfl) (fun w hw=> ?_)
 exact⟨rfl,hw.sub (List.nil_sublist _)⟩⟩
instance afQ(n:Int):oW Tryz.prog 116 [.int .i64 n] (.bool (decide (n=32)||decide (n=128))):=TT n
theorem TU(k:Key)(h:Nat)(hh:h≤16):cP (cW 0#128) 0 ((cW k).extract 0 h)=cW (hQ k ((8*h:Nat):Int)):=by
 refine IY (by simp[cP,gH];omega) fun i hi=> ?_
 have hl:((cW k).extract 0 h).size=h:=by simp[gH];omega
 rw[D6 k (8*h) i hi]
 simp only[cP,hl,List.take_zero,List.nil_append,Nat.zero_add,List.getElem?_toArray]
 by_cases h1:i<h
 ·
  rw[List.getElem?_append_left (by simp[gH];omega),if_pos (by omega)]
  have:=lM k i hi
  simpa[h1]using this
 ·
  rw[List.getElem?_append_right (by simp[gH];omega),if_neg (by omega)]
  have h2:(cW 0#128)[i]? =some (.int .u8 ((0:Nat):Int)):=by rw[lM _ i hi];simp[cF]
  simp only[Array.length_toList,hl,List.getElem?_drop,show h+(i -h)=i by omega]
  rw[Array.getElem?_toList,h2]
  by_cases h3:8*i≤8*h
  ·
   rw[if_pos h3,show 8 -(8*h -8*i)=8 by omega,Nat.div_eq_of_lt (om k i),Nat.zero_mul]
  ·
   rw[if_neg h3]
theorem TV(b r:Nat)(hb:b<256)(hr:r≤8):lf .andNot .u8 b ((255/2^r:Nat):Int)=some (.int .u8 ((b/2^(8 -r)*2^(8 -r):Nat):Int)):=by
 have hm:255/2^r<256:=Nat.lt_of_le_of_lt (Nat.div_le_self _ _) (by omega)
 rw[PN hb hm]
 have key:b&&&(256 -1 -255/2^r)=b/2^(8 -r)*2^(8 -r):=by
  have e1:255/2^r=2^(8 -r) -1:=by
   match r,hr with
   |0,_|1,_|2,_|3,_|4,_|5,_|6,_|7,_|8,_=>rfl
   |n+9,h=>omega
  rw[e1]
  apply Nat.eq_of_testBit_eq
  intro j
  have e2:256 -1 -(2^(8 -r) -1)=2^8 -(2^(8 -r) -1+1):=by omega
  rw[Nat.testBit_and,e2,Nat.testBit_two_pow_sub_succ (by have:2^(8 -r)≤2^8:=Nat.pow_le_pow_right (by decide) (by omega);have:=Nat.two_pow_pos (8 -r);omega),Nat.testBit_two_pow_sub_one,Nat.testBit_mul_two_pow,Nat.testBit_div_two_pow]
  by_cases hj:8 -r≤j
  ·
   simp only[hj,show ¬j<8 -r by omega,decide_true,decide_false,Bool.not_false,Bool.and_true,Bool.true_and,show j -(8 -r)+(8 -r)=j by omega]
   by_cases h8:j<8
   ·
    simp[h8]
   ·
    have:b.testBit j=false:=Nat.testBit_lt_two_pow (Nat.lt_of_lt_of_le hb (by have:=Nat.pow_le_pow_right (n:=2) (by decide) (show 8≤j by omega);simpa using this))
    simp[this]
  ·
   simp[hj,show j<8 -r by omega]
 show some (Value.int .u8 ((b&&&(256 -1 -255/2^r):Nat):Int))=_
 rw[key]
theorem TW(k:Key)(n:Int)(h0:1≤n)(h1:n<128)(h2:0<n%8):(cW (hQ k ((8*(n/8).toNat:Nat):Int))).setIfInBounds (n/8).toNat (.int .u8 ((cF k (n/8).toNat/2^(8 -(n%8).toNat)*2^(8 -(n%8).toNat):Nat):Int))=cW (hQ k n):=by
 have hb:=om k (n/8).toNat
 rw[QD _ _ _ (by omega) (Nat.lt_of_le_of_lt (Nat.div_mul_le_self _ _) hb)]
 congr 1
 refine yD fun i hi=> ?_
 rw[IW _ _ _ i hi (Nat.lt_of_le_of_lt (Nat.div_mul_le_self _ _) hb),D6 k _ i hi]
 have e:hQ k n=hQ k ((n.toNat:Nat):Int):=by rw[Int.toNat_of_nonneg (by omega)]
 rw[e,D6 k n.toNat i hi]
 by_cases hj:i=(n/8).toNat
 ·
  rw[if_pos hj,if_neg (by omega),if_pos (by omega),hj,show n.toNat -8*(n/8).toNat=(n%8).toNat by omega]
 ·
  rw[if_neg hj]
  by_cases bp:i<(n/8).toNat
  ·
   rw[if_pos (by omega),if_pos (by omega)]
  ·
   rw[if_neg (by omega),if_neg (by omega),if_neg (by omega),if_neg (by omega)]
theorem TX(k:Key)(n:Int)(h0:1≤n)(h2: ¬0<n%8):hQ k ((8*(n/8).toNat:Nat):Int)=hQ k n:=by
 congr 1;omega
theorem TY(k:Key)(n:Int):oW Tryz.prog 79 [.agg (cW k), .int .i64 n] (.agg (cW (hQ k n))):=⟨fun w=>by
 refine ba (args:=[_,_]) Tryz.func79 rfl Tryz.ntmps79 rfl ?_
 change Cw _ _ _ _ _ [(0, .agg (cW k)),(1, .int .i64 n)] []
 refine aO ?_
 refine aZ ?_
 refine bX rfl fun b2=> ?_
 refine bK fun b4=> ?_
 refine aX ?_
 refine aN ?_
 refine aO ?_
 refine aO ?_
 refine aZ ?_
 refine ag (aD rfl) ?_
 refine ag (cx rfl rfl rfl) ?_
 refine aX ?_
 refine aN ?_
 refine au rfl (fun h0=> ?_) (fun h0=> ?_)
 ·
  have h0:=of_decide_eq_true h0
  refine aO ?_
  refine aZ ?_
  refine ag (fI rfl) ?_
  refine qN rfl rfl ?_
  refine aX ?_
  refine aN ?_
  refine eC ?_
  refine ff ?_
  refine aq (.inl rfl) (AR rfl rfl) (fun w hw=> ?_)
  exact⟨by rw[QE k n (by omega)],hw.sub (List.nil_sublist _)⟩
 ·
  have h0:=of_decide_eq_false h0
  refine fT ?_
  refine aN ?_
  refine aO ?_
  refine aZ ?_
  refine bK fun b5=> ?_
  refine aX ?_
  refine aN ?_
  refine aO ?_
  refine aO ?_
  refine aZ ?_
  refine ag (aD rfl) ?_
  refine ag (cx rfl rfl rfl) ?_
  refine aX ?_
  refine aN ?_
  refine au rfl (fun h1=> ?_) (fun h1=> ?_)
  ·
   have h1:=of_decide_eq_true h1
   refine aO ?_
   refine aZ ?_
   refine ag (fI rfl) ?_
   refine qN rfl rfl ?_
   refine aX ?_
   refine aN ?_
   refine eC ?_
   refine ff ?_
   refine aq (.inl rfl) (AR rfl rfl) (fun w hw=> ?_)
   exact⟨by rw[QF k n (by omega)],hw.sub (List.nil_sublist _)⟩
  ·
   have h1:=of_decide_eq_false h1
   refine fT ?_
   refine aN ?_
   refine aO ?_
   refine aZ ?_
   refine ag (aD rfl) ?_
   refine ag (oc rfl rfl (by omega) (by omega)) ?_
   refine ag (bl rfl) ?_
   refine aX ?_
   refine aN ?_
   refine aO ?_
   refine uy 4 [] (by kernel_rfl) (by kernel_rfl) ?_
   simp only[List.take_succ_cons,List.take_zero]
   refine bc (aD rfl) ?_
   refine bc (Ir rfl rfl (by omega) (by omega)) ?_
   refine bc (aD rfl) ?_
   refine bc (Ir rfl rfl (by omega) (by omega)) ?_
   refine sU ?_
   refine sV ?_
   simp only[List.drop_succ_cons,List.drop_zero]
   refine DQ (vs:=(cW k).extract 0 (n/8).toNat) rfl rfl (by have e:Nat.min (n/8).toNat (n/8).toNat=(n/8).toNat:=Nat.min_self _;rw[e,Array.size_extract,gH];omega) (fun w hw j hj=>by rw[Addr.gp,hw.cell (Has.h (b:=b2)),Nat.zero_add];simp at hj;simp[hj]) (PT (fW.one (cs:=cW k)) _ _) (by rw[Array.size_extract,gH,gH];omega) (TU k _ (by omega)) ?_
   refine aX ?_
   refine aN ?_
   refine aO ?_
   refine aO ?_
   refine aZ ?_
   refine ag (aD rfl) ?_
   refine ag (yk rfl rfl (by omega) (by omega)) ?_
   refine ag (bl rfl) ?_
   refine aX ?_
   refine aN ?_
   refine aO ?_
   refine aZ ?_
   refine ag (aD rfl) ?_
   refine ag (cx rfl rfl rfl) ?_
   refine aX ?_
   refine aN ?_
   refine au rfl (fun h2=> ?_) (fun h2=> ?_)
   ·
    have h2:=of_decide_eq_true h2
    refine uy 8 [] (by kernel_rfl) (by kernel_rfl) ?_
    simp only[List.take_succ_cons,List.take_zero]
    refine bc (aD rfl) ?_
    refine bc (aD rfl) ?_
    refine bc (rR rfl rfl (by omega) (by omega)) ?_
    refine bc (Ij rfl (lM _ _ (by omega))) ?_
    refine bc (aD rfl) ?_
    refine bc (uw (p:=255) rfl rfl (by decide) (by omega)) ?_
    refine bc (cx rfl rfl (TV _ _ (om _ _) (by omega))) ?_
    refine bc (rR rfl rfl (by omega) (by omega)) ?_
    refine sU ?_
    refine sV ?_
    simp only[List.drop_succ_cons,List.drop_zero]
    refine eN rfl rfl (by rw[gH];omega) rfl (TW k n (by omega) (by omega) h2) ?_
    refine aX ?_
    refine aN ?_
    refine aO ?_
    refine aZ ?_
    refine ag (fI rfl) ?_
    refine qN rfl rfl ?_
    refine aX ?_
    refine aN ?_
    refine eC ?_
    refine aq (.inl rfl) (AR rfl rfl) (fun w hw=> ?_)
    exact⟨rfl,hw.sub (List.nil_sublist _)⟩
   ·
    have h2:=of_decide_eq_false h2
    refine fT ?_
    refine aN ?_
    refine aO ?_
    refine aZ ?_
    refine ag (fI rfl) ?_
    refine qN rfl rfl ?_
    refine aX ?_
    refine aN ?_
    refine eC ?_
    refine aq (.inl rfl) (AR rfl rfl) (fun w hw=> ?_)
    exact⟨by rw[TX k n (by omega) h2],hw.sub (List.nil_sublist _)⟩⟩
instance afR(k:Key)(n:Int):oW Tryz.prog 79 [.agg (cW k), .int .i64 n] (.agg (cW (hQ k n))):=TY k n
theorem TZ(p:dh):oW Tryz.prog 78 [.agg (c6 p)] (.bool (c5 p)):=⟨fun w=>by
 refine ba (args:=[_]) Tryz.func78 rfl Tryz.ntmps78 rfl ?_
 change Cw _ _ _ _ _ [(0, .agg (c6 p))] []
 refine aO ?_
 refine aZ ?_
 refine bX rfl fun b1=> ?_
 refine ag (bl rfl) ?_
 refine aX ?_
 refine aN ?_
 refine aO ?_
 refine aO ?_
 refine aZ ?_
 refine ag (aH (o':=0) rfl rfl) ?_
 refine ag (bH rfl) ?_
 refine fy (vO rfl) ?_
 refine ag (iR rfl) ?_
 refine ag (aD rfl) ?_
 refine bZ rfl rfl rfl (fun hg=>(aH (o':=1) rfl rfl).yl) ?_
 refine bZ rfl rfl rfl (fun hg=>(bH (aG hg rfl)).yl) ?_
 refine bZ rfl rfl rfl (fun hg=>(cx (aG hg rfl) rfl rfl).yl) ?_
 refine ag (mL rfl rfl rfl) ?_
 refine ag (aD rfl) ?_
 refine bZ rfl rfl rfl (fun hg=>(aH (o':=1) rfl rfl).yl) ?_
 refine bZ rfl rfl rfl (fun hg=>(bH (aG hg rfl)).yl) ?_
 refine bZ rfl rfl rfl (fun hg=>(aH (o':=0) rfl rfl).yl) ?_
 refine bZ rfl rfl rfl (fun hg=>(bH (aG hg rfl)).yl) ?_
 refine bZ rfl rfl rfl (fun hg=>(cx (aG hg rfl) (aG hg rfl) rfl).yl) ?_
 refine ag (mL rfl rfl rfl) ?_
 refine aX ?_
 refine aN ?_
 refine au rfl (fun h0=> ?_) (fun h0=> ?_)
 ·
  refine aO ?_
  refine aZ ?_
  refine ag (bl rfl) ?_
  refine aX ?_
  refine aN ?_
  refine eC ?_
  refine ff ?_
  refine aq (.inl rfl) (kj rfl rfl) (fun w hw=> ?_)
  refine⟨?_,hw.sub (List.nil_sublist _)⟩
  have:c5 p=false:=by unfold c5;simp at h0⊢;omega
  rw[this]
 ·
  refine fT ?_
  refine aN ?_
  refine aO ?_
  refine gO (by kernel_rfl) (by kernel_rfl) ?_
  refine bc (aH (o':=2) rfl rfl) ?_
  refine bc (iA rfl) ?_
  refine bc (aH (o':=1) rfl rfl) ?_
  refine bc (bH rfl) ?_
  refine sW (vO rfl) ?_
  refine bc (aH (o':=2) rfl rfl) ?_
  refine bc (iA rfl) ?_
  refine bc (Im rfl rfl) ?_
  refine bc (bl rfl) ?_
  refine vQ ?_
  refine aN ?_
  refine eC ?_
  refine aq (.inl rfl) (kj rfl rfl) (fun w hw=> ?_)
  refine⟨?_,hw.sub (List.nil_sublist _)⟩
  congr 2;unfold c5;simp at h0⊢;obtain⟨⟨h1,h2⟩,h3⟩:=h0;simp[h2,h3,show p.bits=32∨p.bits=128 by omega]⟩
instance afS(p:dh):oW Tryz.prog 78 [.agg (c6 p)] (.bool (c5 p)):=TZ p
open Go.aC Go.Kb
open Go.RowKit
def qw(k:Key):List Int:=(List.range 16).map fun i=>(cF k i:Int)
theorem LK(k:Key)(j:Nat)(x:Int)(h:(qw k)[j]? =some x):j<16∧x=cF k j:=by
 have hl:j<16:=by have:=(List.getElem?_eq_some_iff.1 h).1;simpa[qw]using this
 refine⟨hl,?_⟩
 simp[qw,hl]at h
 exact h.symm
theorem T0{x y:UInt8}{xs ys:List UInt8}:Lib.compareBytes (x::xs) (y::ys)=if x.toNat<y.toNat then -1 else if y.toNat<x.toNat then 1 else Lib.compareBytes xs ys:=by
 simp[Lib.compareBytes,UInt8.lt_iff_toNat_lt]
theorem LL(a b:Key): ∀(n i:Nat),i+n=16→(∀j,j<i→cF a j=cF b j)→
  Lib.compareBytes ((List.range' i n).map fun j=>(cF a j).toUInt8) ((List.range' i n).map fun j=>(cF b j).toUInt8)=pd a b
 |0,i,hi,hs=>by
  have:a=b:=yD fun j hj=>hs j (by omega)
  subst this
  simp[Lib.compareBytes,pd]
 |n+1,i,hi,hs=>by
  have ha:=om a i
  have hb:=om b i
  rw[List.range'_succ,List.map_cons,List.map_cons,T0]
  have ea:(cF a i).toUInt8.toNat=cF a i:=by simp;omega
  have eb:(cF b i).toUInt8.toNat=cF b i:=by simp;omega
  rw[ea,eb]
  by_cases h1:cF a i<cF b i
  ·
   rw[if_pos h1]
   have:=I3 (by omega) hs h1
   unfold pd;rw[if_pos this]
  ·
   rw[if_neg h1]
   by_cases h2:cF b i<cF a i
   ·
    rw[if_pos h2]
    have:=I3 (by omega) (fun j hj=>(hs j hj).symm) h2
    unfold pd;rw[if_neg (by omega),if_pos this]
   ·
    rw[if_neg h2]
    exact LL a b n (i+1) (by omega) fun j hj=>by
     by_cases e:j=i
     ·
      subst e;omega
     ·
      exact hs j (by omega)
theorem LM(k:Key):(⟨ByteArray.empty.data++(Lib.bytesOf (qw k)).toArray⟩:ByteArray).data.toList=(List.range' 0 16).map fun j=>(cF k j).toUInt8:=by
 simp[Lib.bytesOf,qw,List.range_eq_range']
theorem T1(a b:Key)(p q:Addr)(c c':Nat)(w:World)(hp: ∀j,j<16→w.cell? (p.add j)=some (.int .u8 (cF a j)))(hq: ∀j,j<16→w.cell? (q.add j)=some (.int .u8 (cF b j))):
  Calls Tryz.prog 119 [.slice (some p) 16 c, .slice (some q) 16 c'].toArray w fun e w'=>e= .returned (.int .i64 (pd a b))∧Mem w [] w':=by
 refine ba (args:=[_,_]) Tryz.func119 rfl Tryz.ntmps119 rfl ?_
 change Cw _ _ _ _ _ [(0, .slice (some p) 16 c),(1, .slice (some q) 16 c')] []
 refine aO ?_
 refine aZ ?_
 refine ag (bl rfl) ?_
 refine aX ?_
 refine aN ?_
 refine aO ?_
 refine aZ ?_
 refine ag (aD rfl) ?_
 refine ag (aD rfl) ?_
 refine ag (v:= .int .i64 (pd a b)) ?_ ?_
 ·
  intro aa w1 ha hw
  have sm: ∀j,j<16→w1.cell? (p.add j)=some (.int .u8 (cF a j)):=fun j hj=>by
   rw[←hp j hj];exact hw.below.cell (block_lt_of_cell (hp j hj))
  have T2: ∀j,j<16→w1.cell? (q.add j)=some (.int .u8 (cF b j)):=fun j hj=>by
   rw[←hq j hj];exact hw.below.cell (block_lt_of_cell (hq j hj))
  have r1:=Lib.run_loadBytesX (P:=Tryz.prog) w1 (qw a) p .empty (fun j x hx=>by obtain⟨h1,rfl⟩:=LK a j x hx;exact sm j h1)
  have r2:=Lib.run_loadBytesX (P:=Tryz.prog) w1 (qw b) q .empty (fun j x hx=>by obtain⟨h1,rfl⟩:=LK b j x hx;exact T2 j h1)
  have l1:(qw a).length=16:=by simp[qw]
  have l2:(qw b).length=16:=by simp[qw]
  rw[l1]at r1
  rw[l2]at r2
  have e5:=ha.ev (x:= .tmp 5) (v:= .slice (some p) 16 c) rfl
  have e6:=ha.ev (x:= .tmp 6) (v:= .slice (some q) 16 c') rfl
  have fR:(callFunc 143 #[.slice (some p) 16 c, .slice (some q) 16 c']).run Tryz.prog w1= .ok (.value (.int .i64 (pd a b))) w1:=by
   rw[run_callFunc_extern Tryz.func143 (by kernel_rfl) (by kernel_rfl) (by kernel_rfl) (e:=Extern.BytealgCompare.compare) (by kernel_rfl)]
   have:(Extern.BytealgCompare.compare #[.slice (some p) 16 c, .slice (some q) 16 c']).run Tryz.prog w1= .ok (.int .i64 (pd a b)) w1:=by
    change Sem.run Tryz.prog (do pure (goInt (Extern.BytealgCompare.cmp (←Extern.Bytes.bytesOf (.slice (some p) 16 c)) (←Extern.Bytes.bytesOf (.slice (some q) 16 c'))))) w1=_
    simp only[Extern.Bytes.bytesOf,Sem.run_bind,r1,r2,Sem.run_pure,Result.andThen]
    rw[Lib.cmp_eq,LM,LM,LL a b 16 0 rfl (fun j h=>by omega)]
    rfl
   rw[this];rfl
  simp[execOp,resolve,Act.eval,Deferred.ofValue,invoke]at e5 e6⊢
  rw[e5,e6,fR]
 refine ag (bl rfl) ?_
 refine aX ?_
 refine aN ?_
 refine eC ?_
 refine aq (.inl rfl) (kj rfl rfl) (fun w hw=> ?_)
 exact⟨rfl,hw.sub (List.nil_sublist _)⟩
open Go.aC Go.Kb
open Go.RowKit
theorem LN{w0 w:World}{L:List ai}{b:Nat}{p:dh}{T:TypeId}{i:Nat}(hw:Mem w0 L w)[hh:Has L b (c6 p) T i](j:Nat)(hj:j<16):w.cell? ((⟨b,2,none⟩:Addr).add j)=some (.int .u8 (cF p.key j)):=by
 rw[Addr.gp,hw.cell hh.h,pX,lM _ j hj]
theorem FR{p q:dh}(h1:c5 p=true)(h2:c5 q=true):dV p q=(if p.bits≠q.bits then decide (p.bits=32)else if p.key≠q.key then decide (p.key.toNat<q.key.toNat)else decide (p.len<q.len)):=by
 unfold dV;rw[h1,h2];rfl
theorem T3(p q:dh):oW Tryz.prog 81 [.agg (c6 p), .agg (c6 q)] (.bool (dV p q)):=⟨fun w=>by
 refine ba (args:=[_,_]) Tryz.func81 rfl Tryz.ntmps81 rfl ?_
 change Cw _ _ _ _ _ [(0, .agg (c6 p)),(1, .agg (c6 q))] []
 refine aO ?_
 refine aZ ?_
 refine bX rfl fun b2=> ?_
 refine bX rfl fun b3=> ?_
 refine ag (bl rfl) ?_
 refine aX ?_
 refine aN ?_
 refine aO ?_
 refine aO ?_
 refine aZ ?_
 refine ag (fI rfl) ?_
 refine fy (vO rfl) ?_
 refine ag (iR rfl) ?_
 refine ag (aD rfl) ?_
 refine bZ rfl rfl rfl (fun hg=>(fI rfl).yl) ?_
 refine bZ rfl rfl rfl (fun hg=>vO (dA (aG hg rfl) gE)) ?_
 refine bZ rfl rfl rfl (fun hg=>(iR (aG hg rfl)).yl) ?_
 refine ag (mL rfl rfl rfl) ?_
 refine aX ?_
 refine aN ?_
 refine au rfl (fun h0=> ?_) (fun h0=> ?_)
 ·
  simp at h0
  refine aO ?_
  refine aZ ?_
  refine ag (bl rfl) ?_
  refine aX ?_
  refine aN ?_
  refine eC ?_
  refine ff ?_
  refine aq (.inl rfl) (kj rfl rfl) (fun w hw=> ?_)
  refine⟨?_,hw.sub (List.nil_sublist _)⟩
  have:dV p q=false:=by unfold dV;cases h1:c5 p<;>cases h2:c5 q<;>simp_all
  rw[this]
 ·
  simp at h0
  obtain⟨m1,m2⟩:=h0
  refine fT ?_
  refine aN ?_
  refine aO ?_
  refine aO ?_
  refine aZ ?_
  refine ag (aH (o':=0) rfl rfl) ?_
  refine ag (bH rfl) ?_
  refine ag (aH (o':=0) rfl rfl) ?_
  refine ag (bH rfl) ?_
  refine ag (cx rfl rfl rfl) ?_
  refine aX ?_
  refine aN ?_
  refine au rfl (fun h1=> ?_) (fun h1=> ?_)
  ·
   simp at h1
   refine aO ?_
   refine aZ ?_
   refine ag (aH (o':=0) rfl rfl) ?_
   refine ag (bH rfl) ?_
   refine ag (cx rfl rfl rfl) ?_
   refine ag (bl rfl) ?_
   refine aX ?_
   refine aN ?_
   refine eC ?_
   refine ff ?_
   refine aq (.inl rfl) (kj rfl rfl) (fun w hw=> ?_)
   exact⟨by rw[FR m1 m2,if_pos h1],hw.sub (List.nil_sublist _)⟩
  ·
   simp at h1
   refine fT ?_
   refine aN ?_
   refine aO ?_
   refine aO ?_
   refine gO (by kernel_rfl) (by kernel_rfl) ?_
   refine bc (aH (o':=2) rfl rfl) ?_
   refine bc (uu rfl) ?_
   refine bc (aH (o':=2) rfl rfl) ?_
   refine bc (uu rfl) ?_
   refine sW (AM rfl (fun w hw=>T1 p.key q.key _ _ _ _ w (LN hw) (LN hw))) ?_
   refine bc (bl rfl) ?_
   refine vQ ?_
   refine aN ?_
   refine aO ?_
   refine aZ ?_
   refine ag (aD rfl) ?_
   refine ag (cx rfl rfl rfl) ?_
   refine aX ?_
   refine aN ?_
   refine au rfl (fun h2=> ?_) (fun h2=> ?_)
   ·
    simp at h2
    refine aO ?_
    refine aZ ?_
    refine ag (aD rfl) ?_
    refine ag (cx rfl rfl rfl) ?_
    refine ag (bl rfl) ?_
    refine aX ?_
    refine aN ?_
    refine eC ?_
    refine ff ?_
    refine aq (.inl rfl) (kj rfl rfl) (fun w hw=> ?_)
    exact⟨by rw[FR m1 m2,if_neg (by simpa using h1),if_pos (fun e=>h2 ((I4 _ _).2 e)),decide_eq_decide.2 (QJ _ _)],hw.sub (List.nil_sublist _)⟩
   ·
    simp at h2
    refine fT ?_
    refine aN ?_
    refine aO ?_
    refine aZ ?_
    refine ag (aH (o':=1) rfl rfl) ?_
    refine ag (bH rfl) ?_
    refine ag (aH (o':=1) rfl rfl) ?_
    refine ag (bH rfl) ?_
    refine ag (cx rfl rfl rfl) ?_
    refine ag (bl rfl) ?_
    refine aX ?_
    refine aN ?_
    refine eC ?_
    refine aq (.inl rfl) (kj rfl rfl) (fun w hw=> ?_)
    exact⟨by rw[FR m1 m2,if_neg (by simpa using h1),if_neg (by simpa using(I4 _ _).1 h2)],hw.sub (List.nil_sublist _)⟩⟩
instance afT(p q:dh):oW Tryz.prog 81 [.agg (c6 p), .agg (c6 q)] (.bool (dV p q)):=T3 p q
open Go.aC Go.Kb
instance afU:fg Tryz.prog 22 48 4 48:=⟨Tryz.underlying22,by kernel_rfl⟩
instance afV:fg Tryz.prog 23 94 4 16:=⟨Tryz.underlying23,by kernel_rfl⟩
instance afW:fg Tryz.prog 26 3 1 8:=⟨Tryz.underlying26,by kernel_rfl⟩
instance afX:fe Tryz.prog 38 (.slice none 0 0):=⟨by kernel_rfl⟩
instance afY:fg Tryz.prog 38 5 1 1:=⟨Tryz.underlying38,by kernel_rfl⟩
instance afZ:fg Tryz.prog 43 50 4 32:=⟨Tryz.underlying43,by kernel_rfl⟩
instance af1:fg Tryz.prog 46 38 1 24:=⟨Tryz.underlying46,by kernel_rfl⟩
instance af2:fg Tryz.prog 52 68 19 40:=⟨Tryz.underlying52,by kernel_rfl⟩
instance af3:fg Tryz.prog 76 91 20 48:=⟨Tryz.underlying76,by kernel_rfl⟩
instance af4:fg Tryz.prog 103 102 2 32:=⟨Tryz.underlying103,by kernel_rfl⟩
instance af5:fg Tryz.prog 161 26 1 24:=⟨Tryz.underlying161,by kernel_rfl⟩
instance af6:fg Tryz.prog 186 46 1 24:=⟨Tryz.underlying186,by kernel_rfl⟩
instance af7:fg Tryz.prog 238 235 1 8:=⟨Tryz.underlying238,by kernel_rfl⟩
instance:bu ay 19:=⟨km,fun r=>by
 have h:(c6 r.p).all (·.oneCell')=true:=(inferInstance:fW (c6 r.p) 18).one
 rw[ay,Array.all_append,h];simp[Value.oneCell']⟩
instance:Deep Rt:=Deep.flat ay 19
instance:fJ Rt ay 19:=⟨rfl,fun _=>rfl⟩
instance (r:Rt):fW (ay r) 19:=⟨km r,bu.one r⟩
instance (r:Rt):ob (ay r) 0 18 (c6 r.p):=⟨oq _,fun j hj=>by rw[Nat.zero_add];exact ot r j hj⟩
instance (r:Rt):cq (ay r) 18 (.int .u16 r.dN.toNat):=⟨wc r⟩
instance (r:Rt):cq (ay r) 0 (.int .i64 r.p.bits):=⟨(ot r 0 (by decide)).trans (uH r.p)⟩
instance (r:Rt):cq (ay r) 1 (.int .i64 r.p.len):=⟨(ot r 1 (by decide)).trans (uI r.p)⟩
theorem T4(d:Nat):pA Tryz.prog (d+1) 66 false [0]:=⟨⟨_,Tryz.underlying66,rfl⟩,by kernel_rfl,fun _=>rfl,FL Tryz.underlying66⟩
theorem T5:Tryz.prog.stoodInHeld 68=false:=by kernel_rfl
theorem T6(d:Nat):pA Tryz.prog (d+1+1+1+1) 68 true (([0]++([0]++((List.replicate 16 [0]).flatten++[])))++([0]++[])):=⟨⟨_,Tryz.underlying68,rfl⟩,by kernel_rfl,(fun h=>by cases h),
 FP Tryz.underlying68 T5 ⟨by decide,rfl,_,_,_,rfl,LH _,by decide,rfl,_,_,_,rfl,T4 _,rfl⟩⟩
theorem T7:Tryz.prog.eqGuardType Tryz.prog.depth 68=false:=by kernel_rfl
instance (a b:Rt):uo Tryz.prog 68 (.agg (ay a)) (.agg (ay b)) (decide (a=b)):=
 (T6 9996).eq.val rfl T7 (km a) (km b) (fun i k hk=>by
  have h0:k=0:=by
   have:k∈(([0]++([0]++((List.replicate 16 [0]).flatten++[])))++([0]++[])):=List.mem_of_getElem? hk
   simpa using this
  subst h0
  have hi:i<19:=(List.getElem?_eq_some_iff.1 hk).1
  match i,hi with
  |0,_=>exact⟨_,_,(inferInstance:cq (ay a) 0 _).h,(inferInstance:cq (ay b) 0 _).h,rfl⟩
  |1,_=>exact⟨_,_,(inferInstance:cq (ay a) 1 _).h,(inferInstance:cq (ay b) 1 _).h,rfl⟩
  |j+2,hi=>
   rcases Nat.lt_or_ge j 16 with h|h
   ·
    rw[Nat.add_comm j 2]
    exact⟨_,_,(ot a _ (by omega)).trans ((pX a.p j).trans (lM _ j h)),(ot b _ (by omega)).trans ((pX b.p j).trans (lM _ j h)),rfl⟩
   ·
    obtain rfl:j=16:=by omega
    exact⟨_,_,wc a,wc b,rfl⟩) (by rw[decide_eq_true_iff];exact⟨QM,fun h=>by rw[h]⟩)
instance:yn Tryz.prog 68 [] (.agg (ay jm)):=⟨fun w=>by unfold ay c6 jm;rw[zm];kernel_rfl⟩
instance:fe Tryz.prog 68 (.agg (ay jm)):=⟨by unfold ay c6 jm;rw[zm];kernel_rfl⟩
end Go.Proofs.YtaipiecplldinaaGreat
namespace Go.Kb
open Go.aC
instance:Plain Rt:=⟨fun _=>rfl⟩
instance:eR Rt:=eR.flat fun _ _=>trivial
structure cm where
 an:bM
 table:Sl Rt
def bO(x:cm):Array Value:= #[.int .i64 x.an.ae.pages, .int .i64 x.an.ae.size,x.an.ae.blocks.sv.val, .int .i64 x.an.ae.ops, .bool x.an.ae.off,x.an.ae.aR.sv.val,x.an.at_.sv.val, .int .u64 x.an.gen.toNat, .int .i64 x.an.last,x.table.sv.val]
instance:bu bO 10:=⟨fun _=>rfl,fun x=>by
 simp only[bO,List.all_toArray,List.all_cons,List.all_nil,Sv.one,qZ,q9,Bool.and_self]⟩
instance (x:cm):fW (bO x) 10:=⟨rfl,bu.one x⟩
instance (x:cm):cq (bO x) 1 (.int .i64 x.an.ae.size):=⟨rfl⟩
instance (x:cm):cq (bO x) 6 (x.an.at_.sv.val):=⟨rfl⟩
instance (x:cm):cq (bO x) 7 (.int .u64 x.an.gen.toNat):=⟨rfl⟩
instance (x:cm):cq (bO x) 8 (.int .i64 x.an.last):=⟨rfl⟩
instance (x:cm):cq (bO x) 9 (x.table.sv.val):=⟨rfl⟩
instance (x:cm):ob (bO x) 0 9 (bF x.an):=⟨rfl,fun j hj=>by
 match j,hj with
 |0,_=>rfl
 |1,_=>rfl
 |2,_=>rfl
 |3,_=>rfl
 |4,_=>rfl
 |5,_=>rfl
 |6,_=>rfl
 |7,_=>rfl
 |8,_=>rfl⟩
instance (x:cm):ob (bO x) 0 6 (aB x.an.ae):=⟨rfl,fun j hj=>by
 match j,hj with
 |0,_=>rfl
 |1,_=>rfl
 |2,_=>rfl
 |3,_=>rfl
 |4,_=>rfl
 |5,_=>rfl⟩
instance:Deep cm where
 c:=10
 cells:=bO
 size:=bu.size
 one:=bu.one
 aY h x:=Deep.aY h x.an∧Deep.aY h x.table
 cd x:= .two (Deep.cd x.an) (Deep.cd x.table)
 iT h x hs:=⟨Deep.iT h x.an hs.1,Deep.iT h x.table hs.2.1⟩
 mono w w' x hg hb:=⟨Deep.mono w w' x.an hg.1 hb,Deep.mono w w' x.table hg.2 hb⟩
instance:eR cm where
 reach x k:=eR.reach x.an k∨eR.reach x.table k
 congr h h' x e hg:=⟨eR.congr h h' x.an (fun k hk=>e k (.inl hk)) hg.1,eR.congr h h' x.table (fun k hk=>e k (.inr hk)) hg.2⟩
instance {w0:World}{L:List ai}{x:cm}[q:aU w0 L x]:aU w0 L x.an:=⟨fun w hw=>(q.h w hw).1⟩
instance {w0:World}{L:List ai}{x:cm}[q:aU w0 L x]:aU w0 L x.table:=⟨fun w hw=>(q.h w hw).2⟩
instance {w0:World}{L:List ai}{an:bM}{table:Sl Rt}[q0:aU w0 L an][q1:aU w0 L table]:aU w0 L (cm.mk an table):=⟨fun w hw=>⟨q0.h w hw,q1.h w hw⟩⟩
def ly:cm:=⟨kU,⟨Sv.none,[]⟩⟩
structure FV where
 an:VV
 table:List Rt
 deriving DecidableEq
def bE(f:cm):FV:=⟨vv f.an,f.table.xs⟩
def pB:FV:=⟨j6,[]⟩
def tC(b p s:Int):Int:=min (qu b p/2) (jt s)
def pC(b p s:Int):Int:=iN (tC b p s) (dv s)
def dK(c:CV):Int:=tC c.blocks.length c.pages c.size
def eG(c:CV):Int:=pC c.blocks.length c.pages c.size
def dY(c:CV)(y:Int):List UInt8:=if y -1<0 then[]else iC c y
def cj(v:VV):List (List UInt8):=v.at_.map (dY v.ae)
def dg(c:CV):FV×Int:=
 if eG c=0 then(pB,1)
 else if(bw c).2≠0 then(pB,(bw c).2)
 else if((bw c).1.at_.length:Int)≠dK c then(pB,2)
 else if jP (cj (bw c).1)≠0 then(pB,2)
 else(⟨(bw c).1,jd (cj (bw c).1)⟩,0)
def jA(c:CV):List (List UInt8):=if(dg c).2=0 then cj (bw c).1 else[]
theorem LO{c:CV}(h:eG c=0):dg c=(pB,1)∧jA c=[]:=by
 have e:dg c=(pB,1):=by rw[dg,if_pos h]
 exact⟨e,by rw[jA,e];rfl⟩
theorem LP{c:CV}(h: ¬eG c=0)(h1:(bw c).2≠0):dg c=(pB,(bw c).2)∧jA c=[]:=by
 have e:dg c=(pB,(bw c).2):=by rw[dg,if_neg h,if_pos h1]
 exact⟨e,by rw[jA,e,if_neg h1]⟩
theorem LQ{c:CV}(h: ¬eG c=0)(h1:(bw c).2=0)(h2:((bw c).1.at_.length:Int)≠dK c):dg c=(pB,2)∧jA c=[]:=by
 have e:dg c=(pB,2):=by rw[dg,if_neg h,if_neg (fun g=>g h1),if_pos h2]
 exact⟨e,by rw[jA,e];rfl⟩
theorem LR{c:CV}(h: ¬eG c=0)(h1:(bw c).2=0)(h2:((bw c).1.at_.length:Int)=dK c)(h3:jP (cj (bw c).1)≠0):dg c=(pB,2)∧jA c=[]:=by
 have e:dg c=(pB,2):=by rw[dg,if_neg h,if_neg (fun g=>g h1),if_neg (fun g=>g h2),if_pos h3]
 exact⟨e,by rw[jA,e];rfl⟩
theorem Ck{c:CV}(h: ¬eG c=0)(h1:(bw c).2=0)(h2:((bw c).1.at_.length:Int)=dK c)(h3:jP (cj (bw c).1)=0):dg c=(⟨(bw c).1,jd (cj (bw c).1)⟩,0)∧jA c=cj (bw c).1:=by
 have e:dg c=(⟨(bw c).1,jd (cj (bw c).1)⟩,0):=by rw[dg,if_neg h,if_neg (fun g=>g h1),if_neg (fun g=>g h2),if_neg (fun g=>g h3)]
 exact⟨e,by rw[jA,e,if_pos rfl]⟩
theorem Cl{c:CV}(h:(dg c).2=0): ¬eG c=0∧(bw c).2=0∧((bw c).1.at_.length:Int)=dK c∧jP (cj (bw c).1)=0:=by
 by_cases h0:eG c=0
 ·
  rw[(LO h0).1]at h;cases h
 by_cases h1:(bw c).2=0
 ·
  by_cases h2:((bw c).1.at_.length:Int)=dK c
  ·
   by_cases h3:jP (cj (bw c).1)=0
   ·
    exact⟨h0,h1,h2,h3⟩
   ·
    rw[(LR h0 h1 h2 h3).1]at h;cases h
  ·
   rw[(LQ h0 h1 h2).1]at h;cases h
 ·
  rw[(LP h0 h1).1]at h;exact absurd h h1
def gh(f:FV):Bool:=decide ((dg {f.an.ae with off:=false}).2=0)&&decide (f.an.gen=(dg {f.an.ae with off:=false}).1.an.gen)&&decide (f.an.last=(dg {f.an.ae with off:=false}).1.an.last)&&decide (f.an.at_=(dg {f.an.ae with off:=false}).1.an.at_)&&decide (f.table=(dg {f.an.ae with off:=false}).1.table)
theorem FT{f:FV}:gh f=true↔(dg {f.an.ae with off:=false}).2=0∧f.an.gen=(dg {f.an.ae with off:=false}).1.an.gen∧f.an.last=(dg {f.an.ae with off:=false}).1.an.last∧f.an.at_=(dg {f.an.ae with off:=false}).1.an.at_∧f.table=(dg {f.an.ae with off:=false}).1.table:=by
 simp only[gh,Bool.and_eq_true,decide_eq_true_eq,and_assoc]
theorem T8{f:FV}:gh f=(decide ((dg {f.an.ae with off:=false}).2=0)&&kx f.an&&decide ((dg {f.an.ae with off:=false}).1.table=f.table)):=by
 rw[Bool.eq_iff_iff,FT]
 simp only[kx,Bool.and_eq_true,decide_eq_true_eq]
 constructor
 ·
  rintro⟨h1,h2,h3,h4,h5⟩
  obtain⟨g0,g1,g2,g3⟩:=Cl h1
  rw[(Ck g0 g1 g2 g3).1]at h2 h3 h4
  exact⟨⟨h1,⟨⟨g1,h2.symm⟩,h3.symm⟩,h4.symm⟩,h5.symm⟩
 ·
  rintro⟨⟨h1,⟨⟨g4,h2⟩,h3⟩,h4⟩,h5⟩
  obtain⟨g0,g1,g2,g3⟩:=Cl h1
  rw[(Ck g0 g1 g2 g3).1]at h5⊢
  exact⟨rfl,h2.symm,h3.symm,h4.symm,h5.symm⟩
theorem T9{bs:List (List UInt8)}(h:jP bs=0):dr (jd bs)=true:=by
 unfold jP jd at*
 cases hu:gg bs with
 |none=>rw[hu]at h;cases h
 |some t=>
  rw[hu]at h
  simp only at h⊢
  by_cases ht:dr t=true
  ·
   rw[if_pos ht];exact ht
  ·
   rw[if_neg ht]at h;cases h
def cY(f:FV)(l:List Ch):FV×Int:=
 if gh f=false then(f,1)
 else if dS f.table l≠0 then(f,dS f.table l)
 else if jc (cH f.table l) (dK f.an.ae) (dv f.an.ae.size)≠0 then(f,jc (cH f.table l) (dK f.an.ae) (dv f.an.ae.size))
 else if eu (jA {f.an.ae with off:=false}) (jO (cH f.table l) (dK f.an.ae) (dv f.an.ae.size))=[]then(⟨f.an,cH f.table l⟩,0)
 else(⟨(fo f.an (eu (jA {f.an.ae with off:=false}) (jO (cH f.table l) (dK f.an.ae) (dv f.an.ae.size)))).1,if(fo f.an (eu (jA {f.an.ae with off:=false}) (jO (cH f.table l) (dK f.an.ae) (dv f.an.ae.size)))).2≠0 then f.table else cH f.table l⟩,(fo f.an (eu (jA {f.an.ae with off:=false}) (jO (cH f.table l) (dK f.an.ae) (dv f.an.ae.size)))).2)
def nO(c:CV):FV×Int:=if eG c=0 then(⟨⟨c,[],0,0⟩,[]⟩,1)else(⟨(lX c (dK c)).1,[]⟩,(lX c (dK c)).2)
def vb(f:FV)(k:Key)(bits:Int):Rt:=if gh f=true then u7 f.table k bits else jm
def vc(f:FV)(k:Key)(bits:Int):Int:=if gh f=true then u9 f.table k bits else 1
theorem vd{w0 w:World}{L:List ai}{a:Sl Rt}(h:Mem w0 (own ay 19 a.sv a.xs::L) w):Mem w0 (fz a::L) w:=Bz (fun _ _ h=>h) (fun _ _=>trivial) h
theorem Cm{w0 w:World}{L:List ai}{f:cm}(h:Mem w0 (fz f.an.ae::fz f.an.at_::fz f.table::L) w):Mem w0 (fz f::L) w:=by
 refine Mem.freeze (es:=[fz f.an.ae,fz f.an.at_,fz f.table]) f ⟨⟨h.sat (fz f.an.ae) (by simp),h.sat (fz f.an.at_) (by simp)⟩,h.sat (fz f.table) (by simp)⟩ (fun k hk=> ?_) h
 rcases hk with(hk|hk)|hk
 ·
  exact⟨fz f.an.ae,by simp,hk⟩
 ·
  exact⟨fz f.an.at_,by simp,hk⟩
 ·
  exact⟨fz f.table,by simp,hk⟩
theorem LS{w0 w:World}{L:List ai}{f:cm}(h:Mem w0 (fz f.an.ae::own bG 1 f.an.at_.sv f.an.at_.xs::own ay 19 f.table.sv f.table.xs::L) w):Mem w0 (fz f::L) w:=by
 have h1:=uS (a:=f.an.at_) (h.perm (List.Perm.swap _ _ _))
 have h2:=vd (a:=f.table) (h1.perm ((List.Perm.cons _ (List.Perm.swap _ _ _)).trans (List.Perm.swap _ _ _)))
 exact Cm (h2.perm ((List.Perm.cons _ (List.Perm.swap _ _ _)).trans ((List.Perm.swap _ _ _).trans (List.Perm.cons _ (List.Perm.swap _ _ _)))))
theorem Cn{w0 w:World}{L:List ai}(h:Mem w0 L w):Mem w0 (fz ly::L) w:=
 Mem.freeze (es:=[]) ly ⟨⟨⟨uG,uG⟩,uG⟩,uG⟩ (fun k hk=>by
  rcases hk with(((⟨bW,_⟩|⟨x,hx,_⟩)|⟨bW,_⟩|⟨x,hx,_⟩)|⟨bW,_⟩|⟨x,hx,_⟩)|⟨bW,_⟩|⟨x,hx,_⟩
  all_goals first|exact absurd rfl bW|cases hx) h
theorem wZ{w0 w:World}{L:List ai}:Mem w0 L w→Mem w0 (fz (⟨Sv.none,[]⟩:Sl (Sl UInt8))::L) w:=
 Mem.freeze (es:=[]) _ uG (fun k hk=>by
  rcases hk with⟨bW,_⟩|⟨x,hx,_⟩
  ·
   exact absurd rfl bW
  ·
   cases hx)
theorem LU(s:Int):0≤jt s∧jt s≤64:=by
 rw[jt,dv]
 split
 ·
  rename_i h;have:=qd.1 h;omega
 ·
  omega
theorem FU(c:CV):dK c≤64:=by
 have:=LU c.size
 rw[dK,tC];omega
theorem Ua(b p:Int):0≤qu b p∧qu b p≤448:=by
 rw[qu]
 split
 ·
  omega
 ·
  rename_i h
  have h1:0≤b -4∧b -4≤28:=by omega
  have h2:1≤p∧p≤16:=by omega
  exact⟨Int.mul_nonneg h1.1 (by omega),Int.le_trans (Int.mul_le_mul h1.2 h2.2 (by omega) (by omega)) (by decide)⟩
theorem LV{c:CV}(h:(bw c).2=0):(bw c).1.ae=c:=by
 obtain⟨_,_,e⟩:=E5 h
 rw[e]
theorem Ub{c:CV}(h:(bw c).2=0):c.off=false:=by
 cases ho:c.off with
 |false=>rfl
 |true=>rw[bw,if_neg (by rw[E4 h];simp),if_pos ho]at h;cases h
theorem Uc{c:CV}(h:(bw c).2=0):kx (bw c).1=true:=by
 have e:{(bw c).1.ae with off:=false}=c:=by rw[LV h,←Ub h]
 simp only[kx,e,h,decide_true,Bool.and_self]
theorem Ud(c:CV)(n:Int):(iC c n).length≤65536:=by
 rw[iC]
 split
 ·
  exact EX _
 ·
  simp
theorem w7(v:VV):(cj v).length=v.at_.length:=by rw[cj,List.length_map]
theorem Ue(c:CV)(n:Int):(dY c n).length≤65536:=by
 rw[dY]
 split
 ·
  simp
 ·
  exact Ud c n
theorem Uf(c:CV):(jA c).length≤64:=by
 rw[jA]
 split
 ·
  rename_i h
  obtain⟨g0,g1,g2,g3⟩:=Cl h
  have:=FU c
  rw[w7];omega
 ·
  simp
def dZ(f:FV):List (List UInt8):=jA {f.an.ae with off:=false}
def tD(f:FV)(l:List Ch):Int:=jc (cH f.table l) (dK f.an.ae) (dv f.an.ae.size)
def dy(f:FV)(l:List Ch):List (List UInt8):=jO (cH f.table l) (dK f.an.ae) (dv f.an.ae.size)
theorem Ug{f:FV}{l:List Ch}(h0:gh f=false):cY f l=(f,1):=by rw[cY,if_pos h0]
theorem Co(f:FV)(l:List Ch):cY f l=(if gh f=false then(f,1)
 else if dS f.table l≠0 then(f,dS f.table l)
 else if tD f l≠0 then(f,tD f l)
 else if eu (dZ f) (dy f l)=[]then(⟨f.an,cH f.table l⟩,0)
 else(⟨(fo f.an (eu (dZ f) (dy f l))).1,if(fo f.an (eu (dZ f) (dy f l))).2≠0 then f.table else cH f.table l⟩,(fo f.an (eu (dZ f) (dy f l))).2)):=rfl
theorem LW{f:FV}{l:List Ch}(h0:gh f=true)(h1:dS f.table l≠0):cY f l=(f,dS f.table l):=by
 rw[Co,if_neg (by rw[h0];simp),if_pos h1]
theorem LX{f:FV}{l:List Ch}(h0:gh f=true)(h1:dS f.table l=0)(h2:tD f l≠0):cY f l=(f,tD f l):=by
 rw[Co,if_neg (by rw[h0];simp),if_neg (fun h=>h h1),if_pos h2]
theorem LY{f:FV}{l:List Ch}(h0:gh f=true)(h1:dS f.table l=0)(h2:tD f l=0)(h3:eu (dZ f) (dy f l)=[]):cY f l=(⟨f.an,cH f.table l⟩,0):=by
 rw[Co,if_neg (by rw[h0];simp),if_neg (fun h=>h h1),if_neg (fun h=>h h2),if_pos h3]
theorem Cq{f:FV}{l:List Ch}(h0:gh f=true)(h1:dS f.table l=0)(h2:tD f l=0)(h3: ¬eu (dZ f) (dy f l)=[]):cY f l=(⟨(fo f.an (eu (dZ f) (dy f l))).1,if(fo f.an (eu (dZ f) (dy f l))).2≠0 then f.table else cH f.table l⟩,(fo f.an (eu (dZ f) (dy f l))).2):=by
 rw[Co,if_neg (by rw[h0];simp),if_neg (fun h=>h h1),if_neg (fun h=>h h2),if_neg h3]
def LZ(f:FV):Bool:=aT f.an.ae&&decide (f.an.at_.length≤1000000)&&decide (f.table.length≤1000000)
end Go.Kb
namespace Go.aC
open Go.RowKit
theorem FW{P:Program}{fn:Func}{N:cz}{env:Env}{w0:World}{L:List ai}(hf:fn.results= #[]): ∀a w,db N env a→Mem w0 L w→(results fn a.tmps).run P w= .ok (.tuple #[]) w:=fun a w _ _=>by
 simp[results,hf]
section
variable {P:Program} {w0:World} {env:Env}
theorem L3{N:cz}{L:List ai}{d:Option Tmp}{ty:TypeId}{ps:String}{af:Array Edge}{gd:Option (Nat×Bool)}{t:TypeId}{x:Operand}{p:Addr}{v:Value}[ht:gM P t](hx:ev env x=some (.pointer (some p)))(hc:w0.cell? p=some v):Ry P N w0 env L ⟨d, .load t x,ty,ps,af,gd⟩ v:=
 vM ht hx fun w hw=>(hw.below.cell (by
  unfold World.cell? at hc
  cases ho:w0.heap[p.block]?with
  |none=>simp[ho]at hc
  |some o=>exact(Array.getElem?_eq_some_iff.1 ho).1)).trans hc
end
section
variable {P:Program} {N:cz} {w0:World} {env:Env} {L:List ai} {l:List Oper} {Q:Exit→Act→World→Prop} {rest:List Oper} {d:Option Tmp} {ty:TypeId} {ps:String} {af:Array Edge} {K:Value→List ai→Prop}
instance cq.one{v:Value}:cq #[v] 0 v:=⟨rfl⟩
theorem Uh{t:TypeId}{x:Operand}{v:Value}(hc:v.cells= #[v])(hx:ev env x=some v)(hk: ∀b,Sq P N w0 l Q rest (cw env d (.pointer (some ⟨b,0,none⟩))) (ar b #[v] t::L))(hd:dk N d=true:=by rfl):
  Sq P N w0 l Q (⟨d, .box t x,ty,ps,af,none⟩::rest) env L:=DP hx (by rw[hc];exact hk) hd
theorem Ui{t:TypeId}{z:Value}[hz:fe P t z](hc:z.cells= #[z])(hk: ∀b,Sq P N w0 l Q rest (cw env d (.pointer (some ⟨b,0,none⟩))) (ar b #[z] t::L))(hd:dk N d=true:=by rfl):
  Sq P N w0 l Q (⟨d, .alloc t,ty,ps,af,none⟩::rest) env L:=Iw (z:=z) (by rw[hc];exact hk) hd
theorem Uj{t:TypeId}{x y:Operand}{i b:Nat}{u:Value}{T:TypeId}{v:Value}(hv:v.oneCell'=true)(hx:ev env x=some (.pointer (some ⟨b,0,none⟩)))(hy:ev env y=some v)[ht:gM P t][hh:Has L b #[u] T i]{L':List ai}[hu:fx L i (ar b #[v] T) L'](hk:Sq P N w0 l Q rest env L'):
  Sq P N w0 l Q (⟨none, .store t x y,ty,ps,af,none⟩::rest) env L:=eN (cs':= #[v]) hx hy (by show 0<1;decide) hv rfl hk
end
theorem Uk{P:Program}{N:cz}{w0:World}{env:Env}{L:List ai}{l:List Oper}{Q:Exit→Act→World→Prop}{rest:List Oper}{ty:TypeId}{ps:String}{af:Array Edge}{t:TypeId}{x y:Operand}{i k p:Nat}{s:Sv}{xs:List UInt8}{a v:UInt8}[ht:gM P t](hx:ev env x=some (.pointer (some ⟨s.b,p,none⟩)))(hy:ev env y=some (.int .u8 v.toNat))[q:fD L s aM 1 xs i](ha:xs[k]? =some a)(gP:p=s.o+k*1){L':List ai}[hu:fx L i (own aM 1 s (xs.set k v)) L'](hk:Sq P N w0 l Q rest env L'):
  Sq P N w0 l Q (⟨none, .store t x y,ty,ps,af,none⟩::rest) env L:=
 kO (j:=0) (n:=1) (a':=v) ht.size hx hy (q:=q) (by omega) ha (by simp[Value.cells,Value.oneCell']) rfl (by omega) (by rfl) hk
open Go.RowKit
section
variable {P:Program} {N:cz} {w0:World} {env:Env} {L:List ai} {Q:Exit→Act→World→Prop}
end
section
variable {P:Program} {n:Nat} {w0:World} {env:Env} {L:List ai} {Q:Exit→Act→World→Prop} {l:List Oper} {k:Nat} {rest:List Oper}
theorem wN{α:Type}{l rest:List α}{k:Nat}{o:α}(h:l.drop k=o::rest):l[k]? =some o∧l.drop (k+1)=rest:=by
 constructor
 ·
  have:=congrArg (·[0]?) h;simpa using this
 ·
  have:=congrArg (List.drop 1) h;simpa[List.drop_drop,Nat.add_comm]using this
end
open Go.RowKit
def omap(P:Program)(k:TypeId){α β:Type}(cZ:α→Value)(dW:β→Value)(b:Nat)(f:α→Option β):ai:=
  ⟨fun i=>i=b,fun h=> ∃(es:Array MapEntry) (clock:Nat) (m:List (α×β)),h b=some (.map es clock)∧es.toList.map (fun e=>(e.key,e.val))=m.map (fun p=>(cZ p.1,dW p.2))∧
    (∀p∈m,∃l,keyOf P k (cZ p.1)=some l)∧(m.map Prod.fst).Nodup∧(∀x v,f x=some v↔(x,v)∈m),
   fun h h' e st=>by rw[e b rfl];exact st⟩
class w8(P:Program)(t:TypeId)(k e:outParam TypeId):Prop where
  eA:P.underlying t=some (.map k e)
class zn(P:Program)(k:TypeId):Prop where
  K:Maps.Keyed P k
class zo{α:Type}(cZ:α→Value):Prop where
  inj: ∀{a b:α},cZ a=cZ b→a=b
class tE(P:Program)(L:List ai)(b:Nat){α β:outParam Type}(k:TypeId)(cZ:outParam (α→Value))(dW:outParam (β→Value))(f:outParam (α→Option β))(i:outParam Nat):Prop where
  h:L[i]? =some (omap P k cZ dW b f)
instance (priority:=high) tE.here {P:Program}{L:List ai}{b:Nat}{α β:Type}{k:TypeId}{cZ:α→Value}{dW:β→Value}{f:α→Option β}:tE P (omap P k cZ dW b f::L) b k cZ dW f 0:=⟨rfl⟩
instance tE.there{P:Program}{L:List ai}{e:ai}{b:Nat}{α β:Type}{k:TypeId}{cZ:α→Value}{dW:β→Value}{f:α→Option β}{i:Nat}[q:tE P L b k cZ dW f i]:tE P (e::L) b k cZ dW f (i+1):=⟨by simpa using q.h⟩
theorem L4{P:Program}{k:TypeId}{α β:Type}{cZ:α→Value}{dW:β→Value}{f:α→Option β}[K:zn P k][I:zo cZ]{es:Array MapEntry}{m:List (α×β)}(h1:es.toList.map (fun e=>(e.key,e.val))=m.map (fun p=>(cZ p.1,dW p.2)))
    (h2: ∀p∈m,∃l,keyOf P k (cZ p.1)=some l) (h3: ∀x v,f x=some v↔(x,v)∈m) {x:α} (hx: ∃l,keyOf P k (cZ x)=some l) (w:World):
    ((Instr.findKey k (cZ x) es.toList).run P w= .ok none w∧f x=none∧ ∀v,(x,v)∉m)∨ ∃(j:Nat) (v:β),(Instr.findKey k (cZ x) es.toList).run P w= .ok (some (j,dW v)) w∧m[j]? =some (x,v)∧f x=some v∧(es[j]?).map (·.key)=some (cZ x):=by
  have kC: ∀j:Nat,(es.toList[j]?).map (fun e=>(e.key,e.val))=(m[j]?).map (fun p=>(cZ p.1,dW p.2)):=fun j=>by rw[←List.getElem?_map,←List.getElem?_map,h1]
  have hG: ∀e∈es.toList,∃l,keyOf P k e.key=some l:=fun e he=>by
    obtain⟨j,hj,rfl⟩:=List.getElem_of_mem he
    have:=kC j
    rw[List.getElem?_eq_getElem hj]at this
    cases hm:m[j]?with
    |none=>rw[hm]at this;cases this
    |some p=>
     rw[hm]at this
     simp only[Option.map_some,Option.some.injEq,Prod.mk.injEq]at this
     rw[this.1];exact h2 p (List.mem_of_getElem? hm)
  obtain⟨lx,sq⟩:=hx
  rcases K.K.find w sq es.toList hG with⟨hr,hn⟩|⟨j,e,hr,hj,hk⟩
  ·have je: ∀v,(x,v)∉m:=fun v hv=>by
      obtain⟨j,hj,Ul⟩:=List.getElem_of_mem hv
      have:=kC j
      rw[List.getElem?_eq_getElem hj,Ul]at this
      cases he:es.toList[j]?with
      |none=>rw[he]at this;cases this
      |some e=>
       rw[he]at this
       simp only[Option.map_some,Option.some.injEq,Prod.mk.injEq]at this
       exact hn e (List.mem_of_getElem? he) this.1
   refine .inl ⟨hr,?_,je⟩
   cases hf:f x with
   |none=>rfl
   |some v=>exact absurd ((h3 x v).1 hf) (je v)
  ·have:=kC j
   rw[hj]at this
   cases hm:m[j]?with
   |none=>rw[hm]at this;cases this
   |some p=>
    rw[hm]at this
    simp only[Option.map_some,Option.some.injEq,Prod.mk.injEq]at this
    have hp:p.1=x:=I.inj (this.1.symm.trans hk)
    refine .inr ⟨j,p.2,by rw[hr,this.2],by rw[hm,←hp],(h3 x p.2).2 (by rw[←hp];exact List.mem_of_getElem? hm),?_⟩
    have iz:es[j]? =some e:=by simpa using hj
    rw[iz,Option.map_some,hk]
section
variable {P:Program} {N:cz} {w0:World} {env:Env} {L:List ai} {d:Option Tmp} {ty:TypeId} {ps:String} {af:Array Edge} {gd:Option (Nat×Bool)} {α β:Type} {cZ:α→Value} {dW:β→Value} {f:α→Option β}
theorem run_getObj_map{w:World}{b:Nat}{es:Array MapEntry}{clock:Nat}(h:w.heap[b]? =some (.map es clock)):(getObj b).run P w= .ok (.map es clock) w:=by simp[getObj,Sem.run,h]
theorem run_setObj_map{w:World}{b:Nat}{es:Array MapEntry}{clock:Nat}(o:Obj)(h:w.heap[b]? =some (.map es clock)):(setObj b o).run P w= .ok () (w.putObj b o):=by simp[setObj,Sem.run,h,World.putObj]
theorem FX{t k e:TypeId}{m x:Operand}{b i:Nat}{z:β}{v:α}[ht:w8 P t k e][K:zn P k][I:zo cZ][hz:fe P e (dW z)](hm:ev env m=some (.map (some b)))(hx:ev env x=some (cZ v))[q:tE P L b k cZ dW f i](hv: ∃l,keyOf P k (cZ v)=some l):
    Ry P N w0 env L ⟨d, .lookup t m x true,ty,ps,af,gd⟩ (.tuple #[dW ((f v).getD z), .bool (f v).isSome]):=fun a w ha hw=>by
  obtain⟨es,clock,ml,h0,h1,h2,_,h3⟩:=hw.get q.h
  obtain⟨l,hl⟩:=hv
  have hc:=K.K.check w es.isEmpty hl
  simp only[execOp,ha.ev hm,ha.ev hx,Instr.lookup,Sem.run_bind,run_underlying ht.eA,Result.andThen,run_getObj_map h0,Sem.run_pure,hc]
  rcases L4 (P:=P) (k:=k) h1 h2 h3 ⟨l,hl⟩ w with⟨hr,hf,_⟩|⟨j,u,hr,_,hf,_⟩
  ·simp only[hr,hf,Option.getD_none,AJ w hz,Sem.run_bind,Result.andThen,Sem.run_pure];rfl
  ·simp only[hr,hf,Option.getD_some,Sem.run_pure];rfl
end
section
variable {P:Program} {N:cz} {w0:World} {env:Env} {L:List ai} {l:List Oper} {Q:Exit→Act→World→Prop} {rest:List Oper} {d:Option Tmp} {ty:TypeId} {ps:String} {af:Array Edge} {α β:Type} {cZ:α→Value} {dW:β→Value} {f:α→Option β}
theorem Mem.L5{w:World}(P:Program)(k:TypeId)(cZ:α→Value)(dW:β→Value)(h:Mem w0 L w):Mem w0 (omap P k cZ dW w.heap.size (fun _=>none)::L) (w.alloc (.map #[] 0)):=by
  refine h.call (E:=[omap P k cZ dW w.heap.size (fun _=>none)]) ⟨(Below.refl _ _).alloc (Nat.le_refl _) _,fun e he=> ?_,fun e he j hj=> ?_,by simp⟩
  ·obtain rfl:e=omap P k cZ dW w.heap.size (fun _=>none):=by simpa using he
   exact⟨#[],0,[],Below.Aw w _,rfl,by simp,by simp,by simp⟩
  ·obtain rfl:e=omap P k cZ dW w.heap.size (fun _=>none):=by simpa using he
   have:j=w.heap.size:=hj
   subst this;simp
theorem Um{t k e:TypeId}(cZ:α→Value)(dW:β→Value){r:Operand}{kk:IntKind}{n:Int}[ht:w8 P t k e](hr:ev env r=some (.int kk n))(hk: ∀b,Sq P N w0 l Q rest (cw env d (.map (some b))) (omap P k cZ dW b (fun _=>none)::L))(hd:dk N d=true:=by rfl):
    Sq P N w0 l Q (⟨d, .makeMap t (some r),ty,ps,af,none⟩::rest) env L:=
  mM rfl hd fun a w ha hw=>⟨_,_,_,by
    simp only[execOp,Option.map_some,ha.ev hr,Instr.makeMap,Sem.run_bind,run_underlying ht.eA,Result.andThen,Sem.run_pure,asInt,asIntOf,newObj,Sem.run]
    rfl,hw.L5 P k cZ dW,hk _⟩
theorem L6{t k e:TypeId}(cZ:α→Value)(dW:β→Value)[ht:w8 P t k e](hk: ∀b,Sq P N w0 l Q rest (cw env d (.map (some b))) (omap P k cZ dW b (fun _=>none)::L))(hd:dk N d=true:=by rfl):
    Sq P N w0 l Q (⟨d, .makeMap t none,ty,ps,af,none⟩::rest) env L:=
  mM rfl hd fun a w ha hw=>⟨_,_,_,by
    simp only[execOp,Option.map_none,Instr.makeMap,Sem.run_bind,Result.andThen,Sem.run_pure,newObj,Sem.run]
    rfl,hw.L5 P k cZ dW,hk _⟩
theorem Un{t k e:TypeId}{m x y:Operand}{b i:Nat}{v:α}{u:β}[DecidableEq α][ht:w8 P t k e][K:zn P k][I:zo cZ](hm:ev env m=some (.map (some b)))(hx:ev env x=some (cZ v))(hy:ev env y=some (dW u))[q:tE P L b k cZ dW f i](hv: ∃l,keyOf P k (cZ v)=some l)
    {L':List ai} [hu:fx L i (omap P k cZ dW b (fun z=>if z=v then some u else f z)) L'] {a:Act} {w:World} (ha:db N env a) (hw:Mem w0 L w):
    ∃w',(execOp a.eval ⟨none, .mapUpdate t m x y,ty,ps,af,none⟩).run P w= .ok .skip w'∧Mem w0 L' w':=by
  obtain⟨es,clock,ml,h0,h1,h2,ct,h3⟩:=hw.get q.h
  obtain⟨lk,hl⟩:=hv
  have hc:=K.K.check w false hl
  have bA:=K.K.stays w hl
  have step: ∀o:Obj,(omap P k cZ dW b (fun z=>if z=v then some u else f z)).sat (fun j=>(w.putObj b o).heap[j]?)→Mem w0 L' (w.putObj b o):=fun o ho=>by
    rw[←hu.h]
    exact hw.change q.h (fun j hj=>hj) (fun j hj=>World.putObj_heap_other (fun e=>hj e)) World.putObj_size ⟨rfl,rfl,rfl⟩ ho
  have bp:b<w.heap.size:=(Array.getElem?_eq_some_iff.1 h0).1
  rcases L4 (P:=P) (k:=k) h1 h2 h3 ⟨lk,hl⟩ w with⟨hr,hf,je⟩|⟨j,u0,hr,hj,hf,Uo⟩
  ·refine⟨w.putObj b (.map (es.push {key:=cZ v,val:=dW u,born:=clock}) (clock+1)),?_,step _ ⟨_,_,ml++[(v,u)],World.putObj_heap_same bp,?_,?_,?_,?_⟩⟩
   ·simp only[execOp,ha.ev hm,ha.ev hx,ha.ev hy,Instr.mapUpdate,Sem.run_bind,run_underlying ht.eA,Result.andThen,run_getObj_map h0,hc,hr,run_setObj_map _ h0,Sem.run_pure]
   ·simp[h1]
   ·intro p hp
    rcases List.mem_append.1 hp with hp|hp
    ·exact h2 p hp
    ·obtain rfl:p=(v,u):=by simpa using hp
     exact⟨lk,hl⟩
   ·rw[List.map_append,List.nodup_append]
    refine⟨ct,by simp,fun x1 ng y1 Cr e1=> ?_⟩
    obtain rfl:y1=v:=by simpa using Cr
    subst e1
    obtain⟨p,hp,rfl⟩:=List.mem_map.1 ng
    exact je p.2 hp
   ·intro x' v'
    show(if x'=v then some u else f x')=some v'↔_
    by_cases e:x'=v
    ·subst e;rw[if_pos rfl]
     constructor
     ·intro h;cases h;simp
     ·intro h
      rcases List.mem_append.1 h with h|h
      ·exact absurd h (je v')
      ·simp at h;rw[h]
    ·rw[if_neg e,h3 x' v'];simp[e]
  ·have jj:j<ml.length:=(List.getElem?_eq_some_iff.1 hj).1
   refine⟨w.putObj b (.map (es.modify j fun e=>{e with key:=cZ v,val:=dW u}) clock),?_,step _ ⟨_,_,ml.set j (v,u),World.putObj_heap_same bp,?_,?_,?_,?_⟩⟩
   ·simp only[execOp,ha.ev hm,ha.ev hx,ha.ev hy,Instr.mapUpdate,Sem.run_bind,run_underlying ht.eA,Result.andThen,run_getObj_map h0,hc,hr,Uo,Option.getD_some,bA,run_setObj_map _ h0,Sem.run_pure]
   ·refine List.ext_getElem? fun n=> ?_
    have:=congrArg (·[n]?) h1
    simp only[List.getElem?_map]at this⊢
    rw[List.getElem?_set]
    by_cases e:j=n
    ·subst e
     rw[if_pos rfl,if_pos jj]
     rw[hj]at this
     cases he:es.toList[j]?with
     |none=>rw[he]at this;cases this
     |some e0=>
      have pU:es[j]? =some e0:=by simpa using he
      simp[Array.getElem?_modify,pU]
    ·rw[if_neg e,←this]
     simp[Array.getElem?_modify,e]
   ·intro p hp
    rcases List.mem_or_eq_of_mem_set hp with hp|rfl
    ·exact h2 p hp
    ·exact⟨lk,hl⟩
   ·rw[List.map_set]
    have:(ml.map Prod.fst)[j]? =some v:=by rw[List.getElem?_map,hj];rfl
    rw[show(ml.map Prod.fst).set j (v,u).1=ml.map Prod.fst from by
        refine List.ext_getElem? fun n=> ?_
        rw[List.getElem?_set]
        by_cases e:j=n
        ·subst e;rw[if_pos rfl,if_pos (by simpa using jj),this]
        ·rw[if_neg e]]
    exact ct
   ·intro x' v'
    have Up: ∀n p,ml[n]? =some p→p.1=v→n=j:=fun n p hn hp=>by
        have a1:(ml.map Prod.fst)[n]? =some v:=by rw[List.getElem?_map,hn,Option.map_some,hp]
        have a2:(ml.map Prod.fst)[j]? =some v:=by rw[List.getElem?_map,hj];rfl
        exact(List.getElem?_inj (by simpa using(List.getElem?_eq_some_iff.1 hn).1) ct).1 (a1.trans a2.symm)
    show(if x'=v then some u else f x')=some v'↔_
    by_cases e:x'=v
    ·subst e;rw[if_pos rfl]
     constructor
     ·intro h;cases h
      exact List.mem_of_getElem? (i:=j) (by rw[List.getElem?_set,if_pos rfl,if_pos jj])
     ·intro h
      obtain⟨n,hn⟩:=List.mem_iff_getElem?.1 h
      rw[List.getElem?_set]at hn
      by_cases en:j=n
      ·rw[if_pos en,if_pos jj]at hn;simp only[Option.some.injEq,Prod.mk.injEq,true_and]at hn;rw[hn]
      ·rw[if_neg en]at hn;exact absurd (Up n _ hn rfl).symm en
    ·rw[if_neg e,h3 x' v']
     constructor
     ·intro h
      obtain⟨n,hn⟩:=List.mem_iff_getElem?.1 h
      refine List.mem_of_getElem? (i:=n) ?_
      rw[List.getElem?_set,if_neg,hn]
      rintro rfl
      rw[hj]at hn;simp only[Option.some.injEq,Prod.mk.injEq]at hn;exact e hn.1.symm
     ·intro h
      rcases List.mem_or_eq_of_mem_set h with h|h
      ·exact h
      ·simp only[Prod.mk.injEq]at h;exact absurd h.1 e
theorem FY{t k e:TypeId}{m x y:Operand}{b i:Nat}{v:α}{u:β}[DecidableEq α][ht:w8 P t k e][K:zn P k][I:zo cZ](hm:ev env m=some (.map (some b)))(hx:ev env x=some (cZ v))(hy:ev env y=some (dW u))[q:tE P L b k cZ dW f i](hv: ∃l,keyOf P k (cZ v)=some l)
    {L':List ai} [hu:fx L i (omap P k cZ dW b (fun z=>if z=v then some u else f z)) L'] (hk:Sq P N w0 l Q rest env L'):
    Sq P N w0 l Q (⟨none, .mapUpdate t m x y,ty,ps,af,none⟩::rest) env L:=
  AO rfl rfl fun a w ha hw=>by
    obtain⟨w',h1,h2⟩:=Un (t:=t) (k:=k) (e:=e) (ty:=ty) (ps:=ps) (af:=af) hm hx hy hv (L':=L') ha hw
    exact⟨w',L',h1,h2,hk⟩
end
open Go.Kb Go.RowKit
theorem FZ{w0 w:World}{L R:List ai}{e:ai}{i:Nat}(q:L[i]? =some e)(d:L.eraseIdx i=R)(h:Mem w0 L w):Mem w0 (e::R) w:=by
 have:=h.perm (nA q);rwa [d]at this
theorem sr{w0 w:World}{L R1 R2:List ai}{e1 e2:ai}{i j:Nat}(h1:L[i]? =some e1)(d1:L.eraseIdx i=R1)(h2:R1[j]? =some e2)(d2:R1.eraseIdx j=R2)(h:Mem w0 L w):Mem w0 (e1::e2::R2) w:=by
 subst d1;subst d2
 exact h.perm ((nA h1).trans ((nA h2).cons _))
instance (priority:=low) ah.drop {L L':List ai}{e:ai}[k:ah L L']:ah (e::L) L':=⟨by
 obtain⟨R,hR⟩:=k.h
 exact⟨e::R,(hR.cons e).trans List.perm_middle.symm⟩⟩
section
variable {P:Program} {N:cz} {w0:World} {env:Env} {L:List ai} {Q:Exit→Act→World→Prop} {d:Option Tmp} {ty:TypeId} {ps:String} {af:Array Edge} {gd:Option (Nat×Bool)} {K:Value→List ai→Prop}
theorem Ry.to{o:Oper}{v v':Value}(h:Ry P N w0 env L o v)(e:v=v'):Ry P N w0 env L o v':=e▸h
theorem Cs{f:FuncId}{x:Operand}{jQ:Array Value}{xs:List Operand}{ts:Array TypeId}{vs:List Value}{v:Value}[hf:aQ P f](hx:ev env x=some (.func (.func f) #[] jQ))(Uq:hH env xs=some vs)
  (hc: ∀w,Mem w0 L w→Calls P f (vs++jQ.toList).toArray w fun e w'=>e= .returned v∧Mem w [] w'):
  Yl P N w0 env L ⟨d, .call {callee:= .value x,args:=xs.toArray,argTypes:=ts},ty,ps,af,gd⟩ v:=fun a ha w hw=>by
 unfold Oper.quietAt
 obtain⟨fn,h1,h2,h3⟩:=hf.fn
 have DK: ¬fn.body=none:=fun e=>by simp[e]at h2
 have vN: ¬fn.name= "runtime.NumGoroutine" :=by simpa using h3
 have e:(execOp a.eval ⟨d, .call {callee:= .value x,args:=xs.toArray,argTypes:=ts},ty,ps,af,gd⟩).run P w= .ok (.enter f (vs++jQ.toList).toArray) w:=by
  have hm:=ha.hH Uq
  simp[execOp,resolve,ha.ev hx,Deferred.ofValue,invoke,callFunc,h1,DK,vN,Result.andThen,←hm]
 rw[e]
 exact⟨rfl,hc w hw⟩
theorem F0{f:Fn}{xs:List Operand}{vs:List Value}(hx:hH env xs=some vs):Ry P N w0 env L ⟨d, .makeFunc f #[] xs.toArray,ty,ps,af,gd⟩ (.func f #[] vs.toArray):=fun a w ha _=>by
 have hm:=ha.hH hx
 simp[execOp,Instr.makeFunc,Result.andThen,←hm]
instance (s:Sv):cq (qS s) 0 s.val:=⟨rfl⟩
instance (s:Sv):cq s.val.cells 0 s.val:=⟨by rw[Sv.iU];rfl⟩
variable {s:Sv} {xs:List Nd} {a:Nd}
end
end Go.aC
namespace Go.Proofs.YtaipiecplldinaaGreat
open Go.aC Go.Kb
open Go.RowKit
instance:fe Tryz.prog 94 (.agg (di wy)):=⟨by kernel_rfl⟩
instance:fe Tryz.prog 48 (.agg (bI oA)):=⟨by kernel_rfl⟩
instance:fe Tryz.prog 25 (.agg (aB fX)):=⟨by kernel_rfl⟩
instance:fe Tryz.prog 5 (.int .u8 0):=⟨by kernel_rfl⟩
instance:fe Tryz.prog 38 (.slice none 0 0):=⟨by kernel_rfl⟩
theorem Ur(w:World)(b:Int)(n:Int)(s:Int):Calls Tryz.prog 65 #[.int .i64 b, .int .i64 n, .int .i64 s] w fun e w'=>e= .returned (.bool (pf b n s))∧Mem w [] w':=by
 refine ba (args:=[_,_,_]) Tryz.func65 rfl Tryz.ntmps65 rfl ?_
 change Cw _ _ _ _ _ [(0, .int .i64 b),(1, .int .i64 n),(2, .int .i64 s)] []
 refine Gc ?_
 refine Gs ?_
 refine Gc ?_
 iterate 3 refine Gs ?_
 iterate 2 refine Gg ?_
 iterate 2 refine Gs ?_
 iterate 2 refine Gg ?_
 iterate 2 refine Gs ?_
 iterate 2 refine Gg ?_
 iterate 2 refine Gs ?_
 iterate 2 refine Gg ?_
 iterate 2 refine Gs ?_
 iterate 2 refine Gg ?_
 iterate 2 refine Gs ?_
 refine Gc ?_
 refine aq (.inl rfl) (aI rfl (ak rfl)) (fun w1 hw=> ?_)
 exact⟨congrArg (fun b=>Ending.returned (Value.bool b)) (rfl),ah.mem hw⟩
instance af8{w0:World}{L:List ai}{b:Int}{n:Int}{s:Int}:cB Tryz.prog 65 w0 L [.int .i64 b, .int .i64 n, .int .i64 s] (.bool (pf b n s)) (True):=⟨fun hp w hw=>Ur w b n s⟩
theorem Us(w:World)(c:Cp)(hc:Deep.aY (hp w) c):Calls Tryz.prog 68 #[.agg (aB c)] w fun e w'=>e= .returned (.bool (aT (cv c)))∧Mem w [] w':=by
 have jR:cg w c:=⟨hc⟩
 have dt:=fu c.blocks.xs
 have bP:aT (cv c)=true↔pf c.blocks.xs.length c.pages c.size=true∧0≤c.ops∧c.ops≤cI∧c.aR.xs.length≤64∧ ∀b∈gu c.blocks.xs,mo c.pages c.size b=true:=by rw[eU];simp only[cv,dt]
 have oE:cI=1099511627776:=rfl
 refine ba (args:=[_]) Tryz.func68 rfl Tryz.ntmps68 rfl ?_
 change Cw _ _ _ _ _ [(0, .agg (aB c))] []
 refine Gc ?_
 refine bX rfl fun b1=> ?_
 refine Gs ?_
 refine Gc ?_
 iterate 10 refine Gs ?_
 iterate 3 refine Gg ?_
 iterate 2 refine Gs ?_
 iterate 3 refine Gg ?_
 iterate 2 refine Gs ?_
 iterate 4 refine Gg ?_
 refine Gs ?_
 refine Gc ?_
 refine au rfl (fun h0=> ?_) (fun h0=> ?_)
 ·
  replace h0:=bz h0
  have hz:aT (cv c)=false:=by
   cases hk:aT (cv c)with
   |false=>rfl
   |true=>
    have g:=bP.1 hk
    rw[g.1]at h0
    simp only[Bool.true_eq_false,false_or]at h0
    omega
  refine Gc ?_
  refine Gs ?_
  refine Gc ?_
  refine aq (.inl rfl) (aI rfl (ak rfl)) (fun w1 hw=> ?_)
  exact⟨congrArg (fun b=>Ending.returned (Value.bool b)) (hz.symm),ah.mem hw⟩
 ·
  replace h0:=bz h0
  have g0:pf c.blocks.xs.length c.pages c.size=true∧0≤c.ops∧c.ops≤cI∧c.aR.xs.length≤64:=by
   cases hk:pf c.blocks.xs.length c.pages c.size with
   |false=>rw[hk]at h0;simp at h0
   |true=>rw[hk]at h0;simp only[Bool.true_eq_false,not_false_eq_true,true_and]at h0;exact⟨rfl,by omega,by omega,by omega⟩
  have gs:=jI.1 g0.1
  refine Gc ?_
  iterate 4 refine Gs ?_
  refine Gc ?_
  refine ca (X:=Nat) (fun zz=>[(35, .int .i64 (zz:Nat)),(1, .pointer (some ⟨b1,0,none⟩)),(33,c.blocks.sv.val),(34, .int .i64 (c.blocks.xs.length:Nat))]) (fun zz=>[ar b1 (aB c) 25]) (fun zz=>zz≤c.blocks.xs.length∧ ∀j b,j<zz→(gu c.blocks.xs)[j]? =Option.some b→mo c.pages c.size b=true) (fun zz=>c.blocks.xs.length -zz) 0 ⟨Nat.zero_le _,fun j b hj=>by first|omega|(simp only[];omega)⟩ (Sub.cons rfl (Sub.cons rfl (Sub.cons rfl (Sub.cons rfl (Sub.nil _))))) (fun w hw=>ah.mem hw) ?_
  rintro i ⟨bh,aF⟩
  refine Gc ?_
  refine Gs ?_
  refine Gc ?_
  refine au rfl (fun h1=> ?_) (fun h1=> ?_)
  ·
   replace h1:=bz h1
   iterate 6 refine Gi ?_
   obtain⟨x,hx⟩:=get_some (xs:=c.blocks.xs) (i:=i) (by omega)
   refine ag (bg rfl rfl i rfl (by omega)) ?_
   refine ag (gG rfl i hx rfl) ?_
   have af9:Mb x c.blocks:=⟨List.mem_of_getElem? hx⟩
   refine bK fun b4=> ?_
   refine Gs ?_
   refine Gc ?_
   iterate 7 refine Gs ?_
   iterate 3 refine Gg ?_
   iterate 2 refine Gs ?_
   iterate 5 refine Gg ?_
   iterate 2 refine Gs ?_
   iterate 3 refine Gg ?_
   iterate 2 refine Gs ?_
   iterate 3 refine Gg ?_
   refine Gs ?_
   refine Gc ?_
   refine au rfl (fun h2=> ?_) (fun h2=> ?_)
   ·
    replace h2:=bz h2
    have hz:aT (cv c)=false:=by
     cases hk:aT (cv c)with
     |false=>rfl
     |true=>
      have g:=dX.1 ((bP.1 hk).2.2.2.2 (bv x) (List.mem_of_getElem? (iV hx)))
      simp only[bv,jo]at g
      omega
    refine Gc ?_
    refine Gs ?_
    refine Gc ?_
    refine aq (.inl rfl) (aI rfl (ak rfl)) (fun w1 hw=> ?_)
    exact⟨congrArg (fun b=>Ending.returned (Value.bool b)) (hz.symm),ah.mem hw⟩
   ·
    replace h2:=bz h2
    refine Gc ?_
    iterate 4 refine Gs ?_
    refine Gc ?_
    refine ca (X:=Nat) (fun zz=>[(70, .int .i64 (zz:Nat)),(1, .pointer (some ⟨b1,0,none⟩)),(33,c.blocks.sv.val),(34, .int .i64 (c.blocks.xs.length:Nat)),(35, .int .i64 (i:Nat)),(68,x.pages.sv.val),(69, .int .i64 (x.pages.xs.length:Nat))]) (fun zz=>[ar b4 (bI x) 48,ar b1 (aB c) 25]) (fun zz=>zz≤x.pages.xs.length∧ ∀k y,k<zz→(bv x).pages[k]? =Option.some y→(y.length:Int)=c.size) (fun zz=>x.pages.xs.length -zz) 0 ⟨Nat.zero_le _,fun k y hk=>by first|omega|(simp only[];omega)⟩ (Sub.cons rfl (Sub.cons rfl (Sub.cons rfl (Sub.cons rfl (Sub.cons rfl (Sub.cons rfl (Sub.cons rfl (Sub.nil _)))))))) (fun w hw=>ah.mem hw) ?_
    rintro j ⟨ic,dz⟩
    refine Gc ?_
    refine Gs ?_
    refine Gc ?_
    refine au rfl (fun h3=> ?_) (fun h3=> ?_)
    ·
     replace h3:=bz h3
     iterate 6 refine Gi ?_
     obtain⟨y,hy⟩:=get_some (xs:=x.pages.xs) (i:=j) (by omega)
     refine ag (bg rfl rfl j rfl (by omega)) ?_
     refine ag (bL (j:=0) rfl j hy rfl (by decide)) ?_
     have aga:Mb y _:=⟨List.mem_of_getElem? hy⟩
     refine Gs ?_
     refine Gc ?_
     iterate 5 refine Gs ?_
     refine Gc ?_
     refine au rfl (fun h4=> ?_) (fun h4=> ?_)
     ·
      replace h4:=bz h4
      have hz:aT (cv c)=false:=by
       cases hk:aT (cv c)with
       |false=>rfl
       |true=>
        have g:=(dX.1 ((bP.1 hk).2.2.2.2 (bv x) (List.mem_of_getElem? (iV hx)))).2.2.2.2.2 y.xs (List.mem_of_getElem? (kS hy))
        omega
      refine Gc ?_
      refine Gs ?_
      refine Gc ?_
      refine aq (.inl rfl) (aI rfl (ak rfl)) (fun w1 hw=> ?_)
      exact⟨congrArg (fun b=>Ending.returned (Value.bool b)) (hz.symm),ah.mem hw⟩
     ·
      replace h4:=bz h4
      refine Gc ?_
      iterate 2 refine Gs ?_
      refine Gi ?_
      exact bx (x:=(j)) (j+1) ⟨by first|omega|(simp only[];omega),fun k z hk hz=>if e:k=j then(by subst e;rw[show(bv x).pages=aJ x.pages.xs from rfl,kS hy]at hz;cases hz;omega)else dz k z (by first|omega|(simp only[];omega)) hz⟩ (by first|omega|(simp only[];omega)) (Sub.cons rfl (Sub.cons rfl (Sub.cons rfl (Sub.cons rfl (Sub.cons rfl (Sub.cons rfl (Sub.cons rfl (Sub.nil _)))))))) (fun w hw=>ah.mem hw)
    ·
     replace h3:=bz h3
     have rl:mo c.pages c.size (bv x)=true:=dX.2 ⟨by simp only[bv,jo];omega,by simp only[bv];omega,by simp only[bv];omega,by simp only[bv];omega,by simp only[bv];omega,fun y hy=>by
      obtain⟨k,hk⟩:=List.getElem?_of_mem hy
      exact dz k y (by have h:=(List.getElem?_eq_some_iff.1 hk).1;simp only[bv,jo]at h;omega) hk⟩
     refine Gc ?_
     iterate 2 refine Gs ?_
     refine Gi ?_
     exact bx (x:=(i)) (i+1) ⟨by first|omega|(simp only[];omega),fun j b hj hb=>if e:j=i then(by subst e;rw[iV hx]at hb;cases hb;exact rl)else aF j b (by first|omega|(simp only[];omega)) hb⟩ (by first|omega|(simp only[];omega)) (Sub.cons rfl (Sub.cons rfl (Sub.cons rfl (Sub.cons rfl (Sub.nil _))))) (fun w hw=>ah.mem hw)
  ·
   replace h1:=bz h1
   obtain rfl:i=c.blocks.xs.length:=by omega
   have hz:aT (cv c)=true:=bP.2 ⟨g0.1,g0.2.1,g0.2.2.1,g0.2.2.2,fun b hb=>by
    obtain⟨j,hj⟩:=List.getElem?_of_mem hb
    exact aF j b (by have:=(List.getElem?_eq_some_iff.1 hj).1;omega) hj⟩
   refine Gc ?_
   refine Gs ?_
   refine Gc ?_
   refine aq (.inl rfl) (aI rfl (ak rfl)) (fun w1 hw=> ?_)
   exact⟨congrArg (fun b=>Ending.returned (Value.bool b)) (hz.symm),ah.mem hw⟩
instance agb{w0:World}{L:List ai}{c:Cp}[hc:aU w0 L c]:cB Tryz.prog 68 w0 L [.agg (aB c)] (.bool (aT (cv c))) (True):=⟨fun hp w hw=>Us w c (hc.h w hw)⟩
open Go.aC Go.Kb
open Go.RowKit
theorem Ut{xs:List UInt8}{k i:Nat}(h:k+i<xs.length):(xs.take k++(List.replicate i 255++xs.drop (k+i))).set (k+i) 255=xs.take k++(List.replicate (i+1) 255++xs.drop (k+(i+1))):=by
 rw[List.set_append_right _ _ (by rw[List.length_take];omega),List.length_take,Nat.min_eq_left (by omega),Nat.add_sub_cancel_left,List.set_append_right _ _ (by simp),List.length_replicate,Nat.sub_self,List.drop_eq_getElem_cons h,List.set_cons_zero,List.replicate_succ',List.append_assoc,List.singleton_append,Nat.add_assoc]
theorem Uu(w0 w:World)(L:List ai)(rm:Sv)(k:Nat)(n:Nat)(cap:Nat)(xs:List UInt8)(hw:Mem w0 (own aM 1 rm xs::L) w)(bb:k+n≤xs.length∧n≤1000000):Calls Tryz.prog 66 #[.slice (some ⟨rm.b,rm.o+k,none⟩) n cap] w fun e w'=> ∃zz:Unit,e= .returned (.tuple #[])∧(True)∧Mem w0 (own aM 1 rm (xs.take k++(List.replicate n 255++xs.drop (k+n)))::L) w':=by
 obtain⟨kG,iK⟩:=bb
 refine kl (args:=[_]) Tryz.func66 rfl Tryz.ntmps66 rfl hw ?_
 change Cw _ _ _ _ _ [(0, .slice (some ⟨rm.b,rm.o+k,none⟩) n cap)] (own aM 1 rm xs::L)
 refine Gc ?_
 refine Gs ?_
 refine ag (uq rfl) ?_
 refine Gs ?_
 refine Gc ?_
 refine ca (X:=Nat×List UInt8) (fun zz=>[(5, .int .i64 (zz.1:Nat)),(0, .slice (some ⟨rm.b,rm.o+k,none⟩) n cap),(4, .int .i64 (n:Nat))]) (fun zz=>own aM 1 rm zz.2::L) (fun zz=>zz.1≤n∧zz.2=xs.take k++(List.replicate zz.1 255++xs.drop (k+zz.1))) (fun zz=>n -zz.1) (0,xs) ⟨Nat.zero_le _,by simp⟩ (Sub.cons rfl (Sub.cons rfl (Sub.cons rfl (Sub.nil _)))) (fun w hw=>ah.mem hw) ?_
 rintro⟨i,zs⟩ ⟨bh,aF⟩
 dsimp only
 simp only at bh aF
 have oK:zs.length=xs.length:=by rw[aF];simp only[List.length_append,List.length_take,List.length_replicate,List.length_drop];omega
 refine Gc ?_
 refine Gs ?_
 refine Gc ?_
 refine au rfl (fun h0=> ?_) (fun h0=> ?_)
 ·
  replace h0:=bz h0
  refine Gc ?_
  iterate 2 refine Gs ?_
  refine Gc ?_
  iterate 2 refine Gs ?_
  refine ag (Ik (b:=rm.b) (o:=rm.o+k) (len:=n) (cap:=cap) rfl rfl (by omega) (by omega)) ?_
  obtain⟨z,hz⟩:=get_some (xs:=zs) (i:=k+i) (by omega)
  refine kO (s:=rm) (n:=1) (k:=k+i) (j:=0) (a:=z) (a':=(255:UInt8)) (xs:=zs) (enc:=aM) (c:=1) (v:= .int .u8 255) (by kernel_rfl) rfl rfl (by omega) hz (by simp[Value.cells,Value.oneCell']) rfl (by omega) (by rfl) ?_
  refine Gc ?_
  iterate 2 refine Gs ?_
  refine Gi ?_
  exact bx (x:=(i,zs)) (i+1,zs.set (k+i) 255) ⟨by first|omega|(simp only[];omega),by rw[aF];exact Ut (by first|omega|(simp only[];omega))⟩ (by simp only;omega) (Sub.cons rfl (Sub.cons rfl (Sub.cons rfl (Sub.nil _)))) (fun w hw=>ah.mem hw)
 ·
  replace h0:=bz h0
  obtain rfl:i=n:=by omega
  refine Gc ?_
  refine aq (.inr rfl) (FW rfl) (fun w1 hw=> ?_)
  exact⟨(),rfl,trivial,by rw[←aF];exact ah.mem hw⟩
instance Uv{w0:World}{L L2:List ai}{i:Nat}{rm:Sv}{k:Nat}{n:Nat}{cap:Nat}{xs:List UInt8}[q:fD L rm aM 1 xs i][d1:dq L i L2]:cl Tryz.prog 66 w0 L [.slice (some ⟨rm.b,rm.o+k,none⟩) n cap] (Unit) (fun zz=> .tuple #[]) (fun zz=>own aM 1 rm (xs.take k++(List.replicate n 255++xs.drop (k+n)))::L2) (fun zz=>True) (k+n≤xs.length∧n≤1000000):=⟨fun hp w hw=>Uu w0 w L2 rm k n cap xs (FZ q.h d1.h hw) hp⟩
theorem Uw(w:World)(s:Sv)(ss:List Bk)(hs:bQ bI 4 (hp w) s ss)(bb:ss.length≤1000000):Calls Tryz.prog 107 #[s.val] w fun e w'=> ∃zz:Sv,e= .returned (zz.val)∧(True)∧Mem w [own bI 4 zz ss] w':=by
 have ve:Gv w s bI 4 ss:=⟨hs⟩
 refine ba (args:=[_]) Tryz.func107 rfl Tryz.ntmps107 rfl ?_
 change Cw _ _ _ _ _ [(0,s.val)] []
 refine Gc ?_
 refine Gs ?_
 refine Gc ?_
 refine Gs ?_
 refine ag (rX Tryz.underlying22 rfl) ?_
 refine Gc ?_
 refine au rfl (fun h0=> ?_) (fun h0=> ?_)
 ·
  replace h0:=bz h0
  have e0:ss=[]:=List.length_eq_zero_iff.1 (by have:=hs.ok.nil h0;have:=hs.len;omega)
  refine Gc ?_
  refine Gs ?_
  refine Gc ?_
  refine aq (.inl rfl) (aI rfl (ak rfl)) (fun w1 hw=> ?_)
  exact⟨Sv.none,rfl,trivial,by rw[e0];exact(ah.mem hw:Mem w [] _).dP bI 4⟩
 ·
  replace h0:=bz h0
  refine Gc ?_
  refine tc bI fun b5=> ?_
  refine Gs ?_
  refine mg (s:=⟨false,b5,0,0,0,none⟩) (enc:=bI) (ys:=ss) rfl rfl (by decide) (fun w hw=>kN (s:=s) Tryz.underlying22 (by decide) ((inferInstance:c0 _ _ bI 4 s ss).h w hw)) (by simp only[List.length_nil];omega) (by simp only[List.length_nil];omega) fun s7 vf tF=> ?_
  refine Gs ?_
  refine Gc ?_
  refine aq (.inl rfl) (aI rfl (ak rfl)) (fun w1 hw=> ?_)
  exact⟨s7,rfl,trivial,by rw[List.nil_append]at hw;exact ah.mem hw⟩
instance agc{w0:World}{L:List ai}{s:Sv}{ss:List Bk}[hs:c0 w0 L bI 4 s ss]:cl Tryz.prog 107 w0 L [s.val] (Sv) (fun zz=>zz.val) (fun zz=>own bI 4 zz ss::L) (fun zz=>True) (ss.length≤1000000):=⟨fun hp w hw=>(Uw w s ss (hs.h w hw) hp).mono fun e w' ⟨x,h1,h2,h3⟩=>⟨x,h1,h2,hw.call h3⟩⟩
theorem Ux(w:World)(s:Sv)(ss:List Ft)(hs:bQ di 4 (hp w) s ss)(bb:ss.length≤1000000):Calls Tryz.prog 69 #[s.val] w fun e w'=> ∃zz:Sv,e= .returned (zz.val)∧(True)∧Mem w [own di 4 zz ss] w':=by
 have ve:Gv w s di 4 ss:=⟨hs⟩
 refine ba (args:=[_]) Tryz.func69 rfl Tryz.ntmps69 rfl ?_
 change Cw _ _ _ _ _ [(0,s.val)] []
 refine Gc ?_
 refine Gs ?_
 refine Gc ?_
 refine Gs ?_
 refine ag (rX Tryz.underlying23 rfl) ?_
 refine Gc ?_
 refine au rfl (fun h0=> ?_) (fun h0=> ?_)
 ·
  replace h0:=bz h0
  have e0:ss=[]:=List.length_eq_zero_iff.1 (by have:=hs.ok.nil h0;have:=hs.len;omega)
  refine Gc ?_
  refine Gs ?_
  refine Gc ?_
  refine aq (.inl rfl) (aI rfl (ak rfl)) (fun w1 hw=> ?_)
  exact⟨Sv.none,rfl,trivial,by rw[e0];exact(ah.mem hw:Mem w [] _).dP di 4⟩
 ·
  replace h0:=bz h0
  refine Gc ?_
  refine tc di fun b5=> ?_
  refine Gs ?_
  refine mg (s:=⟨false,b5,0,0,0,none⟩) (enc:=di) (ys:=ss) rfl rfl (by decide) (fun w hw=>kN (s:=s) Tryz.underlying23 (by decide) ((inferInstance:c0 _ _ di 4 s ss).h w hw)) (by simp only[List.length_nil];omega) (by simp only[List.length_nil];omega) fun s7 vf tF=> ?_
  refine Gs ?_
  refine Gc ?_
  refine aq (.inl rfl) (aI rfl (ak rfl)) (fun w1 hw=> ?_)
  exact⟨s7,rfl,trivial,by rw[List.nil_append]at hw;exact ah.mem hw⟩
instance agd{w0:World}{L:List ai}{s:Sv}{ss:List Ft}[hs:c0 w0 L di 4 s ss]:cl Tryz.prog 69 w0 L [s.val] (Sv) (fun zz=>zz.val) (fun zz=>own di 4 zz ss::L) (fun zz=>True) (ss.length≤1000000):=⟨fun hp w hw=>(Ux w s ss (hs.h w hw) hp).mono fun e w' ⟨x,h1,h2,h3⟩=>⟨x,h1,h2,hw.call h3⟩⟩
theorem Uy(w:World)(ps:Sl (Sl UInt8))(zp:Deep.aY (hp w) ps)(bb:EI (aJ ps.xs)):Calls Tryz.prog 108 #[ps.sv.val] w fun e w'=> ∃zz:Sl (Sl UInt8),e= .returned (zz.sv.val)∧(aJ zz.xs=aJ ps.xs)∧Mem w [eS zz] w':=by
 have age:cg w ps:=⟨zp⟩
 obtain⟨kG,iK⟩:=bb
 have bU:=jo ps.xs
 rw[bU]at kG
 refine ba (args:=[_]) Tryz.func108 rfl Tryz.ntmps108 rfl ?_
 change Cw _ _ _ _ _ [(0,ps.sv.val)] []
 refine Gc ?_
 refine Gs ?_
 refine Gc ?_
 refine Gs ?_
 refine ag (rX Tryz.underlying46 rfl) ?_
 refine Gc ?_
 refine au rfl (fun h0=> ?_) (fun h0=> ?_)
 ·
  replace h0:=bz h0
  have e0:ps.xs=[]:=List.length_eq_zero_iff.1 (by have:=zp.1.ok.nil h0;have:=zp.1.len;omega)
  refine Gc ?_
  refine Gs ?_
  refine Gc ?_
  refine aq (.inl rfl) (aI rfl (ak rfl)) (fun w1 hw=> ?_)
  exact⟨⟨Sv.none,[]⟩,rfl,by rw[e0],R6 (Mem.dP (bY (τ:=UInt8)) 1 (ah.mem hw:Mem w [] _))⟩
 ·
  replace h0:=bz h0
  refine Gc ?_
  refine Gs ?_
  refine Gc ?_
  iterate 3 refine Gs ?_
  refine Gc ?_
  refine ca (X:=Nat×Nat) (fun zz=>[(15, .int .i64 (zz.1:Nat)),(3, .int .i64 (zz.2:Nat)),(0,ps.sv.val),(13,ps.sv.val),(14, .int .i64 (ps.xs.length:Nat))]) (fun zz=>[]) (fun zz=>zz.1≤ps.xs.length∧zz.2=((aJ ps.xs).take zz.1).flatten.length) (fun zz=>ps.xs.length -zz.1) (0,0) ⟨Nat.zero_le _,by simp⟩ (Sub.cons rfl (Sub.cons rfl (Sub.cons rfl (Sub.cons rfl (Sub.cons rfl (Sub.nil _)))))) (fun w hw=>ah.mem hw) ?_
  rintro⟨i,mm⟩ ⟨bh,aF⟩
  dsimp only
  simp only at bh aF
  refine Gc ?_
  refine Gs ?_
  refine Gc ?_
  refine au rfl (fun h1=> ?_) (fun h1=> ?_)
  ·
   replace h1:=bz h1
   obtain⟨y,hy⟩:=get_some (xs:=ps.xs) (i:=i) (by omega)
   have L7:Mb y ps:=⟨List.mem_of_getElem? hy⟩
   have w9:=yW (kS hy)
   have iO:=yX (aJ ps.xs) (i+1)
   refine Gc ?_
   refine ag (bg rfl rfl i rfl (by omega)) ?_
   refine ag (bL (j:=0) rfl i hy rfl (by decide)) ?_
   have agf:Mb y _:=⟨List.mem_of_getElem? hy⟩
   refine Gs ?_
   refine Gc ?_
   iterate 5 refine Gs ?_
   refine Gc ?_
   iterate 2 refine Gs ?_
   refine Gi ?_
   exact bx (x:=(i,mm)) (i+1,mm+y.xs.length) ⟨by first|omega|(simp only[];omega),by rw[aF,w9]⟩ (by simp only;omega) (Sub.cons rfl (Sub.cons rfl (Sub.cons rfl (Sub.cons rfl (Sub.cons rfl (Sub.nil _)))))) (fun w hw=>ah.mem hw)
  ·
   replace h1:=bz h1
   obtain rfl:i=ps.xs.length:=by omega
   rw[List.take_of_length_le (by omega)]at aF
   have hN:mm=(aJ ps.xs).flatten.length:=aF
   refine Gc ?_
   refine Gs ?_
   refine s9 (enc:=aM) (n:=0) (cap:=mm) 0 rfl rfl rfl rfl rfl (by omega) (by omega) (by omega) fun tG=> ?_
   refine Gs ?_
   refine Gc ?_
   iterate 2 refine Gs ?_
   refine s9 (enc:=bY (τ:=UInt8)) (n:=ps.xs.length) (cap:=ps.xs.length) (⟨Sv.none,[]⟩:Sl UInt8) rfl rfl rfl rfl rfl (by omega) (by omega) (by omega) fun Ct=> ?_
   refine Gs ?_
   refine Gc ?_
   iterate 3 refine Gs ?_
   refine Gc ?_
   refine ca (X:=Nat×Nat×List UInt8×List (Sl UInt8)) (fun zz=>[(31, .int .i64 (zz.1:Nat)),(6,(⟨false,tG,0,zz.2.1,mm,none⟩:Sv).val),(7,(⟨false,Ct,0,ps.xs.length,ps.xs.length,none⟩:Sv).val),(29,ps.sv.val),(30, .int .i64 (ps.xs.length:Nat))]) (fun zz=>[own aM 1 ⟨false,tG,0,zz.2.1,mm,none⟩ zz.2.2.1,own (bY (τ:=UInt8)) 1 ⟨false,Ct,0,ps.xs.length,ps.xs.length,none⟩ zz.2.2.2]) (fun zz=>zz.1≤ps.xs.length∧zz.2.1=zz.2.2.1.length∧zz.2.2.1=((aJ ps.xs).take zz.1).flatten∧zz.2.2.2=dm ⟨false,tG,0,mm,mm,none⟩ 0 ((aJ ps.xs).take zz.1)++List.replicate (ps.xs.length -zz.1) (⟨Sv.none,[]⟩:Sl UInt8)) (fun zz=>ps.xs.length -zz.1) (0,0,List.replicate 0 0,List.replicate ps.xs.length (⟨Sv.none,[]⟩:Sl UInt8)) ⟨Nat.zero_le _,rfl,by simp,by simp[dm]⟩ (Sub.cons rfl (Sub.cons rfl (Sub.cons rfl (Sub.cons rfl (Sub.cons rfl (Sub.nil _)))))) (fun w hw=>ah.mem hw) ?_
   rintro⟨i,m,r,zs⟩ ⟨bh,aF,bt,cS⟩
   dsimp only
   simp only at bh aF bt cS
   refine Gc ?_
   refine Gs ?_
   refine Gc ?_
   refine au rfl (fun h2=> ?_) (fun h2=> ?_)
   ·
    replace h2:=bz h2
    obtain⟨y,hy⟩:=get_some (xs:=ps.xs) (i:=i) (by omega)
    have L7:Mb y ps:=⟨List.mem_of_getElem? hy⟩
    have w9:=yW (kS hy)
    have iO:=yX (aJ ps.xs) (i+1)
    have tH:r.length+y.xs.length≤mm:=by rw[hN,bt,←w9];exact iO
    have nP:=get_some (xs:=zs) (i:=i) (by rw[cS,List.length_append,EG,List.length_take,List.length_replicate];omega)
    obtain⟨z,hz⟩:=nP
    have oK:i<zs.length:=(List.getElem?_eq_some_iff.1 hz).1
    refine Gc ?_
    refine Gs ?_
    refine ag (bg rfl rfl i rfl (by omega)) ?_
    refine ag (bL (j:=0) rfl i hy rfl (by decide)) ?_
    have agh:Mb y _:=⟨List.mem_of_getElem? hy⟩
    iterate 2 refine Gs ?_
    refine Gc ?_
    iterate 3 refine Gs ?_
    refine Gc ?_
    iterate 2 refine Gs ?_
    refine R0 (s:=⟨false,tG,0,m,mm,none⟩) (enc:=aM) (xs:=r) (ys:=y.xs) rfl rfl (fun w hw=>kN (s:=y.sv) Tryz.underlying38 (by decide) ((inferInstance:c0 _ _ aM 1 y.sv y.xs).h w hw)) rfl (by simp only;omega) (by simp only;omega) ?_
    refine Gs ?_
    refine Gc ?_
    iterate 8 refine Gs ?_
    refine ag (Ry.to (v':=(fE (⟨false,tG,0,mm,mm,none⟩:Sv) r.length (r.length+y.xs.length)).val) (JA (l:=r.length) (h:=(r++y.xs).length) (m:=(r++y.xs).length) rfl rfl rfl rfl rfl rfl rfl (by simp) (by simp) (by simp)) (by simp[fE,Sv.sub,Sv.top])) ?_
    refine ag (bg rfl rfl i rfl (by omega)) ?_
    refine A3 (s:=⟨false,Ct,0,ps.xs.length,ps.xs.length,none⟩) (xs:=zs) (k:=i) (a:=z) (⟨(fE (⟨false,tG,0,mm,mm,none⟩:Sv) r.length (r.length+y.xs.length)),y.xs⟩:Sl UInt8) (by kernel_rfl) rfl rfl (by omega) hz ?_
    refine Gc ?_
    iterate 2 refine Gs ?_
    refine Gi ?_
    exact bx (x:=(i,m,r,zs)) (i+1,m+y.xs.length,r++y.xs,zs.set i ⟨(fE (⟨false,tG,0,mm,mm,none⟩:Sv) r.length (r.length+y.xs.length)),y.xs⟩) ⟨by first|omega|(simp only[];omega),by rw[List.length_append,aF],by rw[bt,List.take_add_one,kS hy];simp,by rw[cS];exact R8 (by rw[bU]) bt (kS hy)⟩ (by simp only;omega) (Sub.cons rfl (Sub.cons rfl (Sub.cons rfl (Sub.cons rfl (Sub.cons rfl (Sub.nil _)))))) (fun w hw=>ah.mem hw)
   ·
    replace h2:=bz h2
    obtain rfl:i=ps.xs.length:=by omega
    rw[List.take_of_length_le (by omega)]at bt cS
    rw[Nat.sub_self,List.replicate_zero,List.append_nil]at cS
    refine Gc ?_
    iterate 2 refine Gs ?_
    refine Gc ?_
    refine aq (.inl rfl) (aI rfl (ak rfl)) (fun w1 hw=> ?_)
    exact⟨⟨⟨false,Ct,0,ps.xs.length,ps.xs.length,none⟩,zs⟩,rfl,by rw[cS,tk],JP (rm:=⟨false,tG,0,mm,mm,none⟩) cS rfl (by rw[show m=mm by rw[aF,bt,hN],bt]at hw;exact ah.mem hw)⟩
instance agi{w0:World}{L:List ai}{ps:Sl (Sl UInt8)}[zp:aU w0 L ps]:cl Tryz.prog 108 w0 L [ps.sv.val] (Sl (Sl UInt8)) (fun zz=>zz.sv.val) (fun zz=>eS zz::L) (fun zz=>aJ zz.xs=aJ ps.xs) (EI (aJ ps.xs)):=⟨fun hp w hw=>(Uy w ps (zp.h w hw) hp).mono fun e w' ⟨x,h1,h2,h3⟩=>⟨x,h1,h2,hw.call h3⟩⟩
open Go.aC Go.Kb
open Go.RowKit
theorem Uz(w:World)(c:Cp)(hc:Deep.aY (hp w) c)(bb:dQ c):Calls Tryz.prog 67 #[.agg (aB c)] w fun e w'=> ∃zz:Cp,e= .returned (.agg (aB zz))∧(cv zz=cv c)∧Mem w [own bI 4 zz.blocks.sv zz.blocks.xs,ai.all (zz.blocks.xs.map fun b:Bk=>eS b.pages),own di 4 zz.aR.sv zz.aR.xs] w':=by
 have jR:cg w c:=⟨hc⟩
 obtain⟨kG,iK,nQ⟩:=bb
 refine ba (args:=[_]) Tryz.func67 rfl Tryz.ntmps67 rfl ?_
 change Cw _ _ _ _ _ [(0, .agg (aB c))] []
 refine Gc ?_
 refine bX rfl fun b1=> ?_
 refine bK fun b2=> ?_
 refine Gc ?_
 iterate 2 refine Gs ?_
 refine bq rfl (by omega) fun x6 L8=> ?_
 refine Gs ?_
 refine eN (cs':=aB (⟨c.pages,c.size,⟨x6,c.blocks.xs⟩,c.ops,c.off,c.aR⟩:Cp)) rfl rfl (by show 2<6;decide) (by first|rfl|exact Sv.one _) rfl ?_
 refine Gc ?_
 iterate 4 refine Gs ?_
 refine Gc ?_
 refine ca (X:=Nat×List Bk) (fun zz=>[(11, .int .i64 (zz.1:Nat)),(1, .pointer (some ⟨b1,0,none⟩)),(2, .pointer (some ⟨b2,0,none⟩)),(10, .int .i64 (c.blocks.xs.length:Nat))]) (fun zz=>[own bI 4 x6 zz.2,ai.all ((zz.2.take zz.1).map fun b:Bk=>eS b.pages),ar b2 (aB fX) 25,ar b1 (aB (⟨c.pages,c.size,⟨x6,zz.2⟩,c.ops,c.off,c.aR⟩:Cp)) 25]) (fun zz=>zz.1≤c.blocks.xs.length∧zz.2.length=c.blocks.xs.length∧gu zz.2=gu c.blocks.xs∧ ∀j,zz.1≤j→zz.2[j]? =c.blocks.xs[j]?) (fun zz=>c.blocks.xs.length -zz.1) (0,c.blocks.xs) ⟨Nat.zero_le _,rfl,rfl,fun _ _=>rfl⟩ (Sub.cons rfl (Sub.cons rfl (Sub.cons rfl (Sub.cons rfl (Sub.nil _))))) (fun w hw=>by
  simp only[List.take_zero,List.map_nil];exact ah.mem (Mem.uR hw)) ?_
 rintro⟨i,zs⟩ ⟨bh,aF,bt,cS⟩
 dsimp only
 simp only at bh aF bt cS
 refine Gc ?_
 refine Gs ?_
 refine Gc ?_
 refine au rfl (fun h0=> ?_) (fun h0=> ?_)
 ·
  replace h0:=bz h0
  obtain⟨z,hz⟩:=get_some (xs:=zs) (i:=i) (by omega)
  have tI:Mb z c.blocks:=⟨List.mem_of_getElem? (by rw[←cS i (Nat.le_refl _)];exact hz)⟩
  refine Gc ?_
  iterate 2 refine Gs ?_
  iterate 2 refine Gi ?_
  refine Bp (s:=x6) (enc:=bI) (c:=4) (xs:=zs) inferInstance (by omega) fun hn6 hs6 UA UB=> ?_
  refine jn [9,12,1003,1004,1006,1007,1008,1010,1011] [[],[],[],[],[3],[],[3,4],[3,4,6],[3,4,6,7],[3,4,6,7,8],[3,4,6,7,8,9],[3,4,6,7,8,9,10],[3,4,6,7,8,9,10,11]] [0,1,2,3,4,5,6,7,8,9,10,11,12] [ar b1 (aB (⟨c.pages,c.size,⟨x6,zs⟩,c.ops,c.off,c.aR⟩:Cp)) 25] (fun _ hw=>ah.mem hw) (by kernel_rfl) (by kernel_rfl) ?_
  refine al rfl (aH (o':=2) rfl rfl) ?_
  refine al rfl (bH rfl) ?_
  refine al rfl (aD rfl) ?_
  refine kr rfl (aH (o':=2) rfl rfl) ?_
  refine kr rfl (bH rfl) ?_
  refine al rfl (aD rfl) ?_
  refine kr rfl (bg rfl rfl i rfl (by omega)) ?_
  refine kr rfl (aH rfl rfl) ?_
  refine kr rfl (bL (j:=0) rfl i hz rfl (by decide)) ?_
  refine dE rfl (nG rfl (nQ z tI.h) fun mA Cu=>⟨fun _ hw=>ah.mem hw,?_⟩)
  refine kr rfl (lK (s:=x6) (i:=i) rfl rfl rfl UA (by omega)) ?_
  refine kr rfl (aH rfl rfl) ?_
  refine dE rfl (uO (n:=1) (k:=i) (j:=0) (a:=z) (a':=({z with pages:=mA}:Bk)) (xs:=zs) (enc:=bI) (c:=4) (v:=mA.sv.val) (by kernel_rfl) rfl rfl rfl hz (by rw[Sv.iU];simp[Sv.one]) (by rw[Sv.iU];rfl) (by decide) (by rw[Sv.iU];rfl) ⟨fun _ hw=>ah.mem hw,?_⟩)
  refine Gc ?_
  iterate 2 refine Gs ?_
  refine Gi ?_
  exact bx (x:=(i,zs)) (i+1,zs.set i ({z with pages:=mA}:Bk)) ⟨by first|omega|(simp only[];omega),by rw[List.length_set];exact aF,by rw[uT,←bt,show bv ({z with pages:=mA}:Bk)=bv z from by rw[bv,bv,Cu],←uT,tl hz],fun j hj=>by rw[List.getElem?_set_ne (by first|omega|(simp only[];omega))];exact cS j (by first|omega|(simp only[];omega))⟩ (by simp only;omega) (Sub.cons rfl (Sub.cons rfl (Sub.cons rfl (Sub.cons rfl (Sub.nil _))))) (fun w hw=>by
   have h1:=Mem.wC (e:=eS mA) (es:=(zs.take i).map fun b:Bk=>eS b.pages) (ah.mem hw:Mem _ (eS mA::ai.all ((zs.take i).map fun b:Bk=>eS b.pages)::[own bI 4 x6 (zs.set i ({z with pages:=mA}:Bk)),ar b2 (aB fX) 25,ar b1 (aB (⟨c.pages,c.size,⟨x6,zs⟩,c.ops,c.off,c.aR⟩:Cp)) 25]) _)
   rw[Sh (z':=({z with pages:=mA}:Bk)) hz]at h1
   exact(ah.mem h1:Mem _ [own bI 4 x6 (zs.set i ({z with pages:=mA}:Bk)),ai.all (((zs.set i ({z with pages:=mA}:Bk)).take (i+1)).map fun b:Bk=>eS b.pages),ar b2 (aB fX) 25,ar b1 (aB (⟨c.pages,c.size,⟨x6,zs⟩,c.ops,c.off,c.aR⟩:Cp)) 25] _))
 ·
  replace h0:=bz h0
  obtain rfl:i=zs.length:=by omega
  rw[List.take_of_length_le (Nat.le_refl _)]at*
  refine Gc ?_
  refine Gs ?_
  refine ag (Ry.to (v':=c.aR.sv.val) (bH rfl) rfl) ?_
  refine bq rfl (by omega) fun xd F1=> ?_
  refine Gs ?_
  refine eN (cs':=aB (⟨c.pages,c.size,⟨x6,zs⟩,c.ops,c.off,⟨xd,c.aR.xs⟩⟩:Cp)) rfl rfl (by show 5<6;decide) (by first|rfl|exact Sv.one _) rfl ?_
  refine Gc ?_
  iterate 2 refine Gs ?_
  refine Gc ?_
  refine aq (.inl rfl) (aI rfl (cc rfl)) (fun w1 hw=> ?_)
  exact⟨⟨c.pages,c.size,⟨x6,zs⟩,c.ops,c.off,⟨xd,c.aR.xs⟩⟩,rfl,by simp only[cv,bt],ah.mem hw⟩
instance agj{w0:World}{L:List ai}{c:Cp}[hc:aU w0 L c]:cl Tryz.prog 67 w0 L [.agg (aB c)] (Cp) (fun zz=> .agg (aB zz)) (fun zz=>own bI 4 zz.blocks.sv zz.blocks.xs::ai.all (zz.blocks.xs.map fun b:Bk=>eS b.pages)::own di 4 zz.aR.sv zz.aR.xs::L) (fun zz=>cv zz=cv c) (dQ c):=⟨fun hp w hw=>(Uz w c (hc.h w hw) hp).mono fun e w' ⟨x,h1,h2,h3⟩=>⟨x,h1,h2,hw.call h3⟩⟩
theorem UC(w:World)(c:Cp)(b:Int)(hc:Deep.aY (hp w) c):Calls Tryz.prog 159 #[.agg (aB c), .int .i64 b] w fun e w'=>e= .returned (.bool (fY (cv c) b))∧Mem w [] w':=by
 have jR:cg w c:=⟨hc⟩
 refine ba (args:=[_,_]) Tryz.func159 rfl Tryz.ntmps159 rfl ?_
 change Cw _ _ _ _ _ [(0, .agg (aB c)),(1, .int .i64 b)] []
 refine Gc ?_
 refine bX rfl fun b2=> ?_
 refine Gs ?_
 refine Gc ?_
 iterate 3 refine Gs ?_
 iterate 2 refine Gg ?_
 iterate 2 refine Gs ?_
 iterate 5 refine Gg ?_
 iterate 2 refine Gs ?_
 refine Gc ?_
 refine aq (.inl rfl) (aI rfl (ak rfl)) (fun w1 hw=> ?_)
 exact⟨congrArg (fun b=>Ending.returned (Value.bool b)) ((by simp only[fY,cv,fu])),ah.mem hw⟩
instance agk{w0:World}{L:List ai}{c:Cp}{b:Int}[hc:aU w0 L c]:cB Tryz.prog 159 w0 L [.agg (aB c), .int .i64 b] (.bool (fY (cv c) b)) (True):=⟨fun hp w hw=>UC w c b (hc.h w hw)⟩
theorem UD(w:World)(c:Cp)(hc:Deep.aY (hp w) c)(bb:c.aR.xs.length≤1000000):Calls Tryz.prog 160 #[.agg (aB c)] w fun e w'=>e= .returned (.tuple #[.agg (di ((bn (cv c)).1)), .bool ((bn (cv c)).2)])∧Mem w [] w':=by
 have jR:cg w c:=⟨hc⟩
 refine ba (args:=[_]) Tryz.func160 rfl Tryz.ntmps160 rfl ?_
 change Cw _ _ _ _ _ [(0, .agg (aB c))] []
 refine Gc ?_
 refine bX rfl fun b1=> ?_
 refine bK fun b2=> ?_
 refine Gs ?_
 refine Gc ?_
 iterate 4 refine Gs ?_
 refine Gc ?_
 refine ca (X:=Nat) (fun zz=>[(9, .int .i64 (zz:Nat)),(1, .pointer (some ⟨b1,0,none⟩)),(2, .pointer (some ⟨b2,0,none⟩)),(7,c.aR.sv.val),(8, .int .i64 (c.aR.xs.length:Nat))]) (fun zz=>[ar b2 (di wy) 94,ar b1 (aB c) 25]) (fun zz=>zz≤c.aR.xs.length∧ ∀j f,j<zz→c.aR.xs[j]? =Option.some f→f.op≠c.ops) (fun zz=>c.aR.xs.length -zz) 0 ⟨Nat.zero_le _,fun j f hj=>by first|omega|(simp only[];omega)⟩ (Sub.cons rfl (Sub.cons rfl (Sub.cons rfl (Sub.cons rfl (Sub.cons rfl (Sub.nil _)))))) (fun w hw=>ah.mem hw) ?_
 rintro i ⟨bh,aF⟩
 refine Gc ?_
 refine Gs ?_
 refine Gc ?_
 refine au rfl (fun h0=> ?_) (fun h0=> ?_)
 ·
  replace h0:=bz h0
  iterate 6 refine Gi ?_
  obtain⟨f,hf⟩:=get_some (xs:=c.aR.xs) (i:=i) (by omega)
  refine ag (bg rfl rfl i rfl (by omega)) ?_
  refine ag (gG rfl i hf rfl) ?_
  refine bK fun b5=> ?_
  refine Gs ?_
  refine Gc ?_
  iterate 5 refine Gs ?_
  refine Gc ?_
  refine au rfl (fun h1=> ?_) (fun h1=> ?_)
  ·
   replace h1:=bz h1
   have hs:bn (cv c)=(f,f.cut||f.fail):=Sj hf aF h1
   refine Gi ?_
   refine jn [7] [[],[],[],[],[],[],[],[],[7]] [0,1,2,3,4,5,6,7,8] [ar b5 (di f) 94,ar b1 (aB c) 25] (fun _ hw=>ah.mem hw) (by kernel_rfl) (by kernel_rfl) ?_
   refine al rfl (fI rfl) ?_
   refine al rfl (aH (o':=2) rfl rfl) ?_
   refine al rfl (bH rfl) ?_
   refine al rfl (aD rfl) ?_
   refine Ju rfl rfl rfl rfl (fun hg=>(Ry.yl (aH (o':=1) rfl rfl))) ?_
   refine Ju rfl rfl rfl rfl (fun hg=>(Ry.yl (bH (aG hg rfl)))) ?_
   refine al rfl (mL rfl rfl rfl) ?_
   refine dE rfl (ox rfl rfl ⟨fun _ hw=>ah.mem hw,?_⟩)
   refine al rfl (bl rfl) ?_
   refine Gc ?_
   refine aq (.inl rfl) (bm rfl (cc rfl) (ak rfl)) (fun w1 hw=> ?_)
   exact⟨(by rw[hs]),ah.mem hw⟩
  ·
   replace h1:=bz h1
   refine Gc ?_
   iterate 2 refine Gs ?_
   refine Gi ?_
   exact bx (x:=(i)) (i+1) ⟨by first|omega|(simp only[];omega),fun j g hj hg=>if e:j=i then(by subst e;rw[hf]at hg;cases hg;exact h1)else aF j g (by first|omega|(simp only[];omega)) hg⟩ (by first|omega|(simp only[];omega)) (Sub.cons rfl (Sub.cons rfl (Sub.cons rfl (Sub.cons rfl (Sub.cons rfl (Sub.nil _)))))) (fun w hw=>ah.mem hw)
 ·
  replace h0:=bz h0
  obtain rfl:i=c.aR.xs.length:=by omega
  have hs:bn (cv c)=(wy,false):=Si (fun f hf=>by
   obtain⟨j,hj⟩:=List.getElem?_of_mem hf
   exact aF j f (List.getElem?_eq_some_iff.1 hj).1 hj)
  refine Gc ?_
  refine ag (cR (v:= .agg (di wy)) rfl (fun w=>by kernel_rfl)) ?_
  iterate 2 refine Gs ?_
  refine Gc ?_
  refine aq (.inl rfl) (bm rfl (cc rfl) (ak rfl)) (fun w1 hw=> ?_)
  exact⟨(by rw[hs]),ah.mem hw⟩
instance agl{w0:World}{L:List ai}{c:Cp}[hc:aU w0 L c]:cB Tryz.prog 160 w0 L [.agg (aB c)] (.tuple #[.agg (di ((bn (cv c)).1)), .bool ((bn (cv c)).2)]) (c.aR.xs.length≤1000000):=⟨fun hp w hw=>UD w c (hc.h w hw) hp⟩
theorem UE(w:World)(f:Ft):Calls Tryz.prog 161 #[.agg (di f)] w fun e w'=>e= .returned (.tuple #[.bool f.cut, .int .i64 (kt f)])∧Mem w [] w':=by
 refine ba (args:=[_]) Tryz.func161 rfl Tryz.ntmps161 rfl ?_
 change Cw _ _ _ _ _ [(0, .agg (di f))] []
 refine Gc ?_
 refine bX rfl fun b1=> ?_
 iterate 2 refine Gs ?_
 refine Gc ?_
 iterate 2 refine Gs ?_
 refine Gc ?_
 refine au rfl (fun h0=> ?_) (fun h0=> ?_)
 ·
  replace h0:=bz h0
  refine Gc ?_
  iterate 2 refine Gs ?_
  refine Gc ?_
  refine aq (.inl rfl) (bm rfl (ak rfl) (ak rfl)) (fun w1 hw=> ?_)
  exact⟨(by rw[kt,if_pos h0,h0]),ah.mem hw⟩
 ·
  replace h0:=bz h0
  refine Gc ?_
  iterate 2 refine Gs ?_
  refine Gc ?_
  refine aq (.inl rfl) (bm rfl (ak rfl) (ak rfl)) (fun w1 hw=> ?_)
  exact⟨(by rw[kt,if_neg (by rw[h0];simp),h0]),ah.mem hw⟩
instance agm{w0:World}{L:List ai}{f:Ft}:cB Tryz.prog 161 w0 L [.agg (di f)] (.tuple #[.bool f.cut, .int .i64 (kt f)]) (True):=⟨fun hp w hw=>UE w f⟩
open Go.aC Go.Kb
open Go.RowKit
theorem UF(w:World)(c:Cp)(b:Int)(hc:Deep.aY (hp w) c)(bb:dQ c):Calls Tryz.prog 162 #[.agg (aB c), .int .i64 b] w fun e w'=> ∃zz:Cp,e= .returned (.tuple #[.agg (aB zz), .int .i64 (m7 (cv c) b)])∧(cv zz=ku (cv c) b)∧Mem w [fz zz] w':=by
 have jR:cg w c:=⟨hc⟩
 have kf:dQ c:=bb
 obtain⟨kG,iK,nQ⟩:=bb
 refine ba (args:=[_,_]) Tryz.func162 rfl Tryz.ntmps162 rfl ?_
 change Cw _ _ _ _ _ [(0, .agg (aB c)),(1, .int .i64 b)] []
 refine Gc ?_
 refine bX rfl fun b2=> ?_
 refine bK fun b4=> ?_
 refine Gs ?_
 refine Gc ?_
 refine Gs ?_
 refine bq rfl (by assumption) fun x8 pD=> ?_
 refine bK fun b6=> ?_
 refine Gs ?_
 refine Gc ?_
 iterate 4 refine Gs ?_
 refine Gc ?_
 refine au rfl (fun h0=> ?_) (fun h0=> ?_)
 ·
  replace h0:=bz h0
  have hE:m7 (cv c) b=1:=by rw[m7,if_neg (by rw[h0];simp)]
  refine Gc ?_
  iterate 3 refine Gs ?_
  refine Gc ?_
  refine aq (.inl rfl) (bm rfl (cc rfl) (ak rfl)) (fun w1 hw=> ?_)
  exact⟨x8,by rw[hE],by rw[pD,ku,if_neg (by rw[hE];decide)],m8 x8 (ah.mem hw)⟩
 ·
  replace h0:=bz h0
  have hk:fY (cv c) b=true:=h0
  have hh:=hk
  have Cv:=(gv.1 hh).2
  have dt:x8.blocks.xs.length=c.blocks.xs.length:=by have:=congrArg (fun v:CV=>v.blocks.length) pD;simpa only[cv,fu]using this
  have xe:x8.ops=c.ops:=congrArg CV.ops pD
  have oI:(cv c).blocks.length=c.blocks.xs.length:=fu _
  obtain⟨B,hB⟩:=get_some (xs:=x8.blocks.xs) (i:=b.toNat) (by omega)
  have mB:b.toNat<x8.blocks.xs.length:=(List.getElem?_eq_some_iff.1 hB).1
  have eH:bv B=aj (cv c) b:=by
   have h1:=BB hh
   have h2:=iV hB
   rw[show gu x8.blocks.xs=(cv c).blocks from congrArg CV.blocks pD,h1]at h2
   exact(Option.some.inj h2).symm
  have fP:mo c.pages c.size (bv B)=true:=by rw[eH];exact oB hh
  obtain⟨o1,o2,o3,o4,o5,o6⟩:=dX.1 fP
  have gX:=jI.1 (eU.1 (gv.1 hh).1).1
  have zq:=(eU.1 (gv.1 hh).1).2.1
  simp only[bv,cv]at o1 o2 o3 o4 o5 o6 gX zq
  have L9:=jo B.pages.xs
  refine Gc ?_
  iterate 2 refine Gs ?_
  refine Gc ?_
  refine au rfl (fun h1=> ?_) (fun h1=> ?_)
  ·
   replace h1:=bz h1
   have hE:m7 (cv c) b=7:=by rw[m7,if_pos hk,if_pos (show(cv c).off=true from h1)]
   refine Gc ?_
   iterate 3 refine Gs ?_
   refine Gc ?_
   refine aq (.inl rfl) (bm rfl (cc rfl) (ak rfl)) (fun w1 hw=> ?_)
   exact⟨x8,by rw[hE],by rw[pD,ku,if_neg (by rw[hE];decide)],m8 x8 (ah.mem hw)⟩
  ·
   replace h1:=bz h1
   have hE:m7 (cv c) b=0:=by rw[m7,if_pos hk,if_neg (by rw[show(cv c).off=false from h1];simp)]
   refine Gc ?_
   iterate 3 refine Gs ?_
   refine ag (bg rfl rfl b.toNat (by omega) mB) ?_
   refine ag (aH rfl rfl) ?_
   refine kO (s:=x8.blocks.sv) (n:=1) (k:=b.toNat) (j:=3) (a:=B) (a':=(⟨B.pages,B.used,B.aS,true⟩:Bk)) (xs:=x8.blocks.xs) (enc:=bI) (c:=4) (v:= .bool true) (by kernel_rfl) rfl rfl rfl hB (by simp[Value.cells,Value.oneCell']) (by rfl) (by decide) (by rfl) ?_
   refine Gc ?_
   iterate 3 refine Gs ?_
   refine Gc ?_
   refine aq (.inl rfl) (bm rfl (cc rfl) (ak rfl)) (fun w1 hw=> ?_)
   exact⟨(⟨x8.pages,x8.size,⟨x8.blocks.sv,x8.blocks.xs.set b.toNat (⟨B.pages,B.used,B.aS,true⟩:Bk)⟩,x8.ops,x8.off,x8.aR⟩:Cp),by rw[hE];rfl,by rw[Ss pD eH,ku,if_pos hE],m8 (⟨x8.pages,x8.size,⟨x8.blocks.sv,x8.blocks.xs.set b.toNat (⟨B.pages,B.used,B.aS,true⟩:Bk)⟩,x8.ops,x8.off,x8.aR⟩:Cp) (by
    simp only[Sr hB (B':=(⟨B.pages,B.used,B.aS,true⟩:Bk)) rfl]
    exact ah.mem hw)⟩
instance agn{w0:World}{L:List ai}{c:Cp}{b:Int}[hc:aU w0 L c]:cl Tryz.prog 162 w0 L [.agg (aB c), .int .i64 b] (Cp) (fun zz=> .tuple #[.agg (aB zz), .int .i64 (m7 (cv c) b)]) (fun zz=>fz zz::L) (fun zz=>cv zz=ku (cv c) b) (dQ c):=⟨fun hp w hw=>(UF w c b (hc.h w hw) hp).mono fun e w' ⟨x,h1,h2,h3⟩=>⟨x,h1,h2,hw.call h3⟩⟩
theorem UG(w:World)(c:Cp)(fs:Sv)(mC:List Ft)(hc:Deep.aY (hp w) c)(F2:bQ di 4 (hp w) fs mC)(bb:dQ c):Calls Tryz.prog 32 #[.agg (aB c),fs.val] w fun e w'=> ∃zz:Cp,e= .returned (.tuple #[.agg (aB zz), .int .i64 (se (cv c) mC)])∧(cv zz=wA (cv c) mC)∧Mem w [fz zz] w':=by
 have jR:cg w c:=⟨hc⟩
 have ago:Gv w fs di 4 mC:=⟨F2⟩
 have kf:dQ c:=bb
 obtain⟨kG,iK,nQ⟩:=bb
 refine ba (args:=[_,_]) Tryz.func32 rfl Tryz.ntmps32 rfl ?_
 change Cw _ _ _ _ _ [(0, .agg (aB c)),(1,fs.val)] []
 refine Gc ?_
 refine bX rfl fun b2=> ?_
 refine bK fun b4=> ?_
 refine Gs ?_
 refine Gc ?_
 refine Gs ?_
 refine bq rfl (by assumption) fun x8 pD=> ?_
 refine bK fun b6=> ?_
 refine Gs ?_
 refine Gc ?_
 iterate 4 refine Gs ?_
 iterate 3 refine Gg ?_
 refine Gs ?_
 refine Gc ?_
 refine au rfl (fun h0=> ?_) (fun h0=> ?_)
 ·
  replace h0:=bz h0
  have hE:se (cv c) mC=1:=by rw[se,if_neg (fun h=>by rw[h.1]at h0;simp only[Bool.true_eq_false,false_or]at h0;omega)]
  refine Gc ?_
  iterate 3 refine Gs ?_
  refine Gc ?_
  refine aq (.inl rfl) (bm rfl (cc rfl) (ak rfl)) (fun w1 hw=> ?_)
  exact⟨x8,by rw[hE],by rw[pD,wA,if_neg (by rw[hE];decide)],m8 x8 (ah.mem hw)⟩
 ·
  replace h0:=bz h0
  have hE:se (cv c) mC=0:=by
   rw[se,if_pos]
   cases hk:aT (cv c)with
   |false=>rw[hk]at h0;simp at h0
   |true=>exact⟨rfl,by rw[hk]at h0;simp only[Bool.true_eq_false,not_false_eq_true,true_and]at h0;omega⟩
  have ei:mC.length≤64:=by
   by_cases h9:aT (cv c)=true∧mC.length≤64
   ·
    exact h9.2
   ·
    rw[se,if_neg h9]at hE;cases hE
  refine Gc ?_
  refine Gs ?_
  refine eN (cs':=aB (⟨x8.pages,x8.size,x8.blocks,x8.ops,false,x8.aR⟩:Cp)) rfl rfl (by show 4<6;decide) (by first|rfl|exact Sv.one _) rfl ?_
  refine Gc ?_
  refine Gs ?_
  refine bq rfl (by omega) fun gK vg=> ?_
  refine Gs ?_
  refine eN (cs':=aB (⟨x8.pages,x8.size,x8.blocks,x8.ops,false,⟨gK,mC⟩⟩:Cp)) rfl rfl (by show 5<6;decide) (by first|rfl|exact Sv.one _) rfl ?_
  refine Gc ?_
  iterate 3 refine Gs ?_
  refine Gc ?_
  refine aq (.inl rfl) (bm rfl (cc rfl) (ak rfl)) (fun w1 hw=> ?_)
  exact⟨(⟨x8.pages,x8.size,x8.blocks,x8.ops,false,⟨gK,mC⟩⟩:Cp),by rw[hE],by rw[wA,if_pos hE,←pD];rfl,m8 (⟨x8.pages,x8.size,x8.blocks,x8.ops,false,⟨gK,mC⟩⟩:Cp) (ah.mem hw)⟩
instance agp{w0:World}{L:List ai}{c:Cp}{fs:Sv}{mC:List Ft}[hc:aU w0 L c][F2:c0 w0 L di 4 fs mC]:cl Tryz.prog 32 w0 L [.agg (aB c),fs.val] (Cp) (fun zz=> .tuple #[.agg (aB zz), .int .i64 (se (cv c) mC)]) (fun zz=>fz zz::L) (fun zz=>cv zz=wA (cv c) mC) (dQ c):=⟨fun hp w hw=>(UG w c fs mC (hc.h w hw) (F2.h w hw) hp).mono fun e w' ⟨x,h1,h2,h3⟩=>⟨x,h1,h2,hw.call h3⟩⟩
end Go.Proofs.YtaipiecplldinaaGreat

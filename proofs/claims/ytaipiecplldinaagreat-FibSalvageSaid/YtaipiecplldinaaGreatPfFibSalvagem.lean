/- The law FibSalvage holds: blocks that fail are gone round: as long as a batch is done, or there is no room or place, the fib is right, and has the table; a block that is bad is never written again. It holds of all arguments that can be read; its arguments read behind the call as they did. -/
import Derived.Test.YtaipiecplldinaaGreatF6
import Derived.Test.YtaipiecplldinaaGreatF1
import Derived.ProofKit
import Derived.Deep.Slices
import Derived.HandedShaped
import Derived.Test.YtaipiecplldinaaGreatF3
import Derived.Test.YtaipiecplldinaaGreatF2
import Derived.Test.YtaipiecplldinaaGreatF5
import Derived.Test.YtaipiecplldinaaGreatRows
set_option maxRecDepth 20000
set_option linter.unusedSimpArgs false
set_option linter.unusedVariables false
namespace Go.Kb
open Go.ay
theorem Sf.by{x y:WV}{bs:List (List UInt8)}{e:Int}(h:Sf x bs y e)(b:Bool):Sf x bs {y with beyond:=b} e:=⟨h.kd,h.len,h.bh,h.err,h.xJ,h.any,h.off⟩
theorem Sf.cG{x y:WV}{bs:List (List UInt8)}{e:Int}{b:Bool}(h:Sf {x with beyond:=b} bs y e):Sf x bs y e:=⟨h.kd,h.len,h.bh,h.err,h.xJ,h.any,h.off⟩
theorem Sf.ne{x y:WV}{bs:List (List UInt8)}{e:Int}(h:Sf x (ct x.v) y e)(he:e≠0):Sf x bs y e:=
 ⟨h.kd,h.len,fun g=>absurd g he,h.err,h.xJ,by
  obtain⟨u,h1,h2,h3,h4⟩:=h.any
  exact⟨u,h1,h2,h3, .inl (h4.elim id id)⟩,h.off⟩
theorem Sf.stay{x:WV}(h:dx x.v){e:Int}(he:e≠7):Sf x (ct x.v) x e:=by
 have:=Sf.data (x:=x) h (.bW _ _) (e:=e) (bs:=ct x.v) (fun _=>rfl) (fun g=>absurd g he)
 rw[Fe]at this;exact this
theorem Sf.zero{x y:WV}{bs:List (List UInt8)}{e:Int}(h:Sf x bs y e)(h0:e≠0)(h7:e≠7)(h9:e≠9)(h1:e≠1):Sf x (ct x.v) y 0:=by
 have hr:dx y.v∧ct y.v=ct x.v:=(h.err h0).resolve_left fun g=>by
  rcases g with g|g|g
  ·
   exact h7 g
  ·
   exact h9 g
  ·
   exact h1 g.1
 exact⟨h.kd,h.len,fun _=>hr,fun g=>absurd rfl g,fun g=>absurd rfl g,⟨y.v,hr.1,rfl,h.len, .inl hr.2⟩,fun g=>absurd g (by decide)⟩
theorem ZV{x:WV}{src to:Int}(hx:cd x)(h:dx x.v)(bA:fq x.v.ag)(lq:2≤src)(pz:0≤to→to≠src)(ht:0≤to→2≤to∧to<x.v.ag.blocks.length∧(ak x.v.ag to).bad=false):
  Sf x (ct x.v) (cX x src to).1 (cX x src to).2.2∧((cX x src to).2.1=true→(cX x src to).2.2=0∧kW (cX x src to).1.v.at_ x.v.ag src)∧((cX x src to).2.2=6→(cX x src to).1=x.on (cX x src to).1.v.ag):=by
 have hp:1≤x.v.ag.ae:=by have:=hx.ae;omega
 obtain⟨t1,t2,t3,t4⟩:=C5 lq pz hp x.v.at_ 0 (c:=x.v.ag) (a:=x.v.at_) hx.ag h.pl (.bW _ _) h.pl rfl ht rfl (fun _ _=>rfl) (fun j n hj=>by omega) rfl
 rw[cX]
 split
 ·
  rename_i e he
  exact⟨Sf.data h t1 (fun _=>rfl) (fun g=>t3 (by rw[he];exact congrArg some g)),fun g=>absurd (show false=true from g) (by simp),fun _=>rfl⟩
 ·
  rename_i he
  obtain⟨g1,g2,g3,g4⟩:=t2 he
  have dO:=hx.on (t1.ok hx.ag) t1.cx
  have hw:=Hb dO (h.kp t1) (bA.kd t1.toKd) g1 g3
  have hs:=Sf.data h t1 (e:=0) (bs:=ct x.v) (fun _=>rfl) (fun g=>absurd g (by decide))
  have lJ:=hw.1
  rw[show List.map (dX (x.on (bY x.v src to x.v.at_ 0 x.v.ag x.v.at_).c).v.ag) (bY x.v src to x.v.at_ 0 x.v.ag x.v.at_).a=ct x.v from g2]at lJ
  refine⟨hs.trans lJ,fun g=> ?_,fun g=>absurd g (BQ _ _)⟩
  simp only[decide_eq_true_eq]at g
  refine⟨g,?_⟩
  rw[hw.2 g];exact g4
theorem Hc{c:CV}{l:List aA}{fl:List Int}(hd:py c fl l):Kp fl c (bJ c l).1∧((bJ c l).2.2=7→(bJ c l).1.off=true)∧((bJ c l).2.2=0→ ∃(j:Nat) (x:aA),(bJ c l).2.1=(j:Int)+2∧l[j]? =some x∧x.bad=false):=by
 rw[bJ]
 by_cases h1:(kQ c l).2=true
 ·
  rw[if_pos h1]
  obtain⟨x,hx,k1,_,_,k4,_⟩:=og (fun x h=>(uT h).1) h1
  exact⟨.bW _ _,fun h=>absurd (show(0:Int)=7 from h) (by decide),fun _=>⟨_,x,by show(kQ c l).1+2=(((kQ c l).1.toNat:Nat):Int)+2;rw[Int.toNat_of_nonneg (show 0≤(kQ c l).1 from k4)],hx,k1⟩⟩
 ·
  rw[if_neg h1]
  by_cases h2:(jw c l).2=true
  ·
   rw[if_pos h2]
   obtain⟨x,hx,k1,_,_,k4,_⟩:=og (fun x h=>(kA h).1) h2
   obtain⟨d1,d2⟩:=C2 hd h2
   exact⟨vu (by show 2≤(jw c l).1+2;change 0≤(jw c l).1 at d2;omega) d1,zR,fun _=>⟨_,x,by show(jw c l).1+2=(((jw c l).1.toNat:Nat):Int)+2;rw[Int.toNat_of_nonneg (show 0≤(jw c l).1 from k4)],hx,k1⟩⟩
  ·
   rw[if_neg h2]
   by_cases h3:(iX c l).2=true
   ·
    rw[if_pos h3]
    obtain⟨x,hx,k1,_,_,k4,_⟩:=og (fun x h=>(kA h).1) h3
    obtain⟨d1,d2⟩:=C2 hd h3
    exact⟨vu (by show 2≤(iX c l).1+2;change 0≤(iX c l).1 at d2;omega) d1,zR,fun _=>⟨_,x,by show(iX c l).1+2=(((iX c l).1.toNat:Nat):Int)+2;rw[Int.toNat_of_nonneg (show 0≤(iX c l).1 from k4)],hx,k1⟩⟩
   ·
    rw[if_neg h3]
    exact⟨.bW _ _,fun h=>absurd (show(6:Int)=7 from h) (by decide),fun h=>absurd (show(6:Int)=0 from h) (by decide)⟩
theorem He{e:Int}(h:iV e=7):e=7:=by rw[iV]at h;split at h<;>omega
theorem ZW{x:WV}{l:List aA}{i:Int}(hx:cd x)(h:dx x.v)(bA:fq x.v.ag)(ht:kb x.v.ag l)(hd:py x.v.ag x.v.at_ l)(h0:0≤i)(hi:i<l.length):
  Sf x (ct x.v) (ei x l i).1 (ei x l i).2∧((ei x l i).2=6→(ei x l i).1=x.on (ei x l i).1.v.ag):=by
 obtain⟨k1,k2,k3⟩:=Hc (hd.set i.toNat)
 have fS: ∀{e:Int},(e=7→(bJ x.v.ag (l.set i.toNat bb)).1.off=true)→Sf x (ct x.v) (x.on (bJ x.v.ag (l.set i.toNat bb)).1) e:=fun ho=>Sf.data h k1 (fun _=>rfl) ho
 rw[ei]
 by_cases nK:(bZ x.v.ag l i).2≠0
 ·
  rw[if_pos nK]
  refine⟨fS fun g=>k2 ?_,fun _=>rfl⟩
  have g:=He g
  rw[bZ]at g
  split at g
  ·
   cases g
  ·
   exact g
 ·
  rw[if_neg nK]
  have Hf:(bZ x.v.ag l i).2=0:=by simpa using nK
  have oH:=wV (i:=i) hx.ag ht Hf
  have dO:=hx.on (k1.ok hx.ag) k1.cx
  have cF:0≤(bZ x.v.ag l i).1→(bZ x.v.ag l i).1≠i+2:=fun hn e=>by
   have ea:o8 x.v.ag l i=false:=by
    cases hq:o8 x.v.ag l i with
    |false=>rfl
    |true=>rw[bZ,if_pos hq]at hn;exact absurd (show(0:Int)≤ -1 from hn) (by decide)
   rw[bZ,if_neg (by rw[ea];simp)]at e Hf
   obtain⟨j,z,e1,e2,e3⟩:=k3 Hf
   have:j=i.toNat:=by omega
   rw[this,List.getElem?_set_self (by omega)]at e2
   obtain rfl:=Option.some.inj e2;cases e3
  obtain⟨m1,m2,m3⟩:=ZV (x:=x.on (bJ x.v.ag (l.set i.toNat bb)).1) (src:=i+2) (to:=(bZ x.v.ag l i).1) dO (h.kp k1) (bA.kd k1.toKd) (by omega) cF (fun hn=>by
   have:=oH hn
   exact⟨this.1,by simp only[WV.on];rw[k1.cx.len];exact this.2.1,this.2.2⟩)
  have mok:=y4 (x:=x.on (bJ x.v.ag (l.set i.toNat bb)).1) (src:=i+2) (to:=(bZ x.v.ag l i).1) dO (fun hn=>by
   have:=oH hn
   exact⟨this.1,by simp only[WV.on];rw[k1.cx.len];exact this.2.1,this.2.2⟩)
  have Hg:Sf x (ct x.v) (x.on (bJ x.v.ag (l.set i.toNat bb)).1) 0:=fS fun g=>absurd g (by decide)
  rw[(Hg.bh rfl).2]at m1
  generalize cX (x.on (bJ x.v.ag (l.set i.toNat bb)).1) (i+2) (bZ x.v.ag l i).1=M at*
  by_cases h1:M.2.1=false∨(l.getD i.toNat dm).used=x.v.ag.ae
  ·
   rw[if_pos h1]
   exact⟨Hg.trans m1,fun g=>by rw[m3 g,KK];rfl⟩
  ·
   rw[if_neg h1]
   have ZX:M.2.1=true:=by
    cases hq:M.2.1 with
    |true=>rfl
    |false=>exact absurd (.inl hq) h1
   obtain⟨e0,ZY⟩:=m2 ZX
   rw[e0]at m1
   have hR:=m1.bh rfl
   have ZZ:kW M.1.v.at_ M.1.v.ag (i+2):=ZY.cx m1.kd.cx
   have hc:=vu (c:=M.1.v.ag) (by omega) ZZ
   have NT:=Sf.data (x:=M.1) hR.1 hc (e:=iV (cE M.1.v.ag (i+2)).2) (bs:=ct M.1.v) (fun _=>rfl) (fun g=>zR (He g))
   have aaa:=Hg.trans m1
   rw[hR.2]at NT
   exact⟨aaa.trans NT,fun g=>absurd (te g) (y5 _ _)⟩
theorem NU{x:WV}{l:List aA}(h:dx x.v)(hd:py x.v.ag x.v.at_ l):Sf x (ct x.v) (jx x l).1 (jx x l).2:=by
 rw[jx];split
 ·
  exact Sf.stay h (e:=6) (by decide)
 ·
  rename_i hq
  obtain⟨d1,d2⟩:=C2 hd (show(ke x.v.ag l).2=true by simpa using hq)
  exact Sf.data h (vu (by show 2≤(ke x.v.ag l).1+2;change 0≤(ke x.v.ag l).1 at d2;omega) d1) (fun _=>rfl) (fun g=>zR (He g))
theorem py.cx{c d:CV}{fl:List Int}{l:List aA}(h:py c fl l)(g:dB c d):py d fl l:=fun i x hx hb hl=>(h i x hx hb hl).cx g
theorem NV{x:WV}(hx:cd x)(h:dx x.v)(bA:fq x.v.ag):Sf x (ct x.v) (eI x).1 (eI x).2:=by
 have ht:kb x.v.ag (ba x):=ta _ _
 have hd:py x.v.ag x.v.at_ (ba x):=C1 _ _
 rw[eI];split
 ·
  rename_i hv
  have zY:=Fh (l:=ba x) hv.1
  obtain⟨r1,r2⟩:=ZW (i:=(iK x).1) hx h bA ht hd zY.1 zY.2
  split
  ·
   exact r1
  ·
   rename_i h6
   have tg:(ei x (ba x) (iK x).1).2=6:=by simpa using h6
   have hz:=r1.zero (by omega) (by omega) (by omega) (by omega)
   have e:=r2 tg
   have hR:=hz.bh rfl
   have iL:(ei x (ba x) (iK x).1).1.v.at_=x.v.at_:=by rw[e];rfl
   have:=NU hR.1 (l:=ba x) (by rw[iL];exact hd.cx hz.kd.cx)
   rw[hR.2]at this
   exact hz.trans this
 ·
  exact NU h hd
theorem NW: ∀(n:Nat) {x:WV} {need:Int},cd x→dx x.v→fq x.v.ag→Sf x (ct x.v) (pa n x need).1 (pa n x need).2
 |0,x,need,hx,h,bA=>Sf.stay h (e:=0) (by decide)
 |n+1,x,need,hx,h,bA=>by
  have hc:=NV hx h bA
  have C8:=BS hx
  rw[pa]
  split
  ·
   exact Sf.stay h (e:=0) (by decide)
  ·
   split
   ·
    exact(Sf.stay h (e:=0) (by decide)).by true
   ·
    split
    ·
     rename_i h0
     rw[h0]at hc
     have hR:=hc.bh rfl
     have:=NW n (need:=need) C8.1.ok hR.1 (bA.kd hc.kd)
     rw[hR.2]at this
     exact hc.trans this
    ·
     split
     ·
      exact hc
     ·
      rename_i h6
      have tg:(eI x).2=6:=by simpa using h6
      have hz:=hc.zero (by omega) (by omega) (by omega) (by omega)
      have hR:=hz.bh rfl
      split
      ·
       exact hz.by true
      ·
       have:=Sf.stay (x:=(eI x).1) hR.1 (e:=5) (by decide)
       rw[hR.2]at this
       exact hz.trans this
theorem NX{x:WV}{need:Int}(hx:cd x)(h:dx x.v)(bA:fq x.v.ag):Sf x (ct x.v) (mU x need).1 (mU x need).2:=NW _ hx h bA
theorem NY{x:WV}{l:List (Int×List UInt8)}(hx:cd x)(h:dx x.v)(bA:fq x.v.ag)(gX: ∀y∈l,0≤y.1):Sf x (rj (ct x.v) l) (iA x l).1 (iA x l).2:=by
 have hs:Sf x (ct x.v) (dz x l).1 (dz x l).2:=(NX (x:={x with beyond:=false}) (need:=rP l) (hx.by false) h bA).cG
 have ho:=BT (l:=l) hx
 rw[iA]
 by_cases h0:(dz x l).2≠0
 ·
  rw[if_pos h0];exact hs.ne h0
 ·
  rw[if_neg h0]
  rw[show(dz x l).2=0 by simpa using h0]at hs
  have hR:=hs.bh rfl
  obtain⟨t1,t2,t3⟩:=C4 (v:=(dz x l).1.v) (aC:=(dz x l).1.beyond) l (c:=(dz x l).1.v.ag) (a:=(dz x l).1.v.at_) ho.ok.ag (by have:=ho.ok.oh;omega) hR.1.pl hR.1.pl gX
  by_cases h1:(iz x l).2.2≠0
  ·
   rw[if_pos h1]
   exact hs.trans (Sf.data hR.1 t1 (fun g=>absurd g h1) t3)
  ·
   rw[if_neg h1]
   obtain⟨g1,g2,g3⟩:=t2 (Classical.not_not.1 h1)
   have dO:=ho.ok.on (t1.ok ho.ok.ag) t1.cx
   have hw:=(Hb dO (hR.1.kp t1) ((bA.kd hs.kd).kd t1.toKd) g1 g3).1
   have e:List.map (dX (iz x l).1) (iz x l).2.1=rj (ct x.v) l:=by rw[←hR.2];exact g2
   have hd:=Sf.data (x:=(dz x l).1) hR.1 t1 (e:=0) (bs:=ct (dz x l).1.v) (fun _=>rfl) (fun g=>absurd g (by decide))
   have eK:Sf ((dz x l).1.on (iz x l).1) (rj (ct x.v) l) (dV ((dz x l).1.on (iz x l).1) (iz x l).2.1).1 (dV ((dz x l).1.on (iz x l).1) (iz x l).2.1).2:=by rw[←e];exact hw
   exact hs.trans (Sf.trans hd eK)
theorem NZ{l:List (Int×List UInt8)}(gX: ∀y∈l,0≤y.1): ∀(n:Nat) {x:WV},cd x→dx x.v→fq x.v.ag→x.v.ag.blocks.length<n+cl x.v.ag→Sf x (rj (ct x.v) l) (mV n x l).1 (mV n x l).2
 |0,x,hx,h,bA,hn=>by have:=wW x.v.ag;omega
 |n+1,x,hx,h,bA,hn=>by
  have hb:=NY (l:=l) hx h bA gX
  have ho:=Fo (l:=l) hx
  rw[mV]
  split
  ·
   rename_i h5
   rw[h5.1]at hb
   have hz:=hb.zero (by decide) (by decide) (by decide) (by decide)
   have hR:=hz.bh rfl
   have:=NZ gX n ho.ok hR.1 (bA.kd hz.kd) (by have:=ho.cx.len;omega)
   rw[hR.2]at this
   exact hz.trans this
  ·
   exact hb
theorem aab{v:VV}{l:List (Int×List UInt8)}(h:dx v)(bA:fq v.ag):Sf ⟨v,false⟩ (rj (ct v) l) ⟨(fJ v l).1,false⟩ (fJ v l).2:=by
 rw[fJ]
 split
 ·
  exact(Sf.stay (x:=⟨v,false⟩) h (e:=1) (by decide)).ne (by decide)
 ·
  rename_i h1
  have zZ:=Classical.not_not.1 h1
  split
  ·
   rename_i ho
   have:=Sf.data (x:=⟨v,false⟩) h (.bW _ _) (e:=7) (bs:=rj (ct v) l) (fun g=>absurd g (by decide)) (fun _=>ho)
   exact this
  ·
   have gX: ∀y∈l,0≤y.1:=fun y hy=>by
    obtain⟨j,hj⟩:=List.getElem?_of_mem hy
    have:=y7.1 zZ.2.2 j (List.getElem?_eq_some_iff.1 hj).1
    rw[qT,show l.getD j (0,[])=y by simp[List.getD,hj],Bool.and_eq_true,qS,Bool.and_eq_true,Bool.and_eq_true,decide_eq_true_eq]at this
    exact this.1.1.1
   have:=NZ gX (v.ag.blocks.length+1) (x:=⟨v,false⟩) (uY zZ.1) h bA (by show v.ag.blocks.length<_;omega)
   exact this.by false
open Go.ay
theorem aac{t:List Rt}(h:dt t=true): ∀l:List Ch,dt (kS t l).1=true:=by
 intro l
 induction l generalizing t with
 |nil=>exact h
 |cons c r ih=>
  rw[kS]
  split
  ·
   exact ih (Y3 h c)
  ·
   exact h
theorem aad{t:List Rt}(h:dt t=true)(l:List Ch):dt (cT t l)=true:=by
 rw[cT];split
 ·
  exact aac h l
 ·
  exact h
def powC(c:CV):CV:={c with off:=false}
theorem dx.on{v:VV}(h:dx v)(b:Bool):dx {v with ag:={v.ag with off:=b}}:=by
 obtain⟨h1,h2,h3,h4,h5,h6,h7⟩:=h
 exact⟨h1,h2,h3,h4,h5,h6,h7⟩
theorem N1{v:VV}(h:dx v):bC (powC v.ag)=(⟨powC v.ag,v.at_,v.gen,v.last⟩,0):=by
 have h2:=xI.2 (h.on false)
 rw[kO]at h2
 simp only[Bool.and_eq_true,decide_eq_true_eq]at h2
 obtain⟨⟨⟨g1,g2⟩,g3⟩,g4⟩:=h2
 have hc:=LB g1
 change(bC (powC v.ag)).2=0 at g1
 change(bC (powC v.ag)).1.gen=v.gen at g2
 change(bC (powC v.ag)).1.last=v.last at g3
 change(bC (powC v.ag)).1.at_=v.at_ at g4
 change(bC (powC v.ag)).1.ag=powC v.ag at hc
 generalize bC (powC v.ag)=F at*
 obtain⟨⟨f1,f2,f3,f4⟩,f5⟩:=F
 simp only at g1 g2 g3 g4 hc
 subst g1 g2 g3 g4 hc;rfl
structure gG(f:FV):Prop where
 rt:dx f.al
 iB:fC f.al.ag≠0
 ids:(f.al.at_.length:Int)=dS f.al.ag
 C9:jO (ct f.al)=0
 eq:f.table=iZ (ct f.al)
theorem N2{v:VV}(h:dx v)(hm:fC v.ag≠0)(hi:(v.at_.length:Int)=dS v.ag)(ht:jO (ct v)=0):dg (powC v.ag)=(⟨⟨powC v.ag,v.at_,v.gen,v.last⟩,iZ (ct v)⟩,0)∧jA (powC v.ag)=ct v:=by
 have hf:=N1 h
 have:=B6 (c:=powC v.ag) hm (by rw[hf]) (by rw[hf];exact hi) (by rw[hf];exact ht)
 rw[hf]at this
 exact this
theorem gG.load{f:FV}(h:gG f):dg (powC f.al.ag)=(⟨⟨powC f.al.ag,f.al.at_,f.al.gen,f.al.last⟩,f.table⟩,0)∧jA (powC f.al.ag)=ct f.al:=by
 rw[h.eq];exact N2 h.rt h.iB h.ids h.C9
theorem vz{f:FV}:gp f=true↔gG f:=by
 constructor
 ·
  intro h
  rw[TZ]at h
  simp only[Bool.and_eq_true,decide_eq_true_eq]at h
  obtain⟨⟨h1,h2⟩,h3⟩:=h
  obtain⟨g0,g1,g2,g3⟩:=B7 h1
  have hr:=xI.1 h2
  have hf:=N1 hr
  change(bC (powC f.al.ag)).2=0 at g1
  change(((bC (powC f.al.ag)).1.at_.length:Nat):Int)=_ at g2
  change jO (ct (bC (powC f.al.ag)).1)=0 at g3
  rw[hf]at g2 g3
  refine⟨hr,g0,g2,g3,?_⟩
  rw[←h3]
  exact congrArg (fun z:FV×Int=>z.1.table) (N2 hr g0 g2 g3).1
 ·
  intro h
  rw[FE]
  change(dg (powC f.al.ag)).2=0∧f.al.gen=(dg (powC f.al.ag)).1.al.gen∧f.al.last=(dg (powC f.al.ag)).1.al.last∧f.al.at_=(dg (powC f.al.ag)).1.al.at_∧f.table=(dg (powC f.al.ag)).1.table
  rw[h.load.1]
  exact⟨rfl,rfl,rfl,rfl,rfl⟩
theorem gG.right{f:FV}(h:gG f):dt f.table=true:=by rw[h.eq];exact T0 h.C9
theorem N3{c d:CV}(h:dB c d):fC d=fC c∧dS d=dS c:=by
 rw[fC,fC,dS,dS,h.len,h.ae,h.size];exact⟨rfl,rfl⟩
theorem N4: ∀(l:List (Int×List UInt8)) (bs:List (List UInt8)) (i:Nat),l.Pairwise (fun p q=>p.1≠q.1)→(∀p∈l,0≤p.1)→(rj bs l)[i]? =match l.find? fun p=>decide (p.1=(i:Int))with
  |some p=>if i<bs.length then some p.2 else none
  |none=>bs[i]?
 |[],bs,i,_,_=>rfl
 |p::r,bs,i,hw,h0=>by
  obtain⟨lJ,eK⟩:=List.pairwise_cons.1 hw
  have ih:=N4 r (bs.set p.1.toNat p.2) i eK fun q hq=>h0 q (List.mem_cons_of_mem _ hq)
  have hp0:=h0 p List.mem_cons_self
  show(rj (bs.set p.1.toNat p.2) r)[i]? =_
  rw[ih,List.find?_cons]
  by_cases e:p.1=(i:Int)
  ·
   have hn:(r.find? fun q=>decide (q.1=(i:Int)))=none:=List.find?_eq_none.2 fun q hq=>by
    rw[decide_eq_true_eq];intro e2;exact lJ q hq (by rw[e,e2])
   rw[hn,decide_eq_true e]
   simp only
   rw[List.getElem?_set,if_pos (by omega)]
   by_cases hl:i<bs.length
   ·
    rw[if_pos (by omega),if_pos hl]
   ·
    rw[if_neg (by omega),if_neg hl]
  ·
   rw[decide_eq_false e]
   simp only
   cases hf:r.find? fun q=>decide (q.1=(i:Int))with
   |some q=>simp only;rw[List.length_set]
   |none=>simp only;rw[List.getElem?_set_ne (by omega)]
theorem aae{a b:List (List UInt8)}(hl:a.length=b.length):rj a (eJ a b)=b:=by
 have hs:=GU a b (max a.length b.length)
 have hpw:(eJ a b).Pairwise fun p q=>p.1≠q.1:=hs.imp fun h=>by omega
 have hm: ∀p∈eJ a b,∃i:Nat,i<max a.length b.length∧p=((i:Int),b.getD i [])∧ ¬a.getD i []=b.getD i []:=fun p hp=>M0 hp
 refine List.ext_getElem? fun i=> ?_
 rw[N4 (eJ a b) a i hpw fun p hp=>by obtain⟨j,_,rfl,_⟩:=hm p hp;exact Int.natCast_nonneg _]
 cases hf:(eJ a b).find? fun p=>decide (p.1=(i:Int))with
 |some p=>
  obtain⟨j,h1,h2,h3⟩:=hm p (List.mem_of_find?_eq_some hf)
  have e:=List.find?_some hf
  rw[decide_eq_true_eq,h2]at e
  simp only at e
  have e':j=i:=by omega
  subst e'
  simp only
  by_cases hi:j<a.length
  ·
   rw[if_pos hi,h2,List.getElem?_eq_getElem (by omega)]
   simp[List.getD,show j<b.length by omega]
  ·
   rw[if_neg hi,List.getElem?_eq_none (by omega)]
 |none=>
  simp only
  rcases Nat.lt_or_ge i a.length with hi|hi
  ·
   have ja:=List.find?_eq_none.1 hf
   have hq:a.getD i []=b.getD i []:=by
    apply Classical.byContradiction
    intro cF
    have mv:((i:Int),b.getD i [])∈eJ a b:=by
     rw[eJ,lX]
     exact List.mem_filterMap.2 ⟨i,List.mem_range.2 (by omega),by rw[qV,if_neg cF]⟩
    have:=ja _ mv
    simp at this
   simp only[List.getD,List.getElem?_eq_getElem hi,List.getElem?_eq_getElem (show i<b.length by omega),Option.getD_some]at hq
   rw[List.getElem?_eq_getElem hi,List.getElem?_eq_getElem (show i<b.length by omega),hq]
  ·
   rw[List.getElem?_eq_none hi,List.getElem?_eq_none (by omega)]
structure Af(f:FV)(t:List Rt)(o:FV)(e:Int):Prop where
 kd:Kd [] f.al.ag o.al.ag
 bh:e=0→gG o∧o.table=t
 bad:e≠0→o.table=f.table
 err:e≠0→(e=7∨e=9∨(e=1∧zX o.al.ag))∨gG o
 xJ:e≠0→f.al.ag.aX=[]→gG o
 any: ∃g:FV,gG g∧g.al.ag=o.al.ag∧(g.table=f.table∨g.table=t)
 off:e=7→o.al.ag.off=true
theorem Da{f:FV}{l:List Ch}(h:gG f):tk f l=if fC f.al.ag<(cT f.table l).length then 5 else 0:=by
 have hr:=aad h.right l
 have hm:iB (dS f.al.ag) (dR f.al.ag.size)=fC f.al.ag:=rfl
 rw[tk,iY,if_neg,hm]
 rintro(g|g)
 ·
  rw[hr]at g;cases g
 ·
  exact h.iB g
theorem aaf{f:FV}{l:List Ch}(h:gG f)(he:dW f.table l≠0):cJ f l=(f,dW f.table l):=LC (vz.2 h) he
theorem aag{f:FV}{l:List Ch}(h:gG f)(he:dW f.table l=0)(hm:fC f.al.ag<(cT f.table l).length):cJ f l=(f,5):=by
 have:=Da (l:=l) h
 rw[if_pos hm]at this
 rw[LD (vz.2 h) he (by rw[this];decide),this]
theorem tK{f:FV}(h:gG f):fe f=ct f.al:=h.load.2
theorem N5{f:FV}{l:List Ch}(h:gG f)(he:dW f.table l=0)(hm: ¬fC f.al.ag<(cT f.table l).length)(hc:eJ (fe f) (fD f l)=[]):cJ f l=(f,0)∧cT f.table l=f.table:=by
 have hE:=Da (l:=l) h
 rw[if_neg hm]at hE
 have hlen:(fe f).length=(fD f l).length:=by
  have:=(CP hE).1
  have h2:=h.ids
  rw[tK h,za]
  have:((fD f l).length:Int)=dS f.al.ag:=this
  omega
 have heq:=(YG hlen).1 hc
 have ht:iZ (fD f l)=cT f.table l:=(MY hE).1
 have e:cT f.table l=f.table:=by
  rw[←ht,←heq,tK h];exact h.eq.symm
 rw[LF (vz.2 h) he hE hc,e]
 exact⟨rfl,rfl⟩
theorem aah{f:FV}{l:List Ch}(h:gG f)(bA:fq f.al.ag)(he:dW f.table l=0)(hm: ¬fC f.al.ag<(cT f.table l).length):Af f (cT f.table l) (cJ f l).1 (cJ f l).2:=by
 have hE:=Da (l:=l) h
 rw[if_neg hm]at hE
 by_cases hc:eJ (fe f) (fD f l)=[]
 ·
  obtain⟨e1,e2⟩:=N5 h he hm hc
  rw[e1,e2]
  exact⟨.bW _ _,fun _=>⟨h,rfl⟩,fun g=>absurd rfl g,fun g=>absurd rfl g,fun g=>absurd rfl g,⟨f,h,rfl, .inl rfl⟩,fun g=>absurd (show(0:Int)=7 from g) (by decide)⟩
 ·
  have hlen:(fe f).length=(fD f l).length:=by
   have:=(CP hE).1
   have h2:=h.ids
   rw[tK h,za]
   have:((fD f l).length:Int)=dS f.al.ag:=this
   omega
  have hs:=aab (l:=eJ (fe f) (fD f l)) h.rt bA
  rw[←tK h,aae hlen]at hs
  have ht:=MY hE
  rw[FG (vz.2 h) he hE hc]
  generalize fJ f.al (eJ (fe f) (fD f l))=W at*
  have eX:=N3 hs.kd.cx
  change fC W.1.ag=fC f.al.ag∧dS W.1.ag=dS f.al.ag at eX
  have Hh:W.1.at_.length=f.al.at_.length:=hs.len
  have vw:ct (⟨f.al,false⟩:WV).v=fe f:=(tK h).symm
  have mk: ∀{u:VV} {t:List Rt},dx u→dB f.al.ag u.ag→u.at_.length=f.al.at_.length→jO (ct u)=0→t=iZ (ct u)→gG ⟨u,t⟩:=fun hu hk hl hte aai=>by
   have:=N3 hk
   exact⟨hu,by show fC _≠0;rw[this.1];exact h.iB,by show(_:Int)=dS _;rw[this.2,hl];exact h.ids,hte,aai⟩
  have hold:jO (fe f)=0∧f.table=iZ (fe f):=by rw[tK h];exact⟨h.C9,h.eq⟩
  refine⟨hs.kd,fun g=> ?_,fun g=> ?_,fun g=> ?_,fun g hf=> ?_,?_,hs.off⟩
  ·
   obtain⟨q1,q2⟩:=hs.bh g
   change dx W.1 at q1
   change ct W.1=fD f l at q2
   simp only at g
   refine⟨mk q1 hs.kd.cx Hh (by rw[q2];exact ht.2) (by rw[if_neg (fun k=>k g),q2];exact ht.1.symm),by rw[if_neg (fun k=>k g)]⟩
  ·
   simp only at g⊢;rw[if_pos g]
  ·
   simp only at g
   refine(hs.err g).imp id fun q=> ?_
   rw[vw]at q
   exact mk q.1 hs.kd.cx Hh (by rw[show ct W.1=fe f from q.2];exact hold.1) (by rw[if_pos g,show ct W.1=fe f from q.2];exact hold.2)
  ·
   simp only at g
   have q:=hs.xJ g hf
   rw[vw]at q
   exact mk q.1 hs.kd.cx Hh (by rw[show ct W.1=fe f from q.2];exact hold.1) (by rw[if_pos g,show ct W.1=fe f from q.2];exact hold.2)
  ·
   obtain⟨u,q1,q2,q3,q4⟩:=hs.any
   change u.ag=W.1.ag at q2
   have rl:dB f.al.ag u.ag:=by rw[q2];exact hs.kd.cx
   rw[vw]at q4
   rcases q4 with q4|q4
   ·
    exact⟨⟨u,f.table⟩,mk q1 rl q3 (by rw[q4];exact hold.1) (by rw[q4];exact hold.2),q2, .inl rfl⟩
   ·
    exact⟨⟨u,cT f.table l⟩,mk q1 rl q3 (by rw[q4];exact ht.2) (by rw[q4];exact ht.1.symm),q2, .inr rfl⟩
open Go.ay
theorem fq.nil{c:CV}(h:c.aX=[]):fq c:=fun f hf=>by rw[h]at hf;cases hf
theorem gG.small{f:cf}(h:gG (bF f)):dM f.al.ag∧f.al.at_.xs.length≤1000000∧f.table.xs.length≤1000000:=by
 have hk:=(gk.1 h.rt.bears).1
 have hw:=(uY (b:=false) (xI.2 h.rt)).nA
 have ht:=Bc h.right
 change f.al.at_.xs.length≤64 at hw
 change f.table.xs.length≤256 at ht
 exact⟨oS hk,by omega,by omega⟩
theorem gG.aaj{f:FV}(h:gG f):gp f=true:=vz.2 h
theorem aak(t:List Rt)(c:List Ch):(kS t c).2=0∨(kS t c).2=1∨(kS t c).2=5∨(kS t c).2=6:=by
 induction c generalizing t with
 |nil=>exact .inl rfl
 |cons x r ih=>
  rw[kS]
  split
  ·
   exact ih _
  ·
   show fo t x=0∨fo t x=1∨fo t x=5∨fo t x=6
   rw[fo];repeat' split
   all_goals decide
theorem aal(t:List Rt)(l:List Ch):dW t l=0∨dW t l=1∨dW t l=5∨dW t l=6:=by
 rw[dW];split
 ·
  exact aak t l
 ·
  exact .inr (.inl rfl)
end Go.Kb
namespace Go.Proofs.YtaipiecplldinaaGreat
open Go.ay Go.Kb
open Go.RowKit
structure FH where
 f:cf
 h:Sl Rt
def Hi(x:FH):Array Value:= #[.int .i64 x.f.al.ag.ae, .int .i64 x.f.al.ag.size,x.f.al.ag.blocks.sv.val, .int .i64 x.f.al.ag.ops, .bool x.f.al.ag.off,x.f.al.ag.aX.sv.val,x.f.al.at_.sv.val, .int .u64 x.f.al.gen.toNat, .int .i64 x.f.al.last,x.f.table.sv.val,x.h.sv.val]
instance:bx Hi 11:=⟨fun _=>rfl,fun x=>by
 simp only[Hi,List.all_toArray,List.all_cons,List.all_nil,Sv.one,qG,qH,Bool.and_self]⟩
instance:Deep FH where
 c:=11
 cells:=Hi
 size:=bx.size
 one:=bx.one
 bh h x:=Deep.bh h x.f∧Deep.bh h x.h
 ck x:= .two (Deep.ck x.f) (Deep.ck x.h)
 iP h x hs:=⟨Deep.iP h x.f hs.1,Deep.iP h x.h hs.2.1⟩
 mono w w' x hg hb:=⟨Deep.mono w w' x.f hg.1 hb,Deep.mono w w' x.h hg.2 hb⟩
instance:eQ FH where
 reach x k:=eQ.reach x.f k∨eQ.reach x.h k
 congr h h' x e hg:=⟨eQ.congr h h' x.f (fun k hk=>e k (.inl hk)) hg.1,eQ.congr h h' x.h (fun k hk=>e k (.inr hk)) hg.2⟩
instance {w0:World}{L:List aj}{x:FH}[q:aW w0 L x]:aW w0 L x.f:=⟨fun w hw=>(q.h w hw).1⟩
instance {w0:World}{L:List aj}{x:FH}[q:aW w0 L x]:aW w0 L x.h:=⟨fun w hw=>(q.h w hw).2⟩
theorem N6{w0 w:World}{L:List aj}{f:cf}{a:Sl Rt}(h:Mem w0 (fz f::fz a::L) w):Mem w0 (fz (⟨f,a⟩:FH)::L) w:=by
 refine Mem.freeze (es:=[fz f,fz a]) (⟨f,a⟩:FH) ⟨h.sat (fz f) (by simp),h.sat (fz a) (by simp)⟩ (fun k hk=> ?_) h
 rcases hk with hk|hk
 ·
  exact⟨fz f,by simp,hk⟩
 ·
  exact⟨fz a,by simp,hk⟩
theorem aam{w0 w:World}{L:List aj}{f:cf}(h:Mem w0 (fz f::L) w):Mem w0 (fz (⟨f,⟨Sv.none,[]⟩⟩:FH)::L) w:=
 N6 ((va (a:=⟨Sv.none,[]⟩) (Mem.dI ax 19 h)).perm (List.Perm.swap _ _ _))
theorem aan{w0 w:World}{L:List aj}{s:FH}(h:Mem w0 (fz s::L) w):Mem w0 (fz s.h::L) w:=
 Mem.freeze (es:=[fz s]) s.h (h.sat (fz s) (by simp)).2 (fun k hk=>⟨fz s,by simp, .inr hk⟩) h
end Go.Proofs.YtaipiecplldinaaGreat
namespace Go.Kb
open Go.ay
theorem N7{P Q:Nat→Bool}{j0:Nat}(hp:P j0=false)(hq: ∀j,Q j=(P j||decide (j=j0))): ∀n,((List.range n).filter Q).length=((List.range n).filter P).length+(if j0<n then 1 else 0)
 |0=>by simp
 |n+1=>by
  have ih:=N7 hp hq n
  rw[List.range_succ,List.filter_append,List.filter_append,List.length_append,List.length_append,ih]
  by_cases e:n=j0
  ·
   have h1:Q n=true:=by rw[hq n,decide_eq_true e,Bool.or_true]
   have h2:P n=false:=by rw[e];exact hp
   rw[List.filter_cons_of_pos h1,List.filter_cons_of_neg (by rw[h2];simp),if_neg (by omega),if_pos (by omega)];simp
  ·
   have h1:Q n=P n:=by rw[hq n,decide_eq_false e,Bool.or_false]
   have h2:([n].filter Q).length=([n].filter P).length:=by simp[List.filter_cons,h1]
   rw[h2]
   by_cases h:j0<n
   ·
    rw[if_pos h,if_pos (by omega)];omega
   ·
    rw[if_neg h,if_neg (by omega)];omega
def fg(ae:Int)(fl:List Int)(i:Nat):Nat:=((List.range ae.toNat).filter fun j:Nat=>fl.contains (((i:Int)+2)*ae+j+1)).length
theorem xK{ae:Int}{fl gl:List Int}{i:Nat}(h: ∀n:Int,(n -1)/ae=(i:Int)+2→(n∈fl↔n∈gl))(hp:1≤ae):fg ae fl i=fg ae gl i:=by
 rw[fg,fg]
 congr 1
 refine List.filter_congr fun j hj=> ?_
 have jh:=List.mem_range.1 hj
 have hd:(((i:Int)+2)*ae+j+1 -1)/ae=(i:Int)+2:=by
  rw[Int.add_sub_cancel,Int.add_comm,Int.add_mul_ediv_right _ _ (by omega),Int.ediv_eq_zero_of_lt (by omega) (by omega),Int.zero_add]
 rw[Bool.eq_iff_iff,List.contains_iff_mem,List.contains_iff_mem]
 exact h _ hd
theorem aao{ae n:Int}(hp:1≤ae){i:Nat}(hb:(n -1)/ae=(i:Int)+2): ∃j:Nat,j<ae.toNat∧n=((i:Int)+2)*ae+j+1∧(n -1)%ae=j:=by
 have h0:0≤(n -1)%ae:=Int.emod_nonneg _ (by omega)
 have h1:(n -1)%ae<ae:=Int.emod_lt_of_pos _ (by omega)
 have h2:=Int.mul_ediv_add_emod (n -1) ae
 rw[hb,Int.mul_comm]at h2
 exact⟨((n -1)%ae).toNat,by omega,by omega,by omega⟩
theorem Hj{ae n:Int}{fl gl:List Int}{i0:Nat}(hp:1≤ae)(hb:(n -1)/ae=(i0:Int)+2)(hn:n∉fl)(h: ∀m,m∈gl↔m∈fl∨m=n)(i:Nat):fg ae gl i=fg ae fl i+(if i=i0 then 1 else 0):=by
 by_cases e:i=i0
 ·
  subst e
  obtain⟨j0,hj0,en,_⟩:=aao hp hb
  rw[if_pos rfl,fg,fg]
  have:=N7 (P:=fun j:Nat=>fl.contains (((i:Int)+2)*ae+j+1)) (Q:=fun j:Nat=>gl.contains (((i:Int)+2)*ae+j+1)) (j0:=j0) (by
   rw[←en]
   cases hc:fl.contains n with
   |false=>rfl
   |true=>exact absurd (List.contains_iff_mem.1 hc) hn) (fun j=>by
   rw[Bool.eq_iff_iff,Bool.or_eq_true,List.contains_iff_mem,List.contains_iff_mem,decide_eq_true_eq,h,en]
   constructor
   ·
    rintro(g|g)
    ·
     exact .inl g
    ·
     exact .inr (by omega)
   ·
    rintro(g|g)
    ·
     exact .inl g
    ·
     exact .inr (by rw[g])) ae.toNat
  rw[if_pos hj0]at this;exact this
 ·
  rw[if_neg e,Nat.add_zero]
  refine xK (fun m hm=> ?_) hp
  rw[h]
  constructor
  ·
   rintro(g|g)
   ·
    exact g
   ·
    rw[g,hb]at hm;omega
  ·
   exact .inl
theorem N8{ae:Int}{l:List Int}(hp:1≤ae)(i:Nat)(h: ∀n∈l,n=0∨1≤n): ∀k,k≤l.length→mL ae l k i=fg ae (l.take k) i
 |0,_=>by
  rw[fg,List.filter_eq_nil_iff.2 (fun j _=>by simp)];simp[mL]
 |k+1,hk=>by
  have ih:=N8 hp i h k (by omega)
  obtain⟨y,hy⟩: ∃y,l[k]? =some y:=⟨_,List.getElem?_eq_getElem (by omega)⟩
  have mv: ∀m,m∈l.take (k+1)↔m∈l.take k∨m=y:=fun m=>by
   rw[List.take_add_one,hy,List.mem_append];simp
  rw[BB,ih,ob hy]
  have q9:oc l k=(decide (y≠0)&& !(l.take k).contains y):=by rw[oc,ob hy]
  by_cases h0:y=0
  ·
   rw[q9,decide_eq_false (fun g=>g h0),Bool.false_and,Bool.false_and,if_neg (by simp),Nat.add_zero]
   refine xK (fun m hm=> ?_) hp
   rw[mv]
   refine⟨.inl,fun g=>g.elim id fun g=> ?_⟩
   exfalso
   rw[g,h0]at hm
   have:((0:Int) -1)/ae<0:=Int.ediv_neg_of_neg_of_pos (by decide) (by omega)
   omega
  ·
   by_cases hc:(l.take k).contains y=true
   ·
    rw[q9,hc,Bool.not_true,Bool.and_false,Bool.false_and,if_neg (by simp),Nat.add_zero]
    refine xK (fun m _=> ?_) hp
    rw[mv]
    exact⟨.inl,fun g=>g.elim id fun g=>by rw[g];exact List.contains_iff_mem.1 hc⟩
   ·
    have hn:y∉l.take k:=fun g=>hc (List.contains_iff_mem.2 g)
    have hcf:(l.take k).contains y=false:=by simpa using hc
    rw[q9,hcf,decide_eq_true h0,Bool.not_false,Bool.and_self,Bool.true_and]
    by_cases hb:(y -1)/ae=(i:Int)+2
    ·
     rw[decide_eq_true hb,if_pos rfl,Hj hp hb hn mv i,if_pos rfl]
    ·
     rw[decide_eq_false hb,if_neg (by simp),Nat.add_zero]
     refine xK (fun m hm=> ?_) hp
     rw[mv]
     exact⟨.inl,fun g=>g.elim id fun g=>by rw[g]at hm;exact absurd hm hb⟩
theorem N9{ae:Int}{l:List Int}(hp:1≤ae)(i:Nat)(h: ∀n∈l,n=0∨1≤n):mL ae l l.length i=fg ae l i:=by
 have:=N8 hp i h l.length (Nat.le_refl _)
 rwa [List.take_length]at this
def Std(c:CV)(fl:List Int):Prop:= ∀n∈fl,n≠0→jK c (n -1)=true
theorem Pl.pA{c:CV}{a:List Int}(h:Pl c a):Std c a:=fun _ hn h0=>h.place hn h0
theorem Std.append{c:CV}{a b:List Int}(h:Std c a)(g:Std c b):Std c (a++b):=fun n hn=>(List.mem_append.1 hn).elim (h n) (g n)
theorem Std.pos{c:CV}{fl:List Int}(h:Std c fl)(hp:1≤c.ae): ∀n∈fl,n=0∨1≤n:=fun n hn=>by
 by_cases h0:n=0
 ·
  exact .inl h0
 ·
  right
  have:=(mK.1 (h n hn h0)).1
  apply Classical.byContradiction
  intro bt
  have:(n -1)/c.ae<0:=Int.ediv_neg_of_neg_of_pos (by omega) (by omega)
  omega
theorem Std.kd{c d:CV}{fl L:List Int}(h:Std c fl)(k:Kd L c d)(hs: ∀n∈fl,n∈L):Std d fl:=fun n hn h0=>(k.nm n (hs n hn) h0 (h n hn h0)).1
def ll(c:CV)(fl:List Int)(i:Nat):aA:=if(ak c ((i:Int)+2)).bad=true then bb else⟨fg c.ae fl i,(ak c ((i:Int)+2)).used,(ak c ((i:Int)+2)).aT,false⟩
theorem vA{c:CV}{fl:List Int}(hp:1≤c.ae)(h:Std c fl):aB c fl=(List.range (c.blocks.length -2)).map (ll c fl):=by
 rw[aB,iw,jv,List.map_map]
 refine List.map_congr_left fun i _=> ?_
 simp only[Function.comp]
 rw[N9 hp i (h.pos hp),mM,ll,qJ]
 split
 ·
  rfl
 ·
  rename_i hb
  have:(ak c ((i:Int)+2)).bad=false:=by simpa using hb
  rw[this]
theorem Oa{c:CV}{fl:List Int}(hp:1≤c.ae)(h:Std c fl)(i:Nat)(hu:0≤(ak c ((i:Int)+2)).used):(fg c.ae fl i:Int)≤(ak c ((i:Int)+2)).used:=by
 have lp: ∀j,j∈(List.range c.ae.toNat).filter (fun j:Nat=>fl.contains (((i:Int)+2)*c.ae+j+1))→j<(ak c ((i:Int)+2)).used.toNat:=fun j hj=>by
  obtain⟨h1,h2⟩:=List.mem_filter.1 hj
  have jh:=List.mem_range.1 h1
  have hm:=List.contains_iff_mem.1 h2
  have h0:0≤((i:Int)+2)*c.ae:=Int.mul_nonneg (by omega) (by omega)
  have bA:=mK.1 (h _ hm (by omega))
  have hd:(((i:Int)+2)*c.ae+j+1 -1)/c.ae=(i:Int)+2:=by
   rw[Int.add_sub_cancel,Int.add_comm,Int.add_mul_ediv_right _ _ (by omega),Int.ediv_eq_zero_of_lt (by omega) (by omega),Int.zero_add]
  have oN:(((i:Int)+2)*c.ae+j+1 -1)%c.ae=j:=by
   rw[Int.add_sub_cancel,Int.add_comm,Int.add_mul_emod_self_right,Int.emod_eq_of_lt (by omega) (by omega)]
  rw[hd,oN]at bA
  omega
 have key: ∀(n m:Nat) (P:Nat→Bool),(∀j,j∈(List.range n).filter P→j<m)→((List.range n).filter P).length≤m:=by
  intro n m P
  induction n generalizing m with
  |zero=>intro _;simp
  |succ n ih=>
   intro hs
   rw[List.range_succ,List.filter_append,List.length_append]
   by_cases hP:P n=true
   ·
    have hm:n<m:=hs n (List.mem_filter.2 ⟨List.mem_range.2 (by omega),hP⟩)
    have:=ih n fun j hj=>List.mem_range.1 (List.mem_filter.1 hj).1
    simp only[List.filter_cons,List.filter_nil,hP,if_true,List.length_cons,List.length_nil]
    omega
   ·
    have:=ih m fun j hj=>hs j (by rw[List.range_succ,List.filter_append];exact List.mem_append_left _ hj)
    simp only[List.filter_cons,List.filter_nil,hP]
    simpa using this
 have:=key c.ae.toNat (ak c ((i:Int)+2)).used.toNat _ lp
 rw[fg];omega
theorem z0{c:CV}{fl:List Int}(hp:1≤c.ae)(h:Std c fl)(i:Nat):fg c.ae fl i=0↔kW fl c ((i:Int)+2):=by
 constructor
 ·
  intro h0
  rw[←N9 hp i (h.pos hp)]at h0
  exact Nv h0
 ·
  intro hd
  rw[fg,List.length_eq_zero_iff,List.filter_eq_nil_iff]
  intro j hj hc
  have jh:=List.mem_range.1 hj
  have hm:=List.contains_iff_mem.1 hc
  have h0:0≤((i:Int)+2)*c.ae:=Int.mul_nonneg (by omega) (by omega)
  refine hd _ hm (by omega) ?_
  rw[Int.add_sub_cancel,Int.add_comm,Int.add_mul_ediv_right _ _ (by omega),Int.ediv_eq_zero_of_lt (by omega) (by omega),Int.zero_add]
theorem Hk{c d:CV}{fl gl:List Int}{i0:Nat}{x:aA}(hp:1≤c.ae)(h:Std c fl)(hg:Std d gl)(hk:dB c d)(ho: ∀i:Nat,i≠i0→ak d ((i:Int)+2)=ak c ((i:Int)+2)∧fg c.ae gl i=fg c.ae fl i)(hx:ll d gl i0=x):aB d gl=(aB c fl).set i0 x:=by
 rw[vA (by rw[hk.ae];exact hp) hg,vA hp h,hk.len]
 refine List.ext_getElem? fun i=> ?_
 rw[List.getElem?_set]
 by_cases e:i0=i
 ·
  subst e
  rw[if_pos rfl,List.length_map,List.length_range,List.getElem?_map]
  by_cases hi:i0<c.blocks.length -2
  ·
   rw[List.getElem?_range hi,if_pos hi,Option.map_some,hx]
  ·
   rw[if_neg hi,List.getElem?_eq_none (by simpa using hi)];rfl
 ·
  rw[if_neg e,List.getElem?_map,List.getElem?_map]
  by_cases hi:i<c.blocks.length -2
  ·
   rw[List.getElem?_range hi,Option.map_some,Option.map_some]
   obtain⟨o1,o2⟩:=ho i (fun g=>e g.symm)
   rw[ll,ll,o1,hk.ae,o2]
  ·
   rw[List.getElem?_eq_none (by simpa using hi)];rfl
theorem aap{c d:CV}{fl gl:List Int}(hp:1≤c.ae)(h:Std c fl)(hg:Std d gl)(hk:dB c d)(ho: ∀i:Nat,(ak d ((i:Int)+2)).bad=(ak c ((i:Int)+2)).bad∧(ak d ((i:Int)+2)).used=(ak c ((i:Int)+2)).used∧(ak d ((i:Int)+2)).aT=(ak c ((i:Int)+2)).aT∧((ak c ((i:Int)+2)).bad=false→fg c.ae gl i=fg c.ae fl i)):aB d gl=aB c fl:=by
 rw[vA (by rw[hk.ae];exact hp) hg,vA hp h,hk.len]
 refine List.map_congr_left fun i _=> ?_
 obtain⟨o1,o2,o3,o4⟩:=ho i
 rw[ll,ll,o1,o2,o3,hk.ae]
 by_cases hb:(ak c ((i:Int)+2)).bad=true
 ·
  rw[if_pos hb,if_pos hb]
 ·
  rw[if_neg hb,if_neg hb,o4 (by simpa using hb)]
theorem Db{c:CV}{fl:List Int}{i:Nat}{x:aA}(hp:1≤c.ae)(h:Std c fl)(hx:(aB c fl)[i]? =some x):x=ll c fl i∧i<c.blocks.length -2:=by
 rw[vA hp h,List.getElem?_map]at hx
 obtain⟨j,hj,rfl⟩:=Option.map_eq_some_iff.1 hx
 obtain⟨hl,e⟩:=List.getElem?_eq_some_iff.1 hj
 rw[List.getElem_range]at e
 rw[List.length_range]at hl
 exact⟨by rw[e],hl⟩
theorem oz{c:CV}{fl:List Int}{i:Nat}(hb:(ak c ((i:Int)+2)).bad=false):ll c fl i=⟨fg c.ae fl i,(ak c ((i:Int)+2)).used,(ak c ((i:Int)+2)).aT,false⟩:=by rw[ll,if_neg (by rw[hb];simp)]
theorem aaq{c:CV}{fl:List Int}(hk:aS c=true)(h:Std c fl)(h2:3≤c.blocks.length):ky (aB c fl) c.ae=true:=by
 have hd:=fa hk
 have du:=j7 c fl
 refine pW.2 ⟨by omega,by omega,by omega,by omega,fun x hx=> ?_⟩
 obtain⟨i,hi⟩:=List.getElem?_of_mem hx
 obtain⟨rfl,ft⟩:=Db (by omega) h hi
 have mN:cK=1099511627776:=rfl
 rw[ll]
 split
 ·
  exact oV.2 (by simp only[bb];omega)
 ·
  have hb:=eA.1 (qN hk (b:=(i:Int)+2) (by omega) (by omega))
  have:=Oa (by omega) h i hb.2.1
  exact oV.2 ⟨by simp only;omega,this,hb.2.2.1,hb.2.2.2.1,hb.2.2.2.2.1⟩
theorem Ob{R:aA→Bool}{l:List aA}{p:Int}(h:ky l p=true):ky (bX R l) p=true:=by
 obtain⟨h1,h2,h3,h4,h5⟩:=pW.1 h
 refine pW.2 ⟨by rw[sX];exact h1,by rw[sX];exact h2,h3,h4,fun x hx=> ?_⟩
 obtain⟨y,hy,rfl⟩:=List.mem_map.1 hx
 rw[iI]
 split
 ·
  have mN:cK=1099511627776:=rfl
  exact oV.2 (by simp only[bb];omega)
 ·
  exact h5 y hy
theorem aar{l:List aA}{p:Int}(h:ky l p=true)(i:Nat):ky (l.set i bb) p=true:=by
 obtain⟨h1,h2,h3,h4,h5⟩:=pW.1 h
 refine pW.2 ⟨by rw[List.length_set];exact h1,by rw[List.length_set];exact h2,h3,h4,fun x hx=> ?_⟩
 rcases List.mem_or_eq_of_mem_set hx with g|rfl
 ·
  exact h5 x g
 ·
  have mN:cK=1099511627776:=rfl
  exact oV.2 (by simp only[bb];omega)
theorem Oc{c:CV}{b k:Int}{p:List UInt8}(h:bw c b p=0)(hk:k.toNat≠b.toNat):ak (bH c b p) k=ak c k:=by
 obtain⟨h1,_,_,_,e⟩:=od h
 obtain⟨_,h3,h4⟩:=fA.1 (iH.1 h1).1
 rw[e,eS,m7 (by omega),if_neg hk]
theorem Hl{c:CV}{b:Int}{p:List UInt8}(h:bw c b p=0):(ak (bH c b p) b).used=(ak c b).used+1∧(ak (bH c b p) b).aT=(ak c b).aT∧(ak (bH c b p) b).bad=false:=by
 obtain⟨h1,_,h3,_,e⟩:=od h
 rw[e,eS,oW (iH.1 h1).1]
 exact⟨rfl,rfl,h3⟩
theorem aas{c:CV}{fl gl:List Int}{i0:Nat}{pg:List UInt8}(hk:aS c=true)(h:Std c fl)(hz:bw c ((i0:Int)+2) pg=0)(hm: ∀m,m∈gl↔m∈fl∨m=((i0:Int)+2)*c.ae+(ak c ((i0:Int)+2)).used+1):
  aB (bH c ((i0:Int)+2) pg) gl=(aB c fl).set i0 ⟨fg c.ae fl i0+1,(ak c ((i0:Int)+2)).used+1,(ak c ((i0:Int)+2)).aT,false⟩∧Std (bH c ((i0:Int)+2) pg) gl:=by
 have hd:=fa hk
 have eX:=gD c ((i0:Int)+2) pg
 obtain⟨q1,q2,q3,q4⟩:=C3 (L:=fl) (by omega) hz
 have dZ:=iH.1 (od hz).1
 have hb:(((i0:Int)+2)*c.ae+(ak c ((i0:Int)+2)).used+1 -1)/c.ae=(i0:Int)+2:=by
  rw[Int.add_sub_cancel,Int.add_comm,Int.add_mul_ediv_right _ _ (by omega),Int.ediv_eq_zero_of_lt dZ.2.1 dZ.2.2.1,Int.zero_add]
 have hn:((i0:Int)+2)*c.ae+(ak c ((i0:Int)+2)).used+1∉fl:=fun gO=>by
  have:=h _ gO (by omega)
  rw[Int.add_sub_cancel,q4]at this;cases this
 have hS:Std (bH c ((i0:Int)+2) pg) gl:=fun m oN h0=>by
  rcases(hm m).1 oN with g|g
  ·
   exact h.kd (sh (L:=fl)) (fun _ k=>k) m g h0
  ·
   rw[g,Int.add_sub_cancel];exact q1
 have hl:=Hj (by omega) hb hn hm
 obtain⟨a1,a2,a3⟩:=Hl hz
 refine⟨Hk (by omega) h hS eX (fun i hi=>⟨Oc hz (by omega),by rw[hl i,if_neg hi];rfl⟩) ?_,hS⟩
 rw[oz a3,eX.ae,hl i0,if_pos rfl,a1,a2];rfl
theorem Od: ∀(n:Nat) {c:CV} {b:Int},(eZ n c b).2=0→(∀k:Int,k.toNat≠b.toNat→ak (eZ n c b).1 k=ak c k)∧(ak (eZ n c b).1 b).used=0∧(ak (eZ n c b).1 b).aT=(ak c b).aT+1∧(ak (eZ n c b).1 b).bad=false
 |0,c,b,h=>by
  obtain⟨e1,_,e3,e4,e5⟩:=Fb h
  have hh:=(nv.1 e1).1
  obtain⟨_,h3,h4⟩:=fA.1 hh
  show(∀k:Int,k.toNat≠b.toNat→ak (df c b) k=ak c k)∧(ak (df c b) b).used=0∧(ak (df c b) b).aT=(ak c b).aT+1∧(ak (df c b) b).bad=false
  rw[e5]
  refine⟨fun k hk=>by rw[gA,m7 (by omega),if_neg hk],?_⟩
  rw[gA,oW hh,e4]
  exact⟨rfl,rfl,e3⟩
 |n+1,c,b,h=>by
  rw[eZ]at h⊢
  by_cases h0:bw c b (gU c)≠0
  ·
   rw[if_pos h0]at h;exact absurd h h0
  ·
   rw[if_neg h0]at h⊢
   have nt:bw c b (gU c)=0:=by simpa using h0
   obtain⟨g1,g2,g3,g4⟩:=Od n h
   exact⟨fun k hk=>(g1 k hk).trans (Oc nt hk),g2,by rw[g3,(Hl nt).2.1],g4⟩
theorem Hm{c:CV}{fl:List Int}{i0:Nat}(hk:aS c=true)(h:Std c fl)(hd:kW fl c ((i0:Int)+2))(hz:(cE c ((i0:Int)+2)).2=0):aB (cE c ((i0:Int)+2)).1 fl=(aB c fl).set i0 ⟨0,0,(ak c ((i0:Int)+2)).aT+1,false⟩∧Std (cE c ((i0:Int)+2)).1 fl:=by
 have hdm:=fa hk
 have kp:=vu (L:=fl) (c:=c) (b:=(i0:Int)+2) (by omega) hd
 have hS:=h.kd kp.toKd fun _ g=>g
 obtain⟨z1,z2,z3,z4⟩:=Od _ hz
 change∀k:Int,k.toNat≠((i0:Int)+2).toNat→ak (cE c ((i0:Int)+2)).1 k=ak c k at z1
 change(ak (cE c ((i0:Int)+2)).1 ((i0:Int)+2)).used=0 at z2
 change(ak (cE c ((i0:Int)+2)).1 ((i0:Int)+2)).aT=_ at z3
 change(ak (cE c ((i0:Int)+2)).1 ((i0:Int)+2)).bad=false at z4
 refine⟨Hk (by omega) h hS kp.cx (fun i hi=>⟨z1 _ (by omega),rfl⟩) ?_,hS⟩
 rw[oz z4,kp.cx.ae,z2,z3,(z0 (by omega) h i0).2 hd];rfl
open Go.ay
structure Ok(n:Nat)(c:CV):Prop where
 ok:gC c=true
 nb: ∀b:Int,(ak c b).bad=false
 off:c.off=false
 cut: ∀f∈c.aX,f.fail=true→f.cut=true
 ops:c.ops+n<cK
 aT: ∀b:Int,(ak c b).aT+n<cK
theorem Ok.ag{n:Nat}{c:CV}(h:Ok n c):aS c=true:=(gk.1 h.ok).1
theorem aat{c:CV}{last:Int}(hl:last=0∨last=1)(i:Nat):ak (aU c last).1 ((i:Int)+2)=ak c ((i:Int)+2):=by
 rw[aU]
 split
 ·
  rfl
 ·
  split
  ·
   rfl
  ·
   split
   ·
    rfl
   ·
    show ak (df c (1 -last)) ((i:Int)+2)=_
    rw[df,gm]
    split
    ·
     rw[iS]
     split
     ·
      rename_i hm
      have hh:fy (eF c (1 -last)) (1 -last)=true:=by
       cases hq:fy (eF c (1 -last)) (1 -last)with
       |true=>rfl
       |false=>rw[jZ,if_neg (by rw[hq];simp)]at hm;cases hm
      obtain⟨_,h3,h4⟩:=fA.1 hh
      have:=m7 (c:=eF c (1 -last)) (o:=(eF c (1 -last)).ops) (f:=(eF c (1 -last)).off) (B:={ak (eF c (1 -last)) (1 -last)with bad:=true}) (show(1 -last).toNat<(eF c (1 -last)).blocks.length by omega) ((i:Int)+2)
      rw[if_neg (by omega)]at this
      rw[this,xH (by omega)]
     ·
      rw[xH (by omega)]
    ·
     rw[xH (by omega)]
open Go.ay
def m8(p:Int)(x:aA):Nat:=if x.bad=true then 0 else if x.live=0 then(if 0<x.used∧x.used<p then 1 else 0)else(x.used -x.live).toNat
def pB(p:Int)(l:List aA):Nat:=(l.map (m8 p)).sum
theorem Oe{f:aA→Nat}: ∀{l:List aA} {i:Nat} {x y:aA},l[i]? =some y→((l.set i x).map f).sum+f y=(l.map f).sum+f x
 |[],i,x,y,h=>by simp at h
 |z::r,0,x,y,h=>by
  obtain rfl:z=y:=by simpa using h
  simp only[List.set_cons_zero,List.map_cons,List.sum_cons];omega
 |z::r,i+1,x,y,h=>by
  have:=Oe (f:=f) (l:=r) (i:=i) (x:=x) (y:=y) (by simpa using h)
  simp only[List.set_cons_succ,List.map_cons,List.sum_cons];omega
theorem Hn{p:Int}{l:List aA}{i:Nat}{x y:aA}(h:l[i]? =some y):pB p (l.set i x)+m8 p y=pB p l+m8 p x:=Oe h
theorem Of(l:List aA): ∀k,0<(fY l k).2→(fY l k).1.toNat<k∧(l.getD (fY l k).1.toNat dm).bad=false∧(l.getD (fY l k).1.toNat dm).live≠0∧(fY l k).2=(l.getD (fY l k).1.toNat dm).used -(l.getD (fY l k).1.toNat dm).live
 |0,h=>by simp[fY]at h
 |k+1,h=>by
  have ih:=Of l k
  rw[fY,uW]at h⊢
  by_cases h1:(l.getD k dm).bad=true∨(l.getD k dm).live=0∨cK≤(l.getD k dm).aT
  ·
   rw[if_pos h1]at h⊢
   obtain⟨i1,i2⟩:=ih h
   exact⟨by omega,i2⟩
  ·
   rw[if_neg h1]at h⊢
   by_cases h2:(fY l k).2<(l.getD k dm).used -(l.getD k dm).live
   ·
    rw[if_pos h2]
    simp only[Int.toNat_natCast]
    exact⟨by omega,by
     cases hb:(l.getD k dm).bad with
     |false=>rfl
     |true=>exact absurd (.inl hb) h1,fun g=>h1 (.inr (.inl g)),trivial⟩
   ·
    rw[if_neg h2]at h⊢
    obtain⟨i1,i2⟩:=ih h
    exact⟨by omega,i2⟩
theorem Og{R:aA→Bool}{x:aA}(h:x.bad=false)(hR:R x=true):iI R x=x:=by
 rw[iI,if_neg]
 rintro(g|g)
 ·
  rw[h]at g;cases g
 ·
  rw[hR]at g;cases g
theorem Oh{α:Type}{l:List α}{i:Nat}{x:α}(h:l[i]? =some x):l.set i x=l:=sU h
open Go.ay
structure Lv(n:Nat)(x:WV):Prop where
 ok:Ok n x.v.ag
 wr:cd x
 rt:dx x.v
 pl:fq x.v.ag
 nA:(x.v.at_.length:Int)≤jJ x.v.ag.size
 half:2*(x.v.at_.length:Int)≤((x.v.ag.blocks.length:Int) -4)*x.v.ag.ae
 idle: ∃j,j<x.v.ag.blocks.length -2∧fg x.v.ag.ae x.v.at_ j=0
def vB(x:WV):Nat:=pB x.v.ag.ae (aB x.v.ag x.v.at_)
open Go.ay
open Go.ay
theorem aau{p:Int}(hp:p≤16){l:List aA}(h: ∀x∈l,x.used≤p∧0≤x.live):pB p l≤16*l.length:=by
 unfold pB
 induction l with
 |nil=>simp
 |cons z r ih=>
  have:=ih fun x hx=>h x (List.mem_cons_of_mem _ hx)
  have hz:=h z List.mem_cons_self
  rw[List.map_cons,List.sum_cons,List.length_cons]
  have:m8 p z≤16:=by
   rw[m8];split
   ·
    omega
   ·
    split
    ·
     split<;>omega
    ·
     omega
  omega
theorem Ho{x:WV}(h:cd x):vB x≤480:=by
 have hd:=fa h.ag
 have:=aau hd.2.2.2.1 (l:=aB x.v.ag x.v.at_) fun z hz=>by
  have t:=s8 h.ag hz
  exact⟨t.wO,t.E7⟩
 rw[j7]at this
 unfold vB;omega
theorem Dc{l:List aA}{j:Nat}{x:aA}(h:l[j]? =some x)(hb:x.bad=false)(hl:x.live=0):1≤fI l:=by
 rw[fI]
 refine List.length_pos_of_mem (a:=x) (List.mem_filter.2 ⟨List.mem_of_getElem? h,?_⟩)
 rw[hb,hl];rfl
theorem aav{l:List aA}(h:1≤fI l): ∃(j:Nat) (x:aA),l[j]? =some x∧x.bad=false∧x.live=0:=by
 obtain⟨x,hx⟩:=List.exists_mem_of_length_pos (show 0<_ from h)
 obtain⟨h1,h2⟩:=List.mem_filter.1 hx
 simp only[Bool.and_eq_true,Bool.not_eq_true',decide_eq_true_eq]at h2
 obtain⟨j,hj⟩:=List.getElem?_of_mem h1
 exact⟨j,x,hj,h2.1,h2.2⟩
open Go.ay
structure Items(v:VV)(l:List (Int×List UInt8)):Prop where
 ne:l.Pairwise fun p q=>p.1≠q.1
 it: ∀x∈l,0≤x.1∧x.1<v.at_.length∧(x.2.length:Int)≤dR v.ag.size
 len:l.length≤v.at_.length
theorem aaw{n:Nat}{f:FV}(h:gG f)(k:Ok n f.al.ag)(hp:fq f.al.ag)(hi: ∃j,j<f.al.ag.blocks.length -2∧fg f.al.ag.ae f.al.at_ j=0):Lv n ⟨f.al,false⟩:=by
 have gX:=h.ids
 have hc:dS f.al.ag≤jJ f.al.ag.size∧dS f.al.ag≤qa f.al.ag.blocks.length f.al.ag.ae/2:=by rw[dS,ti];omega
 have hl:qa f.al.ag.blocks.length f.al.ag.ae≤((f.al.ag.blocks.length:Int) -4)*f.al.ag.ae:=by
  have h4:=(gk.1 h.rt.bears).2.1
  have hd:=fa k.ag
  rw[qa];split
  ·
   exact Int.mul_nonneg (by omega) (by omega)
  ·
   exact Int.le_refl _
 exact⟨k,uY (xI.2 h.rt),h.rt,hp,by show(f.al.at_.length:Int)≤jJ f.al.ag.size;omega,by show 2*(f.al.at_.length:Int)≤((f.al.ag.blocks.length:Int) -4)*f.al.ag.ae;omega,hi⟩
open Go.ay
def vC(n p:Nat):CV×Int:=nu ((n:Int)+5) ((p:Int)+2) 64
def jd(n p:Nat):FV×Int:=nC (vC n p).1
def Dd(f:FV):Bool:=gp f&&decide (f.table=[])&&f.al.ag.blocks.all (fun b=> !b.bad&&decide (b.aT=0))&&decide (f.al.ag.ops≤10)&& !f.al.ag.off&&decide (f.al.ag.aX=[])&&decide (f.al.gen≤10)&&f.al.at_.all (fun n=>decide (n=0))&&decide (eJ (fe f) (fD f [])=[])
def Hp(n p:Nat):Bool:=decide ((vC n p).2=0)&&decide ((jd n p).2=0)&&Dd (jd n p).1&&aS (vC n p).1&&decide ((jd n p).1.al.ag.blocks.length=n+5)&&decide ((jd n p).1.al.ag.ae=(p:Int)+2)&&decide ((jd n p).1.al.ag.size=64)
theorem Oi: ∀n,n<8→ ∀p,p<7→Hp n p=true:=by decide+kernel
open Go.ay
structure Rm(k:Nat)(f:FV):Prop where
 fb:gG f
 lv:Lv k ⟨f.al,false⟩
 km:f.al.ag.aX=[]
 off:f.al.ag.off=false
 gen:f.al.gen+k<281474976710656
 can:eJ (fe f) (fD f [])=[]
 nA:(f.table.length:Int)≤fC f.al.ag
theorem aax{f:FV}(h:Dd f=true):Rm 1000000000 f∧f.table=[]:=by
 simp only[Dd,Bool.and_eq_true,decide_eq_true_eq,List.all_eq_true,Bool.not_eq_true']at h
 obtain⟨⟨⟨⟨⟨⟨⟨⟨h1,h2⟩,h3⟩,h4⟩,h5⟩,h6⟩,h7⟩,h8⟩,h9⟩:=h
 have vD:=vz.1 h1
 have mN:cK=1099511627776:=rfl
 have eP: ∀b:Int,(ak f.al.ag b).bad=false∧(ak f.al.ag b).aT=0:=fun b=>by
  rcases Nat.lt_or_ge b.toNat f.al.ag.blocks.length with hl|hl
  ·
   have hm:ak f.al.ag b∈f.al.ag.blocks:=by
    simp only[ak,List.getD,List.getElem?_eq_getElem hl,Option.getD_some];exact List.getElem_mem hl
   exact h3 _ hm
  ·
   simp only[ak,List.getD,List.getElem?_eq_none hl,Option.getD_none];exact⟨rfl,rfl⟩
 have h4l:4≤(f.al.ag.blocks.length:Int):=(gk.1 vD.rt.bears).2.1
 have hp:2≤f.al.ag.ae:=(gk.1 vD.rt.bears).2.2.1
 have bM:Ok 1000000000 f.al.ag:=⟨vD.rt.bears,fun b=>(eP b).1,h5,(by rw[h6];exact fun x hx=>absurd hx List.not_mem_nil),by omega,fun b=>by rw[(eP b).2];omega⟩
 refine⟨⟨vD,aaw vD bM (.nil h6) ⟨0,by omega,?_⟩,h6,h5,Nat.lt_of_le_of_lt (Nat.add_le_add_right h7 _) (by decide),h9,?_⟩,h2⟩
 ·
  refine(z0 (by omega) vD.rt.pl.pA 0).2 fun k hk rJ=> ?_
  exact absurd (h8 k hk) rJ
 ·
  rw[h2]
  have hm:=vD.iB
  have:0≤fC f.al.ag:=by
   rw[fC,tj,iB];split
   ·
    omega
   ·
    rename_i g
    have hi:=FF f.al.ag
    have h0:0≤dR f.al.ag.size/20:=by omega
    have h1:0≤ti f.al.ag.blocks.length f.al.ag.ae f.al.ag.size*(dR f.al.ag.size/20):=Int.mul_nonneg (by omega) h0
    omega
  simpa using this
theorem Oj{n p:Nat}(hn:n<8)(hp:p<7):(vC n p).2=0∧aS (vC n p).1=true∧(jd n p).2=0∧Rm 1000000000 (jd n p).1∧(jd n p).1.table=[]∧fC (jd n p).1.al.ag=tj ((n:Int)+5) ((p:Int)+2) 64:=by
 have h:=Oi n hn p hp
 simp only[Hp,Bool.and_eq_true,decide_eq_true_eq]at h
 obtain⟨⟨⟨⟨⟨⟨h1,h2⟩,h3⟩,h4⟩,h5⟩,h6⟩,h7⟩:=h
 obtain⟨g1,g2⟩:=aax h3
 refine⟨h1,h4,h2,g1,g2,?_⟩
 rw[fC,h5,h6,h7];rfl
def Hq(t:List Rt)(l:List Ch)(m:Int):Int:=if dW t l=0∧m<(cT t l).length then 5 else dW t l
end Go.Kb
namespace Go.ay
open Go.Kb
variable {t ts:List Rt} {k:Key} {bits:Int} {p:cR}
open Go.Kb
variable {t ts:List Rt} {k:Key} {bits:Int} {p:cR} {r:Rt}
open Go.Kb
variable {t ts:List Rt} {p:cR}
open Go.Kb
variable {t u:List Ch} {p:cR} {r:Ch}
open Go.Kb
variable {t u v:List Rt} {p:cR} {l:List Ch}
def Hr(t:List Rt)(p:cR):Option Rt:=t.find? fun x=>decide (x.p=p)
theorem aay:Hr t p=none↔ ∀x∈t,x.p≠p:=by
 unfold Hr
 rw[List.find?_eq_none]
 exact⟨fun h x hx=>by simpa using h x hx,fun h x hx=>by simpa using h x hx⟩
theorem Br{a:cR}(ha:cY a=true)(h: ∀x∈t,dJ a x.p=true):Hr t a=none:=aay.2 fun x hx e=>by
 have:=h x hx
 rw[e,w4 ha]at this;cases this
end Go.ay
namespace Go.Kb
open Go.ay
open Go.ay
open Go.ay
structure Cs(k:Int)(c d:CV):Prop where
 ops:d.ops≤c.ops+k
 aT: ∀b:Int,(ak d b).aT -(ak c b).aT≤d.ops -c.ops
theorem Cs.bW(c:CV):Cs 0 c c:=⟨by omega,fun b=>by omega⟩
theorem Cs.mono{k m:Int}{c d:CV}(h:Cs k c d)(hm:k≤m):Cs m c d:=⟨by have:=h.ops;omega,h.aT⟩
theorem Cs.trans{k m:Int}{c d e:CV}(h:Cs k c d)(g:Cs m d e):Cs (k+m) c e:=⟨by have:=h.ops;have:=g.ops;omega,fun b=>by have:=h.aT b;have:=g.aT b;omega⟩
theorem Ol{c:CV}{b e k:Int}:(ak (gm c b e) k).aT=(ak c k).aT:=by
 rw[gm];split
 ·
  rw[iS];split
  ·
   rename_i h
   have hh:fy c b=true:=by
    cases hq:fy c b with
    |true=>rfl
    |false=>rw[jZ,if_neg (by rw[hq];simp)]at h;cases h
   obtain⟨_,h3,h4⟩:=fA.1 hh
   have e:=m7 (c:=c) (o:=c.ops) (f:=c.off) (B:={ak c b with bad:=true}) (show b.toNat<c.blocks.length by omega) k
   rw[e];split
   ·
    rename_i e2;have e3:ak c k=ak c b:=by simp only[ak,e2]
    rw[e3]
   ·
    rfl
  ·
   rfl
 ·
  rfl
theorem xL(c:CV)(b:Int)(p:List UInt8):Cs 1 c (bH c b p):=by
 have hw: ∀k:Int,(ak (dK c b (ak c b).used p) k).aT=(ak c k).aT:=fun k=>by
  rw[dK];split
  ·
   rename_i h
   obtain⟨_,h3,h4⟩:=fA.1 (iH.1 h.1).1
   rw[eS,m7 (by omega)];split
   ·
    rename_i e2;have e3:ak c k=ak c b:=by simp only[ak,e2]
    rw[e3]
   ·
    rfl
  ·
   rfl
 have ho:(dK c b (ak c b).used p).ops≤c.ops+1:=by
  rw[dK];split
  ·
   exact Int.le_refl _
  ·
   omega
 have hl:=Ks c b (ak c b).used p
 refine⟨by rw[bH,rO];exact ho,fun k=> ?_⟩
 rw[bH,Ol,hw,rO];omega
theorem Om(c:CV)(b:Int):Cs 1 c (df c b):=by
 have ho:(eF c b).ops≤c.ops+1∧ ∀k:Int,(ak (eF c b) k).aT -(ak c k).aT≤(eF c b).ops -c.ops:=by
  rw[eF];split
  ·
   rename_i h
   obtain⟨_,h3,h4⟩:=fA.1 (nv.1 h.1).1
   refine⟨Int.le_refl _,fun k=> ?_⟩
   rw[gA,m7 (by omega)];split
   ·
    rename_i e2;have e3:ak c k=ak c b:=by simp only[ak,e2]
    rw[e3];simp only;omega
   ·
    simp only;omega
  ·
   exact⟨by omega,fun k=>by omega⟩
 exact⟨by rw[df,rO];exact ho.1,fun k=>by rw[df,Ol,rO];exact ho.2 k⟩
theorem On: ∀(n:Nat) (c:CV) (b:Int),Cs (n+1) c (eZ n c b).1
 |0,c,b=>(Om c b).mono (by omega)
 |n+1,c,b=>by
  rw[eZ];split
  ·
   exact(xL c b _).mono (by omega)
  ·
   exact((xL c b _).trans (On n _ b)).mono (by omega)
theorem De{c:CV}(b:Int)(hk:aS c=true)(h0:0≤b)(h1:b<c.blocks.length):Cs 17 c (cE c b).1:=by
 have hd:=fa hk
 have hb:=eA.1 (qN hk h0 h1)
 have:eH c b≤16:=by rw[eH];split<;>omega
 exact(On _ c b).mono (by omega)
theorem Oo: ∀{l m:List BV},l.length=m.length→(∀(i:Nat) (x y:BV),l[i]? =some x→m[i]? =some y→x.bad=true→y.bad=true)→(l.filter fun b=>b.bad).length≤(m.filter fun b=>b.bad).length∧((∃(i:Nat) (x y:BV),l[i]? =some x∧m[i]? =some y∧x.bad=false∧y.bad=true)→(l.filter fun b=>b.bad).length<(m.filter fun b=>b.bad).length)
 |[],[],_,_=>⟨Nat.le_refl _,fun⟨i,x,y,h,_⟩=>by simp at h⟩
 |[],_::_,h,_=>by simp at h
 |_::_,[],h,_=>by simp at h
 |a::l,b::m,h,hp=>by
  obtain⟨i1,i2⟩:=Oo (l:=l) (m:=m) (by simpa using h) (fun i x y hx hy=>hp (i+1) x y (by simpa using hx) (by simpa using hy))
  have h0:=hp 0 a b rfl rfl
  refine⟨?_,?_⟩
  ·
   simp only[List.filter_cons]
   by_cases ha:a.bad=true
   ·
    rw[if_pos ha,if_pos (h0 ha)];simpa using i1
   ·
    rw[if_neg ha];split
    ·
     simp only[List.length_cons];omega
    ·
     exact i1
  ·
   rintro⟨i,x,y,hx,hy,h1,h2⟩
   simp only[List.filter_cons]
   match i with
   |0=>
    obtain rfl:a=x:=by simpa using hx
    obtain rfl:b=y:=by simpa using hy
    rw[if_neg (by rw[h1];simp),if_pos h2];simp only[List.length_cons];omega
   |i+1=>
    have:=i2 ⟨i,x,y,by simpa using hx,by simpa using hy,h1,h2⟩
    by_cases ha:a.bad=true
    ·
     rw[if_pos ha,if_pos (h0 ha)];simpa using this
    ·
     rw[if_neg ha];split
     ·
      simp only[List.length_cons];omega
     ·
      exact this
theorem m9{L:List Int}{c d:CV}(h:Kd L c d):cl c≤cl d∧ ∀b:Int,0≤b→b<c.blocks.length→(ak c b).bad=false→(ak d b).bad=true→cl c<cl d:=by
 have hp: ∀(i:Nat) (x y:BV),c.blocks[i]? =some x→d.blocks[i]? =some y→x.bad=true→y.bad=true:=fun i x y hx hy hb=>by
  have e1:ak c (i:Int)=x:=by simp[ak,List.getD,hx]
  have e2:ak d (i:Int)=y:=by simp[ak,List.getD,hy]
  have:=h.xG i (by rw[e1];exact hb)
  rw[e1,e2]at this
  rw[this];exact hb
 obtain⟨q1,q2⟩:=Oo h.cx.len.symm hp
 refine⟨q1,fun b b0 b1 hc hd=>q2 ⟨b.toNat,ak c b,ak d b,?_,?_,hc,hd⟩⟩
 ·
  simp only[ak,List.getD];rw[List.getElem?_eq_getElem (by omega)];rfl
 ·
  simp only[ak,List.getD];rw[List.getElem?_eq_getElem (by rw[h.cx.len];omega)];rfl
theorem aaz{c:CV}{b:Int}{p:List UInt8}(hb:(ak c b).bad=false)(he:bw c b p=9):0≤b∧b<c.blocks.length∧(ak (bH c b p) b).bad=true:=by
 rw[bw,jq]at he
 have dZ:lC c b (ak c b).used p=true:=by
  cases hq:lC c b (ak c b).used p with
  |true=>rfl
  |false=>rw[if_neg (by rw[hq];simp)]at he;cases he
 rw[if_pos dZ]at he
 have kj:c.off=false:=by
  cases hq:c.off with
  |false=>rfl
  |true=>rw[if_pos hq]at he;cases he
 rw[if_neg (by rw[kj];simp),if_neg (by rw[hb];simp)]at he
 have hs:(bp c).2=true:=by
  cases hq:(bp c).2 with
  |true=>rfl
  |false=>rw[if_neg (by rw[hq];simp)]at he;cases he
 rw[if_pos hs,jY]at he
 have Df:(bp c).1.cut=false:=by
  cases hq:(bp c).1.cut with
  |false=>rfl
  |true=>rw[if_pos hq]at he;cases he
 have hh:=(iH.1 dZ).1
 obtain⟨h1,h2,h3⟩:=fA.1 hh
 refine⟨h2,h3,?_⟩
 have hE:bw c b p=9:=by
  rw[bw,jq,if_pos dZ,if_neg (by rw[kj];simp),if_neg (by rw[hb];simp),if_pos hs,jY,if_neg (by rw[Df];simp)]
 have e:dK c b (ak c b).used p=eS c b (ak c b).used p:=if_pos ⟨dZ,kj,hb,rfl⟩
 have hk:=BD h1 b (ak c b).used p
 rw[e]at hk
 have eX:(eS c b (ak c b).used p).blocks.length=c.blocks.length:=by simp[eS]
 have Hs:fy (eS c b (ak c b).used p) b=true:=fA.2 ⟨hk,h2,by rw[eX];exact h3⟩
 have hm:jZ (eS c b (ak c b).used p) b=0:=by
  rw[jZ,if_pos Hs,if_neg]
  rw[eS,hs,Df];simp
 rw[bH,hE,gm,if_pos rfl,e,iS,if_pos hm]
 have:=m7 (c:=eS c b (ak c b).used p) (o:=(eS c b (ak c b).used p).ops) (f:=(eS c b (ak c b).used p).off) (B:={ak (eS c b (ak c b).used p) b with bad:=true}) (show b.toNat<(eS c b (ak c b).used p).blocks.length by rw[eX];omega) b
 rw[if_pos rfl]at this
 rw[this]
theorem aaA{c:CV}{b:Int}(hb:(ak c b).bad=false)(he:dL c b=9):0≤b∧b<c.blocks.length∧(ak (df c b) b).bad=true:=by
 have GK:=he
 rw[dL]at he
 have dZ:lR c b=true:=by
  cases hq:lR c b with
  |true=>rfl
  |false=>rw[if_neg (by rw[hq];simp)]at he;cases he
 rw[if_pos dZ]at he
 have kj:c.off=false:=by
  cases hq:c.off with
  |false=>rfl
  |true=>rw[if_pos hq]at he;cases he
 rw[if_neg (by rw[kj];simp),if_neg (by rw[hb];simp)]at he
 have hs:(bp c).2=true:=by
  cases hq:(bp c).2 with
  |true=>rfl
  |false=>rw[if_neg (by rw[hq];simp)]at he;cases he
 rw[if_pos hs,jY]at he
 have Df:(bp c).1.cut=false:=by
  cases hq:(bp c).1.cut with
  |false=>rfl
  |true=>rw[if_pos hq]at he;cases he
 have hh:=(nv.1 dZ).1
 obtain⟨h1,h2,h3⟩:=fA.1 hh
 refine⟨h2,h3,?_⟩
 have e:eF c b=gA c b:=if_pos ⟨dZ,kj,hb⟩
 have hk:=BE h1 b
 rw[e]at hk
 have eX:(gA c b).blocks.length=c.blocks.length:=by simp[gA]
 have Hs:fy (gA c b) b=true:=fA.2 ⟨hk,h2,by rw[eX];exact h3⟩
 have hm:jZ (gA c b) b=0:=by
  rw[jZ,if_pos Hs,if_neg]
  rw[gA,hs,Df];simp
 rw[df,GK,gm,if_pos rfl,e,iS,if_pos hm]
 have:=m7 (c:=gA c b) (o:=(gA c b).ops) (f:=(gA c b).off) (B:={ak (gA c b) b with bad:=true}) (show b.toNat<(gA c b).blocks.length by rw[eX];omega) b
 rw[if_pos rfl]at this
 rw[this]
theorem Dg{c:CV}{b:Int}{p:List UInt8}(hb:(ak c b).bad=false)(he:bw c b p=9):cl c<cl (bH c b p):=by
 obtain⟨h1,h2,h3⟩:=aaz hb he
 exact(m9 (sh (L:=[]))).2 b h1 h2 hb h3
theorem aaB{c:CV}{b:Int}(hb:(ak c b).bad=false)(he:dL c b=9):cl c<cl (df c b):=by
 obtain⟨h1,h2,h3⟩:=aaA hb he
 exact(m9 (G3 (L:=[]) (fun n hn=>by cases hn))).2 b h1 h2 hb h3
theorem Oq: ∀(n:Nat) {c:CV} {b:Int},(ak c b).bad=false→(eZ n c b).2=9→cl c<cl (eZ n c b).1
 |0,c,b,hb,he=>aaB hb he
 |n+1,c,b,hb,he=>by
  rw[eZ]at he⊢
  by_cases h0:bw c b (gU c)≠0
  ·
   rw[if_pos h0]at he⊢;exact Dg hb he
  ·
   rw[if_neg h0]at he⊢
   have nt:bw c b (gU c)=0:=by simpa using h0
   have:=Oq n (Kt nt) he
   have:=(m9 (sh (L:=[]) (c:=c) (b:=b) (p:=gU c))).1
   omega
theorem Dh{c:CV}{b:Int}(hb:(ak c b).bad=false)(he:(cE c b).2=9):cl c<cl (cE c b).1:=Oq _ hb he
theorem aaC{c:CV}{fl:List Int}{aC:Bool}(hk:aS c=true)(h3:3≤c.blocks.length):Cs 17 c (bg c fl aC).1∧((bg c fl aC).2.2=9→cl c<cl (bg c fl aC).1):=by
 rw[bg]
 by_cases h1:(mO c fl).2=true
 ·
  rw[if_pos h1];exact⟨(Cs.bW c).mono (by omega),fun h=>absurd (show(0:Int)=9 from h) (by decide)⟩
 ·
  rw[if_neg h1]
  by_cases h2:fI (aB c fl)=0∨(fI (aB c fl)=1∧aC=false)
  ·
   rw[if_pos h2];exact⟨(Cs.bW c).mono (by omega),fun h=>absurd (show(5:Int)=9 from h) (by decide)⟩
  ·
   rw[if_neg h2]
   by_cases h4:(kP c fl).2=true
   ·
    rw[if_pos h4];exact⟨(Cs.bW c).mono (by omega),fun h=>absurd (show(0:Int)=9 from h) (by decide)⟩
   ·
    rw[if_neg h4]
    obtain⟨d1,d2,d3⟩:=E9 hk h3 (fun e=>h2 (.inl e)) h4
    exact⟨De _ hk (by omega) (by omega),Dh d3⟩
theorem Ht: ∀(n:Nat) {c:CV} {fl:List Int} {aC:Bool} {b:List UInt8},aS c=true→3≤c.blocks.length→Cs (18*(1+((cl (gM n c fl aC b).1:Int) -cl c))) c (gM n c fl aC b).1
 |0,c,fl,aC,b,_,_=>(Cs.bW c).mono (by show(0:Int)≤18*(1+((cl c:Int) -cl c));omega)
 |n+1,c,fl,aC,b,hk,h3=>by
  obtain⟨f1,f2,f3,f4,f5⟩:=BK (fl:=fl) (aC:=aC) hk h3
  obtain⟨k1,k2⟩:=aaC (fl:=fl) (aC:=aC) hk h3
  have kp:=(Nw (fl:=fl) (aC:=aC) hk h3).1
  have nH:=(m9 kp.toKd).1
  have hbp:=(m9 (sh (L:=[]) (c:=(bg c fl aC).1) (b:=(bg c fl aC).2.1) (p:=b))).1
  have oy:=k1.trans (xL (bg c fl aC).1 (bg c fl aC).2.1 b)
  rw[gM]
  by_cases h0:(bg c fl aC).2.2=0
  ·
   rw[if_pos h0]
   by_cases h1:bw (bg c fl aC).1 (bg c fl aC).2.1 b=0
   ·
    rw[if_pos h1];exact oy.mono (by simp only;omega)
   ·
    rw[if_neg h1]
    by_cases h9:bw (bg c fl aC).1 (bg c fl aC).2.1 b≠9
    ·
     rw[if_pos h9];exact oy.mono (by simp only;omega)
    ·
     rw[if_neg h9]
     have bM:=iU f1 (bg c fl aC).2.1 b
     have hl:=f2.trans (gD (bg c fl aC).1 (bg c fl aC).2.1 b)
     have:=Ht n (fl:=fl) (aC:=aC) (b:=b) bM (by rw[hl.len];exact h3)
     have hb:=Dg (f4 h0).2.2 (show bw (bg c fl aC).1 (bg c fl aC).2.1 b=9 by simpa using h9)
     exact(oy.trans this).mono (by omega)
  ·
   rw[if_neg h0]
   by_cases h9:(bg c fl aC).2.2≠9
   ·
    rw[if_pos h9];exact k1.mono (by simp only;omega)
   ·
    rw[if_neg h9]
    have:=Ht n (fl:=fl) (aC:=aC) (b:=b) f1 (by rw[f2.len];exact h3)
    have hb:=k2 (show(bg c fl aC).2.2=9 by simpa using h9)
    exact(k1.trans this).mono (by omega)
theorem aaD{c:CV}{fl:List Int}{aC:Bool}{p:PV}(hk:aS c=true)(h3:3≤c.blocks.length):Cs (18*(1+((cl (c8 c fl aC p).1:Int) -cl c))) c (c8 c fl aC p).1:=by
 rw[c8];split
 ·
  exact(Cs.bW c).mono (by simp only;omega)
 ·
  exact Ht _ hk h3
theorem Hu{v:VV}{aC:Bool}: ∀(l:List (Int×List UInt8)) {c:CV} {a:List Int},aS c=true→3≤c.blocks.length→Cs (18*(l.length+((cl (gW v aC l c a).1:Int) -cl c))) c (gW v aC l c a).1
 |[],c,a,_,_=>(Cs.bW c).mono (by simp only[gW,List.length_nil];omega)
 |x::r,c,a,hk,h3=>by
  have hp:=aaD (fl:=v.at_++a) (aC:=aC) (p:=gV v x) hk h3
  have kp:=(Nx (fl:=v.at_++a) (aC:=aC) (p:=gV v x) hk h3).1
  have hb:=(m9 kp.toKd).1
  rw[gW]
  split
  ·
   exact(Hu r hk h3).mono (by simp only[List.length_cons];omega)
  ·
   split
   ·
    exact hp.mono (by simp only[List.length_cons];omega)
   ·
    have:=Hu (v:=v) (aC:=aC) r (c:=(c8 c (v.at_++a) aC (gV v x)).1) (a:=a.set x.1.toNat (c8 c (v.at_++a) aC (gV v x)).2.1) (kp.ok hk) (by rw[kp.cx.len];exact h3)
    exact(hp.trans this).mono (by simp only[List.length_cons];omega)
theorem Hv{v:VV}{src to:Int}: ∀(l:List Int) (id:Nat) {c:CV} {a:List Int},Cs l.length c (bY v src to l id c a).c
 |[],id,c,a=>Cs.bW c
 |n::r,id,c,a=>by
  rw[bY]
  split
  ·
   exact(Hv r (id+1)).mono (by simp only[List.length_cons];omega)
  ·
   split
   ·
    exact(Cs.bW c).mono (by simp only[List.length_cons];omega)
   ·
    split
    ·
     exact(Cs.bW c).mono (by simp only[List.length_cons];omega)
    ·
     split
     ·
      exact(xL c _ _).mono (by simp only[List.length_cons];omega)
     ·
      exact((xL c _ _).trans (Hv r (id+1))).mono (by simp only[List.length_cons];omega)
theorem aaE(c:CV)(last:Int):Cs 1 c (aU c last).1∧cl c≤cl (aU c last).1:=by
 rw[aU]
 repeat' split
 all_goals first
  |exact⟨(Cs.bW c).mono (by omega),Nat.le_refl _⟩
  |exact⟨Om c _,(m9 (G3 (L:=[]) (fun n hn=>by cases hn))).1⟩
theorem Ot: ∀(n:Nat) {x:WV} {a:List Int} {b:List UInt8},cd x→Cs (2*(1+((cl (fc n x a b).1.v.ag:Int) -cl x.v.ag))) x.v.ag (fc n x a b).1.v.ag
 |0,x,a,b,_=>(Cs.bW _).mono (by simp only[fc];omega)
 |n+1,x,a,b,hx=>by
  obtain⟨r1,r2⟩:=aaE x.v.ag x.v.last
  have bM:=wQ (last:=x.v.last) hx.ag hx.last
  have hbp:=(m9 (sh (L:=[]) (c:=(aU x.v.ag x.v.last).1) (b:=(aU x.v.ag x.v.last).2.1) (p:=b))).1
  have hc:=r1.trans (xL (aU x.v.ag x.v.last).1 (aU x.v.ag x.v.last).2.1 b)
  rw[fc]
  split
  ·
   exact r1.mono (by simp only[WV.on];omega)
  ·
   split
   ·
    exact hc.mono (by simp only;omega)
   ·
    split
    ·
     exact hc.mono (by simp only[WV.on];omega)
    ·
     rename_i h0 h1 h9
     have hb:=Dg (bM.2.2.2 (by simpa using h0)).2 (show bw (aU x.v.ag x.v.last).1 (aU x.v.ag x.v.last).2.1 b=9 by simpa using h9)
     have dO:=hx.on (iU bM.1 (aU x.v.ag x.v.last).2.1 b) (bM.2.1.trans (gD (aU x.v.ag x.v.last).1 (aU x.v.ag x.v.last).2.1 b))
     have:=Ot n (x:=x.on (bH (aU x.v.ag x.v.last).1 (aU x.v.ag x.v.last).2.1 b)) (a:=a) (b:=b) dO
     exact(hc.trans this).mono (by simp only[WV.on];omega)
theorem Ou{x:WV}{a:List Int}(hx:cd x):Cs (2*(1+((cl (dV x a).1.v.ag:Int) -cl x.v.ag))) x.v.ag (dV x a).1.v.ag:=by
 rw[dV];split
 ·
  exact(Cs.bW _).mono (by simp only;omega)
 ·
  exact Ot _ hx
open Go.ay
theorem aaF{c:CV}{b:Int}{p:List UInt8}(hb:b<2)(i:Nat):ak (bH c b p) ((i:Int)+2)=ak c ((i:Int)+2):=by
 rw[bH,gm]
 split
 ·
  rw[iS]
  split
  ·
   rename_i hm
   have hh:fy (dK c b (ak c b).used p) b=true:=by
    cases hq:fy (dK c b (ak c b).used p) b with
    |true=>rfl
    |false=>rw[jZ,if_neg (by rw[hq];simp)]at hm;cases hm
   obtain⟨_,h3,h4⟩:=fA.1 hh
   have:=m7 (c:=dK c b (ak c b).used p) (o:=(dK c b (ak c b).used p).ops) (f:=(dK c b (ak c b).used p).off) (B:={ak (dK c b (ak c b).used p) b with bad:=true}) (show b.toNat<(dK c b (ak c b).used p).blocks.length by omega) ((i:Int)+2)
   rw[if_neg (by omega)]at this
   rw[this,zQ (by omega)]
  ·
   rw[zQ (by omega)]
 ·
  rw[zQ (by omega)]
theorem Ov: ∀(n:Nat) {x:WV} {a:List Int} {b:List UInt8},cd x→ ∀i:Nat,ak (fc n x a b).1.v.ag ((i:Int)+2)=ak x.v.ag ((i:Int)+2)
 |0,x,a,b,_,i=>rfl
 |n+1,x,a,b,hx,i=>by
  have hl:=hx.last
  have bM:=wQ (last:=x.v.last) hx.ag hl
  have hd:ak (aU x.v.ag x.v.last).1 ((i:Int)+2)=ak x.v.ag ((i:Int)+2):=aat hl i
  rw[fc]
  split
  ·
   exact hd
  ·
   rename_i h0
   have hb:=(bM.2.2.2 (by simpa using h0)).1
   have hp:ak (bH (aU x.v.ag x.v.last).1 (aU x.v.ag x.v.last).2.1 b) ((i:Int)+2)=ak x.v.ag ((i:Int)+2):=(aaF (by omega) i).trans hd
   split
   ·
    exact hp
   ·
    split
    ·
     exact hp
    ·
     have dO:=hx.on (iU bM.1 (aU x.v.ag x.v.last).2.1 b) (bM.2.1.trans (gD (aU x.v.ag x.v.last).1 (aU x.v.ag x.v.last).2.1 b))
     exact(Ov n dO i).trans hp
theorem aaG{x:WV}{a:List Int}(hx:cd x)(i:Nat):ak (dV x a).1.v.ag ((i:Int)+2)=ak x.v.ag ((i:Int)+2):=by
 rw[dV];split
 ·
  rfl
 ·
  exact Ov _ hx i
theorem Hw{v:VV}{src:Int}{t:Nat}: ∀(l:List Int) (id:Nat) {c:CV} {a:List Int} {m:Nat},aS c=true→dB v.ag c→t<c.blocks.length -2→Pl c v.at_→Std c a→a.length=v.at_.length→v.at_.drop id=l→(∀j,id≤j→a[j]? =v.at_[j]?)→(∀(j:Nat) (y:Int),v.at_[j]? =some y→(y=0∨(y -1)/v.ag.ae≠src)→a[j]? =some y)→
  fg c.ae (v.at_++a) t=m→(ak c ((t:Int)+2)).used=m→(ak c ((t:Int)+2)).bad=false→(bY v src ((t:Int)+2) l id c a).e=none→
  Std (bY v src ((t:Int)+2) l id c a).c (bY v src ((t:Int)+2) l id c a).a∧
   (∃m' w':Int,aB (bY v src ((t:Int)+2) l id c a).c (v.at_++(bY v src ((t:Int)+2) l id c a).a)=(aB c (v.at_++a)).set t ⟨m',m',w',false⟩)∧
   (∀(j:Nat) (y:Int),v.at_[j]? =some y→(y=0∨(y -1)/v.ag.ae≠src)→(bY v src ((t:Int)+2) l id c a).a[j]? =some y)
 |[],id,c,a,m,hk,eX,ht,hv,ha,fx,hl,iC,dF,nE,zp,hb,he=>by
  have hd:=fa hk
  refine⟨ha,⟨m,(ak c ((t:Int)+2)).aT,?_⟩,dF⟩
  refine(Oh ?_).symm
  show(aB c (v.at_++a))[t]? =_
  rw[vA (by omega) (hv.pA.append ha),List.getElem?_map,List.getElem?_range ht,Option.map_some,oz hb,nE,zp]
 |y::r,id,c,a,m,hk,eX,ht,hv,ha,fx,hl,iC,dF,nE,zp,hb,he=>by
  have hy:v.at_[id]? =some y:=by
   have:=congrArg (fun l:List Int=>l[0]?) hl
   simpa using this
  have hr:v.at_.drop (id+1)=r:=by rw[←List.drop_drop,hl];rfl
  have hp:=eX.ae
  have hd:=fa hk
  rw[bY]at he⊢
  by_cases h1:y=0∨(y -1)/v.ag.ae≠src
  ·
   rw[if_pos h1]at he⊢
   exact Hw r (id+1) hk eX ht hv ha fx hr (fun j hj=>iC j (by omega)) dF nE zp hb he
  ·
   rw[if_neg h1]at he⊢
   have hB:bU c v.at_ a src ((t:Int)+2)=((t:Int)+2,true):=by rw[bU,if_neg (by omega)]
   rw[hB,if_neg (by simp)]at he⊢
   by_cases h3:(dv c ((v.gen:Int)+1) id y).2≠0
   ·
    rw[if_pos h3]at he;simp at he
   ·
    rw[if_neg h3]at he⊢
    by_cases h4:bw c ((t:Int)+2) (dv c ((v.gen:Int)+1) id y).1≠0
    ·
     rw[if_pos h4]at he;simp at he
    ·
     rw[if_neg h4]at he⊢
     have z:bw c ((t:Int)+2) (dv c ((v.gen:Int)+1) id y).1=0:=by simpa using h4
     simp only at he⊢
     generalize hN:((t:Int)+2)*v.ag.ae+(ak c ((t:Int)+2)).used+1=N at he⊢
     have mv: ∀k,k∈v.at_++a.set id N↔k∈v.at_++a∨k=((t:Int)+2)*c.ae+(ak c ((t:Int)+2)).used+1:=fun k=>by
      rw[hp,hN,List.mem_append,List.mem_append]
      have gX:id<a.length:=by rw[fx];exact(List.getElem?_eq_some_iff.1 hy).1
      constructor
      ·
       rintro(q|q)
       ·
        exact .inl (.inl q)
       ·
        rcases List.mem_or_eq_of_mem_set q with q|q
        ·
         exact .inl (.inr q)
        ·
         exact .inr q
      ·
       rintro((q|q)|q)
       ·
        exact .inl q
       ·
        obtain⟨j,hj⟩:=List.getElem?_of_mem q
        by_cases e:j=id
        ·
         rw[e,iC id (Nat.le_refl _)]at hj
         exact .inl (List.mem_of_getElem? hj)
        ·
         right
         exact List.mem_of_getElem? (i:=j) (by rw[List.getElem?_set_ne (fun g=>e g.symm)];exact hj)
       ·
        right
        rw[q]
        exact List.mem_of_getElem? (i:=id) (by rw[List.getElem?_set_self gX])
     obtain⟨b1,b2⟩:=aas hk (hv.pA.append ha) z mv
     have sj:=sh (L:=v.at_) (c:=c) (b:=(t:Int)+2) (p:=(dv c ((v.gen:Int)+1) id y).1)
     have rl:=gD c ((t:Int)+2) (dv c ((v.gen:Int)+1) id y).1
     have dZ:=iH.1 (od z).1
     have iL:=Hl z
     have eP:(((t:Int)+2)*c.ae+(ak c ((t:Int)+2)).used+1 -1)/c.ae=(t:Int)+2:=by
      rw[Int.add_sub_cancel,Int.add_comm,Int.add_mul_ediv_right _ _ (by omega),Int.ediv_eq_zero_of_lt dZ.2.1 dZ.2.2.1,Int.zero_add]
     have aaH:((t:Int)+2)*c.ae+(ak c ((t:Int)+2)).used+1∉v.at_++a:=fun gO=>by
      have wP:0≤((t:Int)+2)*c.ae:=Int.mul_nonneg (by omega) (by omega)
      have:=hv.pA.append ha _ gO (by have:=dZ.2.1;omega)
      rw[Int.add_sub_cancel,(C3 (L:=[]) (by omega) z).2.2.2]at this;cases this
     have Ow:=Hj (by omega) eP aaH mv t
     rw[if_pos rfl,nE]at Ow
     obtain⟨i3,⟨m',w',i4⟩,i5⟩:=Hw r (id+1) (m:=m+1) (a:=a.set id N) (iU hk _ _) (eX.trans rl) (by rw[rl.len];exact ht) (hv.kd sj fun _ q=>q) (fun k hk=>b2 k (List.mem_append_right _ hk)) (by rw[List.length_set,fx]) hr (fun j hj=>by rw[List.getElem?_set_ne (by omega)];exact iC j (by omega)) (fun j q hq C7=>by
      by_cases e:j=id
      ·
       rw[e,hy]at hq
       obtain rfl:=Option.some.inj hq
       exact absurd C7 h1
      ·
       rw[List.getElem?_set_ne (fun g=>e g.symm)];exact dF j q hq C7) (by rw[rl.ae];exact Ow) (by rw[iL.1,zp];rfl) iL.2.2 he
     refine⟨i3,⟨m',w',?_⟩,i5⟩
     rw[i4,b1,List.set_set]
theorem Hx{v:VV}{src to:Int}: ∀(l:List Int) (id:Nat) {c:CV} {a:List Int},(0≤to→2≤to∧to<c.blocks.length∧(ak c to).bad=false)→cl c≤cl (bY v src to l id c a).c∧((bY v src to l id c a).e=some 0→cl c<cl (bY v src to l id c a).c)
 |[],id,c,a,ht=>⟨Nat.le_refl _,fun h=>by simp[bY]at h⟩
 |n::r,id,c,a,ht=>by
  rw[bY]
  by_cases h1:n=0∨(n -1)/v.ag.ae≠src
  ·
   rw[if_pos h1];exact Hx r (id+1) ht
  ·
   rw[if_neg h1]
   by_cases h2:(bU c v.at_ a src to).2=false
   ·
    rw[if_pos h2];exact⟨Nat.le_refl _,fun h=>by simp at h⟩
   ·
    rw[if_neg h2]
    obtain⟨m1,m2,m3⟩:=Fk (by simpa using h2) ht
    by_cases h3:(dv c ((v.gen:Int)+1) id n).2≠0
    ·
     rw[if_pos h3]
     exact⟨Nat.le_refl _,fun h=>absurd (Option.some.inj h) h3⟩
    ·
     rw[if_neg h3]
     have hm:=(m9 (sh (L:=[]) (c:=c) (b:=(bU c v.at_ a src to).1) (p:=(dv c ((v.gen:Int)+1) id n).1))).1
     by_cases h4:bw c (bU c v.at_ a src to).1 (dv c ((v.gen:Int)+1) id n).1≠0
     ·
      rw[if_pos h4]
      refine⟨hm,fun h=> ?_⟩
      have h:=Option.some.inj h
      rw[iV]at h
      split at h
      ·
       rename_i h9;exact Dg m3 h9
      ·
       exact absurd h h4
     ·
      rw[if_neg h4]
      have qR:bw c (bU c v.at_ a src to).1 (dv c ((v.gen:Int)+1) id n).1=0:=by simpa using h4
      obtain⟨i1,i2⟩:=Hx (v:=v) (src:=src) (to:=to) r (id+1) (c:=bH c (bU c v.at_ a src to).1 (dv c ((v.gen:Int)+1) id n).1) (a:=a.set id ((bU c v.at_ a src to).1*v.ag.ae+(ak c (bU c v.at_ a src to).1).used+1)) (fun h=>by
       have:=ht h
       rw[(gD c _ _).len,BN qR]
       exact this)
      exact⟨by omega,fun h=>by have:=i2 h;omega⟩
def Di(c:CV):Prop:= ∀b:Int,(ak c b).aT<cK
theorem vE{c:CV}{fl:List Int}(hp:1≤c.ae)(hs:Std c fl){i:Nat}(hi:i<c.blocks.length -2):(aB c fl)[i]? =some (ll c fl i):=by
 rw[vA hp hs,List.getElem?_map,List.getElem?_range hi,Option.map_some]
theorem Ox{c:CV}{fl:List Int}{i:Nat}(hk:aS c=true)(hs:Std c fl)(h3:3≤c.blocks.length):
  ((bJ c ((aB c fl).set i bb)).2.2=0→ ∃(t:Nat) (w:Int),t≠i∧t<c.blocks.length -2∧(bJ c ((aB c fl).set i bb)).2.1=(t:Int)+2∧aB (bJ c ((aB c fl).set i bb)).1 fl=(aB c fl).set t ⟨0,0,w,false⟩)∧
  ((bJ c ((aB c fl).set i bb)).2.2=9→cl c<cl (bJ c ((aB c fl).set i bb)).1)∧
  Cs 17 c (bJ c ((aB c fl).set i bb)).1∧
  ((bJ c ((aB c fl).set i bb)).2.2=6→(bJ c ((aB c fl).set i bb)).1=c∧(Di c→ ∀(j:Nat) (x:aA),j≠i→(aB c fl)[j]? =some x→x.bad=false→x.live≠0)):=by
 have hd:=fa hk
 have hw0:=aaq hk hs h3
 have hw:=aar hw0 i
 have Oy: ∀{k:Nat} {x:aA},((aB c fl).set i bb)[k]? =some x→x.bad=false→k≠i∧k<c.blocks.length -2∧(ak c ((k:Int)+2)).bad=false∧x=⟨fg c.ae fl k,(ak c ((k:Int)+2)).used,(ak c ((k:Int)+2)).aT,false⟩∧(aB c fl)[k]? =some x:=fun{k x} hx hb=>by
  have xM:k≠i:=fun e=>by
   rw[e,List.getElem?_set,if_pos rfl]at hx
   split at hx
   ·
    obtain rfl:=Option.some.inj hx;cases hb
   ·
    cases hx
  rw[List.getElem?_set_ne (fun e=>xM e.symm)]at hx
  obtain⟨e,hl⟩:=Db (by omega) hs hx
  have lF:=sZ hx
  rw[hb]at lF
  exact⟨xM,hl,lF.symm,by rw[e];exact oz lF.symm,hx⟩
 have Oz: ∀{d:Int},(∃x,((aB c fl).set i bb)[d.toNat]? =some x∧x.bad=false∧x.live=0)→0≤d→
   ((cE c (d+2)).2=0→ ∃(t:Nat) (w:Int),t≠i∧t<c.blocks.length -2∧d+2=(t:Int)+2∧aB (cE c (d+2)).1 fl=(aB c fl).set t ⟨0,0,w,false⟩)∧((cE c (d+2)).2=9→cl c<cl (cE c (d+2)).1)∧Cs 17 c (cE c (d+2)).1∧((cE c (d+2)).2=6→False):=fun{d} hx h0=>by
  obtain⟨x,hx,hb,hl⟩:=hx
  obtain⟨k1,k2,k3,k4,_⟩:=Oy hx hb
  rw[k4]at hl
  simp only at hl
  have e:d=((d.toNat:Nat):Int):=by omega
  rw[e]
  have pY:=(z0 (by omega) hs d.toNat).1 (by omega)
  refine⟨fun z=>⟨d.toNat,_,k1,k2,rfl,(Hm hk hs pY z).1⟩,Dh k3,De _ hk (by omega) (by omega),y5 _ _⟩
 rw[bJ]
 by_cases hA:(kQ c ((aB c fl).set i bb)).2=true
 ·
  rw[if_pos hA]
  refine⟨fun _=> ?_,fun h=>absurd (show(0:Int)=9 from h) (by decide),(Cs.bW c).mono (by omega),fun h=>absurd (show(0:Int)=6 from h) (by decide)⟩
  obtain⟨x,hx,a1,a2,a3,a4,a5⟩:=og (fun x h=>(uT h).1) hA
  have yI:((aB c fl).set i bb)[(kQ c ((aB c fl).set i bb)).1.toNat]? =some x:=hx
  change 0≤(kQ c ((aB c fl).set i bb)).1 at a4
  generalize kQ c ((aB c fl).set i bb)=T at*
  obtain⟨k1,k2,k3,k4,k5⟩:=Oy yI a1
  simp only[oZ,decide_eq_true_eq]at a2
  rw[k4]at a2
  simp only at a2
  have MD:=Oa (by omega) hs T.1.toNat (by omega)
  refine⟨T.1.toNat,(ak c ((T.1.toNat:Int)+2)).aT,k1,k2,by simp only;rw[Int.toNat_of_nonneg a4],(Oh ?_).symm⟩
  rw[k5,k4,a2,show(fg c.ae fl T.1.toNat:Int)=0 by omega]
 ·
  rw[if_neg hA]
  by_cases hB:(jw c ((aB c fl).set i bb)).2=true
  ·
   rw[if_pos hB]
   obtain⟨x,hx,a1,a2,a3,a4,a5⟩:=og (fun x h=>(kA h).1) hB
   obtain⟨q1,q2,q3,q4⟩:=Oz (d:=(jw c ((aB c fl).set i bb)).1) ⟨x,hx,a1,(kA a3).2.1⟩ a4
   exact⟨q1,q2,q3,fun g=>(q4 g).elim⟩
  ·
   rw[if_neg hB]
   by_cases hD:(iX c ((aB c fl).set i bb)).2=true
   ·
    rw[if_pos hD]
    obtain⟨x,hx,a1,a2,a3,a4,a5⟩:=og (fun x h=>(kA h).1) hD
    obtain⟨q1,q2,q3,q4⟩:=Oz (d:=(iX c ((aB c fl).set i bb)).1) ⟨x,hx,a1,(kA a3).2.1⟩ a4
    exact⟨q1,q2,q3,fun g=>(q4 g).elim⟩
   ·
    rw[if_neg hD]
    refine⟨fun h=>absurd (show(6:Int)=0 from h) (by decide),fun h=>absurd (show(6:Int)=9 from h) (by decide),(Cs.bW c).mono (by omega),fun _=>⟨rfl,fun Cq j x hj hx hb hl=> ?_⟩⟩
    have hAn:=wK (Ob (R:=oZ) hw) (show(fB (bX oZ ((aB c fl).set i bb)) c.ae (nz c.ae) [BC,rN]).2=false by simpa[kQ,eU]using hA)
    have lB:=wK (Ob (R:=p6) hw) (show(fB (bX p6 ((aB c fl).set i bb)) c.ae lT [rN]).2=false by simpa[iX,eV]using hD)
    have mv:x∈(aB c fl).set i bb:=List.mem_of_getElem? (i:=j) (by rw[List.getElem?_set_ne (fun e=>hj e.symm)];exact hx)
    obtain⟨e1,e2⟩:=Db (by omega) hs hx
    have lF:=sZ hx
    rw[hb]at lF
    rw[oz lF.symm]at e1
    have nP:=Cq ((j:Int)+2)
    have vw:=eA.1 (qN hk (b:=(j:Int)+2) (by omega) (by omega))
    have hxu:x.used=(ak c ((j:Int)+2)).used:=by rw[e1]
    have hxw:x.aT=(ak c ((j:Int)+2)).aT:=by rw[e1]
    by_cases hu:x.used=0
    ·
     have:=hAn _ (List.mem_map_of_mem (f:=iI oZ) mv)
     rw[Og hb (by simp[oZ,hu]),nz,hb]at this
     simp only[Bool.not_false,Bool.true_and,decide_eq_false_iff_not]at this
     omega
    ·
     have:=lB _ (List.mem_map_of_mem (f:=iI p6) mv)
     rw[Og hb (by simp only[p6,decide_eq_true_eq];omega),lT,hb,hl]at this
     simp only[Bool.not_false,Bool.true_and,decide_true,decide_eq_false_iff_not]at this
     omega
open Go.ay
theorem aaI{c:CV}{fl:List Int}{i:Nat}{m w:Int}(h:ll c fl i=⟨m,m,w,false⟩):(ak c ((i:Int)+2)).bad=false∧(ak c ((i:Int)+2)).used=m∧(fg c.ae fl i:Int)=m:=by
 have hb:(ak c ((i:Int)+2)).bad=false:=by
  cases hq:(ak c ((i:Int)+2)).bad with
  |false=>rfl
  |true=>rw[ll,if_pos hq]at h;cases h
 rw[oz hb]at h
 exact⟨hb,congrArg aA.used h,congrArg aA.live h⟩
theorem aaJ{x:WV}(hx:cd x)(h:Std x.v.ag x.v.at_){i:Nat}(hi:i<x.v.ag.blocks.length -2)(hb:(ak x.v.ag ((i:Int)+2)).bad=false)(hl:fg x.v.ag.ae x.v.at_ i=0):1≤fI (ba x):=by
 have hd:=fa hx.ag
 refine Dc (vE (by omega) h hi) ?_ ?_
 ·
  rw[oz hb]
 ·
  rw[oz hb];simp only;omega
def Dj(x y:WV):Prop:=cl x.v.ag<cl y.v.ag∨(1≤fI (ba y)∧(fI (ba x)=0∨vB y<vB x))
theorem OA{x:WV}(hx:cd x)(h:dx x.v)(he:(jx x (ba x)).2=0):Dj x (jx x (ba x)).1:=by
 have hd:=fa hx.ag
 have tL:=h.pl.pA
 have hD:(ke x.v.ag (ba x)).2=true:=by
  cases hq:(ke x.v.ag (ba x)).2 with
  |true=>rfl
  |false=>rw[jx,if_pos hq]at he;cases he
 obtain⟨z,hz,a1,a2,a3,a4,a5⟩:=og (fun x h=>(kA h).1) (show(fB (bX (mT x.v.ag.ae) (ba x)) x.v.ag.ae lT [rN]).2=true from hD)
 have Hy:(ba x)[(ke x.v.ag (ba x)).1.toNat]? =some z:=hz
 change 0≤(ke x.v.ag (ba x)).1 at a4
 rw[jx,if_neg (by rw[hD];simp)]at he⊢
 generalize ke x.v.ag (ba x)=T at*
 obtain⟨e1,e2⟩:=Db (by omega) tL Hy
 have lF:=sZ Hy
 rw[a1]at lF
 rw[oz lF.symm]at e1
 have pT:=(kA a3).2.1
 have Mn:=(kA a3).2.2
 rw[mT,Bool.and_eq_true,decide_eq_true_eq]at a2
 have Mo:=a2.1
 have eT:T.1=((T.1.toNat:Nat):Int):=by omega
 have aaK:fg x.v.ag.ae x.v.at_ T.1.toNat=0:=by rw[e1]at pT;simp only at pT;omega
 have pY:=(z0 (by omega) tL T.1.toNat).1 aaK
 have kc:=(uQ (((T.1.toNat:Nat):Int)+2) hx.ag).2
 rw[eT]at he⊢
 rcases y6 he with q1|q1
 ·
  right
  obtain⟨b1,b2⟩:=Hm hx.ag tL pY q1
  have ka:=Hn (p:=x.v.ag.ae) (x:=⟨0,0,(ak x.v.ag (((T.1.toNat:Nat):Int)+2)).aT+1,false⟩) Hy
  have aaL:m8 x.v.ag.ae ⟨0,0,(ak x.v.ag (((T.1.toNat:Nat):Int)+2)).aT+1,false⟩=0:=by
   rw[m8];simp
  have nD:m8 x.v.ag.ae z=1:=by
   rw[m8,a1];simp only[Bool.false_eq_true,if_false]
   rw[if_pos pT,if_pos ⟨Mn,Mo⟩]
  refine⟨?_, .inr ?_⟩
  ·
   show 1≤fI (aB (cE x.v.ag (((T.1.toNat:Nat):Int)+2)).1 x.v.at_)
   rw[b1]
   exact Dc (List.getElem?_set_self (by rw[j7];exact e2)) rfl rfl
  ·
   show pB (cE x.v.ag (((T.1.toNat:Nat):Int)+2)).1.ae (aB (cE x.v.ag (((T.1.toNat:Nat):Int)+2)).1 x.v.at_)<pB x.v.ag.ae (aB x.v.ag x.v.at_)
   rw[b1,kc.ae]
   change pB x.v.ag.ae ((ba x).set _ _)<pB x.v.ag.ae (ba x)
   omega
 ·
  left
  exact Dh lF.symm q1
theorem aaM{x:WV}(hx:cd x)(h:dx x.v)(hv:(iK x).2=true): ∃i:Nat,(iK x).1=i∧i<x.v.ag.blocks.length -2∧(ak x.v.ag ((i:Int)+2)).bad=false∧0<fg x.v.ag.ae x.v.at_ i∧(fg x.v.ag.ae x.v.at_ i:Int)<(ak x.v.ag ((i:Int)+2)).used:=by
 have hd:=fa hx.ag
 have zY:=Fh hv
 rw[ba,j7]at zY
 change 0≤(iK x).1∧(iK x).1<_ at zY
 have hi:(iK x).1.toNat<x.v.ag.blocks.length -2:=by omega
 have hg:=vE (c:=x.v.ag) (fl:=x.v.at_) (by omega) h.pl.pA hi
 have Hz:(ba x).getD (iK x).1.toNat dm=ll x.v.ag x.v.at_ (iK x).1.toNat:=by
  simp only[List.getD];rw[show(ba x)[(iK x).1.toNat]? =_ from hg];rfl
 have key:((ba x).getD (iK x).1.toNat dm).bad=false∧0<((ba x).getD (iK x).1.toNat dm).live∧((ba x).getD (iK x).1.toNat dm).live<((ba x).getD (iK x).1.toNat dm).used:=by
  rw[iK,iW]at hv⊢
  by_cases h1:(kz (ba x) x.v.ag.ae).2=true
  ·
   rw[if_pos h1]
   obtain⟨f1,f2,f3,f4⟩:=wJ h1
   change uO x.v.ag.ae ((ba x).getD (kz (ba x) x.v.ag.ae).1.toNat dm)=true at f4
   simp only
   have hb:((ba x).getD (kz (ba x) x.v.ag.ae).1.toNat dm).bad=false:=by
    cases hq:((ba x).getD (kz (ba x) x.v.ag.ae).1.toNat dm).bad with
    |false=>rfl
    |true=>
     have hl:(kz (ba x) x.v.ag.ae).1.toNat<x.v.ag.blocks.length -2:=by
      have:(kz (ba x) x.v.ag.ae).1<(ba x).length:=f3
      have f2':0≤(kz (ba x) x.v.ag.ae).1:=f2
      have hl2:(ba x).length=x.v.ag.blocks.length -2:=j7 _ _
      omega
     have e:(ba x).getD (kz (ba x) x.v.ag.ae).1.toNat dm=ll x.v.ag x.v.at_ (kz (ba x) x.v.ag.ae).1.toNat:=by
      simp only[List.getD];rw[show(ba x)[(kz (ba x) x.v.ag.ae).1.toNat]? =_ from vE (c:=x.v.ag) (fl:=x.v.at_) (by omega) h.pl.pA hl];rfl
     rw[e]at hq f4
     have lF:ll x.v.ag x.v.at_ (kz (ba x) x.v.ag.ae).1.toNat=bb:=by
      rw[ll]at hq⊢
      split
      ·
       rfl
      ·
       rename_i g;rw[if_neg g]at hq;cases hq
     rw[lF]at f4
     cases f4
   rw[uO,hb]at f4
   simp only[Bool.false_eq_true,if_false,Bool.and_eq_true,decide_eq_true_eq]at f4
   exact⟨hb,by omega,by omega⟩
  ·
   rw[if_neg h1]at hv⊢
   simp only[decide_eq_true_eq]at hv⊢
   obtain⟨s0,s1,s2,s3⟩:=Of _ _ hv
   have hm:(ba x).getD (fY (ba x) (ba x).length).1.toNat dm∈ba x:=by
    simp only[List.getD];rw[List.getElem?_eq_getElem s0];exact List.getElem_mem s0
   have:=(s8 hx.ag hm).E7
   exact⟨s1,by omega,by omega⟩
 rw[Hz]at key
 have hb:(ak x.v.ag (((iK x).1.toNat:Int)+2)).bad=false:=by
  rw[←sZ hg];exact key.1
 rw[oz hb]at key
 simp only at key
 exact⟨(iK x).1.toNat,by omega,hi,hb,by omega,key.2.2⟩
open Go.ay
theorem aaN{l:List aA}(h: ∀(j:Nat) (x:aA),l[j]? =some x→x.bad=false→x.live≠0):fI l=0:=by
 apply Classical.byContradiction
 intro hn
 obtain⟨j,x,h1,h2,h3⟩:=aav (l:=l) (by omega)
 exact h j x h1 h2 h3
theorem OB{b:Bool}(h: ¬b=false):b=true:=by cases b with|false=>exact absurd rfl h|true=>rfl
theorem aaO{x:WV}{i:Nat}(hx:cd x)(h:dx x.v)(bA:fq x.v.ag)(hn:Di x.v.ag)(hi:i<x.v.ag.blocks.length -2)(hb:(ak x.v.ag ((i:Int)+2)).bad=false)(h0:0<fg x.v.ag.ae x.v.at_ i)(h1:(fg x.v.ag.ae x.v.at_ i:Int)<(ak x.v.ag ((i:Int)+2)).used):
  ((ei x (ba x) i).2=0→Dj x (ei x (ba x) i).1)∧((ei x (ba x) i).2=6→fI (ba x)=0∨(ei x (ba x) i).1=x):=by
 have hd:=fa hx.ag
 have zu:3≤x.v.ag.blocks.length:=by have:=hx.oh;omega
 have tL:=h.pl.pA
 have z5:=vE (c:=x.v.ag) (fl:=x.v.at_) (by omega) tL hi
 rw[oz hb]at z5
 have Hz:(ba x).getD i dm=⟨fg x.v.ag.ae x.v.at_ i,(ak x.v.ag ((i:Int)+2)).used,(ak x.v.ag ((i:Int)+2)).aT,false⟩:=by
  simp only[List.getD];rw[show(ba x)[i]? =_ from z5];rfl
 have aG:(i:Int).toNat=i:=rfl
 obtain⟨t0,t9,tc,t6⟩:=Ox (i:=i) hx.ag tL zu
 have k1:=(Hc ((C1 x.v.ag x.v.at_).set i)).1
 change(bJ x.v.ag ((ba x).set i bb)).2.2=0→ ∃(t:Nat) (w:Int),t≠i∧t<x.v.ag.blocks.length -2∧(bJ x.v.ag ((ba x).set i bb)).2.1=(t:Int)+2∧aB (bJ x.v.ag ((ba x).set i bb)).1 x.v.at_=(ba x).set t ⟨0,0,w,false⟩at t0
 change(bJ x.v.ag ((ba x).set i bb)).2.2=9→cl x.v.ag<cl (bJ x.v.ag ((ba x).set i bb)).1 at t9
 change(bJ x.v.ag ((ba x).set i bb)).2.2=6→(bJ x.v.ag ((ba x).set i bb)).1=x.v.ag∧_ at t6
 change Kp x.v.at_ x.v.ag (bJ x.v.ag ((ba x).set i bb)).1 at k1
 have OC:(bJ x.v.ag ((ba x).set i bb)).2.2=6→fI (ba x)=0:=fun e=>aaN fun j z hz Ms=>by
  by_cases hj:j=i
  ·
   rw[hj,show(ba x)[i]? =_ from z5]at hz
   rw[←Option.some.inj hz];simp only;omega
  ·
   exact(t6 e).2 hn j z hj hz Ms
 rw[ei,aG]
 by_cases hr:(bZ x.v.ag (ba x) i).2≠0
 ·
  rw[if_pos hr]
  rw[bZ,aG]at hr⊢
  by_cases ha:o8 x.v.ag (ba x) i=true
  ·
   rw[if_pos ha]at hr;exact absurd rfl hr
  ·
   rw[if_neg ha]at hr⊢
   refine⟨fun e=> .inl ?_,fun e=> .inr ?_⟩
   ·
    rcases y6 e with g|g
    ·
     exact absurd g hr
    ·
     exact t9 g
   ·
    have:=(t6 (te e)).1
    show x.on _=x
    rw[this,Fe]
 ·
  rw[if_neg hr]
  have u6:(bZ x.v.ag (ba x) i).2=0:=by simpa using hr
  have oH:=wV (i:=(i:Int)) hx.ag (ta x.v.ag x.v.at_) u6
  rw[aG]at oH
  change 0≤(bZ x.v.ag (ba x) i).1→2≤(bZ x.v.ag (ba x) i).1∧(bZ x.v.ag (ba x) i).1<x.v.ag.blocks.length∧(ak (bJ x.v.ag ((ba x).set i bb)).1 (bZ x.v.ag (ba x) i).1).bad=false at oH
  have hT:(fI (ba x)=0∧(bZ x.v.ag (ba x) i).1= -1)∨ ∃(t:Nat) (w:Int),t≠i∧t<x.v.ag.blocks.length -2∧(bZ x.v.ag (ba x) i).1=(t:Int)+2∧aB (bJ x.v.ag ((ba x).set i bb)).1 x.v.at_=(ba x).set t ⟨0,0,w,false⟩:=by
   by_cases ha:o8 x.v.ag (ba x) i=true
   ·
    left
    refine⟨OC ?_,by rw[bZ,if_pos ha]⟩
    rw[o8,aG,Bool.and_eq_true,decide_eq_true_eq]at ha
    exact ha.1
   ·
    right
    rw[bZ,if_neg ha,aG]at u6⊢
    exact t0 u6
  have cF:0≤(bZ x.v.ag (ba x) i).1→(bZ x.v.ag (ba x) i).1≠(i:Int)+2:=fun g=>by
   rcases hT with⟨_,e⟩|⟨t,w,e1,_,e2,_⟩
   ·
    omega
   ·
    omega
  clear t0 t6 t9 tc OC
  generalize(bZ x.v.ag (ba x) i).1=to at*
  generalize(bJ x.v.ag ((ba x).set i bb)).1=c1 at*
  have eX:=k1.cx
  have qY:=k1.ok hx.ag
  have dO:=hx.on qY eX
  have xN:=h.kp k1
  have aaP:=(m9 k1.toKd).1
  have OD:0≤to→2≤to∧to<c1.blocks.length∧(ak c1 to).bad=false:=fun g=>by
   have:=oH g;rw[eX.len];exact this
  obtain⟨m1,m2,m3,m4⟩:=C5 (v:=(x.on c1).v) (src:=(i:Int)+2) (to:=to) (by omega) cF (by show 1≤c1.ae;rw[eX.ae];omega) (x.on c1).v.at_ 0 (c:=(x.on c1).v.ag) (a:=(x.on c1).v.at_) qY xN.pl (.bW _ _) xN.pl rfl OD rfl (fun _ _=>rfl) (fun j n hj=>by omega) rfl
  obtain⟨mb1,mb2⟩:=Hx (v:=(x.on c1).v) (src:=(i:Int)+2) (to:=to) (x.on c1).v.at_ 0 (c:=(x.on c1).v.ag) (a:=(x.on c1).v.at_) OD
  have aaQ:=fun(t:Nat) (ht:t<c1.blocks.length -2)=>Hw (v:=(x.on c1).v) (src:=(i:Int)+2) (t:=t) (x.on c1).v.at_ 0 (c:=(x.on c1).v.ag) (a:=(x.on c1).v.at_) (m:=0) qY (.bW _) ht xN.pl xN.pl.pA rfl rfl (fun _ _=>rfl) (fun _ _ q _=>q)
  have hm6:0≤to→(bY (x.on c1).v ((i:Int)+2) to (x.on c1).v.at_ 0 (x.on c1).v.ag (x.on c1).v.at_).e≠some 6:=fun g=>HA g _ _
  rw[cX]
  by_cases hE: ∃e,(bY (x.on c1).v ((i:Int)+2) to (x.on c1).v.at_ 0 (x.on c1).v.ag (x.on c1).v.at_).e=some e
  ·
   obtain⟨e,hE⟩:=hE
   rw[hE]
   simp only[true_or,if_true]
   refine⟨fun g=> .inl ?_,fun g=> .inl ?_⟩
   ·
    have:=mb2 (by rw[hE,g])
    show cl x.v.ag<cl (bY _ _ _ _ _ _ _).c
    have hh:cl (x.on c1).v.ag=cl c1:=rfl
    omega
   ·
    rcases hT with⟨e1,_⟩|⟨t,w,_,_,e2,_⟩
    ·
     exact e1
    ·
     exact absurd (by rw[hE,g]) (hm6 (by omega))
  ·
   have HB:(bY (x.on c1).v ((i:Int)+2) to (x.on c1).v.at_ 0 (x.on c1).v.ag (x.on c1).v.at_).e=none:=by
    cases hq:(bY (x.on c1).v ((i:Int)+2) to (x.on c1).v.at_ 0 (x.on c1).v.ag (x.on c1).v.at_).e with
    |none=>rfl
    |some e=>exact absurd ⟨e,hq⟩ hE
   rw[HB]
   simp only
   obtain⟨g1,g2,g3,g4⟩:=m2 HB
   generalize hM:bY (x.on c1).v ((i:Int)+2) to (x.on c1).v.at_ 0 (x.on c1).v.ag (x.on c1).v.at_=M at*
   have hkM:=m1.ok qY
   have xO:cd ((x.on c1).on M.c):=dO.on hkM m1.cx
   have hRM:=xN.kp m1
   have rl:=eX.trans m1.cx
   have hW:=Hb (a:=M.a) xO hRM ((bA.kd k1.toKd).kd m1.toKd) g1 g3
   have Dk:=aaG (a:=M.a) xO
   have aiV:=Ff (a:=M.a) xO
   have hWb:=(m9 hW.1.kd).1
   have hW6:=BQ ((x.on c1).on M.c) M.a
   generalize dV ((x.on c1).on M.c) M.a=W at*
   by_cases hw:W.2=0
   ·
    have iL:=hW.2 hw
    have HC:=(hW.1.bh hw).1
    have Dl:dB x.v.ag W.1.v.ag:=rl.trans hW.1.kd.cx
    have OE:aS W.1.v.ag=true:=(gk.1 HC.bears).1
    have Dm:Std W.1.v.ag M.a:=by have:=HC.pl.pA;rwa [iL]at this
    have pY:kW M.a W.1.v.ag ((i:Int)+2):=by
     have:kW M.a c1 ((i:Int)+2):=g4
     exact this.cx (m1.cx.trans hW.1.kd.cx)
    have OF:fg W.1.v.ag.ae W.1.v.at_ i=0:=by rw[iL];exact(z0 (by rw[Dl.ae];omega) Dm i).2 pY
    have OG:i<W.1.v.ag.blocks.length -2:=by rw[Dl.len];exact hi
    have hbM:=m9 m1.toKd
    have HD:cl M.c≤cl W.1.v.ag:=hWb
    have aaR:cl c1≤cl M.c:=mb1
    cases rR:(ak W.1.v.ag ((i:Int)+2)).bad with
    |true=>
     have hM:(ak M.c ((i:Int)+2)).bad=true:=by rw[←rR,Dk i];rfl
     have Cm:cl x.v.ag<cl M.c:=(m9 (k1.toKd.trans m1.toKd)).2 _ (by clear hT;omega) (by clear hT;omega) hb hM
     by_cases hf:(decide (W.2=0)=false)∨((ba x).getD i dm).used=x.v.ag.ae
     ·
      rw[if_pos hf]
      exact⟨fun _=> .inl (Nat.lt_of_lt_of_le Cm HD),fun g=>absurd (hw.symm.trans g) (by decide)⟩
     ·
      rw[if_neg hf]
      refine⟨fun _=> .inl ?_,fun g=>absurd (te g) (y5 _ _)⟩
      have:=(m9 (vu (L:=W.1.v.at_) (c:=W.1.v.ag) (b:=(i:Int)+2) (by omega) (by rw[iL];exact pY)).toKd).1
      exact Nat.lt_of_lt_of_le Cm (Nat.le_trans HD this)
    |false=>
     have aaS:fI (ba x)=0∨ ∃(t:Nat) (m' w':Int),t≠i∧t<x.v.ag.blocks.length -2∧aB W.1.v.ag M.a=((ba x).set t ⟨m',m',w',false⟩).set i ⟨0,(ak x.v.ag ((i:Int)+2)).used,(ak x.v.ag ((i:Int)+2)).aT,false⟩:=by
      rcases hT with⟨e1,_⟩|⟨t,w,z1,z2,z3,z4⟩
      ·
       exact .inl e1
      ·
       right
       subst z3
       have z6:Std c1 x.v.at_:=xN.pl.pA
       have re:aB c1 (x.v.at_++x.v.at_)=(ba x).set t ⟨0,0,w,false⟩:=by
        rw[←z4]
        exact aap (by rw[eX.ae];omega) z6 (z6.append z6) (.bW _) fun k=>⟨rfl,rfl,rfl,fun _=>xK (fun m _=>by rw[List.mem_append];exact or_self_iff) (by rw[eX.ae];omega)⟩
       have F3:t<c1.blocks.length -2:=by rw[eX.len];exact z2
       have AD:=vE (c:=c1) (fl:=x.v.at_++x.v.at_) (by rw[eX.ae];omega) (z6.append z6) F3
       rw[re,List.getElem?_set_self (by rw[show(ba x).length=_ from j7 _ _];exact z2)]at AD
       obtain⟨u1,u2,u3⟩:=aaI (Option.some.inj AD).symm
       have oN:=aaQ t F3 (by show fg c1.ae (x.v.at_++x.v.at_) t=0;omega) u2 u1
       rw[hM]at oN
       obtain⟨e3,⟨m',w',e4⟩,e5⟩:=oN HB
       have OH:aB M.c (x.v.at_++M.a)=(ba x).set t ⟨m',m',w',false⟩:=by
        have:aB M.c (x.v.at_++M.a)=(aB c1 (x.v.at_++x.v.at_)).set t ⟨m',m',w',false⟩:=e4
        rw[this,re,List.set_set]
       have OI:Std M.c (x.v.at_++M.a):=(tL.kd k1.toKd (fun _ q=>q)|>.kd m1.toKd fun _ q=>q).append e3
       have mY:1≤M.c.ae:=by rw[rl.ae];omega
       have OJ:=vE (c:=M.c) (fl:=x.v.at_++M.a) mY OI (i:=i) (by rw[rl.len];exact hi)
       rw[OH,List.getElem?_set_ne z1,show(ba x)[i]? =_ from z5,oz (by rw[←rR,Dk i];rfl)]at OJ
       have OK:=Option.some.inj OJ
       refine⟨t,m',w',z1,z2,?_⟩
       rw[←OH]
       refine Hk mY OI Dm (by have:=hW.1.kd.cx;exact this) (fun k hk=>⟨Dk k,xK (fun q hq=> ?_) mY⟩) ?_
       ·
        rw[List.mem_append]
        refine⟨.inr,fun g=>g.elim (fun g=> ?_) id⟩
        obtain⟨z,hz⟩:=List.getElem?_of_mem g
        have:=e5 z q hz (.inr (by show(q -1)/c1.ae≠_;rw[←show M.c.ae=c1.ae from m1.cx.ae,hq];omega))
        exact List.mem_of_getElem? this
       ·
        have hz:=OF
        rw[iL]at hz
        rw[oz rR,hz,Dk i]
        have v1:=congrArg aA.used OK
        have v2:=congrArg aA.aT OK
        simp only at v1 v2
        rw[show(ak ((x.on c1).on M.c).v.ag ((i:Int)+2)).used=_ from v1.symm,show(ak ((x.on c1).on M.c).v.ag ((i:Int)+2)).aT=_ from v2.symm];rfl
     have OL: ∀{u w:Int},(u=0∨u=x.v.ag.ae)→fI (ba x)=0∨ ∃(t:Nat) (m' w':Int),t≠i∧t<x.v.ag.blocks.length -2∧aB W.1.v.ag M.a=((ba x).set t ⟨m',m',w',false⟩).set i ⟨0,(ak x.v.ag ((i:Int)+2)).used,(ak x.v.ag ((i:Int)+2)).aT,false⟩∧pB x.v.ag.ae (((ba x).set t ⟨m',m',w',false⟩).set i ⟨0,u,w,false⟩)<vB x:=fun{u w} hu=>by
      rcases aaS with e1|⟨t,m',w',z1,z2,z3⟩
      ·
       exact .inl e1
      ·
       right
       refine⟨t,m',w',z1,z2,z3,?_⟩
       have hgt:(ba x)[t]? =_:=vE (c:=x.v.ag) (fl:=x.v.at_) (by omega) tL z2
       have lf:=Hn (p:=x.v.ag.ae) (x:=⟨m',m',w',false⟩) hgt
       have aiW:m8 x.v.ag.ae ⟨m',m',w',false⟩=0:=by
        rw[m8];simp only[Bool.false_eq_true,if_false]
        split
        ·
         rename_i e;rw[if_neg (by omega)]
        ·
         omega
       have aaT:((ba x).set t ⟨m',m',w',false⟩)[i]? =_:=(List.getElem?_set_ne z1).trans z5
       have F1:1≤m8 x.v.ag.ae ⟨fg x.v.ag.ae x.v.at_ i,(ak x.v.ag ((i:Int)+2)).used,(ak x.v.ag ((i:Int)+2)).aT,false⟩:=by
        rw[m8];simp only[Bool.false_eq_true,if_false]
        rw[if_neg (by omega)];omega
       have ka:=Hn (p:=x.v.ag.ae) (x:=⟨0,u,w,false⟩) aaT
       have aaL:m8 x.v.ag.ae ⟨0,u,w,false⟩=0:=by
        rw[m8];simp only[Bool.false_eq_true,if_false,if_true]
        rw[if_neg (by omega)]
       change _<pB x.v.ag.ae (ba x)
       omega
     by_cases hf:(decide (W.2=0)=false)∨((ba x).getD i dm).used=x.v.ag.ae
     ·
      rw[if_pos hf]
      refine⟨fun _=> .inr ⟨aaJ (uY (xI.2 HC)) (by rw[iL];exact Dm) OG rR OF,?_⟩,fun g=>absurd (hw.symm.trans g) (by decide)⟩
      have aaU:(ak x.v.ag ((i:Int)+2)).used=x.v.ag.ae:=by
       rcases hf with g|g
       ·
        simp only[hw,decide_true,Bool.true_eq_false]at g
       ·
        rw[Hz]at g;exact g
      rcases OL (u:=(ak x.v.ag ((i:Int)+2)).used) (w:=(ak x.v.ag ((i:Int)+2)).aT) (.inr aaU)with e1|⟨t,m',w',z1,z2,z3,z4⟩
      ·
       exact .inl e1
      ·
       right
       rw[vB,Dl.ae,iL,z3];exact z4
     ·
      rw[if_neg hf]
      refine⟨fun g=> ?_,fun g=>absurd (te g) (y5 _ _)⟩
      have kc:=(uQ ((i:Int)+2) OE).2
      rcases y6 g with q1|q1
      ·
       right
       obtain⟨b1,b2⟩:=Hm OE Dm pY q1
       refine⟨?_,?_⟩
       ·
        show 1≤fI (aB (cE W.1.v.ag ((i:Int)+2)).1 W.1.v.at_)
        rw[iL,b1]
        exact Dc (List.getElem?_set_self (by rw[j7];exact OG)) rfl rfl
       ·
        rcases OL (u:=0) (w:=(ak W.1.v.ag ((i:Int)+2)).aT+1) (.inl rfl)with e1|⟨t,m',w',z1,z2,z3,z4⟩
        ·
         exact .inl e1
        ·
         right
         show pB (cE W.1.v.ag ((i:Int)+2)).1.ae (aB (cE W.1.v.ag ((i:Int)+2)).1 W.1.v.at_)<_
         rw[iL,b1,kc.ae,Dl.ae,z3,List.set_set];exact z4
      ·
       left
       have:=Dh rR q1
       exact Nat.lt_of_le_of_lt (Nat.le_trans aaP (Nat.le_trans aaR HD)) this
   ·
    have hf:(decide (W.2=0)=false)∨((ba x).getD i dm).used=x.v.ag.ae:= .inl (decide_eq_false hw)
    rw[if_pos hf]
    exact⟨fun g=>absurd g hw,fun g=>absurd g hW6⟩
where
 HA {v:VV} {src to:Int} (ht:0≤to): ∀(l:List Int) (id:Nat) {c:CV} {a:List Int},(bY v src to l id c a).e≠some 6
  |[],id,c,a=>by simp[bY]
  |n::r,id,c,a=>by
   have hB:bU c v.at_ a src to=(to,true):=by rw[bU,if_neg (by omega)]
   rw[bY,hB]
   split
   ·
    exact HA ht r (id+1)
   ·
    rw[if_neg (by simp)]
    split
    ·
     intro g
     have g:=Option.some.inj g
     rw[dv,dq]at g
     split at g
     ·
      cases g
     ·
      cases g
    ·
     split
     ·
      intro g
      have g:=te (Option.some.inj g)
      have:=wS c to (ak c to).used (dv c ((v.gen:Int)+1) id n).1
      simp only[bw]at g;omega
     ·
      exact HA ht r (id+1)
open Go.ay
theorem OM{c:CV}{l:List aA}(h:(ke c l).2=true):1≤fI l∧0≤(ke c l).1∧(ke c l).1<l.length:=by
 obtain⟨z,hz,a1,a2,a3,a4,a5⟩:=og (fun x h=>(kA h).1) (show(fB (bX (mT c.ae) l) c.ae lT [rN]).2=true from h)
 exact⟨Dc hz a1 (kA a3).2.1,a4,a5⟩
theorem ON{x:WV}{l:List aA}(hk:aS x.v.ag=true)(hl:l.length=x.v.ag.blocks.length -2):Cs 17 x.v.ag (jx x l).1.v.ag:=by
 rw[jx]
 by_cases h:(ke x.v.ag l).2=false
 ·
  rw[if_pos h];exact(Cs.bW _).mono (by omega)
 ·
  rw[if_neg h]
  obtain⟨_,h1,h2⟩:=OM (OB h)
  exact De _ hk (by omega) (by omega)
theorem OO{x:WV}{i:Nat}(hx:cd x)(h:dx x.v)(hi:i<x.v.ag.blocks.length -2):Cs 164 x.v.ag (ei x (ba x) i).1.v.ag∧dB x.v.ag (ei x (ba x) i).1.v.ag:=by
 have hd:=fa hx.ag
 have zu:3≤x.v.ag.blocks.length:=by have:=hx.oh;omega
 have aG:(i:Int).toNat=i:=rfl
 have oH:=(BR (l:=ba x) (i:=(i:Int)) hx (ta _ _)).1
 refine⟨?_,oH.cx⟩
 have tc:=(Ox (i:=i) hx.ag h.pl.pA zu).2.2.1
 have k1:=(Hc ((C1 x.v.ag x.v.at_).set i)).1
 change Kp x.v.at_ x.v.ag (bJ x.v.ag ((ba x).set i bb)).1 at k1
 change Cs 17 x.v.ag (bJ x.v.ag ((ba x).set i bb)).1 at tc
 have pz:=wV (i:=(i:Int)) hx.ag (ta x.v.ag x.v.at_)
 rw[aG]at pz
 rw[ei,aG]
 by_cases hr:(bZ x.v.ag (ba x) i).2≠0
 ·
  rw[if_pos hr];exact tc.mono (by omega)
 ·
  rw[if_neg hr]
  have pz:=pz (by simpa[ba]using hr)
  change 0≤(bZ x.v.ag (ba x) i).1→2≤(bZ x.v.ag (ba x) i).1∧(bZ x.v.ag (ba x) i).1<x.v.ag.blocks.length∧(ak (bJ x.v.ag ((ba x).set i bb)).1 (bZ x.v.ag (ba x) i).1).bad=false at pz
  generalize(bZ x.v.ag (ba x) i).1=to at*
  generalize(bJ x.v.ag ((ba x).set i bb)).1=c1 at*
  have eX:=k1.cx
  have dO:=hx.on (k1.ok hx.ag) eX
  have xP:Cs 130 c1 (cX (x.on c1) ((i:Int)+2) to).1.v.ag:=by
   have hm:=BO (v:=(x.on c1).v) (to:=to) (x.on c1).v.at_ 0 (c:=(x.on c1).v.ag) (a:=(x.on c1).v.at_) (src:=(i:Int)+2) dO.ag (.bW _) (Int.le_refl _) dO.qQ (fun g=>by have:=pz g;exact⟨this.1,by show to<c1.blocks.length;rw[eX.len];exact this.2.1,this.2.2⟩)
   have xP:=Hv (v:=(x.on c1).v) (src:=(i:Int)+2) (to:=to) (x.on c1).v.at_ 0 (c:=(x.on c1).v.ag) (a:=(x.on c1).v.at_)
   have hf:x.v.at_.length≤64:=hx.nA
   change Cs x.v.at_.length c1 _ at xP
   rw[cX]
   split
   ·
    exact xP.mono (by omega)
   ·
    generalize bY (x.on c1).v ((i:Int)+2) to (x.on c1).v.at_ 0 (x.on c1).v.ag (x.on c1).v.at_=M at*
    have xO:=dO.on hm.1 hm.2.1
    have hw:=Ou (a:=M.a) xO
    have hb:=wW (dV ((x.on c1).on M.c) M.a).1.v.ag
    have hwl:(dV ((x.on c1).on M.c) M.a).1.v.ag.blocks.length≤32:=by
     have:aS (dV ((x.on c1).on M.c) M.a).1.v.ag=true∧True:=⟨OP xO,trivial⟩
     have:=fa this.1;omega
    exact(xP.trans hw).mono (by omega)
  have OQ:=y4 (x:=x.on c1) (src:=(i:Int)+2) (to:=to) dO (fun g=>by have:=pz g;exact⟨this.1,by show to<c1.blocks.length;rw[eX.len];exact this.2.1,this.2.2⟩)
  split
  ·
   exact(tc.trans xP).mono (by omega)
  ·
   have hc:=De ((i:Int)+2) OQ.1.ok.ag (by omega) (by rw[OQ.1.cx.len];show(i:Int)+2<(c1.blocks.length:Int);rw[eX.len];omega)
   exact((tc.trans xP).trans hc).mono (by omega)
where
 OP {y:WV} {a:List Int} (hy:cd y):aS (dV y a).1.v.ag=true:=by
  rw[dV];split
  ·
   exact hy.ag
  ·
   exact OR _ hy
 OR: ∀(n:Nat) {y:WV} {a:List Int} {b:List UInt8},cd y→aS (fc n y a b).1.v.ag=true
  |0,y,a,b,hy=>hy.ag
  |n+1,y,a,b,hy=>by
   have bM:=wQ (last:=y.v.last) hy.ag hy.last
   have xm:=iU bM.1 (aU y.v.ag y.v.last).2.1 b
   rw[fc]
   split
   ·
    exact bM.1
   ·
    split
    ·
     exact xm
    ·
     split
     ·
      exact xm
     ·
      exact OR n (hy.on xm (bM.2.1.trans (gD _ _ _)))
theorem aaV{x:WV}(hx:cd x)(h:dx x.v)(bA:fq x.v.ag)(hn:Di x.v.ag):Cs 181 x.v.ag (eI x).1.v.ag∧((eI x).2=0→Dj x (eI x).1):=by
 have hl:(ba x).length=x.v.ag.blocks.length -2:=j7 _ _
 have ht:=ON (l:=ba x) hx.ag hl
 rw[eI]
 by_cases hv:(iK x).2=true∧uS x.v.gen=false
 ·
  rw[if_pos hv]
  obtain⟨i,v1,v2,v3,v4,v5⟩:=aaM hx h hv.1
  rw[v1]
  obtain⟨r1,r2⟩:=aaO hx h bA hn v2 v3 v4 v5
  obtain⟨c1,c2⟩:=OO hx h v2
  have oH:=(BR (l:=ba x) (i:=(i:Int)) hx (ta _ _)).1
  by_cases h6:(ei x (ba x) i).2≠6
  ·
   rw[if_pos h6];exact⟨c1.mono (by omega),r1⟩
  ·
   rw[if_neg h6]
   have tg:(ei x (ba x) i).2=6:=by simpa using h6
   refine⟨(c1.trans (ON (l:=ba x) oH.ok.ag (by rw[c2.len];exact hl))).mono (by omega),fun e=> ?_⟩
   rcases r2 tg with g|g
   ·
    exfalso
    by_cases hD:(ke (ei x (ba x) i).1.v.ag (ba x)).2=false
    ·
     rw[jx,if_pos hD]at e;exact absurd (show(6:Int)=0 from e) (by decide)
    ·
     have:=(OM (OB hD)).1
     omega
   ·
    rw[g]at e⊢;exact OA hx h e
 ·
  rw[if_neg hv]
  exact⟨ht.mono (by omega),OA hx h⟩
def tM(x:WV):Nat:=(32 -cl x.v.ag)*1200+(if fI (ba x)=0 then 600 else 0)+vB x
theorem aaW{x:WV}(h:cd x):tM x≤39480:=by
 have:=Ho h
 rw[tM];split<;>omega
theorem aaX{x y:WV}(h:cd x)(g:cd y)(hb:cl x.v.ag≤cl y.v.ag)(e:Dj x y):tM y<tM x:=by
 have h1:=Ho h
 have h2:=Ho g
 have h3:=wW y.v.ag
 have h4:=fa g.ag
 rw[tM,tM]
 rcases e with e|⟨e1,e2⟩
 ·
  split<;>split<;>omega
 ·
  rw[if_neg (by omega)]
  rcases e2 with e2|e2
  ·
   rw[if_pos e2];omega
  ·
   split<;>omega
def ln(k:Int)(c:CV):Prop:=c.ops+k<cK∧ ∀b:Int,(ak c b).aT+k<cK
theorem ln.cs{k m:Int}{c d:CV}(h:ln (k+m) c)(g:Cs m c d):ln k d:=⟨by have:=h.1;have:=g.ops;omega,fun b=>by have:=h.2 b;have:=g.aT b;have:=g.ops;omega⟩
theorem ln.mono{k m:Int}{c:CV}(h:ln k c)(g:m≤k):ln m c:=⟨by have:=h.1;omega,fun b=>by have:=h.2 b;omega⟩
theorem ln.not{c:CV}(h:ln 0 c): ¬zX c:=by
 rintro(g|⟨b,g⟩)
 ·
  have:=h.1;omega
 ·
  have:=h.2 b;omega
theorem aaY(n:Nat): ∀{x:WV} {need m:Int},cd x→dx x.v→fq x.v.ag→(tM x:Int)≤m→ln (181*m+181) x.v.ag→Cs (181*m+181) x.v.ag (pa n x need).1.v.ag:=by
 induction n with
 |zero=>intro x need m hx h bA hm hf;exact(Cs.bW _).mono (by omega)
 |succ n ih=>
  intro x need m hx h bA hm hf
  have Cq:Di x.v.ag:=fun b=>by have:=hf.2 b;omega
  have hc:=NV hx h bA
  have C8:=BS hx
  obtain⟨c1,c2⟩:=aaV hx h bA Cq
  rw[pa]
  split
  ·
   exact(Cs.bW _).mono (by omega)
  ·
   split
   ·
    exact(Cs.bW _).mono (by omega)
   ·
    split
    ·
     rename_i h0
     rw[h0]at hc
     have hR:=hc.bh rfl
     have hl:=aaX hx C8.1.ok (m9 hc.kd).1 (c2 h0)
     have jW:ln (181*(m -1)+181) (eI x).1.v.ag:=(hf.mono (m:=181*(m -1)+181+181) (by omega)).cs c1
     have:=ih (need:=need) (m:=m -1) C8.1.ok hR.1 (bA.kd hc.kd) (by omega) jW
     exact(c1.trans this).mono (by omega)
    ·
     split
     ·
      exact c1.mono (by omega)
     ·
      split
      ·
       exact c1.mono (by omega)
      ·
       exact c1.mono (by omega)
theorem aaZ{x:WV}{l:List (Int×List UInt8)}(hx:cd x)(h:dx x.v)(bA:fq x.v.ag)(hl:l.length≤64)(gX: ∀y∈l,0≤y.1)(hf:ln 8000000 x.v.ag):Cs 8000000 x.v.ag (iA x l).1.v.ag:=by
 have hmu:=aaW hx
 have OS:Sf x (ct x.v) (dz x l).1 (dz x l).2:=(NX (x:={x with beyond:=false}) (need:=rP l) (hx.by false) h bA).cG
 have ho:=BT (l:=l) hx
 have cs:Cs 7900000 x.v.ag (dz x l).1.v.ag:=by
  have:=aaY ((cK -x.v.ag.ops).toNat+1) (x:={x with beyond:=false}) (need:=rP l) (m:=39480) (hx.by false) h bA (by show((tM x:Nat):Int)≤_;omega) (hf.mono (by decide))
  exact Cs.mono this (by decide)
 rw[iA]
 by_cases h0:(dz x l).2≠0
 ·
  rw[if_pos h0];exact cs.mono (by omega)
 ·
  rw[if_neg h0]
  rw[show(dz x l).2=0 by simpa using h0]at OS
  have hR:=OS.bh rfl
  have h3:3≤(dz x l).1.v.ag.blocks.length:=by have:=ho.ok.oh;omega
  have ci:=Hu (v:=(dz x l).1.v) (aC:=(dz x l).1.beyond) l (c:=(dz x l).1.v.ag) (a:=(dz x l).1.v.at_) ho.ok.ag h3
  obtain⟨t1,t2,t3⟩:=C4 (v:=(dz x l).1.v) (aC:=(dz x l).1.beyond) l (c:=(dz x l).1.v.ag) (a:=(dz x l).1.v.at_) ho.ok.ag h3 hR.1.pl hR.1.pl gX
  have rR:=wW (iz x l).1
  have xM:=t1.ok ho.ok.ag
  change aS (iz x l).1=true at xM
  have hd:=fa xM
  change Cs (18*(l.length+((cl (iz x l).1:Int) -cl (dz x l).1.v.ag))) (dz x l).1.v.ag (iz x l).1 at ci
  by_cases h1:(iz x l).2.2≠0
  ·
   rw[if_pos h1]
   exact(cs.trans ci).mono (by omega)
  ·
   rw[if_neg h1]
   have dO:=ho.ok.on xM t1.cx
   have hw:=Ou (a:=(iz x l).2.1) dO
   have hbw:=wW (dV ((dz x l).1.on (iz x l).1) (iz x l).2.1).1.v.ag
   have hdw:=fa (OO.OP (a:=(iz x l).2.1) dO)
   exact((cs.trans ci).trans hw).mono (by omega)
theorem OT{l:List (Int×List UInt8)}(hl:l.length≤64)(gX: ∀y∈l,0≤y.1): ∀(n:Nat) {x:WV},cd x→dx x.v→fq x.v.ag→ln (8000000*(n:Int)) x.v.ag→Cs (8000000*(n:Int)) x.v.ag (mV n x l).1.v.ag
 |0,x,hx,h,bA,hf=>(Cs.bW _).mono (by omega)
 |n+1,x,hx,h,bA,hf=>by
  have hb:=NY (l:=l) hx h bA gX
  have ho:=Fo (l:=l) hx
  have hc:=aaZ (l:=l) hx h bA hl gX (hf.mono (by omega))
  rw[mV]
  split
  ·
   rename_i h5
   rw[h5.1]at hb
   have hz:=hb.zero (by decide) (by decide) (by decide) (by decide)
   have hR:=hz.bh rfl
   have:=OT hl gX n ho.ok hR.1 (bA.kd hz.kd) ((hf.mono (m:=8000000*(n:Int)+8000000) (by omega)).cs hc)
   exact(hc.trans this).mono (by omega)
  ·
   exact hc.mono (by omega)
abbrev tN:Int:=264000000
theorem aa0{v:VV}{l:List (Int×List UInt8)}(h:dx v)(bA:fq v.ag)(hl:l.length≤64)(hf:ln tN v.ag):Cs tN v.ag (fJ v l).1.ag:=by
 rw[fJ]
 split
 ·
  exact(Cs.bW _).mono (by decide)
 ·
  rename_i h1
  have zZ:=Classical.not_not.1 h1
  split
  ·
   exact(Cs.bW _).mono (by decide)
  ·
   have gX: ∀y∈l,0≤y.1:=fun y hy=>by
    obtain⟨j,hj⟩:=List.getElem?_of_mem hy
    have:=y7.1 zZ.2.2 j (List.getElem?_eq_some_iff.1 hj).1
    rw[qT,show l.getD j (0,[])=y by simp[List.getD,hj],Bool.and_eq_true,qS,Bool.and_eq_true,Bool.and_eq_true,decide_eq_true_eq]at this
    exact this.1.1.1
   have xB:=uY (b:=false) zZ.1
   have hd:=fa xB.ag
   change 1≤(v.ag.blocks.length:Int)∧(v.ag.blocks.length:Int)≤32∧_ at hd
   have:=OT hl gX (v.ag.blocks.length+1) (x:=⟨v,false⟩) xB h bA (hf.mono (by show 8000000*((v.ag.blocks.length+1:Nat):Int)≤264000000;omega))
   exact Cs.mono this (by show 8000000*((v.ag.blocks.length+1:Nat):Int)≤264000000;omega)
open Go.ay
def km(c:CV)(b:Bool)(fs:List Ft):CV:={c with off:=b,aX:=fs}
theorem aa1{c:CV}{b:Bool}{fs:List Ft}(hk:aS c=true)(hl:fs.length≤64):aS (km c b fs)=true:=by
 obtain⟨h1,h2,h3,_,h5⟩:=eC.1 hk
 exact eC.2 ⟨h1,h2,h3,hl,h5⟩
theorem aa2{c:CV}{fs:List Ft}(hk:aS c=true)(hl:fs.length≤64):n8 c fs=0∧oQ c fs=km c false fs:=by
 have h:n8 c fs=0:=by rw[n8,if_pos ⟨hk,hl⟩]
 exact⟨h,by rw[oQ,if_pos h];rfl⟩
theorem dx.km{v:VV}(h:dx v){b:Bool}{fs:List Ft}(hl:fs.length≤64):dx {v with ag:=Kb.km v.ag b fs}:=by
 obtain⟨h1,h2,h3,h4,h5,h6,h7⟩:=h
 obtain⟨k1,k2⟩:=gk.1 h1
 exact⟨gk.2 ⟨aa1 k1 hl,k2⟩,h2,h3,h4,h5,h6,h7⟩
theorem gG.km{f:FV}(h:gG f){b:Bool}{fs:List Ft}(hl:fs.length≤64):gG ⟨{f.al with ag:=Kb.km f.al.ag b fs},f.table⟩:=
 ⟨h.rt.km hl,h.iB,h.ids,h.C9,h.eq⟩
theorem aa3{f:FV}{l:List Ch}(h:gG f)(bA:fq f.al.ag)(he:dW f.table l=0)(hm: ¬fC f.al.ag<(cT f.table l).length)(hf:ln tN f.al.ag):Cs tN f.al.ag (cJ f l).1.al.ag:=by
 have hE:=Da (l:=l) h
 rw[if_neg hm]at hE
 by_cases hc:eJ (fe f) (fD f l)=[]
 ·
  rw[(N5 h he hm hc).1];exact(Cs.bW _).mono (by decide)
 ·
  have hlen:(fe f).length=(fD f l).length:=by
   have:=(CP hE).1
   have h2:=h.ids
   rw[tK h,za]
   have:((fD f l).length:Int)=dS f.al.ag:=this
   omega
  have xd:(fe f).length=f.al.at_.length:=by rw[tK h,za]
  have h64:f.al.at_.length≤64:=(uY (b:=false) (xI.2 h.rt)).nA
  have vX:(eJ (fe f) (fD f l)).length≤64:=by
   have:=BZ (fe f) (fD f l) (max (fe f).length (fD f l).length)
   rw[eJ];omega
  rw[FG (vz.2 h) he hE hc]
  exact aa0 h.rt bA vX hf
theorem aa4{f:FV}{l:List Ch}{k:Int}(h:gG f)(bA:fq f.al.ag)(hk:0≤k)(hf:ln (k+tN) f.al.ag):
  Kd [] f.al.ag (cJ f l).1.al.ag∧ln k (cJ f l).1.al.ag∧((cJ f l).2=0→dW f.table l=0∧(cJ f l).1.table=cT f.table l)∧((cJ f l).2≠0→(cJ f l).1.table=f.table)∧
   ((cJ f l).2≠7→(cJ f l).2≠9→gG (cJ f l).1)∧((cJ f l).2=7→(cJ f l).1.al.ag.off=true)∧
   (∃g:FV,gG g∧g.al.ag=(cJ f l).1.al.ag∧(g.table=f.table∨(((cJ f l).2=7∨(cJ f l).2=9∨(cJ f l).2=0)∧dW f.table l=0∧g.table=cT f.table l)))∧
   (Hq f.table l (fC f.al.ag)≠0→(cJ f l).2=Hq f.table l (fC f.al.ag)∧(cJ f l).1=f):=by
 rw[Hq]
 by_cases he:dW f.table l=0
 ·
  by_cases hm:fC f.al.ag<(cT f.table l).length
  ·
   rw[aag h he hm,if_pos ⟨he,hm⟩]
   exact⟨.bW _ _,hf.mono (by show k≤k+264000000;omega),fun g=>absurd (show(5:Int)=0 from g) (by decide),fun _=>rfl,fun _ _=>h,fun g=>absurd (show(5:Int)=7 from g) (by decide),⟨f,h,rfl, .inl rfl⟩,fun _=>⟨rfl,rfl⟩⟩
  ·
   have ha:=aah h bA he hm
   have hc:=aa3 h bA he hm (hf.mono (by show(264000000:Int)≤k+264000000;omega))
   have HE:=hf.cs hc
   rw[if_neg (fun g=>hm g.2)]
   refine⟨ha.kd,HE,fun g=>⟨he,(ha.bh g).2⟩,ha.bad,fun h7 h9=> ?_,ha.off,?_,fun g=>absurd he g⟩
   ·
    by_cases h0:(cJ f l).2=0
    ·
     exact(ha.bh h0).1
    ·
     rcases ha.err h0 with(g|g|g)|g
     ·
      exact absurd g h7
     ·
      exact absurd g h9
     ·
      exact absurd g.2 (HE.mono hk).not
     ·
      exact g
   ·
    by_cases Dn:(cJ f l).2=7∨(cJ f l).2=9∨(cJ f l).2=0
    ·
     obtain⟨g,g1,g2,g3⟩:=ha.any
     exact⟨g,g1,g2,g3.imp id fun q=>⟨Dn,he,q⟩⟩
    ·
     have h0:(cJ f l).2≠0:=fun g=>Dn (.inr (.inr g))
     refine⟨(cJ f l).1,?_,rfl, .inl (ha.bad h0)⟩
     rcases ha.err h0 with(g|g|g)|g
     ·
      exact absurd (.inl g) Dn
     ·
      exact absurd (.inr (.inl g)) Dn
     ·
      exact absurd g.2 (HE.mono hk).not
     ·
      exact g
 ·
  rw[aaf h he,if_neg (fun g=>he g.1)]
  have h7:=aal f.table l
  exact⟨.bW _ _,hf.mono (by show k≤k+264000000;omega),fun g=>absurd g he,fun _=>rfl,fun _ _=>h,fun g=>absurd (show dW f.table l=7 from g) (by omega),⟨f,h,rfl, .inl rfl⟩,fun _=>⟨rfl,rfl⟩⟩
structure Sa(k:Nat)(f:FV):Prop where
 fb:gG f
 pl:fq f.al.ag
 off:f.al.ag.off=false
 cut: ∀x∈f.al.ag.aX,x.cut=false
 far:ln (tN*(k:Int)) f.al.ag
theorem Sa.step{k:Nat}{f:FV}(h:Sa (k+1) f)(l:List Ch):(cJ f l).2≠7∧dB f.al.ag (cJ f l).1.al.ag∧(∀b:Int,(ak f.al.ag b).bad=true→ak (cJ f l).1.al.ag b=ak f.al.ag b)∧((cJ f l).2=0→dW f.table l=0∧(cJ f l).1.table=cT f.table l)∧((cJ f l).2≠0→(cJ f l).1.table=f.table)∧((cJ f l).2≠9→Sa k (cJ f l).1):=by
 obtain⟨a1,a2,a3,a4,a5,a6,_⟩:=aa4 (k:=tN*(k:Int)) (l:=l) h.fb h.pl (by show(0:Int)≤264000000*(k:Int);omega) (h.far.mono (by show(264000000:Int)*(k:Int)+264000000≤264000000*((k+1:Nat):Int);omega))
 have kj:=a1.on h.off h.cut
 have h7:(cJ f l).2≠7:=fun g=>by have:=a6 g;rw[kj]at this;cases this
 exact⟨h7,a1.cx,a1.xG,a3,a4,fun h9=>⟨a5 h7 h9,h.pl.kd a1,kj,(by rw[a1.km];exact h.cut),a2⟩⟩
theorem aa5{n p:Nat}(hn:n<8)(hp:p<7):ln (tN*100) (jd n p).1.al.ag∧(jd n p).1.al.ag.off=false:=by
 have h:=Oi n hn p hp
 simp only[Hp,Dd,Bool.and_eq_true,decide_eq_true_eq,List.all_eq_true,Bool.not_eq_true']at h
 obtain⟨⟨⟨⟨⟨⟨h1,h2⟩,⟨⟨⟨⟨⟨⟨⟨⟨_,_⟩,h3⟩,h4⟩,h5⟩,h6⟩,h7⟩,h8⟩,h9⟩⟩,_⟩,_⟩,_⟩,_⟩:=h
 refine⟨⟨?_,fun b=> ?_⟩,h5⟩
 ·
  show _+264000000*100<(1099511627776:Int);omega
 ·
  have:(ak (jd n p).1.al.ag b).aT=0:=by
   rcases Nat.lt_or_ge b.toNat (jd n p).1.al.ag.blocks.length with hl|hl
   ·
    have hm:ak (jd n p).1.al.ag b∈(jd n p).1.al.ag.blocks:=by
     simp only[ak,List.getD,List.getElem?_eq_getElem hl,Option.getD_some];exact List.getElem_mem hl
    exact(h3 _ hm).2
   ·
    simp only[ak,List.getD,List.getElem?_eq_none hl,Option.getD_none];rfl
  rw[this];decide
theorem aa6{n p:Nat}{fs:List Ft}{k:Nat}(hn:n<8)(hp:p<7)(hk:k≤100)(hl:fs.length≤64)(bA: ∀f∈fs,f.mask=0∨f.mask=255)(hc: ∀f∈fs,f.cut=false):Sa k ⟨{(jd n p).1.al with ag:=oQ (jd n p).1.al.ag fs},(jd n p).1.table⟩:=by
 obtain⟨_,_,_,h4,h5,_⟩:=Oj hn hp
 have hb:=h4.fb
 have qY:=(gk.1 hb.rt.bears).1
 obtain⟨f1,f2⟩:=aa5 hn hp
 rw[(aa2 qY hl).2]
 exact⟨hb.km hl,bA,rfl,hc,f1.mono (by show(264000000:Int)*(k:Int)≤264000000*100;omega)⟩
theorem aa7: ∀n,n<8→ ∀p,p<7→(jd n p).1.al.ag.blocks.length=(vC n p).1.blocks.length:=by decide+kernel
def vF(l:List Ft):Bool:=l.all fun f=>decide (f.mask=0)||decide (f.mask=255)
theorem HF{l:List Ft}:vF l=true↔ ∀f∈l,f.mask=0∨f.mask=255:=by
 simp only[vF,List.all_eq_true,Bool.or_eq_true,decide_eq_true_eq]
theorem OU{c:Cp}{i:Nat}{B:Bk}(h:c.blocks.xs[i]? =some B):ak (cv c) (i:Int)=bv B:=by
 have:(cv c).blocks[i]? =some (bv B):=by show(gy c.blocks.xs)[i]? =_;rw[gy,List.getElem?_map,h];rfl
 simp[ak,List.getD,this]
end Go.Kb
namespace Go.Proofs.YtaipiecplldinaaGreat
open Go.ay Go.Kb
open Go.RowKit
theorem aa8(w:World)(fs:Sv)(dD:List Ft)(qd:bV dh 4 (hp w) fs dD):Calls Tryz.prog 30 #[fs.val] w fun e w'=>e= .returned (.bool (vF dD))∧Mem w [] w':=by
 have LQ:Gv w fs dh 4 dD:=⟨qd⟩
 have hbf:=qd.bd
 refine bf (args:=[_]) Tryz.func30 rfl Tryz.ntmps30 rfl ?_
 change Cw _ _ _ _ _ [(0,fs.val)] []
 refine Gc ?_
 refine Gs ?_
 refine Gc ?_
 refine Gs ?_
 refine Gc ?_
 refine cg (X:=Nat) (fun zz=>[(3, .int .i64 (zz:Nat)),(0,fs.val)]) (fun zz=>[]) (fun zz=>zz≤dD.length∧ ∀f∈dD.take zz,f.mask=0∨f.mask=255) (fun zz=>dD.length -zz) 0 ⟨Nat.zero_le _,fun f hf=>by rw[List.take_zero]at hf;cases hf⟩ (Sub.cons rfl (Sub.cons rfl (Sub.nil _))) (fun w hw=>ai.mem hw) ?_
 rintro i ⟨bk,aG⟩
 refine Gc ?_
 iterate 4 refine Gs ?_
 refine Gc ?_
 refine av rfl (fun h0=> ?_) (fun h0=> ?_)
 ·
  replace h0:=bz h0
  obtain⟨F,hF⟩:=get_some (xs:=dD) (i:=i) (by omega)
  refine Gc ?_
  iterate 2 refine Gs ?_
  refine ah (bl rfl rfl i rfl (by omega)) ?_
  refine ah (aH rfl rfl) ?_
  refine ah (bO (j:=3) rfl i hF rfl (by decide)) ?_
  iterate 2 refine Gs ?_
  iterate 2 refine Gg ?_
  refine fU rfl rfl rfl (fun hg=>(Ry.yl (bl (aI hg rfl) (aI hg rfl) i rfl (by simp only[Z0,Z1,Z2,Z3,Z4,Z5,Z6,Z7,Z8,Z9]at hg;omega)))) ?_
  refine fU rfl rfl rfl (fun hg=>(Ry.yl (aH (aI hg rfl) rfl))) ?_
  refine fU rfl rfl rfl (fun hg=>(Ry.yl (bO (j:=3) (aI hg rfl) i hF rfl (by decide)))) ?_
  refine Gg ?_
  refine Gs ?_
  refine Gc ?_
  refine av rfl (fun h1=> ?_) (fun h1=> ?_)
  ·
   replace h1:=bz h1
   have hr:vF dD=false:=by
    cases hq:vF dD with
    |false=>rfl
    |true=>exact absurd (HF.1 hq F (List.mem_of_getElem? hF)) (by rintro(g|g)<;>simp[g]at h1)
   refine Gc ?_
   refine Gs ?_
   refine Gc ?_
   refine au (.inl rfl) (aM rfl (aq rfl)) (fun w1 hw=> ?_)
   exact⟨congrArg (fun b=>Ending.returned (Value.bool b)) (hr.symm),ai.mem hw⟩
  ·
   replace h1:=bz h1
   have hF2:F.mask=0∨F.mask=255:=by
    by_cases g:F.mask=0
    ·
     exact .inl g
    ·
     right
     have g2: ¬F.mask.toNat=0:=fun e=>g (UInt8.toNat_inj.1 e)
     have h2:F.mask.toNat=0∨(F.mask.toNat:Int)=255:=by simpa using h1
     exact UInt8.toNat_inj.1 (show F.mask.toNat=255 by have:=h2.resolve_left g2;omega)
   refine Gc ?_
   iterate 3 refine Gs ?_
   refine Gi ?_
   exact bD (x:=(i)) (i+1) ⟨by first|omega|(simp only[];omega),fun f hf=>by
    rw[List.take_add_one,hF]at hf
    rcases List.mem_append.1 hf with g|g
    ·
     exact aG f g
    ·
     obtain rfl:f=F:=by simpa using g
     exact hF2⟩ (by first|omega|(simp only[];omega)) (Sub.cons rfl (Sub.cons rfl (Sub.nil _))) (fun w hw=>ai.mem hw)
 ·
  replace h0:=bz h0
  obtain rfl:i=dD.length:=by omega
  have hr:vF dD=true:=HF.2 (by rw[List.take_length]at aG;exact aG)
  refine Gc ?_
  refine Gs ?_
  refine Gc ?_
  refine au (.inl rfl) (aM rfl (aq rfl)) (fun w1 hw=> ?_)
  exact⟨congrArg (fun b=>Ending.returned (Value.bool b)) (hr.symm),ai.mem hw⟩
instance aiX{w0:World}{L:List aj}{fs:Sv}{dD:List Ft}[qd:c6 w0 L dh 4 fs dD]:cL Tryz.prog 30 w0 L [fs.val] (.bool (vF dD)) (True):=⟨fun hp w hw=>aa8 w fs dD (qd.h w hw)⟩
theorem aa9{w0 w:World}{L:List aj}{f:cf}{d:Cp}(h:Mem w0 (fz d::fz f::L) w):Mem w0 (fz (⟨⟨d,f.al.at_,f.al.gen,f.al.last⟩,f.table⟩:cf)::L) w:=by
 have hf:=h.sat (fz f) (by simp)
 refine Mem.freeze (es:=[fz d,fz f]) (⟨⟨d,f.al.at_,f.al.gen,f.al.last⟩,f.table⟩:cf) ⟨⟨h.sat (fz d) (by simp),hf.1.2⟩,hf.2⟩ (fun k hk=> ?_) h
 rcases hk with(hk|hk)|hk
 ·
  exact⟨fz d,by simp,hk⟩
 ·
  exact⟨fz f,by simp, .inl (.inr hk)⟩
 ·
  exact⟨fz f,by simp, .inr hk⟩
theorem aba(w:World)(b:UInt8)(p:UInt8)(fs:Sv)(dD:List Ft)(l:Sl (Sl Ch))(qd:bV dh 4 (hp w) fs dD)(hl:Deep.bh (hp w) l):Calls Tryz.prog 8 #[.int .u8 (b.toNat:Nat), .int .u8 (p.toNat:Nat),fs.val,l.sv.val] w fun e w'=>e= .returned (.bool true)∧Mem w [] w':=by
 have LQ:Gv w fs dh 4 dD:=⟨qd⟩
 have ov:cC w l:=⟨hl⟩
 have du:=hl.1.bd
 have hbf:=qd.bd
 obtain⟨n1,n2,n3,n4,n5,n6⟩:=Oj (n:=(b.toNat%8)) (p:=(p.toNat%7)) (by omega) (by omega)
 have n7:=aa7 (b.toNat%8) (by omega) (p.toNat%7) (by omega)
 refine bf (args:=[_,_,_,_]) Tryz.func8 rfl Tryz.ntmps8 rfl ?_
 change Cw _ _ _ _ _ [(0, .int .u8 (b.toNat:Nat)),(1, .int .u8 (p.toNat:Nat)),(2,fs.val),(3,l.sv.val)] []
 refine Gc ?_
 refine Gs ?_
 refine Gc ?_
 iterate 2 refine Gs ?_
 refine Gc ?_
 refine av rfl (fun h0=> ?_) (fun h0=> ?_)
 ·
  exfalso;simp at h0
 ·
  replace h0:=bz h0
  refine Gc ?_
  iterate 4 refine Gs ?_
  iterate 3 refine Gg ?_
  iterate 2 refine Gs ?_
  refine Gg ?_
  refine ca rfl rfl rfl (fun hg=>cM (dP (aI hg rfl) gP) trivial) ?_
  refine ca rfl rfl rfl (fun hg=>(Ry.yl (iu (aI hg rfl)))) ?_
  refine Gs ?_
  refine Gc ?_
  refine av rfl (fun h1=> ?_) (fun h1=> ?_)
  ·
   replace h1:=bz h1
   refine Gc ?_
   refine Gs ?_
   refine Gc ?_
   refine au (.inl rfl) (aM rfl (aq rfl)) (fun w1 hw=> ?_)
   exact⟨congrArg (fun b=>Ending.returned (Value.bool b)) (rfl),ai.mem hw⟩
  ·
   replace h1:=bz h1
   have bA: ∀f∈dD,f.mask=0∨f.mask=255:=HF.1 h1.2
   have hlen:l.xs.length≤12∧dD.length≤20:=⟨by omega,by omega⟩
   refine Gc ?_
   refine Gs ?_
   refine Gc ?_
   refine cg (X:=Nat) (fun zz=>[(9, .int .i64 (zz:Nat)),(0, .int .u8 (b.toNat:Nat)),(1, .int .u8 (p.toNat:Nat)),(2,fs.val),(3,l.sv.val)]) (fun zz=>[]) (fun zz=>zz≤dD.length∧ ∀f∈dD.take zz,f.cut=false) (fun zz=>dD.length -zz) 0 ⟨Nat.zero_le _,fun f hf=>by rw[List.take_zero]at hf;cases hf⟩ (Sub.cons rfl (Sub.cons rfl (Sub.cons rfl (Sub.cons rfl (Sub.cons rfl (Sub.nil _)))))) (fun w hw=>ai.mem hw) ?_
   rintro i ⟨bk,aG⟩
   refine Gc ?_
   iterate 4 refine Gs ?_
   refine Gc ?_
   refine av rfl (fun h2=> ?_) (fun h2=> ?_)
   ·
    replace h2:=bz h2
    obtain⟨F,hF⟩:=get_some (xs:=dD) (i:=i) (by omega)
    refine Gc ?_
    iterate 2 refine Gs ?_
    refine ah (bl rfl rfl i rfl (by omega)) ?_
    refine ah (aH rfl rfl) ?_
    refine ah (bO (j:=2) rfl i hF rfl (by decide)) ?_
    refine Gc ?_
    refine av rfl (fun h3=> ?_) (fun h3=> ?_)
    ·
     replace h3:=bz h3
     refine Gc ?_
     refine Gs ?_
     refine Gc ?_
     refine au (.inl rfl) (aM rfl (aq rfl)) (fun w1 hw=> ?_)
     exact⟨congrArg (fun b=>Ending.returned (Value.bool b)) (rfl),ai.mem hw⟩
    ·
     replace h3:=bz h3
     have hFc:F.cut=false:=by simpa using h3
     refine Gc ?_
     iterate 3 refine Gs ?_
     refine Gi ?_
     exact bD (x:=(i)) (i+1) ⟨by first|omega|(simp only[];omega),fun f hf=>by
      rw[List.take_add_one,hF]at hf
      rcases List.mem_append.1 hf with g|g
      ·
       exact aG f g
      ·
       obtain rfl:f=F:=by simpa using g
       exact hFc⟩ (by first|omega|(simp only[];omega)) (Sub.cons rfl (Sub.cons rfl (Sub.cons rfl (Sub.cons rfl (Sub.cons rfl (Sub.nil _)))))) (fun w hw=>ai.mem hw)
   ·
    replace h2:=bz h2
    obtain rfl:i=dD.length:=by omega
    have mN: ∀f∈dD,f.cut=false:=by rw[List.take_length]at aG;exact aG
    refine Gc ?_
    refine Gs ?_
    refine ah (yq (p:=b.toNat) (q:=8) rfl rfl rfl rfl (by omega)) ?_
    refine ah (pF rfl (by simp only[nb];omega)) ?_
    iterate 2 refine Gs ?_
    refine ah (yq (p:=p.toNat) (q:=7) rfl rfl rfl rfl (by omega)) ?_
    refine ah (pF rfl (by simp only[nb];omega)) ?_
    refine Gs ?_
    refine br rfl trivial fun fK tC=> ?_
    have Dp:cv fK=(vC (b.toNat%8) (p.toNat%7)).1:=tC
    have z58:(nu ((((b.toNat%8):Nat):Int)+5) ((((p.toNat%7):Nat):Int)+2) 64).2=0:=n1
    have OV:dM fK:=oS (by rw[Dp];exact n2)
    refine Gs ?_
    refine ah (aV (v:= .agg (aE fK)) rfl rfl) ?_
    refine ah (aV (v:= .int .i64 ((nu ((((b.toNat%8:Nat)):Int)+5) ((((p.toNat%7:Nat)):Int)+2) 64).2)) rfl rfl) ?_
    refine bN fun kT=> ?_
    iterate 2 refine Gs ?_
    refine Gc ?_
    refine Gs ?_
    refine br rfl OV fun eN Gr=> ?_
    have Dq:bF eN=(jd (b.toNat%8) (p.toNat%7)).1:=by rw[Gr,Dp];rfl
    have z63:(nC (cv fK)).2=0:=by rw[Dp];exact n3
    have w63:Rm 1000000000 (bF eN):=by rw[Dq];exact n4
    have t63:eN.table.xs=[]:=by rw[show eN.table.xs=(jd (b.toNat%8) (p.toNat%7)).1.table from congrArg FV.table Dq,n5]
    refine Gs ?_
    refine ah (aV (v:= .agg (bS eN)) rfl rfl) ?_
    refine ah (aV (v:= .int .i64 ((nC (cv fK)).2)) rfl rfl) ?_
    refine bN fun kh=> ?_
    iterate 2 refine Gs ?_
    refine Gc ?_
    iterate 3 refine Gs ?_
    iterate 2 refine Gg ?_
    refine Gs ?_
    refine Gc ?_
    refine av rfl (fun h4=> ?_) (fun h4=> ?_)
    ·
     exfalso;rw[z58,z63]at h4;simp at h4
    ·
     replace h4:=bz h4
     refine Gc ?_
     iterate 2 refine Gs ?_
     refine ah (jj rfl) ?_
     refine Gs ?_
     refine br rfl w63.fb.small.1 fun pC OW=> ?_
     have e77:bF (⟨⟨pC,eN.al.at_,eN.al.gen,eN.al.last⟩,eN.table⟩:cf)=⟨{(jd (b.toNat%8) (p.toNat%7)).1.al with ag:=oQ (jd (b.toNat%8) (p.toNat%7)).1.al.ag dD},(jd (b.toNat%8) (p.toNat%7)).1.table⟩:=by
      rw[←Dq];show(⟨⟨cv pC,_,_,_⟩,_⟩:FV)=_;rw[OW];rfl
     have abb:eN.al.ag.blocks.xs.length=fK.blocks.xs.length:=by
      have h1:(bF eN).al.ag.blocks.length=eN.al.ag.blocks.xs.length:=List.length_map _
      have h2:(cv fK).blocks.length=fK.blocks.xs.length:=List.length_map _
      rw[←h1,←h2,Dq,Dp];exact n7
     have abc:pC.blocks.xs.length=fK.blocks.xs.length:=by
      have h1:(cv pC).blocks.length=pC.blocks.xs.length:=List.length_map _
      have h2:(cv eN.al.ag).blocks.length=eN.al.ag.blocks.xs.length:=List.length_map _
      have h3:(oQ (cv eN.al.ag) dD).blocks=(cv eN.al.ag).blocks:=by rw[oQ];split<;>rfl
      rw[←h1,OW,h3,h2,abb]
     have aiY:=OV.1
     have s77:Sa l.xs.length (bF (⟨⟨pC,eN.al.at_,eN.al.gen,eN.al.last⟩,eN.table⟩:cf)):=by rw[e77];exact aa6 (by omega) (by omega) (by omega) (by omega) bA mN
     refine Gs ?_
     refine ah (aV (v:= .agg (aE pC)) rfl rfl) ?_
     refine ah (aV (v:= .int .i64 (n8 (cv eN.al.ag) dD)) rfl rfl) ?_
     iterate 2 refine Gs ?_
     refine vS (cs':=bS (⟨⟨pC,eN.al.at_,eN.al.gen,eN.al.last⟩,eN.table⟩:cf)) rfl rfl (by show 0+6≤10;decide) rfl ?_
     refine Gc ?_
     refine Gs ?_
     refine Gc ?_
     refine Gs ?_
     refine Gc ?_
     refine cg (X:=Nat×FH) (fun zz=>[(15, .int .i64 (zz.1:Nat)),(12, .pointer (some ⟨kh,0,none⟩)),(14,zz.2.h.sv.val),(3,l.sv.val),(10, .pointer (some ⟨kT,0,none⟩))]) (fun zz=>[ar kh (bS zz.2.f) 54,fz zz.2,ar kT (aE fK) 25,fz fK]) (fun zz=>zz.1≤l.xs.length∧Sa (l.xs.length -zz.1) (bF zz.2.f)∧zz.2.h.xs=zz.2.f.table.xs∧zz.2.f.al.ag.blocks.xs.length=fK.blocks.xs.length) (fun zz=>l.xs.length -zz.1) (0,⟨(⟨⟨pC,eN.al.at_,eN.al.gen,eN.al.last⟩,eN.table⟩:cf),⟨Sv.none,[]⟩⟩) ⟨Nat.zero_le _,s77,t63.symm,abc⟩ (Sub.cons rfl (Sub.cons rfl (Sub.cons rfl (Sub.cons rfl (Sub.cons rfl (Sub.nil _)))))) (fun w hw=>ai.mem (aam (f:=(⟨⟨pC,eN.al.at_,eN.al.gen,eN.al.last⟩,eN.table⟩:cf)) (aa9 (ai.mem hw:Mem _ [fz pC,fz eN,ar kh (bS (⟨⟨pC,eN.al.at_,eN.al.gen,eN.al.last⟩,eN.table⟩:cf)) 54,ar kT (aE fK) 25,fz fK] _)))) ?_
     rintro⟨i,s⟩ ⟨bk,aG,bB,cV⟩
     dsimp only
     simp only at bk aG bB cV
     have kg:=aG.fb.small
     have nq:s.h.xs.length≤1000000:=by rw[bB];exact kg.2.2
     refine Gc ?_
     iterate 4 refine Gs ?_
     refine Gc ?_
     refine av rfl (fun h5=> ?_) (fun h5=> ?_)
     ·
      replace h5:=bz h5
      obtain⟨y,hy⟩:=get_some (xs:=l.xs) (i:=i) (by omega)
      have xf:Mb y l:=⟨List.mem_of_getElem? hy⟩
      refine Gc ?_
      iterate 2 refine Gs ?_
      refine ah (bl rfl rfl i rfl (by omega)) ?_
      refine ah (bO (j:=0) rfl i hy rfl (by decide)) ?_
      have aiZ:Mb y _:=⟨List.mem_of_getElem? hy⟩
      iterate 2 refine Gs ?_
      refine Gc ?_
      refine av rfl (fun h6=> ?_) (fun h6=> ?_)
      ·
       replace h6:=bz h6
       refine Gc ?_
       refine Gs ?_
       refine Gc ?_
       refine au (.inl rfl) (aM rfl (aq rfl)) (fun w1 hw=> ?_)
       exact⟨congrArg (fun b=>Ending.returned (Value.bool b)) (rfl),ai.mem hw⟩
      ·
       replace h6:=bz h6
       refine Gc ?_
       iterate 3 refine Gs ?_
       refine ah (bl rfl rfl i rfl (by omega)) ?_
       refine ah (bO (j:=0) rfl i hy rfl (by decide)) ?_
       have ai0:Mb y _:=⟨List.mem_of_getElem? hy⟩
       refine br rfl nq fun tO ai1=> ?_
       refine Gs ?_
       refine ah (aV (v:=tO.val) rfl rfl) ?_
       refine ah (aV (v:= .int .i64 (dW s.h.xs y.xs)) rfl rfl) ?_
       iterate 2 refine Gs ?_
       refine Gc ?_
       refine oO [5,9,10,2009,4005] [[],[],[],[],[],[],[5],[5],[5],[],[5,9],[5,9,10]] [0,1,2,3,4,5,6,7,8,9,10,11] [own ax 19 tO (cT s.h.xs y.xs),ar kh (bS s.f) 54,fz s,ar kT (aE fK) 25,fz fK] [(9,jl Tryz.prog 54)] (by kernel_rfl) (fun _ hw=>ai.mem hw) (by kernel_rfl) (by kernel_rfl) ?_
       refine an rfl (fN rfl) ?_
       refine an rfl (aF rfl) ?_
       refine an rfl (aF rfl) ?_
       refine an rfl (bl rfl rfl i rfl (by omega)) ?_
       refine an rfl (bO (j:=0) rfl i hy rfl (by decide)) ?_
       have ai2:Mb y _:=⟨List.mem_of_getElem? hy⟩
       refine rI rfl rfl kg (fun e x w hw=>ai.mem hw) (Cert.one (i:=9) rfl rfl rfl iR (Cert.none rfl)) fun jS abd=>⟨fun _ hw=>ai.mem hw,?_⟩
       have bG:=Sa.step (k:=l.xs.length -(i+1)) (f:=bF s.f) (by rw[show l.xs.length -(i+1)+1=l.xs.length -i by omega];exact aG) y.xs
       rw[←abd]at bG
       obtain⟨q0,q1,q2,q3,q4,q5⟩:=bG
       have abe:jS.al.ag.blocks.xs.length=s.f.al.ag.blocks.xs.length:=by
        have h1:(bF jS).al.ag.blocks.length=jS.al.ag.blocks.xs.length:=List.length_map _
        have h2:(bF s.f).al.ag.blocks.length=s.f.al.ag.blocks.xs.length:=List.length_map _
        rw[←h1,←h2];exact q1.len
       refine an rfl (aF rfl) ?_
       refine an rfl (aV (v:= .agg (bS jS)) rfl rfl) ?_
       refine an rfl (aV (v:= .int .i64 ((cJ (bF s.f) y.xs).2)) rfl rfl) ?_
       refine my (m:=jl Tryz.prog 54) rfl rfl iR (Cert.none rfl) fun sk=> ?_
       change Ln _ _ _ _ _ _ _ _ (cw _ _ (.pointer (some ⟨sk,0,none⟩))) (ar sk (bS ld) 54::_) _
       refine dy rfl (mw rfl rfl ⟨fun _ hw=>ai.mem hw,?_⟩)
       refine an rfl (bn rfl) ?_
       refine Gc ?_
       refine Gs ?_
       refine Gc ?_
       refine cg (X:=Nat) (fun zz=>[(20, .int .i64 (zz:Nat)),(3,l.sv.val),(10, .pointer (some ⟨kT,0,none⟩)),(12, .pointer (some ⟨kh,0,none⟩)),(14,s.h.sv.val),(15, .int .i64 (i:Nat)),(16,tO.val),(17, .int .i64 (dW s.h.xs y.xs)),(18, .pointer (some ⟨sk,0,none⟩)),(19, .int .i64 ((cJ (bF s.f) y.xs).2))]) (fun zz=>[own ax 19 tO (cT s.h.xs y.xs),fz jS,ar sk (bS jS) 54,ar kh (bS s.f) 54,fz s,ar kT (aE fK) 25,fz fK]) (fun zz=>zz≤fK.blocks.xs.length) (fun zz=>fK.blocks.xs.length -zz) 0 (Nat.zero_le _) (Sub.cons rfl (Sub.cons rfl (Sub.cons rfl (Sub.cons rfl (Sub.cons rfl (Sub.cons rfl (Sub.cons rfl (Sub.cons rfl (Sub.cons rfl (Sub.cons rfl (Sub.nil _))))))))))) (fun w hw=>ai.mem hw) ?_
       rintro n vf
       refine Gc ?_
       iterate 5 refine Gs ?_
       refine Gc ?_
       refine av rfl (fun h7=> ?_) (fun h7=> ?_)
       ·
        replace h7:=bz h7
        obtain⟨A,hA⟩:=get_some (xs:=s.f.al.ag.blocks.xs) (i:=n) (by omega)
        obtain⟨B,hB⟩:=get_some (xs:=jS.al.ag.blocks.xs) (i:=n) (by omega)
        have mbA:Mb A s.f.al.ag.blocks:=⟨List.mem_of_getElem? hA⟩
        have pe:Mb B jS.al.ag.blocks:=⟨List.mem_of_getElem? hB⟩
        have hAB:A.bad=true→bv A=bv B:=fun g=>by
         have h1:=OU hA
         have h2:=OU hB
         have:=q2 (n:Int) (by show(ak (cv s.f.al.ag) (n:Int)).bad=true;rw[h1];exact g)
         rw[←h1,←h2];exact this.symm
        refine Gc ?_
        refine oO [14,15,16,17,2014,2015] [[],[],[],[],[],[],[],[],[],[],[],[],[],[],[],[],[14,15],[14,15,16]] [0,1,2,3,4,5,6,7,8,9,10,11,12,13,14,15,16,17] [own ax 19 tO (cT s.h.xs y.xs),fz jS,ar sk (bS jS) 54,ar kh (bS s.f) 54,fz s,ar kT (aE fK) 25,fz fK] [(14,jl Tryz.prog 48),(15,jl Tryz.prog 48)] (by kernel_rfl) (fun _ hw=>ai.mem hw) (by kernel_rfl) (by kernel_rfl) ?_
        refine an rfl (aH (o':=0) rfl rfl) ?_
        refine an rfl (aH (o':=0) rfl rfl) ?_
        refine an rfl (aH (o':=2) rfl rfl) ?_
        refine an rfl (bI rfl) ?_
        refine an rfl (aF rfl) ?_
        refine an rfl (bl rfl rfl n rfl (by omega)) ?_
        refine an rfl (hH rfl n hA rfl) ?_
        have ai3:Mb A s.f.al.ag.blocks:=⟨List.mem_of_getElem? hA⟩
        refine an rfl (aH (o':=0) rfl rfl) ?_
        refine an rfl (aH (o':=0) rfl rfl) ?_
        refine an rfl (aH (o':=2) rfl rfl) ?_
        refine an rfl (bI rfl) ?_
        refine an rfl (aF rfl) ?_
        refine an rfl (bl rfl rfl n rfl (by omega)) ?_
        refine an rfl (hH rfl n hB rfl) ?_
        have ai4:Mb B jS.al.ag.blocks:=⟨List.mem_of_getElem? hB⟩
        refine my (m:=jl Tryz.prog 48) rfl rfl iR (Cert.one (i:=15) rfl rfl rfl iR (Cert.none rfl)) fun OX=> ?_
        change Ln _ _ _ _ _ _ _ _ (cw _ _ (.pointer (some ⟨OX,0,none⟩))) (ar OX (bK mC) 48::_) _
        refine my (m:=jl Tryz.prog 48) rfl rfl iR (Cert.none rfl) fun rX=> ?_
        change Ln _ _ _ _ _ _ _ _ (cw _ _ (.pointer (some ⟨rX,0,none⟩))) (ar rX (bK mC) 48::_) _
        refine dy rfl (mw rfl rfl ⟨fun _ hw=>ai.mem hw,?_⟩)
        refine dy rfl (mw rfl rfl ⟨fun _ hw=>ai.mem hw,?_⟩)
        refine Gc ?_
        iterate 3 refine Gs ?_
        refine fU rfl rfl rfl (fun hg=>(Ry.yl (fN rfl))) ?_
        refine fU rfl rfl rfl (fun hg=>(Ry.yl (fN rfl))) ?_
        refine fU rfl rfl rfl (fun hg=>cM (dP (aI hg rfl) (dP (aI hg rfl) gP)) trivial) ?_
        refine fU rfl rfl rfl (fun hg=>(Ry.yl (iu (aI hg rfl)))) ?_
        refine Gs ?_
        refine Gc ?_
        refine av rfl (fun h8=> ?_) (fun h8=> ?_)
        ·
         exfalso;simp only[Bool.and_eq_true,decide_eq_true_eq]at h8;first|exact h8.2 (hAB h8.1)|simp_all
        ·
         replace h8:=bz h8
         refine Gc ?_
         iterate 3 refine Gs ?_
         refine Gi ?_
         exact bD (x:=(n)) (n+1) (by first|omega|(simp only[];omega)) (by first|omega|(simp only[];omega)) (Sub.cons rfl (Sub.cons rfl (Sub.cons rfl (Sub.cons rfl (Sub.cons rfl (Sub.cons rfl (Sub.cons rfl (Sub.cons rfl (Sub.cons rfl (Sub.cons rfl (Sub.nil _))))))))))) (fun w hw=>ai.mem hw)
       ·
        replace h7:=bz h7
        refine Gc ?_
        iterate 2 refine Gs ?_
        refine Gc ?_
        refine av rfl (fun h9=> ?_) (fun h9=> ?_)
        ·
         replace h9:=bz h9
         refine Gc ?_
         refine Gs ?_
         refine Gc ?_
         refine au (.inl rfl) (aM rfl (aq rfl)) (fun w1 hw=> ?_)
         exact⟨congrArg (fun b=>Ending.returned (Value.bool b)) (rfl),ai.mem hw⟩
        ·
         replace h9:=bz h9
         have h9e:(cJ (bF s.f) y.xs).2≠9:=h9
         have q6:=q5 h9e
         have q7:=q6.fb.aaj
         have q8:=q6.fb.small
         iterate 2 refine Gi ?_
         refine yj (X:=Sl Rt) (fun zz=>[(14,zz.sv.val),(3,l.sv.val),(10, .pointer (some ⟨kT,0,none⟩)),(12, .pointer (some ⟨kh,0,none⟩)),(15, .int .i64 (i:Nat)),(18, .pointer (some ⟨sk,0,none⟩)),(19, .int .i64 ((cJ (bF s.f) y.xs).2))]) (fun zz=>[fz zz,fz jS,ar sk (bS jS) 54,ar kh (bS s.f) 54,ar kT (aE fK) 25,fz fK]) (fun zz=>zz.xs=jS.table.xs) ?_ ?_
         ·
          refine Gc ?_
          iterate 2 refine Gs ?_
          refine Gc ?_
          refine av rfl (fun kR=> ?_) (fun kR=> ?_)
          ·
           replace kR:=bz kR
           have HG:(cJ (bF s.f) y.xs).2=0:=kR
           obtain⟨r1,r2⟩:=q3 HG
           refine Gc ?_
           iterate 2 refine Gs ?_
           refine Gc ?_
           refine av rfl (fun z8=> ?_) (fun z8=> ?_)
           ·
            exfalso;rw[bB,show dW s.f.table.xs y.xs=0 from r1]at z8;simp at z8
           ·
            replace z8:=bz z8
            refine Gc ?_
            iterate 2 refine Gs ?_
            refine Gi ?_
            exact qu (⟨tO,cT s.h.xs y.xs⟩:Sl Rt) (by show cT s.h.xs y.xs=_;rw[bB];exact r2.symm) (Sub.cons rfl (Sub.cons rfl (Sub.cons rfl (Sub.cons rfl (Sub.cons rfl (Sub.cons rfl (Sub.cons rfl (Sub.nil _)))))))) (fun w hw=>ai.mem (va (a:=(⟨tO,cT s.h.xs y.xs⟩:Sl Rt)) (ai.mem hw:Mem _ [own ax 19 tO (cT s.h.xs y.xs),fz jS,ar sk (bS jS) 54,ar kh (bS s.f) 54,ar kT (aE fK) 25,fz fK] _)))
          ·
           replace kR:=bz kR
           have HG:(cJ (bF s.f) y.xs).2≠0:=kR
           have r2:=q4 HG
           refine Gi ?_
           exact qu s.h (by rw[bB];exact r2.symm) (Sub.cons rfl (Sub.cons rfl (Sub.cons rfl (Sub.cons rfl (Sub.cons rfl (Sub.cons rfl (Sub.cons rfl (Sub.nil _)))))))) (fun w hw=>ai.mem (aan (ai.mem hw:Mem _ [fz s,fz jS,ar sk (bS jS) 54,ar kh (bS s.f) 54,ar kT (aE fK) 25,fz fK] _)))
         ·
          rintro u hk
          have hul:u.xs.length≤1000000:=by rw[hk];exact q8.2.2
          refine Gc ?_
          iterate 3 refine Gs ?_
          refine ca rfl rfl rfl (fun hg=>(Ry.yl (fN rfl))) ?_
          refine ca rfl rfl rfl (fun hg=>cM (dP (aI hg rfl) gP) trivial) ?_
          refine ca rfl rfl rfl (fun hg=>(Ry.yl (iu (aI hg rfl)))) ?_
          iterate 2 refine Gs ?_
          iterate 3 refine Gg ?_
          refine ca rfl rfl rfl (fun hg=>cM (dP (aI hg rfl) (dP (aI hg rfl) gP)) (by simp only[Z0,Z1,Z2,Z3,Z4,Z5,Z6,Z7,Z8,Z9]at hg;omega)) ?_
          refine ca rfl rfl rfl (fun hg=>(Ry.yl (iu (aI hg rfl)))) ?_
          refine Gs ?_
          refine Gc ?_
          refine av rfl (fun Dr=> ?_) (fun Dr=> ?_)
          ·
           exfalso;simp[hk,q0,q7]at Dr
          ·
           replace Dr:=bz Dr
           refine Gc ?_
           iterate 2 refine Gs ?_
           refine Gc ?_
           iterate 3 refine Gs ?_
           refine Gi ?_
           exact bD (x:=(i,s)) (i+1,⟨jS,u⟩) ⟨by first|omega|(simp only[];omega),q6,hk,abe.trans cV⟩ (by simp only;omega) (Sub.cons rfl (Sub.cons rfl (Sub.cons rfl (Sub.cons rfl (Sub.cons rfl (Sub.nil _)))))) (fun w hw=>ai.mem (N6 (f:=jS) (a:=u) (ai.mem hw:Mem _ [fz jS,fz u,ar kh (bS jS) 54,ar kT (aE fK) 25,fz fK] _)))
     ·
      replace h5:=bz h5
      refine Gc ?_
      refine Gs ?_
      refine Gc ?_
      refine au (.inl rfl) (aM rfl (aq rfl)) (fun w1 hw=> ?_)
      exact⟨congrArg (fun b=>Ending.returned (Value.bool b)) (rfl),ai.mem hw⟩
open Go.ay Go.Kb
open Go.RowKit
end Go.Proofs.YtaipiecplldinaaGreat
namespace Go.ay
open Go.ChangeShapes Go.WideShapes Go.ChangeAt Go.RowKit Go.Kb
variable {H:Type} {enc:TypeId×Value→H} {P:Program}
theorem OY(hl:laidOutB P=true){W W':World}{sp:Nat→Bool}: ∀{ts:List TypeId} {vs:List Value} {ds:List (DataW H)} {ps:List MemPlace},
  (∀t∈ts,P.readableRec t=true∧t<P.types.size)→DataW.TrodAll enc P W 0 (fun _=>true) true ts vs ds ps→(∀p∈ps,W.sameAt W' p)→(∀p∈ps,sp p.block=true)→
  DataW.TrodAll enc P W' 0 sp true ts vs ds ps
 |[],_,_,_,_,h,_,_=>by
  obtain⟨rfl,rfl,rfl⟩:=trodAll_nil h
  exact rfl
 |t::_,_,_,_,ht,h,hs,hp=>by
  obtain⟨v,OZ,d,O0,a,b,rfl,rfl,rfl,h1,h2⟩:=trodAll_cons h
  exact⟨a,b,WideElems.Trod_stays hl (ht t (by simp)).1 (ht t (by simp)).2 h1 (fun p h=>hs p (by simp[h])) (fun p h=>hp p (by simp[h])),
   OY hl (fun t h=>ht t (by simp[h])) h2 (fun p h=>hs p (by simp[h])) (fun p h=>hp p (by simp[h])),rfl⟩
theorem HH{W:World}{b:Nat}{sp:Nat→Bool}{hd:Bool}: ∀{ts:List TypeId} {vs:List Value} {ds:List (DataW H)} {ps:List MemPlace},
  DataW.TrodAll enc P W b sp hd ts vs ds ps→vs.length=ts.length∧ds.length=ts.length
 |[],_,_,_,h=>by
  obtain⟨rfl,rfl,rfl⟩:=trodAll_nil h
  exact⟨rfl,rfl⟩
 |_::_,_,_,_,h=>by
  obtain⟨v,OZ,d,O0,a,b,rfl,rfl,rfl,h1,h2⟩:=trodAll_cons h
  have:=HH h2
  simp[this.1,this.2]
theorem abf(hl:laidOutB P=true){f:Func}{s:ChangeSpec}{apart fresh handsOn:Bool}{W W':World}{args:Array Value}{ds gs:List (DataW H)}{before:List MemPlace}{tb:TypeId}
  (hp:f.params.toList.all (fun t=>P.readableRec t&&decide (t<P.types.size))=true) (hr:f.resultTypes= #[tb]) (hb:P.underlying tb=some .bool) (hv:s.vars=[])
  (HI: ∀ds:List (DataW H),ds.length=f.params.size→s.fn H ds={results:=[.lit (.bool true)],args:=ds})
  (hW:DataW.Whole enc P f.params.toList s.vars apart W args.toList ds gs before) (O1:Below W.heap.size W W'):
  s.post enc P f apart fresh handsOn false W args (.bool true) W':=by
 have bt:=hW.lt
 have hW0:=hW
 obtain⟨p,q,hA,hV,rfl,ly,cy⟩:=hW
 rw[hv]at hV
 obtain⟨rfl,rfl⟩:=trodVars_none hV
 have hlen:=HH hA
 have e1:s.fn H (ds++[])={results:=[.lit (.bool true)],args:=ds}:=by rw[List.append_nil];exact HI ds (by rw[hlen.2];simp)
 have k9: ∀t∈f.params.toList,P.readableRec t=true∧t<P.types.size:=fun t ht=>by
  simpa using List.all_eq_true.1 hp t ht
 refine⟨ds,[],p++[],[],p,[],hW0,?_,?_,?_,O1.frame _,fun h=>by cases h⟩
 ·
  rw[e1,hr];exact trodAll_mk1 (shut_bool hb true)
 ·
  rw[e1]
  exact OY hl k9 hA (fun x hx=>O1.same (bt x (by simp[hx]))) (fun x hx=>by simpa using bt x (by simp[hx]))
 ·
  rw[e1,hv];exact rfl
theorem abg{w:World}{b:Nat}{e:TypeId}{v:Value}(he:P.underlying e=some (.int .u8))(h:Cell.okWide P w .any b e v): ∃n:Nat,n<256∧v= .int .u8 n:=by
 cases v with
 |int k n=>
  simp only[Cell.okWide,he,Cell.ok,IntKind.has]at h
  obtain⟨rfl,h1,h2⟩:=h
  have a1:(0:Int)≤n:=h1
  have a2:n≤(255:Int):=h2
  exact⟨n.toNat,by omega,by rw[Int.toNat_of_nonneg a1]⟩
 |_=>simp[Cell.okWide,he,Cell.ok]at h
theorem abh{w:World}{b:Nat}{t:TypeId}{v:Value}(he:P.underlying t=some (.int .u8))(h:Value.okWide P w .any b t v): ∃n:Nat,n<256∧v= .int .u8 n:=by
 unfold Value.okWide at h
 rw[he]at h
 exact abg he h
theorem O2{α:Type}{l:List α}(h:l.length=4): ∃a b c d,l=[a,b,c,d]:=match l,h with|[a,b,c,d],_=>⟨a,b,c,d,rfl⟩
theorem O3{w:World}{b:Nat}{t:TypeId}{v:Value}(he:P.underlying t=some (.int .u8))(h:Value.okWide P w .any b t v): ∃n:UInt8,v= .int .u8 n.toNat:=by
 obtain⟨n,hn,rfl⟩:=abh he h
 exact⟨UInt8.ofNat n,by simp;omega⟩
open Go.ChangeShapes Go.WideShapes Go.ChangeAt Go.RowKit Go.Kb
variable {P:Program}
theorem HJ{α:Type}{p:Nat→α→Prop}: ∀{n:Nat},(∀i,i<n→ ∃x,p i x)→ ∃l:List α,l.length=n∧ ∀i x,l[i]? =some x→p i x
 |0,_=>⟨[],rfl,fun i x h=>by simp at h⟩
 |n+1,h=>by
  obtain⟨l,hl,hp⟩:=HJ (n:=n) fun i hi=>h i (by omega)
  obtain⟨x,hx⟩:=h n (by omega)
  refine⟨l++[x],by simp[hl],fun i y hy=> ?_⟩
  by_cases hi:i<n
  ·
   rw[List.getElem?_append_left (by omega)]at hy;exact hp i y hy
  ·
   have:i=n:=by
    have:=(List.getElem?_eq_some_iff.1 hy).1
    rw[List.length_append,hl]at this;simp at this;omega
   subst this
   rw[List.getElem?_append_right (by omega),hl]at hy
   have:x=y:=by simpa using hy
   exact this▸hx
class jT(P:Program)(t:TypeId)(τ:Type)[Deep τ]:Prop where
 sz:P.cellsOf t=Deep.c τ
 h: ∀{H:Type} {enc:TypeId×Value→H} {w:World} {fuel:Nat} {cs:List Value} {d:DataW H} {ps:List MemPlace},DataW.trod enc P w 0 (fun _=>true) true fuel t cs=some (d,ps)→(∀n∈d.weights P t,n≤reachBytes)→
  ∃x:τ,(Deep.cells x).toList=cs∧Deep.bh (hp w) x
theorem abi{w:World}{b:Nat}{a:Addr}{n:Nat}{cs:List Value}(h:w.cells? b a n=some cs):cs.length=n∧ ∀j,j<n→w.cell? (a.add j)=cs[j]? :=by
 unfold World.cells? at h
 split at h
 ·
  have hl:=mapM_some_length h
  refine⟨by simpa using hl,fun j hj=> ?_⟩
  exact mapM_some_get h j j (by simp[hj])
 ·
  cases h
theorem HK{H:Type}{e:TypeId}{n:Nat}: ∀{l:List (DataW H)} {d:DataW H},d∈l→n∈d.weights P e→n∈DataW.weightsAll P e l
 |x::l,d,hd,hn=>by
  rw[DataW.weightsAll]
  rcases List.mem_cons.1 hd with rfl|hd
  ·
   exact List.mem_append_left _ hn
  ·
   exact List.mem_append_right _ (HK hd hn)
theorem HL{H:Type}{n:Nat}: ∀{ts:List TypeId} {l:List (DataW H)} {i:Nat} {t:TypeId} {d:DataW H},ts[i]? =some t→l[i]? =some d→n∈d.weights P t→n∈DataW.weightsEach P ts l
 |[],_,i,_,_,h,_,_=>by simp at h
 |_::_,[],i,_,_,_,h,_=>by simp at h
 |t0::ts,d0::l,0,t,d,ht,hd,hn=>by
  obtain rfl:t0=t:=by simpa using ht
  obtain rfl:d0=d:=by simpa using hd
  rw[DataW.weightsEach];exact List.mem_append_left _ hn
 |t0::ts,d0::l,i+1,t,d,ht,hd,hn=>by
  rw[DataW.weightsEach];exact List.mem_append_right _ (HL (i:=i) (by simpa using ht) (by simpa using hd) hn)
theorem abj:reachBytes≤140737488355328:=by decide
theorem sK{t e:TypeId}{τ:Type}[Deep τ](hu:P.underlying t=some (.slice e))(mr:Nat.ble 1 (P.bytesOf e)=true)(hc:1≤Deep.c τ)(hs:P.cellsOf t=1)[o:jT P e τ]:jT P t (Sl τ):=⟨hs,fun{H enc w fuel cs d ps} h hw=>by
 have hb:1≤P.bytesOf e:=Nat.le_of_ble_eq_true mr
 rcases Go.Deep.open_slice hu h with⟨rfl,_⟩|⟨a,len,cap,m,n,D,Pl,rfl,_,hl,_,hm,hx,AW⟩
 ·
  exact⟨⟨Sv.none,[]⟩,rfl,uu⟩
 ·
  simp only[if_true]at hm
  subst hm
  have hd:d= .slice ((List.range len).map D) ((List.range (m -len)).map fun j=>D (len+j)):=congrArg Prod.fst hx
  subst hd
  simp only[DataW.weights,hu,List.length_map,List.length_range]at hw
  have uk:m≤140737488355328:=by
   have h1:=hw _ (List.mem_cons_self ..)
   have h2:(len+(m -len))*1≤(len+(m -len))*P.bytesOf e:=Nat.mul_le_mul_left _ hb
   have:=abj;omega
  have O4: ∀i,i<m→ ∃cs',(cs'.length=Deep.c τ∧ ∀j,j<Deep.c τ→w.cell? ((a.add (i*Deep.c τ)).add j)=cs'[j]?)∧DataW.trod enc P w 0 (fun _=>true) true n e cs'=some (D i,Pl i):=fun i hi=>by
   obtain⟨cs',h1,h2⟩:=AW i hi
   rw[o.sz]at h1
   exact⟨cs',abi h1,h2⟩
  have O5:0<m→a.spot=none:=fun hm=>by
   obtain⟨cs',⟨h1,h2⟩,_⟩:=O4 0 hm
   have h3:=h2 0 (by omega)
   have e0:(a.add (0*Deep.c τ)).add 0=a:=by simp[Addr.add]
   rw[e0,List.getElem?_eq_getElem (by omega)]at h3
   unfold World.cell? at h3
   split at h3
   ·
    split at h3
    ·
     cases h3
    ·
     rename_i hs;simpa using hs
   ·
    cases h3
  obtain⟨l,nw,Ds⟩:=HJ (p:=fun i (x:τ)=>(∀j,j<Deep.c τ→w.cell? ((a.add (i*Deep.c τ)).add j)=(Deep.cells x)[j]?)∧Deep.bh (hp w) x) (n:=len) fun i hi=>by
   obtain⟨cs',⟨h1,h2⟩,h3⟩:=O4 i (by omega)
   obtain⟨x,mQ,jM⟩:=o.h h3 (fun k hk=>hw k (List.mem_cons_of_mem _ (List.mem_append_left _ (HK (List.mem_map.2 ⟨i,List.mem_range.2 hi,rfl⟩) hk))))
   refine⟨x,fun j hj=> ?_,jM⟩
   rw[h2 j hj,←mQ];simp
  refine⟨⟨⟨false,a.block,a.off,len,m,a.spot⟩,l⟩,rfl,⟨⟨(fun h=>by cases h),hl,by simp only;omega,O5⟩,by simp[nw],fun i x hi j hj=> ?_⟩,fun x hx=> ?_⟩
  ·
   have ft:i<len:=by rw[←nw];exact(List.getElem?_eq_some_iff.1 hi).1
   have h1:=(Ds i x hi).1 j hj
   have hs:=O5 (by omega)
   have ea:(a.add (i*Deep.c τ)).add j=⟨a.block,a.off+i*Deep.c τ+j,none⟩:=by
    obtain⟨ab,ao,asp⟩:=a
    simp only at hs
    subst hs
    rw[Addr.gw,Addr.gw]
   rw[ea,qw]at h1
   exact h1
  ·
   obtain⟨i,hi⟩:=List.getElem?_of_mem hx
   exact(Ds i x hi).2⟩
theorem ql{H:Type}{enc:TypeId×Value→H}{w:World}{fuel:Nat}{t:TypeId}{cs:List Value}{d:DataW H}{ps:List MemPlace}{fs:Array Field}(hu:P.underlying t=some (.struct fs))(h:DataW.trod enc P w 0 (fun _=>true) true fuel t cs=some (d,ps))(hw: ∀n∈d.weights P t,n≤reachBytes)
  {i tf off:Nat} (lM:(fs[i]?).map (fun f=>(f.type,f.offset))=some (tf,off)) (τ:Type) [Deep τ] [o:jT P tf τ]:cs.length=P.cellsOf t∧ ∃x:τ,(Deep.cells x).toList=(cs.drop off).take (Deep.c τ)∧Deep.bh (hp w) x:=by
 obtain⟨f,hf,e⟩:=Option.map_eq_some_iff.1 lM
 obtain⟨rfl,rfl⟩:=Prod.mk.inj e
 obtain⟨xs,n,_,hx,hl,hlen,hg⟩:=DataW.trod_struct hu h
 have h1:=hg i f hf
 have hi:i<xs.length:=by rw[hlen];exact(Array.getElem?_eq_some_iff.1 hf).1
 rw[List.getElem?_eq_getElem hi,o.sz]at h1
 have hd:d= .agg (xs.map (·.1)):=congrArg Prod.fst hx
 subst hd
 obtain⟨x,mQ,jM⟩:=o.h (d:=xs[i].1) (ps:=xs[i].2) h1 (fun k hk=>hw k (by
  simp only[DataW.weights,hu]
  exact HL (i:=i) (t:=f.type) (d:=xs[i].1) (by
   have:fs.toList[i]? =some f:=by simpa using hf
   rw[List.getElem?_map,this];rfl) (by simp[hi]) hk))
 exact⟨hl,x,mQ,jM⟩
theorem abk{H:Type}{enc:TypeId×Value→H}{w:World}{fuel:Nat}{t e:TypeId}{m:Nat}{cs:List Value}{d:DataW H}{ps:List MemPlace}(hu:P.underlying t=some (.array m e))(h:DataW.trod enc P w 0 (fun _=>true) true fuel t cs=some (d,ps))(hw: ∀n∈d.weights P t,n≤reachBytes)
  (τ:Type) [Deep τ] [o:jT P e τ]:cs.length=P.cellsOf t∧ ∀i,i<m→ ∃x:τ,(Deep.cells x).toList=(cs.drop (i*Deep.c τ)).take (Deep.c τ)∧Deep.bh (hp w) x:=by
 cases fuel with
 |zero=>simp[DataW.trod]at h
 |succ n=>
  unfold DataW.trod at h
  rw[hu]at h
  split at h<;>simp_all
  rename_i m' e' heq
  obtain⟨hl,xs,gR,hd⟩:=h
  obtain⟨rfl,rfl⟩:=heq
  intro i hi
  have hlen:=mapM_some_length gR
  have nc:i<xs.length:=by simpa[hlen]using hi
  have h1:=mapM_some_get gR i i (by simp[hi])
  rw[List.getElem?_eq_getElem nc,o.sz]at h1
  obtain⟨rfl,-⟩:=hd
  exact o.h (d:=xs[i].1) (ps:=xs[i].2) h1 (fun k hk=>hw k (by
   simp only[DataW.weights,hu]
   exact HK (List.mem_map_of_mem (List.getElem_mem nc)) hk))
theorem Dt{α:Type}{cs:List α}{a b:Nat}(h:cs.length=a+b):(cs.drop 0).take a++(cs.drop a).take b=cs:=by
 rw[List.drop_zero,List.take_of_length_le (l:=cs.drop a) (by rw[List.length_drop];omega),List.take_append_drop]
theorem abl{α:Type}{cs:List α}{a b c:Nat}(h:cs.length=a+b+c):(cs.drop 0).take a++(cs.drop a).take b++(cs.drop (a+b)).take c=cs:=by
 have h1:=Dt (cs:=cs) (a:=a+b) (b:=c) (by omega)
 conv=>rhs;rw[←h1]
 congr 1
 rw[List.drop_zero,List.take_add]
theorem abm{α:Type}{cs:List α}{a b c d:Nat}(h:cs.length=a+b+c+d):(cs.drop 0).take a++(cs.drop a).take b++(cs.drop (a+b)).take c++(cs.drop (a+b+c)).take d=cs:=by
 have h1:=Dt (cs:=cs) (a:=a+b+c) (b:=d) (by omega)
 conv=>rhs;rw[←h1]
 congr 1
 rw[List.drop_zero,List.take_add,List.take_add]
def Du(n:Int):Array Value:= #[.int .i64 n]
instance:bx Du 1:=⟨fun _=>rfl,fun _=>by simp[Du,Value.oneCell']⟩
instance:Deep Int:=Deep.flat Du 1
def z9(n:UInt16):Array Value:= #[.int .u16 n.toNat]
instance:bx z9 1:=⟨fun _=>rfl,fun _=>by simp[z9,Value.oneCell']⟩
instance:Deep UInt16:=Deep.flat z9 1
def Aa(b:Bool):Array Value:= #[.bool b]
instance:bx Aa 1:=⟨fun _=>rfl,fun _=>by simp[Aa,Value.oneCell']⟩
instance:Deep Bool:=Deep.flat Aa 1
theorem abn{t:TypeId}(hu:P.underlying t=some (.int .i64))(hs:P.cellsOf t=1):jT P t Int:=⟨hs,fun h _=>by
 obtain⟨n,rfl,_,_⟩:=DataW.trod_int hu h
 exact⟨n,rfl,trivial⟩⟩
theorem abo{t:TypeId}(hu:P.underlying t=some (.int .u8))(hs:P.cellsOf t=1):jT P t UInt8:=⟨hs,fun h _=>by
 obtain⟨n,rfl,_,hw⟩:=DataW.trod_int hu h
 simp only[Lit.wf,Bool.and_eq_true,decide_eq_true_eq]at hw
 have h1:(0:Int)≤n:=hw.1
 have h2:n≤(255:Int):=hw.2
 refine⟨UInt8.ofNat n.toNat,?_,trivial⟩
 have:((UInt8.ofNat n.toNat).toNat:Int)=n:=by simp;omega
 show(aN (UInt8.ofNat n.toNat)).toList=_
 simp only[aN,this]⟩
theorem abp{t:TypeId}(hu:P.underlying t=some (.int .u16))(hs:P.cellsOf t=1):jT P t UInt16:=⟨hs,fun h _=>by
 obtain⟨n,rfl,_,hw⟩:=DataW.trod_int hu h
 simp only[Lit.wf,Bool.and_eq_true,decide_eq_true_eq]at hw
 have h1:(0:Int)≤n:=hw.1
 have h2:n≤(65535:Int):=hw.2
 refine⟨UInt16.ofNat n.toNat,?_,trivial⟩
 have:((UInt16.ofNat n.toNat).toNat:Int)=n:=by simp;omega
 show(z9 (UInt16.ofNat n.toNat)).toList=_
 simp only[z9,this]⟩
theorem open_bool{t:TypeId}(hu:P.underlying t=some .bool)(hs:P.cellsOf t=1):jT P t Bool:=⟨hs,fun h _=>by
 obtain⟨n,rfl,_⟩:=DataW.trod_bool hu h
 exact⟨n,rfl,trivial⟩⟩
theorem abq{H:Type}{enc:TypeId×Value→H}{w:World}{b:Nat}{t e:TypeId}{τ:Type}[Deep τ][o:jT P t (Sl τ)](hu:P.underlying t=some (.slice e)){v:Value}{d:DataW H}{ps:List MemPlace}(hv:Value.okWide P w .any b t v)(h:DataW.Trod enc P w 0 (fun _=>true) true t v d ps)(hw: ∀n∈d.weights P t,n≤reachBytes):
  ∃x:Sl τ,v=x.sv.val∧Deep.bh (hp w) x:=by
 obtain⟨fuel,h⟩:=h
 obtain⟨x,h1,h2⟩:=o.h h hw
 refine⟨x,?_,h2⟩
 have hc:v.cells= #[v]:=by
  unfold Value.okWide at hv
  rw[hu]at hv
  unfold Cell.okWide at hv
  rw[hu]at hv
  cases v<;>simp_all[Cell.ok,Value.cells]
 rw[hc]at h1
 have:[x.sv.val]=[v]:=h1
 simpa using this.symm
structure Arg(H:Type)(enc:TypeId×Value→H)(P:Program)(W:World)(b:Nat)(t:TypeId)(v:Value):Prop where
 ok:Value.okWide P W .any b t v
 trod: ∃d ps,DataW.Trod enc P W 0 (fun _=>true) true t v d ps∧ ∀n∈d.weights P t,n≤reachBytes
theorem Arg.sl{H:Type}{enc:TypeId×Value→H}{W:World}{b:Nat}{t e:TypeId}{v:Value}(h:Arg H enc P W b t v)(hu:P.underlying t=some (.slice e))(τ:Type)[Deep τ][o:jT P t (Sl τ)]: ∃x:Sl τ,v=x.sv.val∧Deep.bh (hp W) x:=by
 obtain⟨d,ps,h1,h2⟩:=h.trod
 exact abq hu h.ok h1 h2
theorem O6{H:Type}{enc:TypeId×Value→H}{W:World}{sp:Nat→Bool}{hd:Bool}: ∀{ts:List TypeId} {vs:List Value} {ds:List (DataW H)} {ps:List MemPlace},DataW.TrodAll enc P W 0 sp hd ts vs ds ps→ ∀(j:Nat) (t:TypeId) (v:Value),ts[j]? =some t→vs[j]? =some v→
  ∃d p,ds[j]? =some d∧DataW.Trod enc P W 0 sp hd t v d p
 |[],_,_,_,h,j,_,_,ht,_=>by simp at ht
 |t0::ts,vs,ds,ps,h,j,t,v,ht,hv=>by
  obtain⟨v0,OZ,d0,O0,a,b,rfl,rfl,rfl,h1,h2⟩:=trodAll_cons h
  cases j with
  |zero=>
   obtain rfl:t0=t:=by simpa using ht
   obtain rfl:v0=v:=by simpa using hv
   exact⟨d0,a,rfl,h1⟩
  |succ j=>exact O6 h2 j t v (by simpa using ht) (by simpa using hv)
theorem abr{H:Type}{enc:TypeId×Value→H}{C:Checked}{os:Os}{f:FuncId}{fn:Func}{s:ChangeSpec}{conds:List PathCond}{apart fresh handsOn:Bool}{tb:TypeId}
  (own:ownKnob C.prog.godebug=none) (started:os.Started) (abt:C.prog.inits.idxOf? f=none) (abu:C.prog.funcs[f]? =some fn)
  (wit: ∃(w:World) (tape:Tape) (i:Input),w.os=os∧(w.forCall tape i).Shaped C.prog∧i.vars=[]∧Input.okWide C.prog (w.forCall tape i) .any w.heap.size f i∧
   s.pre6 enc C.prog fn conds apart (w.forCall tape i).memory i.args∧({}:Assume).holds C.prog (lone (Frame.enter C.prog f i.args .normal) [] (w.forCall tape i)))
  (hl:laidOutB C.prog=true) (hp:fn.params.toList.all (fun t=>C.prog.readableRec t&&decide (t<C.prog.types.size))=true) (hr:fn.resultTypes= #[tb]) (hb:C.prog.underlying tb=some .bool)
  (hv:s.vars=[]) (HI: ∀ds:List (DataW H),ds.length=fn.params.size→s.fn H ds={results:=[.lit (.bool true)],args:=ds})
  (abv: ∀(W:World) (base:Nat) (vs:List Value),vs.length=fn.params.size→(∀(j:Nat) t v,fn.params[j]? =some t→vs[j]? =some v→Arg H enc C.prog W base t v)→
   Calls C.prog f vs.toArray W fun e W'=>e= .returned (.bool true)∧Mem W [] W'):
  ReturnsInHanded {} C os f .any (s.pre6 enc C.prog fn conds apart) (s.post enc C.prog fn apart fresh handsOn false):=by
 refine returnsInHanded_of_change_shaped own started abt abu wit ?_
 intro W base args ds gs before abw hW _ nP _ _
 have hlen:args.toList.length=fn.params.size:=by
  obtain⟨p,q,hA,_⟩:=hW
  rw[(HH hA).1];simp
 have h:=abv W base args.toList hlen (fun j t v h1 h2=>⟨abw j t v h1 (by simpa using h2),by
  obtain⟨p,q,hA,_⟩:=hW
  obtain⟨d,pp,hd,ht⟩:=O6 hA j t v (by simpa using h1) h2
  refine⟨d,pp,ht,fun n hn=> ?_⟩
  have hh:=List.all_eq_true.1 nP n (HL (i:=j) (t:=t) (d:=d) (by rw[List.getElem?_append_left (by have:=(Array.getElem?_eq_some_iff.1 h1).1;simpa using this)];simpa using h1)
   (by rw[List.getElem?_append_left (List.getElem?_eq_some_iff.1 hd).1];exact hd) hn)
  simpa using hh⟩)
 rw[Array.toArray_toList]at h
 exact h.mono fun e W' hh=>⟨_,hh.1,abf hl hp hr hb hv HI hW hh.2.below⟩
end Go.ay
namespace Go.Proofs.YtaipiecplldinaaGreat
open Go.ay Go.Kb
instance op3:jT Tryz.prog 3 Int:=abn Tryz.underlying3 (by kernel_rfl)
instance op4:jT Tryz.prog 4 Bool:=open_bool Tryz.underlying4 (by kernel_rfl)
instance op5:jT Tryz.prog 5 UInt8:=abo Tryz.underlying5 (by kernel_rfl)
instance ai5:jT Tryz.prog 66 UInt16:=abp Tryz.underlying66 (by kernel_rfl)
instance:bx cW 16:=⟨gL,fun k=>(inferInstance:fZ (cW k) 16).one⟩
instance:Deep Key:=Deep.flat cW 16
instance:bx c5 18:=⟨nW,fun k=>(inferInstance:fZ (c5 k) 18).one⟩
instance:Deep cR:=Deep.flat c5 18
instance ai6:jT Tryz.prog 56 Key:=⟨by kernel_rfl,fun h hw=>by
 obtain⟨hl,he⟩:=abk Tryz.underlying56 h hw UInt8
 rw[show Tryz.prog.cellsOf 56=16 from by kernel_rfl]at hl
 obtain⟨l,nw,Ds⟩:=HJ (p:=fun i (x:UInt8)=>_) he
 refine⟨nV fun i=>(l.getD i 0).toNat,?_,trivial⟩
 refine List.ext_getElem? fun i=> ?_
 rw[Array.getElem?_toList]
 rcases Nat.lt_or_ge i 16 with hi|hi
 ·
  have hx:l[i]? =some (l.getD i 0):=nT (by omega)
  have h1:=congrArg (·[0]?) (Ds i _ hx).1
  simp only[List.getElem?_take,List.getElem?_drop]at h1
  rw[if_pos (by decide),show i*Deep.c UInt8+0=i from Nat.mul_one i]at h1
  have h3:some (Value.int .u8 (l.getD i 0).toNat)=_:=h1
  have e8:(l.getD i 0).toNat%2^8=(l.getD i 0).toNat:=Nat.mod_eq_of_lt (l.getD i 0).toNat_lt
  show(cW _)[i]? =_
  rw[lz _ _ hi,yz _ _ hi,e8,←h3]
 ·
  show(cW _)[i]? =_
  rw[II _ _ hi,List.getElem?_eq_none (by omega)]⟩
instance ai7:jT Tryz.prog 65 cR:=⟨by kernel_rfl,fun h hw=>by
 obtain⟨hl,x0,h0,-⟩:=ql Tryz.underlying65 h hw (i:=0) (tf:=3) (off:=0) rfl Int
 obtain⟨-,x1,h1,-⟩:=ql Tryz.underlying65 h hw (i:=1) (tf:=3) (off:=1) rfl Int
 obtain⟨-,x2,h2,-⟩:=ql Tryz.underlying65 h hw (i:=2) (tf:=56) (off:=2) rfl Key
 refine⟨⟨x0,x1,x2⟩,?_,trivial⟩
 refine Eq.trans ?_ (abl (a:=1) (b:=1) (c:=16) (hl.trans (by kernel_rfl)))
 rw[show(Deep.cells (⟨x0,x1,x2⟩:cR)).toList=(Deep.cells x0).toList++(Deep.cells x1).toList++(Deep.cells x2).toList from by show(c5 _).toList=_;unfold c5;rw[Array.toList_append];rfl,h0,h1,h2]
 rfl⟩
instance ai8:jT Tryz.prog 68 Rt:=⟨by kernel_rfl,fun h hw=>by
 obtain⟨hl,x0,h0,-⟩:=ql Tryz.underlying68 h hw (i:=0) (tf:=65) (off:=0) rfl cR
 obtain⟨-,x1,h1,-⟩:=ql Tryz.underlying68 h hw (i:=1) (tf:=66) (off:=18) rfl UInt16
 refine⟨⟨x0,x1⟩,?_,trivial⟩
 refine Eq.trans ?_ (Dt (a:=18) (b:=1) (hl.trans (by kernel_rfl)))
 rw[show(Deep.cells (⟨x0,x1⟩:Rt)).toList=(Deep.cells x0).toList++(Deep.cells x1).toList from by show(ax _).toList=_;unfold ax;rw[Array.toList_append];rfl,h0,h1]
 rfl⟩
end Go.Proofs.YtaipiecplldinaaGreat
namespace Go.ay
open Go.RowKit Go.Kb
instance (priority:=high) ai9:Deep Int:=Deep.flat Du 1
open Go.RowKit Go.Kb
instance (priority:=high) aja:Deep Bool:=Deep.flat Aa 1
end Go.ay
namespace Go.Proofs.YtaipiecplldinaaGreat
open Go.ay Go.Kb
open Go.ChangeShapes Go.WideShapes Go.ChangeAt Go.RowKit
instance ajb:jT Tryz.prog 94 Ft:=⟨by kernel_rfl,fun h hw=>by
 obtain⟨hl,x0,h0,-⟩:=ql Tryz.underlying94 h hw (i:=0) (tf:=3) (off:=0) rfl Int
 obtain⟨-,x1,h1,-⟩:=ql Tryz.underlying94 h hw (i:=1) (tf:=4) (off:=1) rfl Bool
 obtain⟨-,x2,h2,-⟩:=ql Tryz.underlying94 h hw (i:=2) (tf:=4) (off:=2) rfl Bool
 obtain⟨-,x3,h3,-⟩:=ql Tryz.underlying94 h hw (i:=3) (tf:=5) (off:=3) rfl UInt8
 refine⟨⟨x0,x1,x2,x3⟩,?_,trivial⟩
 refine Eq.trans ?_ (abm (a:=1) (b:=1) (c:=1) (d:=1) (hl.trans (by kernel_rfl)))
 rw[show(Deep.cells (⟨x0,x1,x2,x3⟩:Ft)).toList=(Deep.cells x0).toList++(Deep.cells x1).toList++(Deep.cells x2).toList++(Deep.cells x3).toList from rfl,h0,h1,h2,h3]
 rfl⟩
instance ajc:jT Tryz.prog 23 (Sl Ft):=sK Tryz.underlying23 (by kernel_rfl) (by decide) (by kernel_rfl)
open Go.ay Go.Kb
open Go.ChangeShapes Go.WideShapes Go.ChangeAt Go.RowKit
open Go.ay Go.Kb
instance (priority:=high) ajd:Deep Bool:=Deep.flat Aa 1
instance aje:jT Tryz.prog 91 Ch:=⟨by kernel_rfl,fun h hw=>by
 obtain⟨hl,x0,h0,-⟩:=ql Tryz.underlying91 h hw (i:=0) (tf:=68) (off:=0) rfl Rt
 obtain⟨-,x1,h1,-⟩:=ql Tryz.underlying91 h hw (i:=1) (tf:=4) (off:=19) rfl Bool
 refine⟨⟨x0,x1⟩,?_,trivial⟩
 refine Eq.trans ?_ (Dt (a:=19) (b:=1) (hl.trans (by kernel_rfl)))
 rw[show(Deep.cells (⟨x0,x1⟩:Ch)).toList=(Deep.cells x0).toList++(Deep.cells x1).toList from by show(fQ _).toList=_;unfold fQ;rw[Array.toList_append];rfl,h0,h1]
 rfl⟩
instance ajf:jT Tryz.prog 76 (Sl Ch):=sK Tryz.underlying76 (by kernel_rfl) (by decide) (by kernel_rfl)
instance ajg:jT Tryz.prog 88 (Sl (Sl Ch)):=sK Tryz.underlying88 (by kernel_rfl) (by decide) (by kernel_rfl)
open Go.ay Go.Kb Go.ChangeShapes Go.WideShapes Go.ChangeAt Go.RowKit
theorem Tryz.own:ownKnob Tryz.prog.godebug=none:=by kernel_rfl
theorem Tryz.laidOut:laidOutB Tryz.prog=true:=by kernel_rfl
set_option maxRecDepth 100000 in
theorem abx{H:Type}{enc:TypeId×Value→H}(W:World)(base:Nat)(vs:List Value)(hl:vs.length=4)(h: ∀(j:Nat) t v,Tryz.f8.params[j]? =some t→vs[j]? =some v→Arg H enc Tryz.prog W base t v):
  Calls Tryz.prog 8 vs.toArray W fun e W'=>e= .returned (.bool true)∧Mem W [] W':=by
 rw[Tryz.params8]at h
 obtain⟨v0,v1,v2,v3,rfl⟩:=O2 hl
 obtain⟨x0,rfl⟩:=O3 (t:=5) Tryz.underlying5 (h 0 5 v0 rfl rfl).ok
 obtain⟨x1,rfl⟩:=O3 (t:=5) Tryz.underlying5 (h 1 5 v1 rfl rfl).ok
 obtain⟨x2,rfl,g2⟩:=(h 2 23 v2 rfl rfl).sl Tryz.underlying23 Ft
 obtain⟨x3,rfl,g3⟩:=(h 3 88 v3 rfl rfl).sl Tryz.underlying88 (Sl Ch)
 exact aba W x0 x1 x2.sv x2.xs x3 g2.1 g3
set_option maxRecDepth 100000 in
theorem aby(os:Os)(started:os.Started)(H:Type)(enc:TypeId×Value→H):
  ReturnsInHanded {} Tryz.checked os 8 .any (Rows.fibSalvageSpec.pre6 enc Tryz.prog Tryz.f8 Rows.fibSalvageRow.domain false) (Rows.fibSalvageSpec.post enc Tryz.prog Tryz.f8 false true false false):=
 abr (C:=Tryz.checked) Tryz.own started (by kernel_rfl) Tryz.func8
  (ChangeSpec.witness6 (enc:=enc) (C:=Tryz.checked) false ⟨#[],#[.int .u8 0, .int .u8 0, .slice none 0 0, .slice none 0 0],[]⟩ 24 (by kernel_rfl) (by kernel_rfl) (by kernel_rfl) (by kernel_rfl))
  Tryz.laidOut (by kernel_rfl) rfl Tryz.underlying4 rfl (fun ds hd=>by obtain⟨d0,d1,d2,d3,rfl⟩:=O2 (hd.trans (by kernel_rfl));rfl)
  (fun W base vs hl h=>abx W base vs (hl.trans (by kernel_rfl)) h)
theorem fibSalvage_holds:Rows.FibSalvageSaid:=
 OpenClaim.holds_of_wide 8 Tryz.f8 rfl rfl rfl rfl rfl rfl rfl ⟨rfl,rfl,rfl,rfl,rfl⟩ rfl rfl rfl rfl rfl (by kernel_rfl) Tryz.func8 (by kernel_rfl)
  (of_decide_eq_true (by kernel_rfl)) (by unfold Func.isWrapper;first|(rw[if_pos (by decide+kernel)];kernel_rfl)|(rw[if_neg (by decide+kernel)];exact⟨rfl,rfl⟩))
  (fun os started H enc _=>aby os started H enc)
end Go.Proofs.YtaipiecplldinaaGreat

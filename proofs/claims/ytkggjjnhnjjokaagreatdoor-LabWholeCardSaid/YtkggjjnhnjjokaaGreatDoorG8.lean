/- Laws and walks by which the law LabWhole is proved, each with its own conditions. -/
import Derived.Test.YtkggjjnhnjjokaaGreatDoorG7
import Derived.ProofKit
import Derived.Deep.Slices
import Derived.HandedShaped
import Derived.Lay
import Derived.MakeChecks
import Derived.Stop.Joined
set_option maxRecDepth 20000
set_option linter.unusedSimpArgs false
set_option linter.unusedVariables false
namespace Go.Kb
open Go.ax
theorem W0: ∀(k:Nat) {n:Nat} {x:WV} {need:Int},nA x<k->Lv (n+100*(nA x+1)) x->x.v.gen+nA x+2<281474976710656->need<=x.v.at_.length->
  ((lA k x need).2=0/\Lv n (lA k x need).1/\need<=(ly (lA k x need).1.v.ae (lA k x need).1.v.at_).1/\(lA k x need).1.v.gen<=x.v.gen+nA x)\/(lA k x need).2=7
 |0,n,x,need,hk,h,hg,hn=>by omega
 |k+1,n,x,need,hk,h,hg,hn=>by
  rw[lA]
  by_cases h1:need<=(ly x.v.ae x.v.at_).1
  ·
   rw[if_pos h1];exact .inl ⟨rfl,h.mono (by omega),h1,by simp only;omega⟩
  ·
   rw[if_neg h1];have ca:vS x.v.ae x.v.last=x.v.ae.pages:=by
    rw[vS,if_neg (by rw[h.ok.nb];simp),if_neg (by rw[h.ok.nb];simp)]
   rw[if_neg (fun g=>by have:=h.wr.pages;omega)];have hP:0<nA x:=by
    apply atO;intro h0;exact h1 (aiH h (by omega) hn)
   rcases aiD (n:=n+100*nA x) (h.mono (by omega)) (by omega) hP with⟨c1,c2,c3,c4⟩|c1
   ·
    rw[if_pos c1];have kO:=(GX h.wr).1.xB;rcases W0 k (n:=n) (need:=need) (x:=(et x).1) (by omega) (c2.mono (by omega)) (by omega) (by rw[kO];exact hn)with⟨s1,s2,s3,s4⟩|s1
    ·
     exact .inl ⟨s1,s2,s3,by omega⟩
    ·
     exact .inr s1
   ·
    rw[if_neg (by rw[c1];decide),if_pos (by rw[c1];decide)];exact .inr c1
theorem aiJ{p:Int}(hp:p<=16){l:List az}(h: ∀x∈l,x.used<=p/\0<=x.live):p0 p l<=16*l.length:=by
 unfold p0
 induction l with
 |nil=>simp
 |cons z r ih=>
  have:=ih fun x hx=>h x (atF _ hx);have hz:=h z at2;rw[atI,av1,af0];have:kV p z<=16:=by
   rw[kV];split
   ·
    omega
   split
   ·
    split<;>omega
   omega
  omega
theorem aiK{x:WV}(h:cY x):nA x<=480:=by
 have hd:=eU h.ae;have:=aiJ hd.2.2.2.1 (l:=au x.v.ae x.v.at_) fun z hz=>by
  have t:=uD h.ae hz;exact⟨t.AT,t.R8⟩
 rw[l5]at this;unfold nA;omega
theorem aiL{n:Nat}{x:WV}{need:Int}(h:Lv (n+50000) x)(hg:x.v.gen+500<281474976710656)(hn:need<=x.v.at_.length):
  ((kN x need).2=0/\Lv n (kN x need).1/\need<=(ly (kN x need).1.v.ae (kN x need).1.v.at_).1/\(kN x need).1.v.gen<=x.v.gen+480)\/(kN x need).2=7:=by
 have hP:=aiK h.wr;have ho:=h.ok.ops;rcases W0 ((cS -x.v.ae.ops).toNat+1) (n:=n) (x:=x) (need:=need) (by omega) (h.mono (by omega)) (by omega) hn with⟨s1,s2,s3,s4⟩|s1
 ·
  exact .inl ⟨s1,s2,s3,by rw[kN];omega⟩
 ·
  exact .inr s1
def sk(c:CV)(fl:List Int):Int:=(ly c fl).1
theorem Ew{c:CV}{fl:List Int}(hk:aW c=true):sk c fl=fL ((au c fl).map (ju c.pages)) -p8 ((au c fl).map (mn c.pages)):=by
 rw[sk,WX hk]
theorem NG{l:List Int}{x:Int}(h:x∈l):x<=p8 l:=((Iv (M:=p8 l) l 0).1 (aul _)).2 x h
theorem W1(l:List Int):0<=p8 l:=((Iv (M:=p8 l) l 0).1 (aul _)).1
theorem aiM{p:Int}{l:List az}{i:Nat}{x y:az}(h:l[i]? =some y)(hn:ju p x=ju p y -1)(hm:mn p x<=mn p y):fL (l.map (ju p)) -p8 (l.map (mn p)) -1<=fL ((l.set i x).map (ju p)) -p8 ((l.set i x).map (mn p)):=by
 have hs:=WY (f:=ju p) (x:=x) h;have:p8 ((l.set i x).map (mn p))<=p8 (l.map (mn p)):=by
  refine(Iv _ 0).2 ⟨W1 _,fun z hz=>?_⟩;obtain⟨w,hw,rfl⟩:=auq.1 hz;rcases at0 hw with g|rfl
  ·
   exact NG (atK g)
  exact Int.le_trans hm (NG (atK (alM h)))
 omega
theorem aiN{l:List az}{j:Nat}{x:az}(h:l[j]? =some x)(hb:x.bad=false)(hl:x.live=0):1<=dV l:=by
 rw[dV];refine List.length_pos_of_mem (a:=x) (atY.2 ⟨List.mem_of_getElem? h,?_⟩);rw[hb,hl];rfl
theorem aiO{l:List az}(h:1<=dV l): ∃(j:Nat) (x:az),l[j]? =some x/\x.bad=false/\x.live=0:=by
 obtain⟨x,hx⟩:=List.exists_mem_of_length_pos (show 0<_ from h);obtain⟨h1,h2⟩:=atY.1 hx;simp only[ad2,aus,decide_eq_true_eq]at h2;obtain⟨j,hj⟩:=atH h1;exact⟨j,x,hj,h2.1,h2.2⟩
theorem W2{x y:az}(hx:x.live≠0): ∀{l:List az} {i:Nat},l[i]? =some y->dV l<=dV (l.set i x)+1
 |[],i,h=>by simp at h
 |z::r,0,h=>by
  simp only[auN,dV,auu];split<;>split<;>simp<;>omega
 |z::r,i+1,h=>by
  have:=W2 hx (l:=r) (i:=i) (by simpa using h);simp only[dV]at this;simp only[avH,dV,auu];split
  ·
   simp only[af0];omega
  exact this
theorem W3{x y:az}(hx:x.live≠0)(hy:y.live≠0): ∀{l:List az} {i:Nat},l[i]? =some y->dV (l.set i x)=dV l
 |[],i,h=>by simp at h
 |z::r,0,h=>by
  obtain rfl:z=y:=by simpa using h
  simp only[auN,dV,auu,hx,hy,decide_false,avS];rfl
 |z::r,i+1,h=>by
  have:=W3 hx hy (l:=r) (i:=i) (by simpa using h);simp only[dV]at this;simp only[avH,dV,auu];split
  ·
   simp only[af0];omega
  exact this
theorem W4{p M:Int}: ∀{l:List az},(∀x∈l,x.bad=false/\(x.live≠0->ju p x<=0)/\(x.live=0->ju p x<=M))->fL (l.map (ju p))<=(dV l:Int)*M
 |[],_=>by simp[fL,dV]
 |z::r,h=>by
  have ih:=W4 (l:=r) fun x hx=>h x (atF _ hx);obtain⟨z1,z2,z3⟩:=h z at2;simp only[dV]at ih;simp only[atI,fL,dV,auu,z1,avo,aup]
  by_cases hl:z.live=0
  ·
   rw[decide_eq_true hl,if_pos rfl,af0,Int.natCast_add,Int.add_mul];have:=z3 hl;omega
  rw[decide_eq_false hl];have:=z2 hl;simp only[at1,if_false];omega
theorem aiP{n:Nat}{c:CV}{fl:List Int}{aG:Bool}{p:PV}(h:Ok (n+18) c)(hs:Std c fl)(h3:3<=c.blocks.length)(hc:1<=sk c fl)(hm:mI p c.size=true):
  ((cT c fl aG p).2.2=0/\Ok n (cT c fl aG p).1/\ ∀gl:List Int,(∀k,k∈gl↔k∈fl\/k=(cT c fl aG p).2.1)->(1<=dV (au c fl)->1<=dV (au (cT c fl aG p).1 gl))/\sk c fl -1<=sk (cT c fl aG p).1 gl/\Std (cT c fl aG p).1 gl)\/(cT c fl aG p).2.2=7:=by
 have hd:=eU h.ae;have ND:(dt p c.size).2=0:=by rw[dt,if_pos hm]
 have ca:((dt p c.size).1.length:Int)=c.size:=Ec hm;rw[cT,if_neg (by rw[ND];simp)];generalize(dt p c.size).1=b at*;rw[Ew h.ae]at hc;have key: ∀{i:Nat} {d:CV} (y:az),Ok (n+1) d->dU c d->Std d fl->i<c.blocks.length -2->au d fl=(au c fl).set i y->y.bad=false->y.used<c.pages->(∀z,(au c fl)[i]? =some z->z.bad=false/\ju c.pages y=ju c.pages z/\(y.live=0->z.live=0)/\(y.live≠0->y.live=z.live))->
   (dV (au c fl)≥1->y.live=0->2<=dV (au c fl))->
   ((bA d ((i:Int)+2) b=0/\Ok n (bx d ((i:Int)+2) b)/\ ∀gl:List Int,(∀k,k∈gl↔k∈fl\/k=((i:Int)+2)*c.pages+(aj d ((i:Int)+2)).used+1)->(1<=dV (au c fl)->1<=dV (au (bx d ((i:Int)+2) b) gl))/\sk c fl -1<=sk (bx d ((i:Int)+2) b) gl/\Std (bx d ((i:Int)+2) b) gl)\/bA d ((i:Int)+2) b=7):=by
  intro i d y bN fB W5 hi hb hyb hyu hz hid;have nz:=bN.get W5 (i:=i) (by rw[fB.len];exact hi);have fg:i<(au c fl).length:=by rw[l5];exact hi
  rw[hb,atE fg]at nz;have ey:=atl nz;have hu:(aj d ((i:Int)+2)).used=y.used:=by rw[ey]
  have xN:(c8 d.pages fl i:Int)=y.live:=by rw[ey]
  obtain⟨z,qC⟩: ∃z,(au c fl)[i]? =some z:=⟨_,atp fg⟩;obtain⟨z1,z2,z3,z4⟩:=hz z qC;rcases bN.prog (n:=n) (b:=(i:Int)+2) (p:=b) (by omega) (by rw[fB.len];omega) (by rw[hu,fB.pages];exact hyu) (by rw[fB.size];exact ca)with⟨e,g⟩|e
  ·
   left;refine⟨e,g,fun gl zt=>?_⟩;obtain⟨b1,b2⟩:=Ws (gl:=gl) bN.ae W5 e (by rw[fB.pages];exact zt);rw[hb,avM]at b1;have pY:=fB.trans (iP d ((i:Int)+2) b);have xW:((c8 d.pages fl i:Int)+1)≠0:=by omega
   refine⟨fun h1=>?_,?_,b2⟩
   ·
    rw[b1]
    by_cases og:y.live=0
    ·
     have:=hid h1 og;have:=W2 (x:=⟨(c8 d.pages fl i:Int)+1,(aj d ((i:Int)+2)).used+1,(aj d ((i:Int)+2)).aU,false⟩) xW qC;omega
    ·
     rw[W3 (x:=⟨(c8 d.pages fl i:Int)+1,(aj d ((i:Int)+2)).used+1,(aj d ((i:Int)+2)).aU,false⟩) xW (by rw[←z4 og];exact og) qC];exact h1
   ·
    rw[Ew h.ae,Ew g.ae,b1,pY.pages];refine aiM qC ?_ ?_
    ·
     rw[←z2,ju,ju,if_neg (by simp),if_neg (by rw[hyb];simp),lu,lu];simp only;rw[if_neg (fun g=>xW g.1)]
     by_cases og:y.live=0/\c.pages -y.used=0
     ·
      omega
     ·
      rw[if_neg og];omega
    ·
     rw[mn,if_neg (by simp),if_neg xW,mn,if_neg (by rw[z1];simp)];split
     ·
      have:=GO (uD h.ae (alM qC)) h.ae;exact this.1
     ·
      exact aul _
  ·
   exact .inr e
 obtain⟨m,hm'⟩: ∃m,(cS -c.ops).toNat+1=m+1:=⟨_,rfl⟩;rw[hm',hH]
 suffices main:(∃(i:Nat) (d:CV),bg c fl aG=(d,(i:Int)+2,0)/\((bA d ((i:Int)+2) b=0/\Ok n (bx d ((i:Int)+2) b)/\ ∀gl:List Int,(∀k,k∈gl↔k∈fl\/k=((i:Int)+2)*c.pages+(aj d ((i:Int)+2)).used+1)->(1<=dV (au c fl)->1<=dV (au (bx d ((i:Int)+2) b) gl))/\sk c fl -1<=sk (bx d ((i:Int)+2) b) gl/\Std (bx d ((i:Int)+2) b) gl)\/bA d ((i:Int)+2) b=7))\/ ∃(d:CV) (b0:Int),bg c fl aG=(d,b0,7) by
  rcases main with⟨i,d,he,aiQ⟩|⟨d,b0,he⟩
  ·
   rw[he];simp only[if_true];rcases aiQ with⟨r1,r2,r3⟩|r1
   ·
    rw[if_pos r1];exact .inl ⟨rfl,r2,r3⟩
   ·
    rw[if_neg (by rw[r1];decide),if_pos (by rw[r1];decide)];exact .inr r1
  ·
   rw[he,if_neg (show ¬(7:Int)=0 by decide),if_pos (show(7:Int)≠9 by decide)];exact .inr rfl
 have hw:=Nx h.ae hs h3
 by_cases hA:(mN c fl).2=true
 ·
  obtain⟨z,hz,a1,a2,a3,a4,a5⟩:=pL (fun x h=>(ta h).1) hA;have nN:(au c fl)[(mN c fl).1.toNat]? =some z:=hz;change 0<=(mN c fl).1 at a4;obtain⟨e1,e2⟩:=wE (by omega) hs nN;have qU:bg c fl aG=(c,(((mN c fl).1.toNat:Nat):Int)+2,0):=by rw[bg,if_pos hA,aun a4]
  simp only[rQ,decide_eq_true_eq]at a2;refine .inl ⟨_,_,qU,key z (h.mono (by omega)) (.dk _) hs e2 (Iq nN).symm a1 (ta a3).2 (fun w hw=>?_) (fun _ g=>absurd g (by omega))⟩;obtain rfl:=atl (nN.symm.trans hw);exact⟨a1,rfl,id,fun _=>rfl⟩
 ·
  have Nz:=uz (BI (R:=rQ) hw) (show(gg (cg rQ (au c fl)) c.pages (nk c.pages) [AM,s0]).2=false by simpa[mN,fD]using hA);have iY: ∀x∈au c fl,x.bad=false/\(x.live≠0->ju c.pages x<=0)/\(x.live=0->ju c.pages x<=p8 ((au c fl).map (mn c.pages))):=fun x hx=>by
   obtain⟨j,hj⟩:=atH hx;obtain⟨e1,e2⟩:=wE (by omega) hs hj;rw[h.tell]at e1;have eu:x.bad=false:=by rw[e1]
   have AF:0<=x.live:=by rw[e1];simp only;omega
   refine⟨eu,fun hl=>?_,fun hl=>?_⟩
   ·
    have:=Nz _ (atK (f:=iE rQ) hx);rw[BK eu (by simp only[rQ,decide_eq_true_eq];omega),nk,eu]at this;simp only[avo,aup,decide_eq_false_iff_not]at this;rw[ju,if_neg (by rw[eu];simp),lu,if_neg (fun g=>hl g.1)];omega
   ·
    have:mn c.pages x=ju c.pages x:=by
     have HT: ¬x.bad=true:=by rw[eu];simp
     rw[mn,ju,if_neg HT,if_neg HT,if_pos hl]
    rw[←this];exact NG (atK hx)
  have W6:2<=dV (au c fl):=by
   have hr:=W4 iY;have h0:=W1 ((au c fl).map (mn c.pages));apply atO;intro hn;have hle:(dV (au c fl):Int)*p8 ((au c fl).map (mn c.pages))<=1*p8 ((au c fl).map (mn c.pages)):=Int.mul_le_mul_of_nonneg_right (by omega) h0;omega
  have cd: ¬(dV (au c fl)=0\/(dV (au c fl)=1/\aG=false)):=by rintro(g|g)<;>omega
  by_cases hB:(kt c fl).2=true
  ·
   obtain⟨z,hz,a1,a2,a3,a4,a5⟩:=pL (fun x h=>(ta h).1) hB;have nN:(au c fl)[(kt c fl).1.toNat]? =some z:=hz;change 0<=(kt c fl).1 at a4;obtain⟨e1,e2⟩:=wE (by omega) hs nN;have qU:bg c fl aG=(c,(((kt c fl).1.toNat:Nat):Int)+2,0):=by rw[bg,if_neg hA,if_neg cd,if_pos hB,aun a4]
   refine .inl ⟨_,_,qU,key z (h.mono (by omega)) (.dk _) hs e2 (Iq nN).symm a1 (ta a3).2 (fun w hw=>?_) (fun _ _=>W6)⟩;obtain rfl:=atl (nN.symm.trans hw);exact⟨a1,rfl,id,fun _=>rfl⟩
  ·
   have hfd:=VT h.ae h3 (by omega) hB;have NA:=uz (BI (R:=gG) hw) (show(gg (cg gG (au c fl)) c.pages (nk c.pages) [AM,s0]).2=false by simpa[kt,fD]using hB);obtain⟨z,hz,a1,a2,a3,a4,a5⟩:=pL (fun x h=>(l8 h).1) hfd;have nN:(au c fl)[(jG c fl).toNat]? =some z:=hz;change 0<=jG c fl at a4;obtain⟨e1,e2⟩:=wE (by omega) hs nN;have rn:=(l8 a3).2.1;have hzu:c.pages<=z.used:=by
    have:=NA _ (atK (f:=iE gG) (alM nN));rw[BK a1 a2,nk,a1]at this;simp only[avo,aup,decide_eq_false_iff_not]at this;omega
   have Ny:=h.BJ e2;rw[h.tell]at e1;have nn:=(vc (by omega) hs (jG c fl).toNat).1 (by rw[e1]at rn;simp only at rn;omega);have eD:jG c fl+2=(((jG c fl).toNat:Nat):Int)+2:=by rw[aun a4]
   rcases h.Io (n:=n+1) (b:=(((jG c fl).toNat:Nat):Int)+2) (by omega) (by omega)with⟨q1,q2⟩|q1
   ·
    have qU:bg c fl aG=((cG c ((((jG c fl).toNat:Nat):Int)+2)).1,(((jG c fl).toNat:Nat):Int)+2,0):=by rw[bg,if_neg hA,if_neg cd,if_neg hB,eD,q1]
    obtain⟨b1,b2⟩:=Im h.ae hs nn q1;refine .inl ⟨_,_,qU,key _ q2 (xw _ h.ae).2 b2 e2 b1 rfl (by simp only;omega) (fun w hw=>?_) (fun _ _=>W6)⟩;obtain rfl:=atl (nN.symm.trans hw);refine⟨a1,?_,fun _=>rn,fun g=>absurd rfl g⟩;have atb:z.used<=c.pages:=by rw[e1];exact Ny.2
    rw[ju,if_neg (by simp),ju,if_neg (by rw[a1];simp),lu,lu,if_neg (show ¬((0:Int)=0/\c.pages -0=0) by omega),if_pos ⟨rn,by omega⟩];simp only;omega
   ·
    right;have qU:bg c fl aG=((cG c ((((jG c fl).toNat:Nat):Int)+2)).1,(((jG c fl).toNat:Nat):Int)+2,7):=by rw[bg,if_neg hA,if_neg cd,if_neg hB,eD,q1]
    exact⟨_,_,qU⟩
theorem W7{c:CV}{fl gl:List Int}(hk:aW c=true)(h:au c gl=au c fl):sk c gl=sk c fl:=by rw[Ew hk,Ew hk,h]
theorem NH{v:VV}{aG:Bool}(hg:v.gen+1<281474976710656)(W8:v.at_.length≤64): ∀(l:List (Int×List UInt8)) {n:Nat} {c:CV} {a:List Int},Ok (n+18*l.length) c→3≤c.blocks.length→Pl c v.at_→Std c a→a.length=v.at_.length→l.Pairwise (fun p q=>p.1≠q.1)→
    (∀x∈l,0<=x.1/\x.1<v.at_.length/\(x.2.length:Int)<=dW c.size)->(∀x∈l,a[x.1.toNat]? =v.at_[x.1.toNat]?)->(mP l:Int)<=sk c (v.at_++a)->1<=dV (au c (v.at_++a))->
    ((fV v aG l c a).2.2=0/\Ok n (fV v aG l c a).1/\Std (fV v aG l c a).1 (fV v aG l c a).2.1/\1<=dV (au (fV v aG l c a).1 (v.at_++(fV v aG l c a).2.1)))\/(fV v aG l c a).2.2=7
  |[],n,c,a,h,h3,hv,ha,dE,hp,hi,hs,hc,hid=> .inl ⟨rfl,h,ha,hid⟩
  |x::r,n,c,a,h,h3,hv,ha,dE,hp,hi,hs,hc,hid=>by
   obtain⟨mf,jF⟩:=aui.1 hp;obtain⟨x0,x1,x2⟩:=hi x at2;have hd:=eU h.ae;have W9:x.1.toNat<v.at_.length:=by omega
   obtain⟨y,hy⟩: ∃y,v.at_[x.1.toNat]? =some y:=⟨_,atp W9⟩;have L9:a[x.1.toNat]? =some y:=(hs x at2).trans hy
   have Ej: ∀{k N:Int},k∈a->k∈v.at_\/k∈a.set x.1.toNat N:=fun{k N} hk=>by
      obtain⟨j,hj⟩:=atH hk
      by_cases e:j=x.1.toNat
      ·rw[e,L9]at hj
       obtain rfl:=atl hj;exact .inl (alM hy)
      ·right
       exact alM (i:=j) (by rw[atZ (fun g=>e g.symm)];exact hj)
   have Xa: ∀{N:Int},∀q∈r,(a.set x.1.toNat N)[q.1.toNat]? =v.at_[q.1.toNat]? :=fun{N} q hq=>by
      have h0:=(hi q (atF _ hq)).1;have cd:=mf q hq;rw[atZ (by omega)];exact hs q (atF _ hq)
   rw[fV]
   by_cases h0:x.2.length=0
   ·rw[if_pos h0]
    have NI:mP (x::r)=mP r:=by
        rw[mP,List.filter_cons_of_neg (by simp[h0])];rfl
    have bB:Std c (a.set x.1.toNat 0):=fun k hk oA=>by
        rcases at0 hk with g|g
        ·exact ha k g oA
        ·exact absurd g oA
    have v7:au c (v.at_++a.set x.1.toNat 0)=au c (v.at_++a):=by
        refine Nv (by omega) (hv.ny.append ha) (hv.ny.append bB) (.dk _) fun i=>⟨rfl,rfl,rfl,fun _=>yh (fun k hk=>?_) (by omega)⟩;have oA:k≠0:=fun e=>by
          rw[e]at hk;have:((0:Int) -1)/c.pages<0:=av2 (by decide) (by omega);omega
        rw[atu,atu];constructor
        ·rintro(g|g)
         ·exact .inl g
         ·rcases at0 g with g|g
          ·exact .inr g
          ·exact absurd g oA
        ·rintro(g|g)
         ·exact .inl g
         ·exact Ej g
    exact NH hg W8 r (h.mono (by simp only[af0];omega)) h3 hv bB (by rw[atV,dE]) jF (fun q hq=>hi q (atF _ hq)) Xa (by rw[W7 h.ae v7,←NI];exact hc) (by rw[v7];exact hid)
   ·rw[if_neg h0]
    have NI:mP (x::r)=mP r+1:=by
        rw[mP,List.filter_cons_of_pos (by rw[decide_eq_true_eq];omega)];rfl
    rw[NI]at hc;obtain⟨k1,_,_,k4⟩:=fF.1 h.ok;have BF:mI (iS v x) c.size=true:=rM.2 ⟨sZ.2 ⟨k4,by omega⟩, .inl rfl,x0,by show x.1<64;omega,hg,x2⟩;have ow:=(VU (c:=c) (fl:=v.at_++a) (aG:=aG) (p:=iS v x) h.ae h3).1;rcases aiP (n:=n+18*r.length) (c:=c) (fl:=v.at_++a) (aG:=aG) (p:=iS v x) (h.mono (by simp only[af0];omega)) (hv.ny.append ha) h3 (by omega) BF with⟨p1,p2,p3⟩|p1
    ·rw[if_neg (by rw[p1];simp)]
     generalize cT c (v.at_++a) aG (iS v x)=P at*
     obtain⟨q1,q2,q3⟩:=p3 (v.at_++a.set x.1.toNat P.2.1) (fun k=>by
          rw[atu,atu];constructor
          ·rintro(g|g)
           ·exact .inl (.inl g)
           ·rcases at0 g with g|g
            ·exact .inl (.inr g)
            ·exact .inr g
          ·rintro((g|g)|g)
           ·exact .inl g
           ·exact Ej g
           ·right
            rw[g];exact alM (i:=x.1.toNat) (by rw[atE (by rw[dE];exact W9)]))
     exact NH hg W8 r p2 (by rw[ow.cj.len];exact h3) (hv.kd ow.toKd fun _ g=>atT _ g) (fun k hk=>q3 k (auO _ hk)) (by rw[atV,dE]) jF (fun q hq=>by
          obtain⟨z0,z1,z2⟩:=hi q (atF _ hq);exact⟨z0,z1,by rw[ow.cj.size];exact z2⟩) Xa (by omega) (q1 hid)
    ·right
     rw[if_pos (by rw[p1];decide)];exact p1
structure Items(v:VV)(l:List (Int×List UInt8)):Prop where
  ne:l.Pairwise fun p q=>p.1≠q.1
  it: ∀x∈l,0<=x.1/\x.1<v.at_.length/\(x.2.length:Int)<=dW v.ae.size
  len:l.length<=v.at_.length
theorem aiR(l:List (Int×List UInt8)):mP l<=l.length:=avJ _ _
theorem Lv.by{n:Nat}{x:WV}(h:Lv n x)(b:Bool):Lv n {x with beyond:=b}:=⟨h.ok,h.wr.by b,h.rt,h.pl,h.kM,h.half,h.idle⟩
theorem aiS{n:Nat}{x:WV}{l:List (Int×List UInt8)}(h:Lv (n+60000) x)(hg:x.v.gen+600<281474976710656)(hl:Items x.v l):
    ((gy x l).2=0/\Lv n (gy x l).1/\(gy x l).1.v.gen<=x.v.gen+481)\/(gy x l).2=7:=by
  have hf:=h.wr.kM;have nh:=hl.len;have xW:=aiR l;have mV:=Wg (l:=l) h.wr h.rt h.pl fun y hy=>(hl.it y hy).1;have oY:=GZ (l:=l) h.wr;have zg:Sf x (cE x.v) (cN x l).1 (cN x l).2:=(Wf (x:={x with beyond:=false}) (need:=mP l) (h.wr.by false) h.rt h.pl).cw
  have iU:=GY (l:=l) h.wr;rw[gy]at mV oY⊢;rcases aiL (n:=n+2000) (x:={x with beyond:=false}) (need:=mP l) (h.by false|>.mono (by omega)) (by show x.v.gen+500<_;omega) (by show(mP l:Int)<=x.v.at_.length;omega)with⟨s1,s2,s3,s4⟩|s1
  ·change(cN x l).2=0 at s1
   change Lv (n+2000) (cN x l).1 at s2;change(mP l:Int)<=(ly (cN x l).1.v.ae (cN x l).1.v.at_).1 at s3;change(cN x l).1.v.gen<=x.v.gen+480 at s4;rw[if_neg (by rw[s1];simp)]at mV oY⊢;have hlen:=zg.len;have eI:=zg.kd.cj;have hd:=eU s2.ok.ae;have h3:3<=(cN x l).1.v.ae.blocks.length:=by have:=s2.wr.te;omega
   have jt:=s2.rt.pl.ny
   have v7:au (cN x l).1.v.ae ((cN x l).1.v.at_++(cN x l).1.v.at_)=au (cN x l).1.v.ae (cN x l).1.v.at_:=
      Nv (by omega) jt (jt.append jt) (.dk _) fun i=>⟨rfl,rfl,rfl,fun _=>yh (fun k _=>by rw[atu];exact or_self_iff) (by omega)⟩
   have aiT:1<=dV (au (cN x l).1.v.ae (cN x l).1.v.at_):=by
      obtain⟨j,j1,j2⟩:=s2.idle;exact aiN (s2.ok.get jt j1) rfl (by simp only;omega)
   have hit:=NH (v:=(cN x l).1.v) (aG:=(cN x l).1.beyond) (by omega) (by omega) l (n:=n+2) (c:=(cN x l).1.v.ae) (a:=(cN x l).1.v.at_) (s2.ok.mono (by omega)) h3 s2.rt.pl jt rfl hl.ne (fun y hy=>by
      obtain⟨z0,z1,z2⟩:=hl.it y hy;exact⟨z0,by rw[hlen];exact z1,by rw[eI.size];exact z2⟩) (fun _ _=>rfl) (by rw[W7 s2.ok.ae v7];exact s3) (by rw[v7];exact aiT)
   have ov:=H9 (v:=(cN x l).1.v) (aG:=(cN x l).1.beyond) l (c:=(cN x l).1.v.ae) (a:=(cN x l).1.v.at_) s2.ok.ae h3 s2.rt.pl s2.rt.pl (fun y hy=>(hl.it y hy).1);change _\/(gk x l).2.2=7 at hit;rcases hit with⟨i1,i2,i3,i4⟩|i1
   ·change(gk x l).2.2=0 at i1
    change Ok (n+2) (gk x l).1 at i2;change Std (gk x l).1 (gk x l).2.1 at i3;change 1<=dV (au (gk x l).1 ((cN x l).1.v.at_++(gk x l).2.1))at i4;rw[if_neg (by rw[i1];simp)]at mV oY⊢;obtain⟨t1,t2,t3⟩:=ov;obtain⟨t4,t5,t6⟩:=t2 i1;change Kp (cN x l).1.v.at_ (cN x l).1.v.ae (gk x l).1 at t1;change(gk x l).2.1.length=(cN x l).1.v.at_.length at t6;have fN:cY ((cN x l).1.on (gk x l).1):=s2.wr.on i2.ae t1.cj;rcases Wz (n:=n) fN i2 ⟨by show(cN x l).1.v.gen+1<_;omega,by rw[t6,show((cN x l).1.on (gk x l).1).v.ae.size=(cN x l).1.v.ae.size from t1.cj.size];exact s2.kM,WI i2.ae i3⟩with⟨w1,w2,w3,w4,w5,w6⟩|w1
    ·left
     rw[w1]at mV;refine⟨w1,⟨w2,oY.ok,(mV.cK rfl).1,h.pl.kd mV.kd,by rw[mV.len,mV.kd.cj.size];exact h.kM,by rw[mV.len,mV.kd.cj.len,mV.kd.cj.pages];exact h.half,?_⟩,by rw[w4];show(cN x l).1.v.gen+1<=_;omega⟩;obtain⟨j,z,hz,z1,z2⟩:=aiO i4;have Ev:Std (gk x l).1 ((cN x l).1.v.at_++(gk x l).2.1):=(jt.kd t1.toKd fun _ g=>g).append i3;obtain⟨e1,e2⟩:=wE (by rw[t1.cj.pages];omega) Ev hz;have ve:dU (gk x l).1 (dQ ((cN x l).1.on (gk x l).1) (gk x l).2.1).1.v.ae:=(K2 fN (aiU i3 (by show 1<=(gk x l).1.pages;rw[t1.cj.pages];omega)) t6).1.cj;refine⟨j,by rw[ve.len];exact e2,?_⟩;rw[i2.tell]at e1;rw[e1]at z2;simp only at z2;have nn:=(vc (by rw[t1.cj.pages];omega) Ev j).1 (by omega);have hS:=(mV.cK rfl).1.pl.ny;refine(vc (by rw[ve.pages,t1.cj.pages];omega) hS j).2 ?_;rw[w3];intro k hk oA;rw[ve.pages];exact nn k (auO _ hk) oA
    ·exact .inr w1
   ·right
    rw[if_pos (by rw[i1];decide)];exact i1
  ·right
   change(cN x l).2=7 at s1;rw[if_pos (by rw[s1];decide)];exact s1
where
  aiU {c:CV} {a:List Int} (h:Std c a) (hp:1<=c.pages):iQ c a:=fun k hk=>by
    by_cases h0:k=0
    ·exact .inl h0
    ·obtain⟨q1,q2,_⟩:=ni.1 (h k hk h0)
     exact .inr ⟨(h.pos hp k hk).resolve_left h0,q1,q2⟩
theorem aiV{v:VV}{l:List (Int×List UInt8)}(h:Items v l):tj v l=true:=by
  refine Dd.2 fun i hi=>?_;have hx:=atp hi;obtain⟨z0,z1,z2⟩:=h.it l[i] (ava hi);rw[uF,show l.getD i (0,[])=l[i] by simp[List.getD,hi],ad2,uE,ad2,ad2,decide_eq_true_eq,decide_eq_true_eq,decide_eq_true_eq];refine⟨⟨⟨z0,z1⟩,z2⟩,?_⟩;rw[aus]
  cases hc:((l.take i).map Prod.fst).contains l[i].1 with
  |false=>rfl
  |true=>
   exfalso;obtain⟨p,hp,e⟩:=auq.1 (auJ.1 hc);obtain⟨j,hj,e2⟩:=List.mem_take_iff_getElem.1 hp;have:=auZ.1 h.ne j i (by omega) hi (by omega);rw[e2]at this;exact this e
theorem aiW{n:Nat}{v:VV}{l:List (Int×List UInt8)}(h:Lv (n+60000) ⟨v,false⟩)(hg:v.gen+600<281474976710656)(hl:Items v l):
    ((eW v l).2=0/\Lv n ⟨(eW v l).1,false⟩/\(eW v l).1.gen<=v.gen+481)\/(eW v l).2=7:=by
  have hb:=aiS (l:=l) h hg hl;have e:lB (v.ae.blocks.length+1) ⟨v,false⟩ l=gy ⟨v,false⟩ l:=by
    rw[lB,if_neg];rintro⟨g,_⟩;rcases hb with⟨b1,_⟩|b1
    ·rw[b1]at g;cases g
    ·rw[b1]at g;cases g
  rw[eW,if_neg (fun g=>g ⟨Eg.2 h.rt,by omega,aiV hl⟩),if_neg (by have:=h.ok.off;rw[show(⟨v,false⟩:WV).v.ae=v.ae from rfl]at this;rw[this];simp),e];rcases hb with⟨b1,b2,b3⟩|b1
  ·exact .inl ⟨b1,b2.by false,b3⟩
  ·exact .inr b1
theorem Xb{n:Nat}{f:FV}(h:jK f)(k:Ok n f.ak.ae)(hp:iG f.ak.ae)(hi: ∃j,j<f.ak.ae.blocks.length -2/\c8 f.ak.ae.pages f.ak.at_ j=0):Lv n ⟨f.ak,false⟩:=by
  have hid:=h.ids;have hc:eE f.ak.ae<=kJ f.ak.ae.size/\eE f.ak.ae<=uH f.ak.ae.blocks.length f.ak.ae.pages/2:=by rw[eE,za];omega
  have hl:uH f.ak.ae.blocks.length f.ak.ae.pages<=((f.ak.ae.blocks.length:Int) -4)*f.ak.ae.pages:=by
    have h4:=(fF.1 h.rt.bears).2.1;have hd:=eU k.ae;rw[uH];split
    ·exact au6 (by omega) (by omega)
    ·exact aul _
  exact⟨k,De (Eg.2 h.rt),h.rt,hp,by show(f.ak.at_.length:Int)<=kJ f.ak.ae.size;omega,by show 2*(f.ak.at_.length:Int)<=((f.ak.ae.blocks.length:Int) -4)*f.ak.ae.pages;omega,hi⟩
theorem aiX(t:List Rt){room:Int}(hr:0<=room)(id:Nat):((rU t (room/20).toNat id).length:Int)<=room:=by
  have:=Lh t (room/20).toNat id;omega
theorem Xc{n:Nat}{f:FV}{l:List Ch}(h:jK f)(k:Lv (n+60000) ⟨f.ak,false⟩)(hg:f.ak.gen+600<281474976710656)(he:dh f.table l=0)(hm: ¬eX f.ak.ae<(bH f.table l).length):
    ((bK f l).2=0/\Lv n ⟨(bK f l).1.ak,false⟩/\(bK f l).1.ak.gen<=f.ak.gen+481)\/(bK f l).2=7:=by
  have hE:=BH (l:=l) h;rw[if_neg hm]at hE
  by_cases hc:fk (eO f) (dJ f l)=[]
  ·rw[(Ii h he hm hc).1]
   exact .inl ⟨rfl,k.mono (by omega),by simp only;omega⟩
  ·have hlen:(eO f).length=(dJ f l).length:=by
      have:=(D6 hE).1;have h2:=h.ids;rw[tK h,A4];have:((dJ f l).length:Int)=eE f.ak.ae:=this;omega
   have Bh:(eO f).length=f.ak.at_.length:=by rw[tK h,A4]
   have aiY:Items f.ak (fk (eO f) (dJ f l)):=by
      refine⟨(HQ (eO f) (dJ f l) _).imp fun g=>by omega,fun x hx=>?_,?_⟩
      ·obtain⟨i,i1,rfl,i3⟩:=MU hx
       refine⟨Int.natCast_nonneg _,by simp only;omega,?_⟩;obtain⟨_,_,_,e⟩:=MT hE;have hi:i<(dJ f l).length:=by omega
       have lT:(dJ f l).getD i []∈dJ f l:=by
          simp only[List.getD,atp hi,avb];exact ava hi
       rw[show dJ f l=mc (bH f.table l) (eE f.ak.ae).toNat (dW f.ak.ae.size/20).toNat from e]at lT⊢;rw[mc]at lT⊢;obtain⟨j,_,hj⟩:=auq.1 lT;simp only;rw[←hj]
       exact aiX _ (by rw[dW];split;·rename_i hf;have:=sZ.1 hf;omega
                       ·exact aul _) j
      ·have:=G4 (eO f) (dJ f l) (max (eO f).length (dJ f l).length)
       rw[fk];omega
   rw[Hb (zG.2 h) he hE hc];exact aiW k hg aiY
def Ey(n p:Nat):CV×Int:=fS ((n:Int)+5) ((p:Int)+2) 64
def qK(n p:Nat):FV×Int:=kP (Ey n p).1
def NJ(f:FV):Bool:=jI f&&decide (f.table=[])&&f.ak.ae.blocks.all (fun b=> !b.bad&&decide (b.aU=0))&&decide (f.ak.ae.ops<=10)&& !f.ak.ae.off&&decide (f.ak.ae.aD=[])&&decide (f.ak.gen<=10)&&f.ak.at_.all (fun n=>decide (n=0))&&decide (fk (eO f) (dJ f [])=[])
def Xd(n p:Nat):Bool:=decide ((Ey n p).2=0)&&decide ((qK n p).2=0)&&NJ (qK n p).1&&aW (Ey n p).1&&decide ((qK n p).1.ak.ae.blocks.length=n+5)&&decide ((qK n p).1.ak.ae.pages=(p:Int)+2)&&decide ((qK n p).1.ak.ae.size=64)
theorem aiZ: ∀n,n<8-> ∀p,p<7->Xd n p=true:=by decide+kernel
structure Rm(k:Nat)(f:FV):Prop where
 fb:jK f
 lv:Lv k ⟨f.ak,false⟩
 iW:f.ak.ae.aD=[]
 off:f.ak.ae.off=false
 gen:f.ak.gen+k<281474976710656
 can:fk (eO f) (dJ f [])=[]
 kM:(f.table.length:Int)<=eX f.ak.ae
theorem Rm.mono{k m:Nat}{f:FV}(h:Rm k f)(hm:m<=k):Rm m f:=⟨h.fb,h.lv.mono hm,h.iW,h.off,au8 (Nat.add_le_add_left hm _) h.gen,h.can,h.kM⟩
theorem ai0{f:FV}(h:NJ f=true):Rm 1000000000 f/\f.table=[]:=by
 simp only[NJ,ad2,decide_eq_true_eq,aty,aus]at h;obtain⟨⟨⟨⟨⟨⟨⟨⟨h1,h2⟩,h3⟩,h4⟩,h5⟩,h6⟩,h7⟩,h8⟩,h9⟩:=h;have ry:=zG.1 h1;have qw:cS=1099511627776:=rfl;have fe: ∀b:Int,(aj f.ak.ae b).bad=false/\(aj f.ak.ae b).aU=0:=fun b=>by
  rcases atA b.toNat f.ak.ae.blocks.length with hl|hl
  ·
   have hm:aj f.ak.ae b∈f.ak.ae.blocks:=by
    simp only[aj,List.getD,atp hl,avb];exact ava hl
   exact h3 _ hm
  simp only[aj,List.getD,atB hl,Option.getD_none];exact⟨rfl,rfl⟩
 have h4l:4<=(f.ak.ae.blocks.length:Int):=(fF.1 ry.rt.bears).2.1;have hp:2<=f.ak.ae.pages:=(fF.1 ry.rt.bears).2.2.1;have bN:Ok 1000000000 f.ak.ae:=⟨ry.rt.bears,fun b=>(fe b).1,h5,(by rw[h6];exact fun x hx=>absurd hx auX),by omega,fun b=>by rw[(fe b).2];omega⟩;refine⟨⟨ry,Xb ry bN (.nil h6) ⟨0,by omega,?_⟩,h6,h5,au8 (Nat.add_le_add_right h7 _) (by decide),h9,?_⟩,h2⟩
 ·
  refine(vc (by omega) ry.rt.pl.ny 0).2 fun k hk oA=>?_;exact absurd (h8 k hk) oA
 rw[h2];have hm:=ry.jq;have:0<=eX f.ak.ae:=by
  rw[eX,xI,jq];split
  ·
   omega
  rename_i g;have hi:=LA f.ak.ae;have h0:0<=dW f.ak.ae.size/20:=by omega
  have h1:0<=za f.ak.ae.blocks.length f.ak.ae.pages f.ak.ae.size*(dW f.ak.ae.size/20):=au6 (by omega) h0;omega
 simpa using this
theorem ai1{n p:Nat}(hn:n<8)(hp:p<7):(Ey n p).2=0/\aW (Ey n p).1=true/\(qK n p).2=0/\Rm 1000000000 (qK n p).1/\(qK n p).1.table=[]/\eX (qK n p).1.ak.ae=xI ((n:Int)+5) ((p:Int)+2) 64:=by
 have h:=aiZ n hn p hp;simp only[Xd,ad2,decide_eq_true_eq]at h;obtain⟨⟨⟨⟨⟨⟨h1,h2⟩,h3⟩,h4⟩,h5⟩,h6⟩,h7⟩:=h;obtain⟨g1,g2⟩:=ai0 h3;refine⟨h1,h4,h2,g1,g2,?_⟩;rw[eX,h5,h6,h7];rfl
theorem ai2{g k:Nat}(h:g+(k+60000)<281474976710656):g+600<281474976710656:=au8 (Nat.add_le_add_left (avU (by decide:600<=60000) (Nat.le_add_left _ _)) g) h
theorem ai3{g g2 k:Nat}(h:g+(k+60000)<281474976710656)(h2:g2<=g+481):g2+k<281474976710656:=au8 (by omega:g2+k<=g+(k+60000)) h
theorem Rm.step{k:Nat}{f:FV}{l:List Ch}(h:Rm (k+60000) f)(he:dh f.table l=0)(hm: ¬eX f.ak.ae<(bH f.table l).length):(bK f l).2=0/\Rm k (bK f l).1/\(bK f l).1.table=bH f.table l/\eX (bK f l).1.ak.ae=eX f.ak.ae:=by
 obtain⟨q1,q2,q3,q4,q5,q6,q7⟩:=aii h.fb h.iW h.off l;have hg:=h.gen;have xN:=h.lv;have hg2:f.ak.gen+600<281474976710656:=ai2 h.gen;have dE:=Xc (n:=k) h.fb xN hg2 he hm;have a1:(bK f l).2=0:=by
  rcases dE with g|g
  ·
   exact g.1
  exact absurd g q6
 have a23:Lv k ⟨(bK f l).1.ak,false⟩/\(bK f l).1.ak.gen<=f.ak.gen+481:=by
  rcases dE with g|g
  ·
   exact g.2
  exact absurd g q6
 obtain⟨a2,a3⟩:=a23;have BM:=Nr h.fb (.nil h.iW) he hm;have hc:=Nn BM.kd.cj;have ht:=(q4 a1).2;refine⟨a1,⟨q1,a2,q2,q3,ai3 h.gen a3,?_,by rw[ht,hc.1];omega⟩,ht,hc.1⟩;have hE:=BH (l:=l) h.fb;rw[if_neg hm]at hE;have HF:=BH (l:=[]) q1;have Iw:bH (bK f l).1.table []=(bK f l).1.table:=by rw[bH];split<;>rfl
 rw[Iw,ht,hc.1,if_neg hm]at HF;have Bx:dJ (bK f l).1 []=dJ f l:=by
  rw[dJ,dJ,Iw,ht,hc.2,BM.kd.cj.size]
 by_cases Xe:fk (eO f) (dJ f l)=[]
 ·
  obtain⟨e1,e2⟩:=Ii h.fb he hm Xe;rw[e1];exact h.can
 have hold:eO (bK f l).1=dJ f l:=by
  rw[tK q1];have hlen:(eO f).length=(dJ f l).length:=by
   have:=(D6 hE).1;have h2:=h.fb.ids;rw[tK h.fb,A4];have:((dJ f l).length:Int)=eE f.ak.ae:=this;omega
  have hs:=Wi (l:=fk (eO f) (dJ f l)) h.fb.rt (.nil h.iW);rw[←tK h.fb,Wn hlen]at hs;have ew:=Hb (zG.2 h.fb) he hE Xe;rw[ew]at a1⊢;exact(hs.cK a1).2
 rw[hold,Bx];exact Vh _
theorem Rm.same{k:Nat}{f:FV}(h:Rm k f){l:List Ch}(he:dh f.table l=0)(hl:bH f.table l=f.table):bK f l=(f,0):=by
 have Iw:bH f.table []=f.table:=by rw[bH];split<;>rfl
 have hn:dJ f l=dJ f []:=by rw[dJ,dJ,hl,Iw]
 have hf:=h.kM;exact(Ii h.fb he (by rw[hl];omega) (by rw[hn];exact h.can)).1
theorem Rm.stays{k:Nat}{f:FV}(h:Rm (k+60000) f)(l:List Ch):Rm k (bK f l).1/\((bK f l).2=0->dh f.table l=0/\(bK f l).1.table=bH f.table l)/\((bK f l).2≠0->(bK f l).1=f):=by
 by_cases he:dh f.table l=0
 ·
  by_cases hm:eX f.ak.ae<(bH f.table l).length
  ·
   rw[Nq h.fb he hm];exact⟨h.mono (by omega),fun g=>absurd (show(5:Int)=0 from g) (by decide),fun _=>rfl⟩
  obtain⟨a1,a2,a3,a4⟩:=h.step he hm;exact⟨a2,fun _=>⟨he,a3⟩,fun g=>absurd a1 g⟩
 rw[Np h.fb he];exact⟨h.mono (by omega),fun g=>absurd g he,fun _=>rfl⟩
def NK(t:List Rt)(l:List Ch)(m:Int):Int:=if dh t l=0/\m<(bH t l).length then 5 else dh t l
theorem Rm.done{k:Nat}{f:FV}(h:Rm (k+60000) f)(l:List Ch):(bK f l).2=NK f.table l (eX f.ak.ae)/\Rm k (bK f l).1/\((bK f l).2=0->(bK f l).1.table=bH f.table l)/\((bK f l).2≠0->(bK f l).1=f)/\eX (bK f l).1.ak.ae=eX f.ak.ae:=by
 rw[NK]
 by_cases he:dh f.table l=0
 ·
  by_cases hm:eX f.ak.ae<(bH f.table l).length
  ·
   rw[Nq h.fb he hm,if_pos ⟨he,hm⟩];exact⟨rfl,h.mono (by omega),fun g=>absurd (show(5:Int)=0 from g) (by decide),fun _=>rfl,rfl⟩
  obtain⟨a1,a2,a3,a4⟩:=h.step he hm;rw[if_neg (fun g=>hm g.2),he];exact⟨a1,a2,fun _=>a3,fun g=>absurd a1 g,a4⟩
 rw[Np h.fb he,if_neg (fun g=>he g.1)];exact⟨rfl,h.mono (by omega),fun g=>absurd g he,fun _=>rfl,rfl⟩
def jv(c:Ch):aS:=if c.gone=true then⟨2,⟨c.r.p,0⟩,0#128,0,0⟩else⟨1,c.r,0#128,0,0⟩
def gQ(c:Ch):Ch:=if c.gone=true then⟨⟨c.r.p,0⟩,true⟩else c
theorem NL{c:Ch}(h:bm c.r.p=true):fR (jv c)=true:=by
 rw[jv];split
 ·
  exact oy.2 ⟨h,rfl⟩
 exact oy.2 ⟨h,rfl⟩
theorem Xf: ∀{l:List Ch} {t:List Rt},(hO t l).2=0-> ∀c∈l,bm c.r.p=true
 |[],_,_,c,hc=>absurd hc auX
 |d::r,t,h,c,hc=>by
  rw[hO]at h;split at h
  ·
   rename_i he;rcases atv.1 hc with rfl|hc
   ·
    exact D2 he
   exact Xf h c hc
  rename_i he;exact absurd h he
theorem Xg{t:List Rt}{l:List Ch}(h:dh t l=0): ∀c∈l,bm c.r.p=true:=by
 rw[dh]at h;split at h
 ·
  exact Xf h
 cases h
theorem ai4(t:List Rt)(c:Ch):eG t (gQ c)=eG t c/\jc t (gQ c)=jc t c:=by
 rw[gQ];split
 ·
  rename_i hg;have e1:eG t ⟨⟨c.r.p,0⟩,true⟩=eG t c:=by simp only[eG,hg]
  refine⟨e1,?_⟩;rw[jc,jc,e1,hg];rfl
 exact⟨rfl,rfl⟩
theorem NM: ∀(l:List Ch) (t:List Rt),hO t (l.map gQ)=hO t l
 |[],_=>rfl
 |c::r,t=>by
  obtain⟨e1,e2⟩:=ai4 t c;rw[atI,hO,hO,e1,e2,NM r]
theorem Xh(t:List Rt)(l:List Ch):dh t (l.map gQ)=dh t l/\bH t (l.map gQ)=bH t l:=by
 have e:dh t (l.map gQ)=dh t l:=by rw[dh,dh,NM]
 exact⟨e,by rw[bH,bH,e,NM]⟩
theorem Xi(p:bj)(l m:List aS):ir p (l++m)=ir (ir p l) m:=avf
theorem ai5(p:bj)(c:Ch):dC p (jv c)={p with batch:=p.batch++[gQ c]}:=by
 rw[jv,gQ]
 cases hg:c.gone with
 |true=>rfl
 |false=>
  obtain⟨r,g⟩:=c;simp only at hg;subst hg;rfl
theorem NN: ∀(l:List Ch) (p:bj),ir p (l.map jv)={p with batch:=p.batch++l.map gQ}
 |[],p=>by simp[ir]
 |c::r,p=>by
  have:ir p ((c::r).map jv)=ir (dC p (jv c)) (r.map jv):=rfl;rw[this,ai5,NN r];simp
def sq:aS:=⟨3,bO,0#128,0,0⟩
def wF(n:Nat):aS:=⟨5,bO,0#128,0,Int64.ofInt (n:Int)⟩
def BN:aS:=⟨7,bO,0#128,0,0⟩
def BO:aS:=⟨8,bO,0#128,0,0⟩
def j7(a b:List Ch)(n:Nat):List aS:=a.map jv++(sq::wF n::(b.map jv++[sq,BN,BO]))
theorem ai6{n:Nat}(h:n<20):fR (wF n)=true:=by
 refine oy.2 ⟨?_,rfl⟩;show decide (0<=(Int64.ofInt (n:Int)).toInt/\(Int64.ofInt (n:Int)).toInt<=999)=true;rw[Ax (by omega)];exact decide_eq_true (by omega)
theorem ai7{a b:List Ch}{n:Nat}(ha: ∀c∈a,bm c.r.p=true)(hb: ∀c∈b,bm c.r.p=true)(hn:n<20): ∀x∈j7 a b n,fR x=true:=by
 intro x hx;rw[j7]at hx;rcases atu.1 hx with hx|hx
 ·
  obtain⟨c,hc,rfl⟩:=auq.1 hx;exact NL (ha c hc)
 rcases atv.1 hx with rfl|hx
 ·
  decide
 rcases atv.1 hx with rfl|hx
 ·
  exact ai6 hn
 rcases atu.1 hx with hx|hx
 ·
  obtain⟨c,hc,rfl⟩:=auq.1 hx;exact NL (hb c hc)
 simp only[atv,auX,or_false]at hx;rcases hx with rfl|rfl|rfl<;>decide
theorem ai8(a b:List Ch)(n:Nat):(j7 a b n).length=a.length+b.length+5:=by
 simp[j7];omega
def oZ(l:List Ch):aH:=(l.map fun c=>qY (jv c)++[10]).flatten
theorem ai9(l:List Ch)(c:Ch):oZ (l++[c])=oZ l++(qY (jv c)++[10]):=by simp[oZ]
theorem Xj{l:List Ch}(h: ∀c∈l,bm c.r.p=true):oZ l=lV (l.map jv):=by
 rw[oZ,lV,avV];exact congrArg List.flatten (auw fun c hc=>by rw[(Aw (NL (h c hc))).1];rfl)
theorem Xk(l m:List aS):lV (l++m)=lV l++lV m:=by simp[lV]
theorem Ix: ∀l:List Ch,(oZ l).length<=48*l.length
 |[]=>att _
 |c::r=>by
  have:=Ix r;have h:=Kc (jv c);have:oZ (c::r)=(qY (jv c)++[10])++oZ r:=by simp[oZ]
  rw[this];simp only[adr,af0,anc];omega
theorem aja{c:CV}{b:Bool}{fs:List Ft}(hk:aW c=true)(hl:fs.length<=64):aW {c with off:=b,aD:=fs}=true:=by
 obtain⟨h1,h2,h3,_,h5⟩:=eM.1 hk;exact eM.2 ⟨h1,h2,h3,hl,h5⟩
theorem ajb{v:VV}(h:fq v){b:Bool}{fs:List Ft}(hl:fs.length<=64):fq {v with ae:={v.ae with off:=b,aD:=fs}}:=by
 obtain⟨h1,h2,h3,h4,h5,h6,h7⟩:=h;obtain⟨k1,k2⟩:=fF.1 h1;exact⟨fF.2 ⟨aja k1 hl,k2⟩,h2,h3,h4,h5,h6,h7⟩
theorem Xl{f:FV}(h:jK f){b:Bool}{fs:List Ft}(hl:fs.length<=64):jK ⟨{f.ak with ae:={f.ak.ae with off:=b,aD:=fs}},f.table⟩:=
 ⟨ajb h.rt hl,h.jq,h.ids,h.oX,h.eq⟩
theorem ajc{g:FV}(h:jK g): ∃o:FV,cJ (lp g.ak.ae [])=(o,0)/\o.table=g.table/\ll g.ak.ae []=0:=by
 have hk:=(fF.1 h.rt.bears).1;obtain⟨o1,o2⟩:=U6 hk;have h2:=(Xl h (b:=false) (fs:=[]) (atL _)).load.1;rw[o2];exact⟨_,h2,rfl,o1⟩
def T7:aH:=[101,114,114,111,114,32,55,10]
theorem NO:kA 0=[111,107,10]:=rfl
theorem Xm:kA 7=T7:=by
 have:dec 7=[55]:=pq (by decide);rw[kA,kv,if_pos (by decide),show(7:Int).toNat=7 from rfl,this];rfl
theorem whole{n p N:Nat}{a b:List Ch}(hn:n<7)(hp:p<7)(hN:N<20)(ha:dh [] a=0)(hb:dh (bH [] a) b=0)
  (ht:((bH [] a).length:Int)<=xI ((n:Int)+5) ((p:Int)+2) 64) (hu:((bH (bH [] a) b).length:Int)<=xI ((n:Int)+5) ((p:Int)+2) 64):
  (ir (jd (qK n p).1) (j7 a b N)).told=kA 0++kA 0++kA 0++wB (bH (bH [] a) b)\/(ir (jd (qK n p).1) (j7 a b N)).told=kA 0++kA 7++kA 0++wB (bH [] a)\/(ir (jd (qK n p).1) (j7 a b N)).told=kA 0++kA 7++kA 0++wB (bH (bH [] a) b):=by
 obtain⟨_,_,_,w1,w2,w3⟩:=ai1 (n:=n) (p:=p) (by omega) (by omega);generalize qK n p=F at*;obtain⟨f0,e0⟩:=F;simp only at w1 w2 w3⊢;generalize xI ((n:Int)+5) ((p:Int)+2) 64=M at*;obtain⟨a1,a2⟩:=Xh [] a;obtain⟨b1,b2⟩:=Xh (bH [] a) b;obtain⟨q1,q2,q3,_,q5⟩:=Rm.done (k:=100000) (f:=f0) (w1.mono (by decide)) (a.map gQ);have BG:(bK f0 (a.map gQ)).2=0:=by
  rw[q1,NK,w2,a1,if_neg]
  ·
   exact ha
  ·
   rintro⟨_,g⟩;rw[a2,w3]at g;omega
 have zv:=q3 BG;rw[w2,a2]at zv;rw[w3]at q5;rw[j7,Xi,NN];have gm:ir {jd f0 with batch:=(jd f0).batch++a.map gQ} (sq::wF N::(b.map jv++[sq,BN,BO]))=ir (dC (dC ⟨f0,a.map gQ,[]⟩ sq) (wF N)) (b.map jv++[sq,BN,BO]):=by
  simp only[jd,aug];rfl
 rw[gm];have hs2:dC ⟨f0,a.map gQ,[]⟩ sq=⟨(bK f0 (a.map gQ)).1,[],kA 0⟩:=by
  show lI _ qy (bK f0 (a.map gQ)).2=_;rw[BG];rfl
 rw[hs2];generalize(bK f0 (a.map gQ)).1=f1 at*;obtain⟨N0,hN0⟩: ∃N0,N0=(Int64.ofInt (N:Int)).toInt:=⟨_,rfl⟩;have Ig:dC ⟨f1,[],kA 0⟩ (wF N)=⟨⟨{f1.ak with ae:={f1.ak.ae with off:=false,aD:=[⟨f1.ak.ae.ops+N0,false,true,0⟩]}},f1.table⟩,[],kA 0⟩:=by
  show qA _ _=_;rw[qA,if_neg (by show ¬64<=f1.ak.ae.aD.length;rw[q2.iW];decide)];simp only[Ds,q2.iW,hN0,aug];have lK:=q2.off;obtain⟨⟨⟨c1,c2,c3,c4,c5,c6⟩,v2,v3,v4⟩,tb⟩:=f1;simp only at lK;subst lK;rfl
 rw[Ig,Xi,NN];have ry:=Xl q2.fb (b:=false) (fs:=[⟨f1.ak.ae.ops+N0,false,true,0⟩]) (by simp);have bN:=q2.lv.ok;have hid:=q2.lv.idle;have zw:=q2.gen;have hmo:eX {f1.ak.ae with off:=false,aD:=[⟨f1.ak.ae.ops+N0,false,true,0⟩]}=M:=q5
 generalize hF:(⟨{f1.ak with ae:={f1.ak.ae with off:=false,aD:=[⟨f1.ak.ae.ops+N0,false,true,0⟩]}},f1.table⟩:FV)=f2 at ry⊢
 have pa:f2.ak.ae={f1.ak.ae with off:=false,aD:=[⟨f1.ak.ae.ops+N0,false,true,0⟩]}:=by rw[←hF]
 have D9:f2.table=bH [] a:=by rw[←hF];exact zv
 have ca:iG f2.ak.ae:=by
  rw[pa];intro f hf;obtain rfl:f=_:=by simpa using hf
  exact .inl rfl
 have xN:Lv (0+60000) ⟨f2.ak,false⟩:=by
  refine(Xb ry ?_ ca ?_).mono (att _)
  ·
   have k:=bN.mono (show 0+60000<=100000 by decide);rw[pa];refine⟨?_,k.nb,rfl,fun f hf Ap=>?_,k.ops,k.aU⟩
   ·
    have:=ry.rt.bears;rw[pa]at this;exact this
   ·
    obtain rfl:f=_:=by simpa using hf
    rfl
  ·
   obtain⟨j,j1,j2⟩:=hid;refine⟨j,?_,?_⟩
   ·
    rw[pa];exact j1
   ·
    rw[←hF];exact j2
 have M5:f2.ak.gen+600<281474976710656:=by
  have:f2.ak.gen=f1.ak.gen:=by rw[←hF]
  rw[this];have h9:f1.ak.gen+100000<281474976710656:=zw;omega
 have nX:dh f2.table (b.map gQ)=0:=by rw[D9,b1];exact hb
 have dM:bH f2.table (b.map gQ)=bH (bH [] a) b:=by rw[D9,b2]
 have rK: ¬eX f2.ak.ae<(bH f2.table (b.map gQ)).length:=by rw[dM,pa,hmo];omega
 have dE:=Xc (n:=0) ry xN M5 nX rK;have BM:=Nr ry ca nX rK;rw[dM]at BM;have hs4:ir {(⟨f2,[],kA 0⟩:bj)with batch:=(⟨f2,[],kA 0⟩:bj).batch++b.map gQ} [sq,BN,BO]=oR (jX (lI ⟨(bK f2 (b.map gQ)).1,[],kA 0⟩ qy (bK f2 (b.map gQ)).2)):=rfl;rw[hs4];have hg: ∃g:FV,jK g/\g.ak.ae=(bK f2 (b.map gQ)).1.ak.ae/\((bK f2 (b.map gQ)).2=0/\g.table=bH (bH [] a) b\/(bK f2 (b.map gQ)).2=7/\(g.table=bH [] a\/g.table=bH (bH [] a) b)):=by
  rcases dE with⟨h0,_⟩|h7
  ·
   obtain⟨r1,r2⟩:=BM.cK h0;exact⟨_,r1,rfl, .inl ⟨h0,r2⟩⟩
  ·
   obtain⟨g,g1,g2,g3⟩:=BM.any;rw[D9]at g3;exact⟨g,g1,g2, .inr ⟨h7,g3⟩⟩
 obtain⟨g,g1,g2,g3⟩:=hg;obtain⟨o,o1,o2,o3⟩:=ajc g1;rw[g2]at o1 o3;have No:jX (lI ⟨(bK f2 (b.map gQ)).1,[],kA 0⟩ qy (bK f2 (b.map gQ)).2)=⟨o,[],kA 0++kA (bK f2 (b.map gQ)).2++kA 0⟩:=by
  rw[jX,if_neg (fun k=>k (show ll (bK f2 (b.map gQ)).1.ak.ae []=0 from o3)),if_neg (fun k=>k (by show(cJ (lp (bK f2 (b.map gQ)).1.ak.ae [])).2=0;rw[o1]))];simp only[lI,mg,o1,kA,atw]
 rw[No,ahw (by show cL o.table=true;rw[o2];exact g1.right),o2];rcases g3 with⟨h0,h1⟩|⟨h7,h1|h1⟩
 ·
  left;simp only[h0,h1]
 ·
  right;left;simp only[h7,h1]
 ·
  right;right;simp only[h7,h1]
end Go.Kb
namespace Go.Proofs.YtkggjjnhnjjokaaGreatDoor
open Go.ax Go.Kb Go.RowKit
variable {w0:World}{L:List ai}
instance atc{l:Sv}{ls:List Ch}[tb:iC w0][hl:dy w0 L dB 20 l ls]:bU Tryz.prog 45 w0 L [l.val] (.string ⟨(oZ ls).toArray⟩) (ls.length<=1000000):=⟨fun aA w hw=>by
 have tb:=tb.at hw;have hl:=hl.h w hw;have qx:Gv w l dB 20 ls:=⟨hl⟩;refine ct Tryz.func45 rfl Tryz.ntmps45 rfl ?_;refine di ?_;refine ck (X:=Nat) (fun U=>[(4, .int .i64 (U:Nat)),(3, .string ⟨(oZ (ls.take U)).toArray⟩),(0,l.val)]) (fun U=>[]) (fun U=>U<=ls.length) (fun U=>ls.length -U) 0 (atL _) (Sub.cons rfl (Sub.cons (look_eq rfl (by rw[atW];rfl)) sb)) (fun w hw=>ah.mem hw) ?_;rintro i bl;have sE:=Ix (ls.take i);rw[atq]at sE;refine aZ ?_;refine Gb ?_ ?_<;>intro h0
 ·
  refine al ?_;obtain⟨c,hc⟩:=get_some (xs:=ls) (i:=i) oM;refine ag (bh rfl rfl i rfl oM) (ag (aN rfl rfl) (ag (E8 (j:=0) rfl i hc rfl (by decide)) (ag (cV (v:= .agg (bG (⟨1,c.r,0#128,0,0⟩:aS))) rfl (fun w=>by kernel_rfl)) (bt fun b5=>Gs ?_))));refine gu ?_;refine sB (X:=Unit) (fun U=>[(5, .pointer (some ⟨b5,0,none⟩)),(0,l.val),(3, .string ⟨(oZ (ls.take i)).toArray⟩),(4, .int .i64 (i:Nat))]) (fun U=>[aq b5 (bG (jv c)) 73]) (fun U=>True) ?_ ?_
  ·
   refine al ?_;refine ag (bh rfl rfl i rfl oM) (ag (aN rfl rfl) (ag (bT (j:=19) rfl i hc rfl (by decide)) (Gc ?_)));refine Gb ?_ ?_<;>intro h1
   ·
    refine Gi ?_;refine av ?_;refine ag (bh rfl rfl i rfl oM) (ag (aN rfl rfl) (ag (aN rfl rfl) (ag (E8 (j:=0) rfl i hc rfl (by decide)) (ag (cV (v:= .agg (ay (⟨c.r.p,0⟩:Rt))) rfl (fun w=>by kernel_rfl)) (ag (cV (v:= .agg (bG (⟨2,⟨c.r.p,0⟩,0#128,0,0⟩:aS))) rfl (fun w=>by kernel_rfl)) (Gs ?_))))));refine Gi ?_;exact hY () trivial sb (fun w hw=>(by rw[jv,if_pos h1];exact ah.mem hw))
   refine Gi ?_;exact hY () trivial sb (fun w hw=>(by rw[jv,if_neg (by simp[h1])];exact ah.mem hw))
  rintro⟨⟩ hJ;refine ar ?_;refine ag (aE (v:= .string ⟨(qY (jv c)).toArray⟩) rfl rfl) (ag (aE (v:= .int .i64 (sU (jv c))) rfl rfl) (aQ ?_));refine ag (jO rfl rfl (by have:=Kc (jv c);simp only[af0,anc];omega)) (ag (jO rfl rfl (by have:=Kc (jv c);simp only[adr,af0,anc];omega)) (aQ ?_));refine Gi ?_;exact bw (x:=(i)) (i+1) oF oF (Sub.cons rfl (Sub.cons (look_eq rfl (by rw[atr,hc,show(Option.some c).toList=[c]from rfl,ai9])) sb)) (fun w hw=>ah.mem hw)
 obtain rfl:i=ls.length:=by omega
 refine ar ?_;refine Gr fun w1 hw=>?_;exact⟨(by rw[atP]),ah.mem hw⟩⟩
instance atd{t:Sv}{ts:List Rt}[tb:iC w0][ht:dy w0 L ay 19 t ts]:bU Tryz.prog 46 w0 L [t.val] (.string ⟨(wB ts).toArray⟩) (cL ts=true):=⟨fun aA w hw=>by
 have tb:=tb.at hw;have ht:=ht.h w hw;have Dn:Gv w t ay 19 ts:=⟨ht⟩;have je:=xd aA;have zk:=jB 7 ts.length oM (by decide);have sE: ∀l:List Rt,(nZ l).length<=43*l.length:=fun l=>by
  induction l with
  |nil=>exact att _
  |cons r l ih=>
   have h1:=uo r;have h2:nZ (r::l)=(iB r++[10])++nZ l:=by simp[nZ]
   rw[h2];simp only[adr,af0,anc];omega
 refine ct Tryz.func46 rfl Tryz.ntmps46 rfl ?_;refine aQ ?_;refine cO (bM rfl (by first|omega|exact au2 (avQ _) (by decide)|exact au2 (avE _) (by decide))) (ag (jO rfl rfl (by simp only[af0,anc];omega)) (ag (jO rfl rfl (by simp only[adr,af0,anc];omega)) (ar ?_)));refine ck (X:=Nat) (fun U=>[(4, .int .i64 (U:Nat)),(3, .string ⟨([114,111,117,116,101,115,32]++dec ts.length++[10]++nZ (ts.take U)).toArray⟩),(0,t.val)]) (fun U=>[]) (fun U=>U<=ts.length) (fun U=>ts.length -U) 0 (atL _) (Sub.cons rfl (Sub.cons (look_eq rfl (by rw[atW];simp[nZ])) sb)) (fun w hw=>ah.mem hw) ?_;rintro i bl;have hci:=sE (ts.take i);rw[atq]at hci;refine aZ ?_;refine Gb ?_ ?_<;>intro h0
 ·
  refine al ?_;obtain⟨r,hr⟩:=get_some (xs:=ts) (i:=i) oM;refine ag (bh rfl rfl i rfl oM) (ag (iJ rfl i hr rfl) (av ?_));refine ag (aE (v:= .string ⟨(iB r).toArray⟩) rfl rfl) (ag (aE (v:= .int .i64 (gW (bm r.p))) rfl rfl) (aQ ?_));refine ag (jO rfl rfl (by have:=uo r;simp only[adr,af0,anc];omega)) (ag (jO rfl rfl (by have:=uo r;simp only[adr,af0,anc];omega)) (aQ ?_));refine Gi ?_;exact bw (x:=(i)) (i+1) oF oF (Sub.cons rfl (Sub.cons (look_eq rfl (by rw[atr,hr,show(Option.some r).toList=[r]from rfl,ahv];simp only[atw])) sb)) (fun w hw=>ah.mem hw)
 obtain rfl:i=ts.length:=by omega
 refine ar ?_;refine Gr fun w1 hw=>?_;exact⟨(by rw[atP,wB];rfl),ah.mem hw⟩⟩
end Go.Proofs.YtkggjjnhnjjokaaGreatDoor
namespace Go.Kb
open Go.ax
theorem ajd:dec 64=[54,52]:=by rw[sH (n:=64) (by decide),pq (n:=64/10) (by decide)];rfl
theorem aje{n:Nat}(hn:n<20):fh (wF n)=[99,117,116,32]++dec n:=by
 have h:mE (wF n)=dec n:=by
  show dec (Int64.ofInt (n:Int)).toInt.toNat=dec n;rw[Ax (by omega)];rfl
 rw[fh,h];rfl
theorem ajf{x y n:Nat}{l m:List Ch}(hl: ∀c∈l,bm c.r.p=true)(hm: ∀c∈m,bm c.r.p=true)(hn:n<20):
  (((((((((([99,104,105,112,32]++(dec x))++[32])++(dec y))++[32,54,52,10])++(oZ l))++[100,111,110,101,10,99,117,116,32])++(dec n))++[10])++(oZ m))++[100,111,110,101,10,111,110,10,100,117,109,112,10])=lf x y 64 (j7 l m n):=by
 have h1:lV (j7 l m n)=oZ l++([100,111,110,101,10]++(([99,117,116,32]++dec n++[10])++(oZ m++[100,111,110,101,10,111,110,10,100,117,109,112,10]))):=by
  rw[j7,Xk,←Xj hl];have e1:lV (sq::wF n::(m.map jv++[sq,BN,BO]))=(fh sq++[10])++((fh (wF n)++[10])++lV (m.map jv++[sq,BN,BO])):=by simp[lV]
  rw[e1,Xk,←Xj hm,aje hn];rfl
 rw[lf,h1,ajd];simp[sW]
theorem ajg{n p N:Nat}{a b:List Ch}(hn:n<7)(hp:p<7)(hN:N<20)(FZ:a.length<=12)(uL:b.length<=12)(ha: ∀c∈a,bm c.r.p=true)(hb: ∀c∈b,bm c.r.p=true):
  ∃S:sV,fZ (lf (n+5) (p+2) 64 (j7 a b N))=(S,0,0)/\zj S=true/\aW (fS S.b S.p S.s).1=true/\uQ (lf (n+5) (p+2) 64 (j7 a b N))=0/\uR (lf (n+5) (p+2) 64 (j7 a b N))=0/\uP (lf (n+5) (p+2) 64 (j7 a b N))=(ir (jd (qK n p).1) (j7 a b N)).told/\(lf (n+5) (p+2) 64 (j7 a b N)).length<=2000:=by
 have Ep:=ai7 ha hb hN;have hwl:=ai8 a b N;have qj:=abA (b:=n+5) (p:=p+2) (s:=64) (by omega) (by omega) (by omega) Ep;have Iy:=abx (b:=n+5) (p:=p+2) (s:=64) (by omega) (by omega) (by omega) Ep (by omega) (by omega);obtain⟨f1,f2,f3,f4⟩:=aht hn hp;have hG:rX ⟨((n+5:Nat):Int),((p+2:Nat):Int),((64:Nat):Int),j7 a b N⟩=true:=by
  rw[rX];have g1:decide ((j7 a b N).length<=300)=true:=decide_eq_true (by omega);have g2:A9 (j7 a b N)=true:=aty.2 Ep;have g3:decide ((fS ((n+5:Nat):Int) ((p+2:Nat):Int) ((64:Nat):Int)).2=0)=true:=decide_eq_true f1;have g4:decide ((kx ⟨((n+5:Nat):Int),((p+2:Nat):Int),((64:Nat):Int),j7 a b N⟩).2=0)=true:=decide_eq_true f3;rw[g4];simp only at g1 g2 g3⊢;rw[g1,g2,g3];rfl
 refine⟨_,Iy,?_,f2,?_,?_,?_,by omega⟩
 ·
  rw[zj,hG];exact U7 f4 (by simp only;omega) (att _) (att _)
 ·
  rw[uQ,Iy,if_neg (fun g=>g rfl)];rw[uO,hG];rfl
 ·
  rw[uR,Iy,if_neg (fun g=>g rfl)]
 ·
  rw[uP,Iy,if_neg (fun g=>g rfl),uN,if_pos hG];rfl
theorem Xn: ∀l:List Rt,(nZ l).length<=43*l.length
 |[]=>att _
 |r::l=>by
  have ih:=Xn l;have h1:=uo r;have h2:nZ (r::l)=(iB r++[10])++nZ l:=by simp[nZ]
  rw[h2];simp only[adr,af0,anc];omega
theorem Xo{t:List Rt}(h:t.length<=1000000):(wB t).length<=43*t.length+20:=by
 have h1:=Xn t;have h2:=jB 7 t.length (by omega) (by decide);have h3:qz.length=7:=rfl;rw[wB];simp only[adr,af0,anc];omega
end Go.Kb
namespace Go.ax
open Go.Kb Go.RowKit
def lS(k:Key):List UInt8:=(List.range 16).map fun i=>b8 (bf k i)
def ajh(g:Ch):List UInt8:=(if g.gone=true then 1 else 0)::fj g.r
def aji(l:List Ch)(i:Nat):List UInt8:=be l.length 2++((l.take i).map ajh).flatten
def ajj(l:List Ch):Int:=if 200<l.length then 1 else if(l.all fun g=>bm g.r.p)=true then 0 else 1
def Xp(l:List Ch):List UInt8:=if ajj l=0 then acb (aji l l.length)else[]
def frame(l:List Ch):List UInt8:=be (Xp l).length 2++Xp l
theorem ajk{t:List Rt}(h:cL t=true): ∀l:List Ch,cL (hO t l).1=true:=by
 intro l
 induction l generalizing t with
 |nil=>exact h
 |cons c l ih=>
  rw[hO];split
  ·
   exact ih (MO h c)
  exact h
theorem Xq{t:List Rt}(h:cL t=true)(l:List Ch):cL (bH t l)=true:=by
 unfold bH;split
 ·
  exact ajk h l
 exact h
def lc(a:Sl (Sl Ch)):List (List Ch):=a.xs.map Sl.xs
end Go.ax
namespace Go.Proofs.YtkggjjnhnjjokaaGreatDoor
open Go.ax Go.Kb Go.RowKit
theorem ajl(w:World)[tb:iC w](b:UInt8)(p:UInt8)(l:Sv)(ls:List Ch)(m:Sv)(ms:List Ch)(n:UInt16)(hl:eJ dB 20 (hp w) l ls)(hm:eJ dB 20 (hp w) m ms):Calls Tryz.prog 8 #[.int .u8 (b.toNat:Nat), .int .u8 (p.toNat:Nat),l.val,m.val, .int .u16 (n.toNat:Nat)] w fun e w'=>e= .returned (.bool true)/\Mem w [] w':=by
 have qx:Gv w l dB 20 ls:=⟨hl⟩;have ghm:Gv w m dB 20 ms:=⟨hm⟩;have oO:cL ([]:List Rt)=true:=by decide
 have gz:=Xq oO ls;have vZ:=Xq gz ms;have zv:=xd gz;have ht2:=xd vZ;have hlz:([111,107,10,101,114,114,111,114,32,55,10,111,107,10]:aH).length=14:=rfl;have hd1:=Xo (t:=bH [] ls) oM;have yC:=Xo (t:=bH (bH [] ls) ms) oM;have hdb:=jB 2 ((b.toNat%7)+5) oM (by decide);have hdp:=jB 2 ((p.toNat%7)+2) oM (by decide);have Wd:=jB 2 ((n.toNat%20)) oM (by decide);have mR:(b.toNat%7)<7:=ave _ (by decide);have Dq:(p.toNat%7)<7:=ave _ (by decide);have Hx:(n.toNat%20)<20:=ave _ (by decide);refine Gl5 Tryz.func8 rfl Tryz.ntmps8 rfl ?_;refine aZ ?_;refine lO rfl (fun h0=>?_) (fun h0=>?_)
 ·
  exfalso;simp at h0
 replace h0:=bz h0;refine qW ?_;refine Gb ?_ ?_<;>intro h1
 ·
  refine al ?_;refine Gr fun w1 hw=>?_;exact⟨rfl,ah.mem hw⟩
 have vt:ls.length<=12:=by omega
 have oT:ms.length<=12:=by omega
 refine av ?_;refine bb (vs:=[Sv.none.val,_]) rfl (by decide) fun aB wa=>Gs ?_;refine ag (aE (v:=aB.val) rfl rfl) (ag (aE (v:= .int .i64 (dh [] ls)) rfl rfl) (aQ ?_));refine bb rfl oM fun mi wm=>Gs ?_;refine ag (aE (v:=mi.val) rfl rfl) (ag (aE (v:= .int .i64 (dh (bH [] ls) ms)) rfl rfl) (qW ?_));refine Gb ?_ ?_<;>intro h2
 ·
  refine al ?_;refine Gr fun w1 hw=>?_;exact⟨rfl,ah.mem hw⟩
 have ha:dh [] ls=0:=by omega
 have hb:dh (bH [] ls) ms=0:=by omega
 have Xr:=Xg ha;have Dz:=Xg hb;have ate:=Ix ls;have atf:=Ix ms;obtain⟨S,p1,p2,p3,p4,p5,p6,p7⟩:=ajg mR Dq Hx vt oT Xr Dz;refine av ?_;refine ag (wU (p:=b.toNat) (q:=7) rfl rfl rfl rfl oM) (ag (kX rfl (by simp only[nb];omega)) (ag (Ry.to (v':= .int .i64 (((b.toNat%7)+5:Nat):Int)) (yt rfl rfl oM) rfl) (cO (bM rfl (by first|omega|exact au2 (avQ _) (by decide)|exact au2 (avE _) (by decide))) (ag (jO rfl rfl (by simp only[adr,af0,anc];omega)) (ag (jO rfl rfl (by simp only[adr,af0,anc];omega)) (Gs ?_))))));refine ag (wU (p:=p.toNat) (q:=7) rfl rfl rfl rfl oM) (ag (kX rfl (by simp only[nb];omega)) (ag (Ry.to (v':= .int .i64 (((p.toNat%7)+2:Nat):Int)) (yt rfl rfl oM) rfl) (cO (bM rfl (by first|omega|exact au2 (avQ _) (by decide)|exact au2 (avE _) (by decide))) (ag (jO rfl rfl (by simp only[adr,af0,anc];omega)) (ag (jO rfl rfl (by simp only[adr,af0,anc];omega)) (Gs ?_))))));refine cO (bM rfl oM) (ag (jO rfl rfl (by simp only[adr,af0,anc];omega)) (ag (jO rfl rfl (by simp only[adr,af0,anc];omega)) (Gs ?_)));refine ag (OM rfl) (ag (wU (p:=n.toNat) (q:=20) rfl rfl rfl rfl oM) (cO (bM rfl (by first|omega|exact au2 (avQ _) (by decide)|exact au2 (avE _) (by decide))) (ag (jO rfl rfl (by simp only[adr,af0,anc];omega)) (ag (jO rfl rfl (by simp only[adr,af0,anc];omega)) (Gs ?_)))));refine cO (bM rfl oM) (ag (jO rfl rfl (by simp only[adr,af0,anc];omega)) (ag (jO rfl rfl (by simp only[adr,af0,anc];omega)) (Gs ?_)));refine kD ?_;rw[ajf Xr Dz Hx];refine Gi ?_;refine Gs ?_;refine cO (bM rfl ⟨by omega,by rw[p1];exact p2,by rw[p1];exact fun _=>p3⟩) (Gs ?_);refine ag (aE (v:= .string ⟨(uP (lf ((b.toNat%7)+5) ((p.toNat%7)+2) 64 (j7 ls ms (n.toNat%20)))).toArray⟩) rfl rfl) (ag (aE (v:= .int .i64 (uQ (lf ((b.toNat%7)+5) ((p.toNat%7)+2) 64 (j7 ls ms (n.toNat%20))))) rfl rfl) (ag (aE (v:= .int .i64 (uR (lf ((b.toNat%7)+5) ((p.toNat%7)+2) 64 (j7 ls ms (n.toNat%20))))) rfl rfl) (qo ?_)));refine lO rfl (fun h3=>?_) (fun h3=>?_)
 ·
  exfalso;simp[p4,p5]at h3
 replace h3:=bz h3;refine av ?_;refine ag (wU (p:=b.toNat) (q:=7) rfl rfl rfl rfl oM) (ag (kX rfl (by simp only[nb];omega)) (av ?_));refine ag (wU (p:=p.toNat) (q:=7) rfl rfl rfl rfl oM) (ag (kX rfl (by simp only[nb];omega)) (JZ ?_));refine Gb ?_ ?_<;>intro h4
 ·
  refine al ?_;refine Gr fun w1 hw=>?_;exact⟨rfl,ah.mem hw⟩
 have hwh:=whole mR Dq Hx ha hb oM oM;refine al ?_;refine cO (bM rfl vZ) (ag (jO rfl rfl (by simp only[adr,af0,anc];omega)) (ag (yD rfl rfl) (al ?_)));refine bJ rfl rfl rfl (fun hg=>bM (fa (aF hg rfl) iZ) gz) (bJ rfl rfl rfl (fun hg=>(Ry.yl (jO rfl (aF hg rfl) (by simp only[Z0,Z1,Z2,Z3,Z4,Z5,Z6,Z7,Z8,Z9]at hg;omega)))) (bJ rfl rfl rfl (fun hg=>(Ry.yl (yD (aF hg rfl) (aF hg rfl)))) (ar ?_)));refine bJ rfl rfl rfl (fun hg=>bM (fa (aF hg rfl) iZ) vZ) (bJ rfl rfl rfl (fun hg=>(Ry.yl (jO rfl (aF hg rfl) (by simp only[Z0,Z1,Z2,Z3,Z4,Z5,Z6,Z7,Z8,Z9]at hg;omega)))) (bJ rfl rfl rfl (fun hg=>(Ry.yl (yD (aF hg rfl) (aF hg rfl)))) (al ?_)));refine Gr fun w1 hw=>?_;exact⟨congrArg (fun b=>Ending.returned (Value.bool b)) ((by
  rw[p6];rcases hwh with h|h|h
  ·
   rw[h,NO];simp
  ·
   rw[h,NO,Xm,T7];simp
  rw[h,NO,Xm,T7];simp)),ah.mem hw⟩
end Go.Proofs.YtkggjjnhnjjokaaGreatDoor
namespace Go.ax
open Go.ChangeShapes Go.WideShapes Go.ChangeAt Go.RowKit Go.Kb
variable {H:Type} {enc:TypeId×Value->H} {P:Program}
theorem Xs(hl:laidOutB P=true){W W':World}{sp:Nat->Bool}: ∀{ts:List TypeId} {vs:List Value} {ds:List (DataW H)} {ps:List MemPlace},
  (∀t∈ts,P.readableRec t=true/\t<P.types.size)->DataW.TrodAll enc P W 0 (fun _=>true) true ts vs ds ps->(∀p∈ps,W.sameAt W' p)->(∀p∈ps,sp p.block=true)->
  DataW.TrodAll enc P W' 0 sp true ts vs ds ps
 |[],_,_,_,_,h,_,_=>by
  obtain⟨rfl,rfl,rfl⟩:=trodAll_nil h;exact rfl
 |t::_,_,_,_,ht,h,hs,hp=>by
  obtain⟨v,Xt,d,Xu,a,b,rfl,rfl,rfl,h1,h2⟩:=trodAll_cons h;exact⟨a,b,WideElems.Trod_stays hl (ht t (by simp)).1 (ht t (by simp)).2 h1 (fun p h=>hs p (by simp[h])) (fun p h=>hp p (by simp[h])),
   Xs hl (fun t h=>ht t (by simp[h])) h2 (fun p h=>hs p (by simp[h])) (fun p h=>hp p (by simp[h])),rfl⟩
theorem NP{W:World}{b:Nat}{sp:Nat->Bool}{hd:Bool}: ∀{ts:List TypeId} {vs:List Value} {ds:List (DataW H)} {ps:List MemPlace},
  DataW.TrodAll enc P W b sp hd ts vs ds ps->vs.length=ts.length/\ds.length=ts.length
 |[],_,_,_,h=>by
  obtain⟨rfl,rfl,rfl⟩:=trodAll_nil h;exact⟨rfl,rfl⟩
 |_::_,_,_,_,h=>by
  obtain⟨v,Xt,d,Xu,a,b,rfl,rfl,rfl,h1,h2⟩:=trodAll_cons h;have:=NP h2;simp[this.1,this.2]
theorem ajm(hl:laidOutB P=true){f:Func}{s:ChangeSpec}{apart fresh handsOn:Bool}{W W':World}{args:Array Value}{ds gs:List (DataW H)}{before:List MemPlace}{tb:TypeId}
  (hp:f.params.toList.all (fun t=>P.readableRec t&&decide (t<P.types.size))=true) (hr:f.resultTypes= #[tb]) (hb:P.underlying tb=some .bool) (hv:s.vars=[])
  (Ez: ∀ds:List (DataW H),ds.length=f.params.size->s.fn H ds={results:=[.lit (.bool true)],args:=ds})
  (hW:DataW.Whole enc P f.params.toList s.vars apart W args.toList ds gs before) (Xv:Below W.heap.size W W'):
  s.post enc P f apart fresh handsOn false W args (.bool true) W':=by
 have bn:=hW.lt;have hW0:=hW;obtain⟨p,q,hA,hV,rfl,nH,cI⟩:=hW;rw[hv]at hV;obtain⟨rfl,rfl⟩:=trodVars_none hV;have hlen:=NP hA;have e1:s.fn H (ds++[])={results:=[.lit (.bool true)],args:=ds}:=by rw[auh];exact Ez ds (by rw[hlen.2];simp)
 have np: ∀t∈f.params.toList,P.readableRec t=true/\t<P.types.size:=fun t ht=>by
  simpa using aty.1 hp t ht
 refine⟨ds,[],p++[],[],p,[],hW0,?_,?_,?_,Xv.frame _,fun h=>by cases h⟩
 ·
  rw[e1,hr];exact trodAll_mk1 (shut_bool hb true)
 ·
  rw[e1];exact Xs hl np hA (fun x hx=>Xv.same (bn x (by simp[hx]))) (fun x hx=>by simpa using bn x (by simp[hx]))
 ·
  rw[e1,hv];exact rfl
theorem ajn{w:World}{b:Nat}{e:TypeId}{v:Value}(he:P.underlying e=some (.int .u8))(h:Cell.okWide P w .any b e v): ∃n:Nat,n<256/\v= .int .u8 n:=by
 cases v with
 |int k n=>
  simp only[Cell.okWide,he,Cell.ok,IntKind.has]at h;obtain⟨rfl,h1,h2⟩:=h;have a1:(0:Int)<=n:=h1;have a2:n<=(255:Int):=h2;exact⟨n.toNat,by omega,by rw[aun a1]⟩
 |_=>simp[Cell.okWide,he,Cell.ok]at h
theorem ajo{w:World}{b:Nat}{t:TypeId}{v:Value}(he:P.underlying t=some (.int .u8))(h:Value.okWide P w .any b t v): ∃n:Nat,n<256/\v= .int .u8 n:=by
 unfold Value.okWide at h;rw[he]at h;exact ajn he h
theorem F0{α:Type}{l:List α}(h:l.length=4): ∃a b c d,l=[a,b,c,d]:=match l,h with|[a,b,c,d],_=>⟨a,b,c,d,rfl⟩
theorem Xw{α:Type}{l:List α}(h:l.length=5): ∃a b c d e,l=[a,b,c,d,e]:=match l,h with|[a,b,c,d,e],_=>⟨a,b,c,d,e,rfl⟩
theorem Xx{w:World}{b:Nat}{t:TypeId}{v:Value}(he:P.underlying t=some (.int .u8))(h:Value.okWide P w .any b t v): ∃n:UInt8,v= .int .u8 n.toNat:=by
 obtain⟨n,hn,rfl⟩:=ajo he h;exact⟨UInt8.ofNat n,by simp;omega⟩
theorem ajp{w:World}{b:Nat}{t:TypeId}{v:Value}(he:P.underlying t=some (.int .u16))(h:Value.okWide P w .any b t v): ∃n:UInt16,v= .int .u16 n.toNat:=by
 unfold Value.okWide at h;rw[he]at h
 cases v with
 |int k n=>
  simp only[Cell.okWide,he,Cell.ok,IntKind.has]at h;obtain⟨rfl,h1,h2⟩:=h;have a1:(0:Int)<=n:=h1;have a2:n<=(65535:Int):=h2;exact⟨UInt16.ofNat n.toNat,by simp;omega⟩
 |_=>simp[Cell.okWide,he,Cell.ok]at h
variable {P:Program}
theorem NQ{α:Type}{p:Nat->α->Prop}: ∀{n:Nat},(∀i,i<n-> ∃x,p i x)-> ∃l:List α,l.length=n/\ ∀i x,l[i]? =some x->p i x
 |0,_=>⟨[],rfl,fun i x h=>by simp at h⟩
 |n+1,h=>by
  obtain⟨l,hl,hp⟩:=NQ (n:=n) fun i hi=>h i (by omega);obtain⟨x,hx⟩:=h n (by omega);refine⟨l++[x],by simp[hl],fun i y hy=>?_⟩
  by_cases hi:i<n
  ·
   rw[atN (by omega)]at hy;exact hp i y hy
  have:i=n:=by
   have:=(zz.1 hy).1;rw[adr,hl]at this;simp at this;omega
  subst this;rw[atz (by omega),hl]at hy;have:x=y:=by simpa using hy
  exact this▸hx
class lL(P:Program)(t:TypeId)(τ:Type)[Deep τ]:Prop where
 sz:P.cellsOf t=Deep.c τ
 h: ∀{H:Type} {enc:TypeId×Value->H} {w:World} {fuel:Nat} {cs:List Value} {d:DataW H} {ps:List MemPlace},DataW.trod enc P w 0 (fun _=>true) true fuel t cs=some (d,ps)->(∀n∈d.weights P t,n<=reachBytes)->
  ∃x:τ,(Deep.cells x).toList=cs/\Deep.cK (hp w) x
theorem ajq{w:World}{b:Nat}{a:Addr}{n:Nat}{cs:List Value}(h:w.cells? b a n=some cs):cs.length=n/\ ∀j,j<n->w.cell? (a.add j)=cs[j]? :=by
 unfold World.cells? at h;split at h
 ·
  have hl:=mapM_some_length h;refine⟨by simpa using hl,fun j hj=>?_⟩;exact mapM_some_get h j j (by simp[hj])
 cases h
theorem NR{H:Type}{e:TypeId}{n:Nat}: ∀{l:List (DataW H)} {d:DataW H},d∈l->n∈d.weights P e->n∈DataW.weightsAll P e l
 |x::l,d,hd,hn=>by
  rw[DataW.weightsAll];rcases atv.1 hd with rfl|hd
  ·
   exact atT _ hn
  exact auO _ (NR hd hn)
theorem NT{H:Type}{n:Nat}: ∀{ts:List TypeId} {l:List (DataW H)} {i:Nat} {t:TypeId} {d:DataW H},ts[i]? =some t->l[i]? =some d->n∈d.weights P t->n∈DataW.weightsEach P ts l
 |[],_,i,_,_,h,_,_=>by simp at h
 |_::_,[],i,_,_,_,h,_=>by simp at h
 |t0::ts,d0::l,0,t,d,ht,hd,hn=>by
  obtain rfl:t0=t:=by simpa using ht
  obtain rfl:d0=d:=by simpa using hd
  rw[DataW.weightsEach];exact atT _ hn
 |t0::ts,d0::l,i+1,t,d,ht,hd,hn=>by
  rw[DataW.weightsEach];exact auO _ (NT (i:=i) (by simpa using ht) (by simpa using hd) hn)
theorem ajr:reachBytes<=140737488355328:=by decide
theorem Ac{t e:TypeId}{τ:Type}[Deep τ](hu:P.underlying t=some (.slice e))(mu:Nat.ble 1 (P.bytesOf e)=true)(hc:1<=Deep.c τ)(hs:P.cellsOf t=1)[o:lL P e τ]:lL P t (Sl τ):=⟨hs,fun{H enc w fuel cs d ps} h hw=>by
 have hb:1<=P.bytesOf e:=Nat.le_of_ble_eq_true mu;rcases Go.Deep.open_slice hu h with⟨rfl,_⟩|⟨a,len,cap,m,n,D,Pl,rfl,_,hl,_,hm,hx,FG⟩
 ·
  exact⟨⟨Sv.none,[]⟩,rfl,wX⟩
 simp only[if_true]at hm;subst hm;have hd:d= .slice ((List.range len).map D) ((List.range (m -len)).map fun j=>D (len+j)):=congrArg Prod.fst hx;subst hd;simp only[DataW.weights,hu,atM,awj]at hw;have vr:m<=140737488355328:=by
  have h1:=hw _ (at2 ..);have h2:(len+(m -len))*1<=(len+(m -len))*P.bytesOf e:=Nat.mul_le_mul_left _ hb;have:=ajr;omega
 have FB: ∀i,i<m-> ∃cs',(cs'.length=Deep.c τ/\ ∀j,j<Deep.c τ->w.cell? ((a.add (i*Deep.c τ)).add j)=cs'[j]?)/\DataW.trod enc P w 0 (fun _=>true) true n e cs'=some (D i,Pl i):=fun i hi=>by
  obtain⟨cs',h1,h2⟩:=FG i hi;rw[o.sz]at h1;exact⟨cs',ajq h1,h2⟩
 have Xy:0<m->a.spot=none:=fun hm=>by
  obtain⟨cs',⟨h1,h2⟩,_⟩:=FB 0 hm;have h3:=h2 0 (by omega);have e0:(a.add (0*Deep.c τ)).add 0=a:=by simp[Addr.add]
  rw[e0,atp (by omega)]at h3;unfold World.cell? at h3;split at h3
  ·
   split at h3
   ·
    cases h3
   rename_i hs;simpa using hs
  cases h3
 obtain⟨l,nh,Iz⟩:=NQ (p:=fun i (x:τ)=>(∀j,j<Deep.c τ->w.cell? ((a.add (i*Deep.c τ)).add j)=(Deep.cells x)[j]?)/\Deep.cK (hp w) x) (n:=len) fun i hi=>by
  obtain⟨cs',⟨h1,h2⟩,h3⟩:=FB i (by omega);obtain⟨x,pM,kL⟩:=o.h h3 (fun k hk=>hw k (atF _ (atT _ (NR (auq.2 ⟨i,atX.2 hi,rfl⟩) hk))));refine⟨x,fun j hj=>?_,kL⟩;rw[h2 j hj,←pM];simp
 refine⟨⟨⟨false,a.block,a.off,len,m,a.spot⟩,l⟩,rfl,⟨⟨(fun h=>by cases h),hl,by simp only;omega,Xy⟩,by simp[nh],fun i x hi j hj=>?_⟩,fun x hx=>?_⟩
 ·
  have fg:i<len:=by rw[←nh];exact(zz.1 hi).1
  have h1:=(Iz i x hi).1 j hj;have hs:=Xy (by omega);have ea:(a.add (i*Deep.c τ)).add j=⟨a.block,a.off+i*Deep.c τ+j,none⟩:=by
   obtain⟨ab,ao,asp⟩:=a;simp only at hs;subst hs;rw[Addr.gT,Addr.gT]
  rw[ea,rH]at h1;exact h1
 obtain⟨i,hi⟩:=atH hx;exact(Iz i x hi).2⟩
theorem zI{H:Type}{enc:TypeId×Value->H}{w:World}{fuel:Nat}{t:TypeId}{cs:List Value}{d:DataW H}{ps:List MemPlace}{fs:Array Field}(hu:P.underlying t=some (.struct fs))(h:DataW.trod enc P w 0 (fun _=>true) true fuel t cs=some (d,ps))(hw: ∀n∈d.weights P t,n<=reachBytes)
  {i tf off:Nat} (mZ:(fs[i]?).map (fun f=>(f.type,f.offset))=some (tf,off)) (τ:Type) [Deep τ] [o:lL P tf τ]:cs.length=P.cellsOf t/\ ∃x:τ,(Deep.cells x).toList=(cs.drop off).take (Deep.c τ)/\Deep.cK (hp w) x:=by
 obtain⟨f,hf,e⟩:=au1.1 mZ;obtain⟨rfl,rfl⟩:=Prod.mk.inj e;obtain⟨xs,n,_,hx,hl,hlen,hg⟩:=DataW.trod_struct hu h;have h1:=hg i f hf;have hi:i<xs.length:=by rw[hlen];exact(au5.1 hf).1
 rw[atp hi,o.sz]at h1;have hd:d= .agg (xs.map (·.1)):=congrArg Prod.fst hx;subst hd;obtain⟨x,pM,kL⟩:=o.h (d:=xs[i].1) (ps:=xs[i].2) h1 (fun k hk=>hw k (by
  simp only[DataW.weights,hu];exact NT (i:=i) (t:=f.type) (d:=xs[i].1) (by
   have:fs.toList[i]? =some f:=by simpa using hf
   rw[atx,this];rfl) (by simp[hi]) hk))
 exact⟨hl,x,pM,kL⟩
theorem ajs{H:Type}{enc:TypeId×Value->H}{w:World}{fuel:Nat}{t e:TypeId}{m:Nat}{cs:List Value}{d:DataW H}{ps:List MemPlace}(hu:P.underlying t=some (.array m e))(h:DataW.trod enc P w 0 (fun _=>true) true fuel t cs=some (d,ps))(hw: ∀n∈d.weights P t,n<=reachBytes)
  (τ:Type) [Deep τ] [o:lL P e τ]:cs.length=P.cellsOf t/\ ∀i,i<m-> ∃x:τ,(Deep.cells x).toList=(cs.drop (i*Deep.c τ)).take (Deep.c τ)/\Deep.cK (hp w) x:=by
 cases fuel with
 |zero=>simp[DataW.trod]at h
 |succ n=>
  unfold DataW.trod at h;rw[hu]at h;split at h<;>simp_all
  rename_i m' e' heq;obtain⟨hl,xs,iI,hd⟩:=h;obtain⟨rfl,rfl⟩:=heq;intro i hi;have hlen:=mapM_some_length iI;have qb:i<xs.length:=by simpa[hlen]using hi
  have h1:=mapM_some_get iI i i (by simp[hi]);rw[atp qb,o.sz]at h1;obtain⟨rfl,-⟩:=hd;exact o.h (d:=xs[i].1) (ps:=xs[i].2) h1 (fun k hk=>hw k (by
   simp only[DataW.weights,hu];exact NR (atK (ava qb)) hk))
theorem NU{α:Type}{cs:List α}{a b:Nat}(h:cs.length=a+b):(cs.drop 0).take a++(cs.drop a).take b=cs:=by
 rw[auI,atC (l:=cs.drop a) (by rw[atD];omega),auc]
theorem ajt{α:Type}{cs:List α}{a b c:Nat}(h:cs.length=a+b+c):(cs.drop 0).take a++(cs.drop a).take b++(cs.drop (a+b)).take c=cs:=by
 have h1:=NU (cs:=cs) (a:=a+b) (b:=c) (by omega)
 conv=>rhs;rw[←h1]
 congr 1;rw[auI,List.take_add]
def NV(n:Int):Array Value:= #[.int .i64 n]
instance:bp NV 1:=⟨fun _=>rfl,fun _=>by simp[NV,Value.oneCell']⟩
instance:Deep Int:=Deep.flat NV 1
def EA(n:UInt16):Array Value:= #[.int .u16 n.toNat]
instance:bp EA 1:=⟨fun _=>rfl,fun _=>by simp[EA,Value.oneCell']⟩
instance:Deep UInt16:=Deep.flat EA 1
def IA(b:Bool):Array Value:= #[.bool b]
instance:bp IA 1:=⟨fun _=>rfl,fun _=>by simp[IA,Value.oneCell']⟩
instance:Deep Bool:=Deep.flat IA 1
theorem aju{t:TypeId}(hu:P.underlying t=some (.int .i64))(hs:P.cellsOf t=1):lL P t Int:=⟨hs,fun h _=>by
 obtain⟨n,rfl,_,_⟩:=DataW.trod_int hu h;exact⟨n,rfl,trivial⟩⟩
theorem ajv{t:TypeId}(hu:P.underlying t=some (.int .u8))(hs:P.cellsOf t=1):lL P t UInt8:=⟨hs,fun h _=>by
 obtain⟨n,rfl,_,hw⟩:=DataW.trod_int hu h;simp only[Lit.wf,ad2,decide_eq_true_eq]at hw;have h1:(0:Int)<=n:=hw.1;have h2:n<=(255:Int):=hw.2;refine⟨UInt8.ofNat n.toNat,?_,trivial⟩;have:((UInt8.ofNat n.toNat).toNat:Int)=n:=by simp;omega
 show(aO (UInt8.ofNat n.toNat)).toList=_;simp only[aO,this]⟩
theorem ajw{t:TypeId}(hu:P.underlying t=some (.int .u16))(hs:P.cellsOf t=1):lL P t UInt16:=⟨hs,fun h _=>by
 obtain⟨n,rfl,_,hw⟩:=DataW.trod_int hu h;simp only[Lit.wf,ad2,decide_eq_true_eq]at hw;have h1:(0:Int)<=n:=hw.1;have h2:n<=(65535:Int):=hw.2;refine⟨UInt16.ofNat n.toNat,?_,trivial⟩;have:((UInt16.ofNat n.toNat).toNat:Int)=n:=by simp;omega
 show(EA (UInt16.ofNat n.toNat)).toList=_;simp only[EA,this]⟩
theorem open_bool{t:TypeId}(hu:P.underlying t=some .bool)(hs:P.cellsOf t=1):lL P t Bool:=⟨hs,fun h _=>by
 obtain⟨n,rfl,_⟩:=DataW.trod_bool hu h;exact⟨n,rfl,trivial⟩⟩
theorem ajx{H:Type}{enc:TypeId×Value->H}{w:World}{b:Nat}{t e:TypeId}{τ:Type}[Deep τ][o:lL P t (Sl τ)](hu:P.underlying t=some (.slice e)){v:Value}{d:DataW H}{ps:List MemPlace}(hv:Value.okWide P w .any b t v)(h:DataW.Trod enc P w 0 (fun _=>true) true t v d ps)(hw: ∀n∈d.weights P t,n<=reachBytes):
  ∃x:Sl τ,v=x.sv.val/\Deep.cK (hp w) x:=by
 obtain⟨fuel,h⟩:=h;obtain⟨x,h1,h2⟩:=o.h h hw;refine⟨x,?_,h2⟩;have hc:v.cells= #[v]:=by
  unfold Value.okWide at hv;rw[hu]at hv;unfold Cell.okWide at hv;rw[hu]at hv
  cases v<;>simp_all[Cell.ok,Value.cells]
 rw[hc]at h1;have:[x.sv.val]=[v]:=h1;simpa using this.symm
theorem ajy{H:Type}{enc:TypeId×Value->H}{w:World}{b:Nat}{t:TypeId}{τ:Type}[Deep τ][o:lL P t τ](hu: ∃d,P.underlying t=some d/\wK d=true){v:Value}{d:DataW H}{ps:List MemPlace}(hv:Value.okWide P w .any b t v)(h:DataW.Trod enc P w 0 (fun _=>true) true t v d ps)(hw: ∀n∈d.weights P t,n<=reachBytes):
  ∃x:τ,v= .agg (Deep.cells x)/\Deep.cK (hp w) x:=by
 obtain⟨fuel,h⟩:=h;obtain⟨x,h1,h2⟩:=o.h h hw;refine⟨x,?_,h2⟩;obtain⟨dd,xY,K1⟩:=hu;have hc: ∃cs,v= .agg cs:=by
  unfold Value.okWide at hv;rw[xY]at hv
  cases dd<;>simp[wK]at K1
  ·
   obtain⟨cs,rfl,_⟩:=hv;exact⟨cs,rfl⟩
  ·
   obtain⟨cs,rfl,_⟩:=hv;exact⟨cs,rfl⟩
 obtain⟨cs,rfl⟩:=hc;have:(Deep.cells x).toList=cs.toList:=h1;rw[Array.toList_inj.1 this]
structure Arg(H:Type)(enc:TypeId×Value->H)(P:Program)(W:World)(b:Nat)(t:TypeId)(v:Value):Prop where
 ok:Value.okWide P W .any b t v
 trod: ∃d ps,DataW.Trod enc P W 0 (fun _=>true) true t v d ps/\ ∀n∈d.weights P t,n<=reachBytes
theorem Arg.sl{H:Type}{enc:TypeId×Value->H}{W:World}{b:Nat}{t e:TypeId}{v:Value}(h:Arg H enc P W b t v)(hu:P.underlying t=some (.slice e))(τ:Type)[Deep τ][o:lL P t (Sl τ)]: ∃x:Sl τ,v=x.sv.val/\Deep.cK (hp W) x:=by
 obtain⟨d,ps,h1,h2⟩:=h.trod;exact ajx hu h.ok h1 h2
theorem Arg.agg{H:Type}{enc:TypeId×Value->H}{W:World}{b:Nat}{t:TypeId}{v:Value}(h:Arg H enc P W b t v){n:Nat}(hu:gC P t n)(τ:Type)[Deep τ][o:lL P t τ]: ∃x:τ,v= .agg (Deep.cells x)/\Deep.cK (hp W) x:=by
 obtain⟨d,ps,h1,h2⟩:=h.trod;exact ajy hu.row h.ok h1 h2
theorem Xz{H:Type}{enc:TypeId×Value->H}{W:World}{sp:Nat->Bool}{hd:Bool}: ∀{ts:List TypeId} {vs:List Value} {ds:List (DataW H)} {ps:List MemPlace},DataW.TrodAll enc P W 0 sp hd ts vs ds ps-> ∀(j:Nat) (t:TypeId) (v:Value),ts[j]? =some t->vs[j]? =some v->
  ∃d p,ds[j]? =some d/\DataW.Trod enc P W 0 sp hd t v d p
 |[],_,_,_,h,j,_,_,ht,_=>by simp at ht
 |t0::ts,vs,ds,ps,h,j,t,v,ht,hv=>by
  obtain⟨v0,Xt,d0,Xu,a,b,rfl,rfl,rfl,h1,h2⟩:=trodAll_cons h
  cases j with
  |zero=>
   obtain rfl:t0=t:=by simpa using ht
   obtain rfl:v0=v:=by simpa using hv
   exact⟨d0,a,rfl,h1⟩
  |succ j=>exact Xz h2 j t v (by simpa using ht) (by simpa using hv)
variable {P:Program}
theorem ajz{H:Type}{enc:TypeId×Value->H}{C:Checked}{os:Os}{f:FuncId}{fn:Func}{s:ChangeSpec}{conds:List PathCond}{apart fresh handsOn:Bool}{tb:TypeId}{laid:List (String×DataW Unit)}
  (own:ownKnob C.prog.godebug=none) (started:os.Started) (ajA:C.prog.inits.idxOf? f=none) (ajB:C.prog.funcs[f]? =some fn)
  (wit: ∃(w:World) (tape:Tape) (i:Input),w.os=os/\(w.forCall tape i).Shaped C.prog/\i.vars=[]/\Input.okWide C.prog (w.forCall tape i) .any w.heap.size f i/\
   ((s.pre enc C.prog fn conds apart (w.forCall tape i).memory i.args/\laidMetH C.prog laid (w.forCall tape i).memory)/\sizedMet enc C.prog fn (OpenSpec.ofChange s) apart (w.forCall tape i).memory i.args)/\({}:Assume).holds C.prog (lone (Frame.enter C.prog f i.args .normal) [] (w.forCall tape i)))
  (hl:laidOutB C.prog=true) (hp:fn.params.toList.all (fun t=>C.prog.readableRec t&&decide (t<C.prog.types.size))=true) (hr:fn.resultTypes= #[tb]) (hb:C.prog.underlying tb=some .bool)
  (hv:s.vars=[]) (Ez: ∀ds:List (DataW H),ds.length=fn.params.size->s.fn H ds={results:=[.lit (.bool true)],args:=ds})
  (ajC: ∀(W:World) (base:Nat) (vs:List Value),W.ShapedOpen C.prog->laidMetH C.prog laid W->vs.length=fn.params.size->(∀(j:Nat) t v,fn.params[j]? =some t->vs[j]? =some v->Arg H enc C.prog W base t v)->
   Calls C.prog f vs.toArray W fun e W'=>e= .returned (.bool true)/\Mem W [] W'):
  ReturnsInHanded {} C os f .any (fun w args=>(s.pre enc C.prog fn conds apart w args/\laidMetH C.prog laid w)/\sizedMet enc C.prog fn (OpenSpec.ofChange s) apart w args) (s.post enc C.prog fn apart fresh handsOn false):=by
 refine returnsInHanded_of_calls own started ajA wit ?_;intro w tape i _ hsh _ bN aA atg;obtain⟨_,_,_,XA,ajD,_,_,_,_,ajE⟩:=bN;have e:XA=fn:=atl (ajD.symm.trans ajB);subst e;obtain⟨⟨⟨ds,gs,before,hw,hc⟩,hx⟩,hz⟩:=aA;have hW:=DataW.Whole.of_heap (w':=w.forCall tape i) (by rfl) hw;have rD:=hz.weights hw;have hlen:i.args.toList.length=XA.params.size:=by
  obtain⟨p,q,hA,_⟩:=hW;rw[(NP hA).1];simp
 have h:=ajC (w.forCall tape i) w.heap.size i.args.toList hsh (laidMetH.of_heap (by rfl) hx) hlen (fun j t v h1 h2=>⟨ajE j t v h1 (by simpa using h2),by
  obtain⟨p,q,hA,_⟩:=hW;obtain⟨d,pp,hd,ht⟩:=Xz hA j t v (by simpa using h1) h2;refine⟨d,pp,ht,fun n hn=>?_⟩;have hh:=aty.1 rD n (NT (i:=j) (t:=t) (d:=d) (by rw[atN (by have:=(au5.1 h1).1;simpa using this)];simpa using h1)
   (by rw[atN (zz.1 hd).1];exact hd) hn)
  simpa using hh⟩)
 rw[Array.toArray_toList]at h;refine h.mono fun e W' hh=>?_;obtain⟨he,hm⟩:=hh;subst he;exact ChangeSpec.post_blind (ajm hl hp hr hb hv Ez hW hm.below)
end Go.ax
namespace Go.Proofs.YtkggjjnhnjjokaaGreatDoor
open Go.ax Go.Kb
instance op3:lL Tryz.prog 3 Int:=aju Tryz.underlying3 (by kernel_rfl)
instance op4:lL Tryz.prog 4 Bool:=open_bool Tryz.underlying4 (by kernel_rfl)
instance op5:lL Tryz.prog 5 UInt8:=ajv Tryz.underlying5 (by kernel_rfl)
instance ath:lL Tryz.prog 27 UInt16:=ajw Tryz.underlying27 (by kernel_rfl)
instance:bp bR 16:=⟨eL,fun k=>(inferInstance:gn (bR k) 16).one⟩
instance:Deep Key:=Deep.flat bR 16
instance:bp cR 18:=⟨oq,fun k=>(inferInstance:gn (cR k) 18).one⟩
instance:Deep cH:=Deep.flat cR 18
instance ati:lL Tryz.prog 25 Key:=⟨by kernel_rfl,fun h hw=>by
 obtain⟨hl,he⟩:=ajs Tryz.underlying25 h hw UInt8;rw[show Tryz.prog.cellsOf 25=16 from by kernel_rfl]at hl;obtain⟨l,nh,Iz⟩:=NQ (p:=fun i (x:UInt8)=>_) he;refine⟨oo fun i=>(l.getD i 0).toNat,?_,trivial⟩;refine auz fun i=>?_;rw[Array.getElem?_toList];rcases atA i 16 with hi|hi
 ·
  have hx:l[i]? =some (l.getD i 0):=po (by omega);have h1:=congrArg (·[0]?) (Iz i _ hx).1;simp only[avj,auC]at h1;rw[if_pos (by decide),show i*Deep.c UInt8+0=i from avy i]at h1;have h3:some (Value.int .u8 (l.getD i 0).toNat)=_:=h1;have e8:(l.getD i 0).toNat%2^8=(l.getD i 0).toNat:=at5 (l.getD i 0).toNat_lt;show(bR _)[i]? =_;rw[jh _ _ hi,ud _ _ hi,e8,←h3]
 show(bR _)[i]? =_;rw[O5 _ _ hi,atB (by omega)]⟩
instance atj:lL Tryz.prog 32 cH:=⟨by kernel_rfl,fun h hw=>by
 obtain⟨hl,x0,h0,-⟩:=zI Tryz.underlying32 h hw (i:=0) (tf:=3) (off:=0) rfl Int;obtain⟨-,x1,h1,-⟩:=zI Tryz.underlying32 h hw (i:=1) (tf:=3) (off:=1) rfl Int;obtain⟨-,x2,h2,-⟩:=zI Tryz.underlying32 h hw (i:=2) (tf:=25) (off:=2) rfl Key;refine⟨⟨x0,x1,x2⟩,?_,trivial⟩;refine Eq.trans ?_ (ajt (a:=1) (b:=1) (c:=16) (hl.trans (by kernel_rfl)));rw[show(Deep.cells (⟨x0,x1,x2⟩:cH)).toList=(Deep.cells x0).toList++(Deep.cells x1).toList++(Deep.cells x2).toList from by show(cR _).toList=_;unfold cR;rw[Array.toList_append];rfl,h0,h1,h2];rfl⟩
instance atk:lL Tryz.prog 34 Rt:=⟨by kernel_rfl,fun h hw=>by
 obtain⟨hl,x0,h0,-⟩:=zI Tryz.underlying34 h hw (i:=0) (tf:=32) (off:=0) rfl cH;obtain⟨-,x1,h1,-⟩:=zI Tryz.underlying34 h hw (i:=1) (tf:=27) (off:=18) rfl UInt16;refine⟨⟨x0,x1⟩,?_,trivial⟩;refine Eq.trans ?_ (NU (a:=18) (b:=1) (hl.trans (by kernel_rfl)));rw[show(Deep.cells (⟨x0,x1⟩:Rt)).toList=(Deep.cells x0).toList++(Deep.cells x1).toList from by show(ay _).toList=_;unfold ay;rw[Array.toList_append];rfl,h0,h1];rfl⟩
end Go.Proofs.YtkggjjnhnjjokaaGreatDoor
namespace Go.ax
open Go.RowKit Go.Kb
structure Arr(τ:Type)(m:Nat) where
 l:List τ
 h:l.length=m
instance Deep.arr{τ:Type}{m:Nat}[d:Deep τ]:Deep (Arr τ m) where
 c:=m*Deep.c τ
 cells a:=(aJ (Deep.cells (τ:=τ)) a.l).toArray
 size a:=by rw[auj,ia (c:=Deep.c τ),a.h]
 one a:=by rw[at4];intro v hv;exact vp (enc:=Deep.cells (τ:=τ)) (c:=Deep.c τ) a.l v (by simpa using hv)
 cK h a:= ∀x∈a.l,d.cK h x
 cz a:= .all (a.l.map d.cz)
 jA h _ hs:=fun x hx=>d.jA h x (ai.Ab hs _ (atK hx))
 mono w w' _ hg hb:=fun x hx=>d.mono w w' x (hg x hx) hb
end Go.ax
namespace Go.Proofs.YtkggjjnhnjjokaaGreatDoor
open Go.ax Go.Kb
instance (priority:=high) atm:Deep Bool:=Deep.flat IA 1
instance atn:lL Tryz.prog 47 Ch:=⟨by kernel_rfl,fun h hw=>by
 obtain⟨hl,x0,h0,-⟩:=zI Tryz.underlying47 h hw (i:=0) (tf:=34) (off:=0) rfl Rt;obtain⟨-,x1,h1,-⟩:=zI Tryz.underlying47 h hw (i:=1) (tf:=4) (off:=19) rfl Bool;refine⟨⟨x0,x1⟩,?_,trivial⟩;refine Eq.trans ?_ (NU (a:=19) (b:=1) (hl.trans (by kernel_rfl)));rw[show(Deep.cells (⟨x0,x1⟩:Ch)).toList=(Deep.cells x0).toList++(Deep.cells x1).toList from by show(dB _).toList=_;unfold dB;rw[Array.toList_append];rfl,h0,h1];rfl⟩
instance ato:lL Tryz.prog 45 (Sl Ch):=Ac Tryz.underlying45 (by kernel_rfl) (by decide) (by kernel_rfl)
end Go.Proofs.YtkggjjnhnjjokaaGreatDoor

/- Part of a proof. -/
import Derived.Test.YtkggjjnhnjjokaaGreatDoorA7
import Derived.Test.YtkggjjnhnjjokaaGreatDoorA6
import Derived.Test.YtkggjjnhnjjokaaGreatDoorA3
import Derived.Test.YtkggjjnhnjjokaaGreatDoorA2
import Derived.Test.YtkggjjnhnjjokaaGreatDoorA4
import Derived.DeepKeys4
import Derived.Test.YtkggjjnhnjjokaaGreatDoorA5
import Derived.Test.YtkggjjnhnjjokaaGreatDoorA1
import Derived.ProofKit
import Derived.Deep.Slices
import Derived.HandedShaped
import Derived.Handed
import Derived.Lay
import Derived.MakeChecks
import Derived.Stop.Joined
import Derived.LaidLaws
set_option maxRecDepth 20000
set_option linter.unusedSimpArgs false
set_option linter.unusedVariables false
namespace Go.Kb
open Go.ax
theorem Xq: ∀(k:Nat) {n:Nat} {x:WV} {need:Int},nu x<k->Lv (n+100*(nu x+1)) x->x.v.gen+nu x+2<281474976710656->need<=x.v.at_.length->
  ((nM k x need).2=0/\Lv n (nM k x need).1/\need<=(lj (nM k x need).1.v.ae (nM k x need).1.v.at_).1/\(nM k x need).1.v.gen<=x.v.gen+nu x)\/(nM k x need).2=7
 |0,n,x,need,hk,h,hg,hn=>by omega
 |k+1,n,x,need,hk,h,hg,hn=>by
  rw[nM]
  by_cases h1:need<=(lj x.v.ae x.v.at_).1
  ·
   rw[if_pos h1];exact .inl ⟨rfl,h.mono (by omega),h1,by simp only;omega⟩
  ·
   rw[if_neg h1];have bX:v7 x.v.ae x.v.last=x.v.ae.pages:=by
    rw[v7,if_neg (by rw[h.ok.nb];simp),if_neg (by rw[h.ok.nb];simp)]
   rw[if_neg (fun g=>by have:=h.wr.pages;omega)];have hP:0<nu x:=by
    apply atc;intro h0;exact h1 (aiU h (by omega) hn)
   rcases aiQ (n:=n+100*nu x) (h.mono (by omega)) (by omega) hP with⟨c1,c2,c3,c4⟩|c1
   ·
    rw[if_pos c1];have lS:=(Hm h.wr).1.zE;rcases Xq k (n:=n) (need:=need) (x:=(eY x).1) (by omega) (c2.mono (by omega)) (by omega) (by rw[lS];exact hn)with⟨s1,s2,s3,s4⟩|s1
    ·
     exact .inl ⟨s1,s2,s3,by omega⟩
    ·
     exact .inr s1
   ·
    rw[if_neg (by rw[c1];decide),if_pos (by rw[c1];decide)];exact .inr c1
theorem aiW{p:Int}(hp:p<=16){l:List aB}(h: ∀x∈l,x.used<=p/\0<=x.live):pU p l<=16*l.length:=by
 unfold pU
 induction l with
 |nil=>simp
 |cons z r ih=>
  have:=ih fun x hx=>h x (atd _ hx);have hz:=h z as5;rw[atq,avK,asZ];have:kT p z<=16:=by
   rw[kT];split
   ·
    omega
   split
   ·
    split<;>omega
   omega
  omega
theorem aiX{x:WV}(h:cX x):nu x<=480:=by
 have hd:=eX h.ae;have:=aiW hd.2.2.2.1 (l:=aw x.v.ae x.v.at_) fun z hz=>by
  have t:=uK h.ae hz;exact⟨t.Bv,t.SB⟩
 rw[lP]at this;unfold nu;omega
theorem aiY{n:Nat}{x:WV}{need:Int}(h:Lv (n+50000) x)(hg:x.v.gen+500<281474976710656)(hn:need<=x.v.at_.length):
  ((kM x need).2=0/\Lv n (kM x need).1/\need<=(lj (kM x need).1.v.ae (kM x need).1.v.at_).1/\(kM x need).1.v.gen<=x.v.gen+480)\/(kM x need).2=7:=by
 have hP:=aiX h.wr;have ho:=h.ok.ops;rcases Xq ((cV -x.v.ae.ops).toNat+1) (n:=n) (x:=x) (need:=need) (by omega) (h.mono (by omega)) (by omega) hn with⟨s1,s2,s3,s4⟩|s1
 ·
  exact .inl ⟨s1,s2,s3,by rw[kM];omega⟩
 ·
  exact .inr s1
def sI(c:CV)(fl:List Int):Int:=(lj c fl).1
theorem EW{c:CV}{fl:List Int}(hk:bb c=true):sI c fl=fR ((aw c fl).map (jz c.pages)) -pV ((aw c fl).map (lY c.pages)):=by
 rw[sI,Xn hk]
theorem Oz{l:List Int}{x:Int}(h:x∈l):x<=pV l:=((I7 (M:=pV l) l 0).1 (atW _)).2 x h
theorem Xr(l:List Int):0<=pV l:=((I7 (M:=pV l) l 0).1 (atW _)).1
theorem aiZ{p:Int}{l:List aB}{i:Nat}{x y:aB}(h:l[i]? =some y)(hn:jz p x=jz p y -1)(hm:lY p x<=lY p y):fR (l.map (jz p)) -pV (l.map (lY p)) -1<=fR ((l.set i x).map (jz p)) -pV ((l.set i x).map (lY p)):=by
 have hs:=Xo (f:=jz p) (x:=x) h;have:pV ((l.set i x).map (lY p))<=pV (l.map (lY p)):=by
  refine(I7 _ 0).2 ⟨Xr _,fun z hz=>?_⟩;obtain⟨w,hw,rfl⟩:=at7.1 hz;rcases atx hw with g|rfl
  ·
   exact Oz (atp g)
  exact Int.le_trans hm (Oz (atp (alM h)))
 omega
theorem ai0{l:List aB}{j:Nat}{x:aB}(h:l[j]? =some x)(hb:x.bad=false)(hl:x.live=0):1<=dP l:=by
 rw[dP];refine List.length_pos_of_mem (a:=x) (atl.2 ⟨List.mem_of_getElem? h,?_⟩);rw[hb,hl];rfl
theorem ai1{l:List aB}(h:1<=dP l): ∃(j:Nat) (x:aB),l[j]? =some x/\x.bad=false/\x.live=0:=by
 obtain⟨x,hx⟩:=List.exists_mem_of_length_pos (show 0<_ from h);obtain⟨h1,h2⟩:=atl.1 hx;simp only[anc,at0,decide_eq_true_eq]at h2;obtain⟨j,hj⟩:=ato h1;exact⟨j,x,hj,h2.1,h2.2⟩
theorem Xs{x y:aB}(hx:x.live≠0): ∀{l:List aB} {i:Nat},l[i]? =some y->dP l<=dP (l.set i x)+1
 |[],i,h=>by simp at h
 |z::r,0,h=>by
  simp only[auq,dP,atw];split<;>split<;>simp<;>omega
 |z::r,i+1,h=>by
  have:=Xs hx (l:=r) (i:=i) (by simpa using h);simp only[dP]at this;simp only[avw,dP,atw];split
  ·
   simp only[asZ];omega
  exact this
theorem Xt{x y:aB}(hx:x.live≠0)(hy:y.live≠0): ∀{l:List aB} {i:Nat},l[i]? =some y->dP (l.set i x)=dP l
 |[],i,h=>by simp at h
 |z::r,0,h=>by
  obtain rfl:z=y:=by simpa using h
  simp only[auq,dP,atw,hx,hy,decide_false,Bool.and_false];rfl
 |z::r,i+1,h=>by
  have:=Xt hx hy (l:=r) (i:=i) (by simpa using h);simp only[dP]at this;simp only[avw,dP,atw];split
  ·
   simp only[asZ];omega
  exact this
theorem Xu{p M:Int}: ∀{l:List aB},(∀x∈l,x.bad=false/\(x.live≠0->jz p x<=0)/\(x.live=0->jz p x<=M))->fR (l.map (jz p))<=(dP l:Int)*M
 |[],_=>by simp[fR,dP]
 |z::r,h=>by
  have ih:=Xu (l:=r) fun x hx=>h x (atd _ hx);obtain⟨z1,z2,z3⟩:=h z as5;simp only[dP]at ih;simp only[atq,fR,dP,atw,z1,au4,atU]
  by_cases hl:z.live=0
  ·
   rw[decide_eq_true hl,if_pos rfl,asZ,Int.natCast_add,Int.add_mul];have:=z3 hl;omega
  rw[decide_eq_false hl];have:=z2 hl;simp only[atD,if_false];omega
theorem ai2{n:Nat}{c:CV}{fl:List Int}{aG:Bool}{p:PV}(h:Ok (n+18) c)(hs:Std c fl)(h3:3<=c.blocks.length)(hc:1<=sI c fl)(hm:mu p c.size=true):
  ((da c fl aG p).2.2=0/\Ok n (da c fl aG p).1/\ ∀gl:List Int,(∀k,k∈gl↔k∈fl\/k=(da c fl aG p).2.1)->(1<=dP (aw c fl)->1<=dP (aw (da c fl aG p).1 gl))/\sI c fl -1<=sI (da c fl aG p).1 gl/\Std (da c fl aG p).1 gl)\/(da c fl aG p).2.2=7:=by
 have hd:=eX h.ae;have Ow:(dn p c.size).2=0:=by rw[dn,if_pos hm]
 have bX:((dn p c.size).1.length:Int)=c.size:=EF hm;rw[da,if_neg (by rw[Ow];simp)];generalize(dn p c.size).1=b at*;rw[EW h.ae]at hc;have key: ∀{i:Nat} {d:CV} (y:aB),Ok (n+1) d->dO c d->Std d fl->i<c.blocks.length -2->aw d fl=(aw c fl).set i y->y.bad=false->y.used<c.pages->(∀z,(aw c fl)[i]? =some z->z.bad=false/\jz c.pages y=jz c.pages z/\(y.live=0->z.live=0)/\(y.live≠0->y.live=z.live))->
   (dP (aw c fl)≥1->y.live=0->2<=dP (aw c fl))->
   ((bB d ((i:Int)+2) b=0/\Ok n (bC d ((i:Int)+2) b)/\ ∀gl:List Int,(∀k,k∈gl↔k∈fl\/k=((i:Int)+2)*c.pages+(ak d ((i:Int)+2)).used+1)->(1<=dP (aw c fl)->1<=dP (aw (bC d ((i:Int)+2) b) gl))/\sI c fl -1<=sI (bC d ((i:Int)+2) b) gl/\Std (bC d ((i:Int)+2) b) gl)\/bB d ((i:Int)+2) b=7):=by
  intro i d y bD fy Xv hi hb hyb hyu hz hid;have nt:=bD.get Xv (i:=i) (by rw[fy.len];exact hi);have dL:i<(aw c fl).length:=by rw[lP];exact hi
  rw[hb,atj dL]at nt;have ey:=asY nt;have hu:(ak d ((i:Int)+2)).used=y.used:=by rw[ey]
  have vb:(cT d.pages fl i:Int)=y.live:=by rw[ey]
  obtain⟨z,qm⟩: ∃z,(aw c fl)[i]? =some z:=⟨_,as1 dL⟩;obtain⟨z1,z2,z3,z4⟩:=hz z qm;rcases bD.prog (n:=n) (b:=(i:Int)+2) (p:=b) (by omega) (by rw[fy.len];omega) (by rw[hu,fy.pages];exact hyu) (by rw[fy.size];exact bX)with⟨e,g⟩|e
  ·
   left;refine⟨e,g,fun gl zX=>?_⟩;obtain⟨b1,b2⟩:=WS (gl:=gl) bD.ae Xv e (by rw[fy.pages];exact zX);rw[hb,avU]at b1;have pS:=fy.trans (iP d ((i:Int)+2) b);have tI:((cT d.pages fl i:Int)+1)≠0:=by omega
   refine⟨fun h1=>?_,?_,b2⟩
   ·
    rw[b1]
    by_cases mM:y.live=0
    ·
     have:=hid h1 mM;have:=Xs (x:=⟨(cT d.pages fl i:Int)+1,(ak d ((i:Int)+2)).used+1,(ak d ((i:Int)+2)).aR,false⟩) tI qm;omega
    ·
     rw[Xt (x:=⟨(cT d.pages fl i:Int)+1,(ak d ((i:Int)+2)).used+1,(ak d ((i:Int)+2)).aR,false⟩) tI (by rw[←z4 mM];exact mM) qm];exact h1
   ·
    rw[EW h.ae,EW g.ae,b1,pS.pages];refine aiZ qm ?_ ?_
    ·
     rw[←z2,jz,jz,if_neg (by simp),if_neg (by rw[hyb];simp),lh,lh];simp only;rw[if_neg (fun g=>tI g.1)]
     by_cases mM:y.live=0/\c.pages -y.used=0
     ·
      omega
     ·
      rw[if_neg mM];omega
    ·
     rw[lY,if_neg (by simp),if_neg tI,lY,if_neg (by rw[z1];simp)];split
     ·
      have:=He (uK h.ae (alM qm)) h.ae;exact this.1
     ·
      exact atW _
  ·
   exact .inr e
 obtain⟨m,GK⟩: ∃m,(cV -c.ops).toNat+1=m+1:=⟨_,rfl⟩;rw[GK,jd]
 suffices main:(∃(i:Nat) (d:CV),bk c fl aG=(d,(i:Int)+2,0)/\((bB d ((i:Int)+2) b=0/\Ok n (bC d ((i:Int)+2) b)/\ ∀gl:List Int,(∀k,k∈gl↔k∈fl\/k=((i:Int)+2)*c.pages+(ak d ((i:Int)+2)).used+1)->(1<=dP (aw c fl)->1<=dP (aw (bC d ((i:Int)+2) b) gl))/\sI c fl -1<=sI (bC d ((i:Int)+2) b) gl/\Std (bC d ((i:Int)+2) b) gl)\/bB d ((i:Int)+2) b=7))\/ ∃(d:CV) (b0:Int),bk c fl aG=(d,b0,7) by
  rcases main with⟨i,d,he,ai3⟩|⟨d,b0,he⟩
  ·
   rw[he];simp only[if_true];rcases ai3 with⟨r1,r2,r3⟩|r1
   ·
    rw[if_pos r1];exact .inl ⟨rfl,r2,r3⟩
   ·
    rw[if_neg (by rw[r1];decide),if_pos (by rw[r1];decide)];exact .inr r1
  ·
   rw[he,if_neg (show ¬(7:Int)=0 by decide),if_pos (show(7:Int)≠9 by decide)];exact .inr rfl
 have hw:=On h.ae hs h3
 by_cases hA:(mB c fl).2=true
 ·
  obtain⟨z,hz,a1,a2,a3,a4,a5⟩:=pD (fun x h=>(tj h).1) hA;have qB:(aw c fl)[(mB c fl).1.toNat]? =some z:=hz;change 0<=(mB c fl).1 at a4;obtain⟨e1,e2⟩:=wP (by omega) hs qB;have qR:bk c fl aG=(c,(((mB c fl).1.toNat:Nat):Int)+2,0):=by rw[bk,if_pos hA,aub a4]
  simp only[sd,decide_eq_true_eq]at a2;refine .inl ⟨_,_,qR,key z (h.mono (by omega)) (.dh _) hs e2 (I3 qB).symm a1 (tj a3).2 (fun w hw=>?_) (fun _ g=>absurd g (by omega))⟩;obtain rfl:=asY (qB.symm.trans hw);exact⟨a1,rfl,id,fun _=>rfl⟩
 ·
  have Oq:=uG (Ct (R:=sd) hw) (show(fB (bS sd (aw c fl)) c.pages (mT c.pages) [Bn,tg]).2=false by simpa[mB,fC]using hA);have ja: ∀x∈aw c fl,x.bad=false/\(x.live≠0->jz c.pages x<=0)/\(x.live=0->jz c.pages x<=pV ((aw c fl).map (lY c.pages))):=fun x hx=>by
   obtain⟨j,hj⟩:=ato hx;obtain⟨e1,e2⟩:=wP (by omega) hs hj;rw[h.tell]at e1;have eA:x.bad=false:=by rw[e1]
   have GW:0<=x.live:=by rw[e1];simp only;omega
   refine⟨eA,fun hl=>?_,fun hl=>?_⟩
   ·
    have:=Oq _ (atp (f:=iH sd) hx);rw[Cv eA (by simp only[sd,decide_eq_true_eq];omega),mT,eA]at this;simp only[au4,atU,decide_eq_false_iff_not]at this;rw[jz,if_neg (by rw[eA];simp),lh,if_neg (fun g=>hl g.1)];omega
   ·
    have:lY c.pages x=jz c.pages x:=by
     have Ip: ¬x.bad=true:=by rw[eA];simp
     rw[lY,jz,if_neg Ip,if_neg Ip,if_pos hl]
    rw[←this];exact Oz (atp hx)
  have Xw:2<=dP (aw c fl):=by
   have hr:=Xu ja;have h0:=Xr ((aw c fl).map (lY c.pages));apply atc;intro hn;have hle:(dP (aw c fl):Int)*pV ((aw c fl).map (lY c.pages))<=1*pV ((aw c fl).map (lY c.pages)):=Int.mul_le_mul_of_nonneg_right (by omega) h0;omega
  have bM: ¬(dP (aw c fl)=0\/(dP (aw c fl)=1/\aG=false)):=by rintro(g|g)<;>omega
  by_cases hB:(kv c fl).2=true
  ·
   obtain⟨z,hz,a1,a2,a3,a4,a5⟩:=pD (fun x h=>(tj h).1) hB;have qB:(aw c fl)[(kv c fl).1.toNat]? =some z:=hz;change 0<=(kv c fl).1 at a4;obtain⟨e1,e2⟩:=wP (by omega) hs qB;have qR:bk c fl aG=(c,(((kv c fl).1.toNat:Nat):Int)+2,0):=by rw[bk,if_neg hA,if_neg bM,if_pos hB,aub a4]
   refine .inl ⟨_,_,qR,key z (h.mono (by omega)) (.dh _) hs e2 (I3 qB).symm a1 (tj a3).2 (fun w hw=>?_) (fun _ _=>Xw)⟩;obtain rfl:=asY (qB.symm.trans hw);exact⟨a1,rfl,id,fun _=>rfl⟩
  ·
   have hfd:=Wf h.ae h3 (by omega) hB;have Ot:=uG (Ct (R:=gJ) hw) (show(fB (bS gJ (aw c fl)) c.pages (mT c.pages) [Bn,tg]).2=false by simpa[kv,fC]using hB);obtain⟨z,hz,a1,a2,a3,a4,a5⟩:=pD (fun x h=>(lR h).1) hfd;have qB:(aw c fl)[(jG c fl).toNat]? =some z:=hz;change 0<=jG c fl at a4;obtain⟨e1,e2⟩:=wP (by omega) hs qB;have rj:=(lR a3).2.1;have hzu:c.pages<=z.used:=by
    have:=Ot _ (atp (f:=iH gJ) (alM qB));rw[Cv a1 a2,mT,a1]at this;simp only[au4,atU,decide_eq_false_iff_not]at this;omega
   have Oo:=h.Cu e2;rw[h.tell]at e1;have mU:=(vg (by omega) hs (jG c fl).toNat).1 (by rw[e1]at rj;simp only at rj;omega);have eD:jG c fl+2=(((jG c fl).toNat:Nat):Int)+2:=by rw[aub a4]
   rcases h.I1 (n:=n+1) (b:=(((jG c fl).toNat:Nat):Int)+2) (by omega) (by omega)with⟨q1,q2⟩|q1
   ·
    have qR:bk c fl aG=((cC c ((((jG c fl).toNat:Nat):Int)+2)).1,(((jG c fl).toNat:Nat):Int)+2,0):=by rw[bk,if_neg hA,if_neg bM,if_neg hB,eD,q1]
    obtain⟨b1,b2⟩:=I0 h.ae hs mU q1;refine .inl ⟨_,_,qR,key _ q2 (xO _ h.ae).2 b2 e2 b1 rfl (by simp only;omega) (fun w hw=>?_) (fun _ _=>Xw)⟩;obtain rfl:=asY (qB.symm.trans hw);refine⟨a1,?_,fun _=>rj,fun g=>absurd rfl g⟩;have asL:z.used<=c.pages:=by rw[e1];exact Oo.2
    rw[jz,if_neg (by simp),jz,if_neg (by rw[a1];simp),lh,lh,if_neg (show ¬((0:Int)=0/\c.pages -0=0) by omega),if_pos ⟨rj,by omega⟩];simp only;omega
   ·
    right;have qR:bk c fl aG=((cC c ((((jG c fl).toNat:Nat):Int)+2)).1,(((jG c fl).toNat:Nat):Int)+2,7):=by rw[bk,if_neg hA,if_neg bM,if_neg hB,eD,q1]
    exact⟨_,_,qR⟩
theorem Xx{c:CV}{fl gl:List Int}(hk:bb c=true)(h:aw c gl=aw c fl):sI c gl=sI c fl:=by rw[EW hk,EW hk,h]
theorem OA{v:VV}{aG:Bool}(hg:v.gen+1<281474976710656)(Xy:v.at_.length≤64): ∀(l:List (Int×List UInt8)) {n:Nat} {c:CV} {a:List Int},Ok (n+18*l.length) c→3≤c.blocks.length→Pl c v.at_→Std c a→a.length=v.at_.length→l.Pairwise (fun p q=>p.1≠q.1)→
    (∀x∈l,0<=x.1/\x.1<v.at_.length/\(x.2.length:Int)<=dU c.size)->(∀x∈l,a[x.1.toNat]? =v.at_[x.1.toNat]?)->(mE l:Int)<=sI c (v.at_++a)->1<=dP (aw c (v.at_++a))->
    ((gY v aG l c a).2.2=0/\Ok n (gY v aG l c a).1/\Std (gY v aG l c a).1 (gY v aG l c a).2.1/\1<=dP (aw (gY v aG l c a).1 (v.at_++(gY v aG l c a).2.1)))\/(gY v aG l c a).2.2=7
  |[],n,c,a,h,h3,hv,ha,dW,hp,hi,hs,hc,hid=> .inl ⟨rfl,h,ha,hid⟩
  |x::r,n,c,a,h,h3,hv,ha,dW,hp,hi,hs,hc,hid=>by
   obtain⟨gL,gX⟩:=atn.1 hp;obtain⟨x0,x1,x2⟩:=hi x as5;have hd:=eX h.ae;have Xz:x.1.toNat<v.at_.length:=by omega
   obtain⟨y,hy⟩: ∃y,v.at_[x.1.toNat]? =some y:=⟨_,as1 Xz⟩;have MA:a[x.1.toNat]? =some y:=(hs x as5).trans hy
   have EL: ∀{k N:Int},k∈a->k∈v.at_\/k∈a.set x.1.toNat N:=fun{k N} hk=>by
      obtain⟨j,hj⟩:=ato hk
      by_cases e:j=x.1.toNat
      ·rw[e,MA]at hj
       obtain rfl:=asY hj;exact .inl (alM hy)
      ·right
       exact alM (i:=j) (by rw[att (fun g=>e g.symm)];exact hj)
   have XA: ∀{N:Int},∀q∈r,(a.set x.1.toNat N)[q.1.toNat]? =v.at_[q.1.toNat]? :=fun{N} q hq=>by
      have h0:=(hi q (atd _ hq)).1;have bM:=gL q hq;rw[att (by omega)];exact hs q (atd _ hq)
   rw[gY]
   by_cases h0:x.2.length=0
   ·rw[if_pos h0]
    have DT:mE (x::r)=mE r:=by
        rw[mE,List.filter_cons_of_neg (by simp[h0])];rfl
    have bq:Std c (a.set x.1.toNat 0):=fun k hk og=>by
        rcases atx hk with g|g
        ·exact ha k g og
        ·exact absurd g og
    have wF:aw c (v.at_++a.set x.1.toNat 0)=aw c (v.at_++a):=by
        refine Ol (by omega) (hv.nr.append ha) (hv.nr.append bq) (.dh _) fun i=>⟨rfl,rfl,rfl,fun _=>yG (fun k hk=>?_) (by omega)⟩;have og:k≠0:=fun e=>by
          rw[e]at hk;have:((0:Int) -1)/c.pages<0:=avL (by decide) (by omega);omega
        rw[as8,as8];constructor
        ·rintro(g|g)
         ·exact .inl g
         ·rcases atx g with g|g
          ·exact .inr g
          ·exact absurd g og
        ·rintro(g|g)
         ·exact .inl g
         ·exact EL g
    exact OA hg Xy r (h.mono (by simp only[asZ];omega)) h3 hv bq (by rw[atC,dW]) gX (fun q hq=>hi q (atd _ hq)) XA (by rw[Xx h.ae wF,←DT];exact hc) (by rw[wF];exact hid)
   ·rw[if_neg h0]
    have DT:mE (x::r)=mE r+1:=by
        rw[mE,List.filter_cons_of_pos (by rw[decide_eq_true_eq];omega)];rfl
    rw[DT]at hc;obtain⟨k1,_,_,k4⟩:=fX.1 h.ok;have Cr:mu (iS v x) c.size=true:=rZ.2 ⟨te.2 ⟨k4,by omega⟩, .inl rfl,x0,by show x.1<64;omega,hg,x2⟩;have n8:=(Wg (c:=c) (fl:=v.at_++a) (aG:=aG) (p:=iS v x) h.ae h3).1;rcases ai2 (n:=n+18*r.length) (c:=c) (fl:=v.at_++a) (aG:=aG) (p:=iS v x) (h.mono (by simp only[asZ];omega)) (hv.nr.append ha) h3 (by omega) Cr with⟨p1,p2,p3⟩|p1
    ·rw[if_neg (by rw[p1];simp)]
     generalize da c (v.at_++a) aG (iS v x)=P at*
     obtain⟨q1,q2,q3⟩:=p3 (v.at_++a.set x.1.toNat P.2.1) (fun k=>by
          rw[as8,as8];constructor
          ·rintro(g|g)
           ·exact .inl (.inl g)
           ·rcases atx g with g|g
            ·exact .inl (.inr g)
            ·exact .inr g
          ·rintro((g|g)|g)
           ·exact .inl g
           ·exact EL g
           ·right
            rw[g];exact alM (i:=x.1.toNat) (by rw[atj (by rw[dW];exact Xz)]))
     exact OA hg Xy r p2 (by rw[n8.bT.len];exact h3) (hv.kd n8.toKd fun _ g=>atA _ g) (fun k hk=>q3 k (aur _ hk)) (by rw[atC,dW]) gX (fun q hq=>by
          obtain⟨z0,z1,z2⟩:=hi q (atd _ hq);exact⟨z0,z1,by rw[n8.bT.size];exact z2⟩) XA (by omega) (q1 hid)
    ·right
     rw[if_pos (by rw[p1];decide)];exact p1
structure Items(v:VV)(l:List (Int×List UInt8)):Prop where
  ne:l.Pairwise fun p q=>p.1≠q.1
  it: ∀x∈l,0<=x.1/\x.1<v.at_.length/\(x.2.length:Int)<=dU v.ae.size
  len:l.length<=v.at_.length
theorem ai4(l:List (Int×List UInt8)):mE l<=l.length:=auX _ _
theorem Lv.by{n:Nat}{x:WV}(h:Lv n x)(b:Bool):Lv n {x with beyond:=b}:=⟨h.ok,h.wr.by b,h.rt,h.pl,h.kK,h.half,h.idle⟩
theorem ai5{n:Nat}{x:WV}{l:List (Int×List UInt8)}(h:Lv (n+60000) x)(hg:x.v.gen+600<281474976710656)(hl:Items x.v l):
    ((iz x l).2=0/\Lv n (iz x l).1/\(iz x l).1.v.gen<=x.v.gen+481)\/(iz x l).2=7:=by
  have hf:=h.wr.kK;have oq:=hl.len;have tI:=ai4 l;have mI:=WE (l:=l) h.wr h.rt h.pl fun y hy=>(hl.it y hy).1;have oQ:=LM (l:=l) h.wr;have Ah:Sf x (ct x.v) (cJ x l).1 (cJ x l).2:=(WD (x:={x with beyond:=false}) (need:=mE l) (h.wr.by false) h.rt h.pl).cL
  have iU:=Hn (l:=l) h.wr;rw[iz]at mI oQ⊢;rcases aiY (n:=n+2000) (x:={x with beyond:=false}) (need:=mE l) (h.by false|>.mono (by omega)) (by show x.v.gen+500<_;omega) (by show(mE l:Int)<=x.v.at_.length;omega)with⟨s1,s2,s3,s4⟩|s1
  ·change(cJ x l).2=0 at s1
   change Lv (n+2000) (cJ x l).1 at s2;change(mE l:Int)<=(lj (cJ x l).1.v.ae (cJ x l).1.v.at_).1 at s3;change(cJ x l).1.v.gen<=x.v.gen+480 at s4;rw[if_neg (by rw[s1];simp)]at mI oQ⊢;have hlen:=Ah.len;have fj:=Ah.kd.bT;have hd:=eX s2.ok.ae;have h3:3<=(cJ x l).1.v.ae.blocks.length:=by have:=s2.wr.tn;omega
   have jy:=s2.rt.pl.nr
   have wF:aw (cJ x l).1.v.ae ((cJ x l).1.v.at_++(cJ x l).1.v.at_)=aw (cJ x l).1.v.ae (cJ x l).1.v.at_:=
      Ol (by omega) jy (jy.append jy) (.dh _) fun i=>⟨rfl,rfl,rfl,fun _=>yG (fun k _=>by rw[as8];exact or_self_iff) (by omega)⟩
   have ai6:1<=dP (aw (cJ x l).1.v.ae (cJ x l).1.v.at_):=by
      obtain⟨j,j1,j2⟩:=s2.idle;exact ai0 (s2.ok.get jy j1) rfl (by simp only;omega)
   have hit:=OA (v:=(cJ x l).1.v) (aG:=(cJ x l).1.beyond) (by omega) (by omega) l (n:=n+2) (c:=(cJ x l).1.v.ae) (a:=(cJ x l).1.v.at_) (s2.ok.mono (by omega)) h3 s2.rt.pl jy rfl hl.ne (fun y hy=>by
      obtain⟨z0,z1,z2⟩:=hl.it y hy;exact⟨z0,by rw[hlen];exact z1,by rw[fj.size];exact z2⟩) (fun _ _=>rfl) (by rw[Xx s2.ok.ae wF];exact s3) (by rw[wF];exact ai6)
   have n7:=IN (v:=(cJ x l).1.v) (aG:=(cJ x l).1.beyond) l (c:=(cJ x l).1.v.ae) (a:=(cJ x l).1.v.at_) s2.ok.ae h3 s2.rt.pl s2.rt.pl (fun y hy=>(hl.it y hy).1);change _\/(gA x l).2.2=7 at hit;rcases hit with⟨i1,i2,i3,i4⟩|i1
   ·change(gA x l).2.2=0 at i1
    change Ok (n+2) (gA x l).1 at i2;change Std (gA x l).1 (gA x l).2.1 at i3;change 1<=dP (aw (gA x l).1 ((cJ x l).1.v.at_++(gA x l).2.1))at i4;rw[if_neg (by rw[i1];simp)]at mI oQ⊢;obtain⟨t1,t2,t3⟩:=n7;obtain⟨t4,t5,t6⟩:=t2 i1;change Kp (cJ x l).1.v.at_ (cJ x l).1.v.ae (gA x l).1 at t1;change(gA x l).2.1.length=(cJ x l).1.v.at_.length at t6;have fV:cX ((cJ x l).1.on (gA x l).1):=s2.wr.on i2.ae t1.bT;rcases WY (n:=n) fV i2 ⟨by show(cJ x l).1.v.gen+1<_;omega,by rw[t6,show((cJ x l).1.on (gA x l).1).v.ae.size=(cJ x l).1.v.ae.size from t1.bT.size];exact s2.kK,W9 i2.ae i3⟩with⟨w1,w2,w3,w4,w5,w6⟩|w1
    ·left
     rw[w1]at mI;refine⟨w1,⟨w2,oQ.ok,(mI.cM rfl).1,h.pl.kd mI.kd,by rw[mI.len,mI.kd.bT.size];exact h.kK,by rw[mI.len,mI.kd.bT.len,mI.kd.bT.pages];exact h.half,?_⟩,by rw[w4];show(cJ x l).1.v.gen+1<=_;omega⟩;obtain⟨j,z,hz,z1,z2⟩:=ai1 i4;have EV:Std (gA x l).1 ((cJ x l).1.v.at_++(gA x l).2.1):=(jy.kd t1.toKd fun _ g=>g).append i3;obtain⟨e1,e2⟩:=wP (by rw[t1.bT.pages];omega) EV hz;have vi:dO (gA x l).1 (eu ((cJ x l).1.on (gA x l).1) (gA x l).2.1).1.v.ae:=(Lw fV (ai7 i3 (by show 1<=(gA x l).1.pages;rw[t1.bT.pages];omega)) t6).1.bT;refine⟨j,by rw[vi.len];exact e2,?_⟩;rw[i2.tell]at e1;rw[e1]at z2;simp only at z2;have mU:=(vg (by rw[t1.bT.pages];omega) EV j).1 (by omega);have hS:=(mI.cM rfl).1.pl.nr;refine(vg (by rw[vi.pages,t1.bT.pages];omega) hS j).2 ?_;rw[w3];intro k hk og;rw[vi.pages];exact mU k (aur _ hk) og
    ·exact .inr w1
   ·right
    rw[if_pos (by rw[i1];decide)];exact i1
  ·right
   change(cJ x l).2=7 at s1;rw[if_pos (by rw[s1];decide)];exact s1
where
  ai7 {c:CV} {a:List Int} (h:Std c a) (hp:1<=c.pages):iQ c a:=fun k hk=>by
    by_cases h0:k=0
    ·exact .inl h0
    ·obtain⟨q1,q2,_⟩:=mR.1 (h k hk h0)
     exact .inr ⟨(h.pos hp k hk).resolve_left h0,q1,q2⟩
theorem ai8{v:VV}{l:List (Int×List UInt8)}(h:Items v l):tt v l=true:=by
  refine DL.2 fun i hi=>?_;have hx:=as1 hi;obtain⟨z0,z1,z2⟩:=h.it l[i] (auS hi);rw[uM,show l.getD i (0,[])=l[i] by simp[List.getD,hi],anc,uL,anc,anc,decide_eq_true_eq,decide_eq_true_eq,decide_eq_true_eq];refine⟨⟨⟨z0,z1⟩,z2⟩,?_⟩;rw[at0]
  cases hc:((l.take i).map Prod.fst).contains l[i].1 with
  |false=>rfl
  |true=>
   exfalso;obtain⟨p,hp,e⟩:=at7.1 (auk.1 hc);obtain⟨j,hj,e2⟩:=List.mem_take_iff_getElem.1 hp;have:=atV.1 h.ne j i (by omega) hi (by omega);rw[e2]at this;exact this e
theorem ai9{n:Nat}{v:VV}{l:List (Int×List UInt8)}(h:Lv (n+60000) ⟨v,false⟩)(hg:v.gen+600<281474976710656)(hl:Items v l):
    ((gh v l).2=0/\Lv n ⟨(gh v l).1,false⟩/\(gh v l).1.gen<=v.gen+481)\/(gh v l).2=7:=by
  have hb:=ai5 (l:=l) h hg hl;have e:pG (v.ae.blocks.length+1) ⟨v,false⟩ l=iz ⟨v,false⟩ l:=by
    rw[pG,if_neg];rintro⟨g,_⟩;rcases hb with⟨b1,_⟩|b1
    ·rw[b1]at g;cases g
    ·rw[b1]at g;cases g
  rw[gh,if_neg (fun g=>g ⟨Cq.2 h.rt,by omega,ai8 hl⟩),if_neg (by have:=h.ok.off;rw[show(⟨v,false⟩:WV).v.ae=v.ae from rfl]at this;rw[this];simp),e];rcases hb with⟨b1,b2,b3⟩|b1
  ·exact .inl ⟨b1,b2.by false,b3⟩
  ·exact .inr b1
theorem aja{n:Nat}{f:FV}(h:jg f)(k:Ok n f.ar.ae)(hp:iW f.ar.ae)(hi: ∃j,j<f.ar.ae.blocks.length -2/\cT f.ar.ae.pages f.ar.at_ j=0):Lv n ⟨f.ar,false⟩:=by
  have hid:=h.ids;have hc:eG f.ar.ae<=kI f.ar.ae.size/\eG f.ar.ae<=uO f.ar.ae.blocks.length f.ar.ae.pages/2:=by rw[eG,zO];omega
  have hl:uO f.ar.ae.blocks.length f.ar.ae.pages<=((f.ar.ae.blocks.length:Int) -4)*f.ar.ae.pages:=by
    have h4:=(fX.1 h.rt.bears).2.1;have hd:=eX k.ae;rw[uO];split
    ·exact auO (by omega) (by omega)
    ·exact atW _
  exact⟨k,Ho (Cq.2 h.rt),h.rt,hp,by show(f.ar.at_.length:Int)<=kI f.ar.ae.size;omega,by show 2*(f.ar.at_.length:Int)<=((f.ar.ae.blocks.length:Int) -4)*f.ar.ae.pages;omega,hi⟩
theorem ajb(t:List Rt){room:Int}(hr:0<=room)(id:Nat):((sh t (room/20).toNat id).length:Int)<=room:=by
  have:=LQ t (room/20).toNat id;omega
theorem ajc{n:Nat}{f:FV}{l:List Ch}(h:jg f)(k:Lv (n+60000) ⟨f.ar,false⟩)(hg:f.ar.gen+600<281474976710656)(he:dr f.table l=0)(hm: ¬eH f.ar.ae<(cj f.table l).length):
    ((cK f l).2=0/\Lv n ⟨(cK f l).1.ar,false⟩/\(cK f l).1.ar.gen<=f.ar.gen+481)\/(cK f l).2=7:=by
  have hE:=Cs (l:=l) h;rw[if_neg hm]at hE
  by_cases hc:ff (eR f) (dF f l)=[]
  ·rw[(IV h he hm hc).1]
   exact .inl ⟨rfl,k.mono (by omega),by simp only;omega⟩
  ·have hlen:(eR f).length=(dF f l).length:=by
      have:=(Eu hE).1;have h2:=h.ids;rw[tU h,BF];have:((dF f l).length:Int)=eG f.ar.ae:=this;omega
   have BK:(eR f).length=f.ar.at_.length:=by rw[tU h,BF]
   have ajd:Items f.ar (ff (eR f) (dF f l)):=by
      refine⟨(Ig (eR f) (dF f l) _).imp fun g=>by omega,fun x hx=>?_,?_⟩
      ·obtain⟨i,i1,rfl,i3⟩:=Nk hx
       refine⟨Int.natCast_nonneg _,by simp only;omega,?_⟩;obtain⟨_,_,_,e⟩:=Nj hE;have hi:i<(dF f l).length:=by omega
       have jD:(dF f l).getD i []∈dF f l:=by
          simp only[List.getD,as1 hi,auT];exact auS hi
       rw[show dF f l=lT (cj f.table l) (eG f.ar.ae).toNat (dU f.ar.ae.size/20).toNat from e]at jD⊢;rw[lT]at jD⊢;obtain⟨j,_,hj⟩:=at7.1 jD;simp only;rw[←hj]
       exact ajb _ (by rw[dU];split;·rename_i hf;have:=te.1 hf;omega
                       ·exact atW _) j
      ·have:=Ht (eR f) (dF f l) (max (eR f).length (dF f l).length)
       rw[ff];omega
   rw[HG (yF.2 h) he hE hc];exact ai9 k hg ajd
def Cy(n p:Nat):CV×Int:=rW ((n:Int)+5) ((p:Int)+2) 64
def tV(n p:Nat):FV×Int:=sk (Cy n p).1
def OB(f:FV):Bool:=jr f&&decide (f.table=[])&&f.ar.ae.blocks.all (fun b=> !b.bad&&decide (b.aR=0))&&decide (f.ar.ae.ops<=10)&& !f.ar.ae.off&&decide (f.ar.ae.aV=[])&&decide (f.ar.gen<=10)&&f.ar.at_.all (fun n=>decide (n=0))&&decide (ff (eR f) (dF f [])=[])
def XB(n p:Nat):Bool:=decide ((Cy n p).2=0)&&decide ((tV n p).2=0)&&OB (tV n p).1&&bb (Cy n p).1&&decide ((tV n p).1.ar.ae.blocks.length=n+5)&&decide ((tV n p).1.ar.ae.pages=(p:Int)+2)&&decide ((tV n p).1.ar.ae.size=64)
theorem aje: ∀n,n<8-> ∀p,p<7->XB n p=true:=by decide+kernel
structure Rm(k:Nat)(f:FV):Prop where
 fb:jg f
 lv:Lv k ⟨f.ar,false⟩
 oP:f.ar.ae.aV=[]
 off:f.ar.ae.off=false
 gen:f.ar.gen+k<281474976710656
 can:ff (eR f) (dF f [])=[]
 kK:(f.table.length:Int)<=eH f.ar.ae
theorem Rm.mono{k m:Nat}{f:FV}(h:Rm k f)(hm:m<=k):Rm m f:=⟨h.fb,h.lv.mono hm,h.oP,h.off,auG (Nat.add_le_add_left hm _) h.gen,h.can,h.kK⟩
theorem ajf{f:FV}(h:OB f=true):Rm 1000000000 f/\f.table=[]:=by
 simp only[OB,anc,decide_eq_true_eq,atk,at0]at h;obtain⟨⟨⟨⟨⟨⟨⟨⟨h1,h2⟩,h3⟩,h4⟩,h5⟩,h6⟩,h7⟩,h8⟩,h9⟩:=h;have Ar:=yF.1 h1;have ra:cV=1099511627776:=rfl;have fx: ∀b:Int,(ak f.ar.ae b).bad=false/\(ak f.ar.ae b).aR=0:=fun b=>by
  rcases as3 b.toNat f.ar.ae.blocks.length with hl|hl
  ·
   have hm:ak f.ar.ae b∈f.ar.ae.blocks:=by
    simp only[ak,List.getD,as1 hl,auT];exact auS hl
   exact h3 _ hm
  simp only[ak,List.getD,as7 hl,Option.getD_none];exact⟨rfl,rfl⟩
 have h4l:4<=(f.ar.ae.blocks.length:Int):=(fX.1 Ar.rt.bears).2.1;have hp:2<=f.ar.ae.pages:=(fX.1 Ar.rt.bears).2.2.1;have bD:Ok 1000000000 f.ar.ae:=⟨Ar.rt.bears,fun b=>(fx b).1,h5,(by rw[h6];exact fun x hx=>absurd hx avt),by omega,fun b=>by rw[(fx b).2];omega⟩;refine⟨⟨Ar,aja Ar bD (.nil h6) ⟨0,by omega,?_⟩,h6,h5,auG (Nat.add_le_add_right h7 _) (by decide),h9,?_⟩,h2⟩
 ·
  refine(vg (by omega) Ar.rt.pl.nr 0).2 fun k hk og=>?_;exact absurd (h8 k hk) og
 rw[h2];have hm:=Ar.jI;have:0<=eH f.ar.ae:=by
  rw[eH,zP,jI];split
  ·
   omega
  rename_i g;have hi:=Mg f.ar.ae;have h0:0<=dU f.ar.ae.size/20:=by omega
  have h1:0<=zO f.ar.ae.blocks.length f.ar.ae.pages f.ar.ae.size*(dU f.ar.ae.size/20):=auO (by omega) h0;omega
 simpa using this
theorem ajg{n p:Nat}(hn:n<8)(hp:p<7):(Cy n p).2=0/\bb (Cy n p).1=true/\(tV n p).2=0/\Rm 1000000000 (tV n p).1/\(tV n p).1.table=[]/\eH (tV n p).1.ar.ae=zP ((n:Int)+5) ((p:Int)+2) 64:=by
 have h:=aje n hn p hp;simp only[XB,anc,decide_eq_true_eq]at h;obtain⟨⟨⟨⟨⟨⟨h1,h2⟩,h3⟩,h4⟩,h5⟩,h6⟩,h7⟩:=h;obtain⟨g1,g2⟩:=ajf h3;refine⟨h1,h4,h2,g1,g2,?_⟩;rw[eH,h5,h6,h7];rfl
theorem ajh{g k:Nat}(h:g+(k+60000)<281474976710656):g+600<281474976710656:=auG (Nat.add_le_add_left (avq (by decide:600<=60000) (Nat.le_add_left _ _)) g) h
theorem aji{g g2 k:Nat}(h:g+(k+60000)<281474976710656)(h2:g2<=g+481):g2+k<281474976710656:=auG (by omega:g2+k<=g+(k+60000)) h
theorem Rm.step{k:Nat}{f:FV}{l:List Ch}(h:Rm (k+60000) f)(he:dr f.table l=0)(hm: ¬eH f.ar.ae<(cj f.table l).length):(cK f l).2=0/\Rm k (cK f l).1/\(cK f l).1.table=cj f.table l/\eH (cK f l).1.ar.ae=eH f.ar.ae:=by
 obtain⟨q1,q2,q3,q4,q5,q6,q7⟩:=aiv h.fb h.oP h.off l;have hg:=h.gen;have vb:=h.lv;have hg2:f.ar.gen+600<281474976710656:=ajh h.gen;have dW:=ajc (n:=k) h.fb vb hg2 he hm;have a1:(cK f l).2=0:=by
  rcases dW with g|g
  ·
   exact g.1
  exact absurd g q6
 have a23:Lv k ⟨(cK f l).1.ar,false⟩/\(cK f l).1.ar.gen<=f.ar.gen+481:=by
  rcases dW with g|g
  ·
   exact g.2
  exact absurd g q6
 obtain⟨a2,a3⟩:=a23;have XC:=WM h.fb (.nil h.oP) he hm;have hc:=Oe XC.kd.bT;have ht:=(q4 a1).2;refine⟨a1,⟨q1,a2,q2,q3,aji h.gen a3,?_,by rw[ht,hc.1];omega⟩,ht,hc.1⟩;have hE:=Cs (l:=l) h.fb;rw[if_neg hm]at hE;have H7:=Cs (l:=[]) q1;have I8:cj (cK f l).1.table []=(cK f l).1.table:=by rw[cj];split<;>rfl
 rw[I8,ht,hc.1,if_neg hm]at H7;have B7:dF (cK f l).1 []=dF f l:=by
  rw[dF,dF,I8,ht,hc.2,XC.kd.bT.size]
 by_cases XD:ff (eR f) (dF f l)=[]
 ·
  obtain⟨e1,e2⟩:=IV h.fb he hm XD;rw[e1];exact h.can
 have hold:eR (cK f l).1=dF f l:=by
  rw[tU q1];have hlen:(eR f).length=(dF f l).length:=by
   have:=(Eu hE).1;have h2:=h.fb.ids;rw[tU h.fb,BF];have:((dF f l).length:Int)=eG f.ar.ae:=this;omega
  have hs:=WH (l:=ff (eR f) (dF f l)) h.fb.rt (.nil h.oP);rw[←tU h.fb,WL hlen]at hs;have ew:=HG (yF.2 h.fb) he hE XD;rw[ew]at a1⊢;exact(hs.cM a1).2
 rw[hold,B7];exact Vf _
theorem Rm.same{k:Nat}{f:FV}(h:Rm k f){l:List Ch}(he:dr f.table l=0)(hl:cj f.table l=f.table):cK f l=(f,0):=by
 have I8:cj f.table []=f.table:=by rw[cj];split<;>rfl
 have hn:dF f l=dF f []:=by rw[dF,dF,hl,I8]
 have hf:=h.kK;exact(IV h.fb he (by rw[hl];omega) (by rw[hn];exact h.can)).1
theorem Rm.stays{k:Nat}{f:FV}(h:Rm (k+60000) f)(l:List Ch):Rm k (cK f l).1/\((cK f l).2=0->dr f.table l=0/\(cK f l).1.table=cj f.table l)/\((cK f l).2≠0->(cK f l).1=f):=by
 by_cases he:dr f.table l=0
 ·
  by_cases hm:eH f.ar.ae<(cj f.table l).length
  ·
   rw[Og h.fb he hm];exact⟨h.mono (by omega),fun g=>absurd (show(5:Int)=0 from g) (by decide),fun _=>rfl⟩
  obtain⟨a1,a2,a3,a4⟩:=h.step he hm;exact⟨a2,fun _=>⟨he,a3⟩,fun g=>absurd a1 g⟩
 rw[Of h.fb he];exact⟨h.mono (by omega),fun g=>absurd g he,fun _=>rfl⟩
def XE(t:List Rt)(l:List Ch)(m:Int):Int:=if dr t l=0/\m<(cj t l).length then 5 else dr t l
theorem Rm.done{k:Nat}{f:FV}(h:Rm (k+60000) f)(l:List Ch):(cK f l).2=XE f.table l (eH f.ar.ae)/\Rm k (cK f l).1/\((cK f l).2=0->(cK f l).1.table=cj f.table l)/\((cK f l).2≠0->(cK f l).1=f)/\eH (cK f l).1.ar.ae=eH f.ar.ae:=by
 rw[XE]
 by_cases he:dr f.table l=0
 ·
  by_cases hm:eH f.ar.ae<(cj f.table l).length
  ·
   rw[Og h.fb he hm,if_pos ⟨he,hm⟩];exact⟨rfl,h.mono (by omega),fun g=>absurd (show(5:Int)=0 from g) (by decide),fun _=>rfl,rfl⟩
  obtain⟨a1,a2,a3,a4⟩:=h.step he hm;rw[if_neg (fun g=>hm g.2),he];exact⟨a1,a2,fun _=>a3,fun g=>absurd a1 g,a4⟩
 rw[Of h.fb he,if_neg (fun g=>he g.1)];exact⟨rfl,h.mono (by omega),fun g=>absurd g he,fun _=>rfl,rfl⟩
def tW(n p:Nat):Int:=zP ((n:Int)+5) ((p:Int)+2) 64
def vj(n p:Nat)(t:List Rt):Bool:=br t&&decide ((t.length:Int)<=tW n p)
theorem EX{n p:Nat}{t:List Rt}:vj n p t=true↔br t=true/\(t.length:Int)<=tW n p:=by
 rw[vj,anc,decide_eq_true_eq]
theorem XF{t:List Rt}(h:br t=true):rC [] t=0:=by rw[rC,if_pos (by rw[h];rfl)]
theorem ajj{t:List Rt}(h:rC [] t=0):br t=true:=by
 cases hk:br t with
 |true=>rfl
 |false=>rw[rC,if_neg (by rw[hk];simp)]at h;cases h
theorem ajk{t:List Rt}(h:br t=true):pQ [] t=bU [] t:=by rw[pQ,if_pos (XF h)]
theorem ajl(t:List Rt):(pQ [] t).length<=t.length:=by
 rw[pQ];split
 ·
  simpa using(NM (t:=[]) (u:=t)).1
 exact atv _
theorem ajm{t:List Rt}(h:br t=true):dr [] (bU [] t)=0/\cj [] (bU [] t)=t:=by
 have ho:=kz h;have h0:br []=true:=rfl;have hn:=kz h0;have hd:rz (bU [] t):=(Ck hn ho).dst;have hl:=(NM (t:=[]) (u:=t)).2;have iT:=uB h;have he:dr [] (bU [] t)=0:=VM h0 hd (fun c hc=>VP hn ho hc) (by simp only[as0];omega);exact⟨he,VO h0 ho hd (fun c=>Iff.rfl) he⟩
theorem ajn{f:FV}{t:List Rt}(hr:Rm 1000000000 f)(h0:f.table=[])(ht:br t=true)(hm:(t.length:Int)<=eH f.ar.ae):
  (cK f (pQ [] t)).2=0/\Rm 900000000 (cK f (pQ [] t)).1/\(cK f (pQ [] t)).1.table=t/\eH (cK f (pQ [] t)).1.ar.ae=eH f.ar.ae:=by
 obtain⟨e1,e2⟩:=ajm ht;rw[←h0]at e1 e2;obtain⟨a1,a2,a3,a4⟩:=Rm.step (k:=900000000) (hr.mono (by decide)) (l:=bU f.table t) (by rw[h0]at e1⊢;exact e1) (by rw[show cj f.table (bU f.table t)=t by rw[h0]at e2⊢;exact e2];omega);rw[ajk ht];rw[h0]at a1 a2 a3 a4;exact⟨a1,a2,a3.trans (by rw[h0]at e2;exact e2),a4⟩
theorem ajo{t:List Rt}{k:Key}{bits:Int}(h:br t=true):((lB t k bits).length=0↔ky t k bits≠0)/\(ky t k bits=0->(lB t k bits)[(lB t k bits).length -1]? =some (kN t k bits))/\(lB t k bits).length<=t.length:=by
 rw[ag1 h]
 by_cases h0:(mF t k bits).length=0
 ·
  have hb:=ag2 h (ati.1 h0);exact⟨⟨fun _=>hb,fun _=>h0⟩,fun e=>absurd e hb,auX _ _⟩
 have hx:(mF t k bits)[(mF t k bits).length -1]? =some ((mF t k bits)[(mF t k bits).length -1]'(by omega)):=as1 _;obtain⟨c1,c2,_⟩:=Vy h hx;exact⟨⟨fun e=>absurd e h0,fun e=>absurd c1 e⟩,fun _=>by rw[hx,c2],auX _ _⟩
end Go.Kb
namespace Go.Proofs.YtkggjjnhnjjokaaGreatDoor
open Go.ax Go.Kb Go.RowKit
variable {w0:World}{L:List aj}
instance asM{b:UInt8}{p:UInt8}{t:Sv}{ts:List Rt}[ht:cP w0 L au 19 t ts]:bQ Tryz.prog 24 w0 L [.int .u8 (b.toNat:Nat), .int .u8 (p.toNat:Nat),t.val] (dt) (fun zz=> .tuple #[.agg (dx zz), .bool (vj (b.toNat%7) (p.toNat%7) ts)]) (fun zz=>fz zz::L) (fun zz=>vj (b.toNat%7) (p.toNat%7) ts=true->Rm 900000000 (ca zz)/\zz.table.xs=ts/\eH (ca zz).ar.ae=tW (b.toNat%7) (p.toNat%7)) (ts.length<=1000):=⟨fun aF w hw=>Gk (fun zz=>[fz zz]) hw (by
 have ht:=ht.h w hw;have oH:Gv w t au 19 ts:=⟨ht⟩;obtain⟨n1,n2,n3,n4,n5,n6⟩:=ajg (n:=(b.toNat%7)) (p:=(p.toNat%7)) oM oM;have BY:=ajl ts;refine s9 Tryz.func24 rfl Tryz.ntmps24 rfl ?_;refine Gc ?_;refine bl fun b6=>al ?_;refine ag (xn (p:=b.toNat) (q:=7) rfl rfl rfl rfl oM) (ag (kE rfl (by simp only[nb];omega)) (aA ?_));refine ag (xn (p:=p.toNat) (q:=7) rfl rfl rfl rfl oM) (ag (kE rfl (by simp only[nb];omega)) (Gs ?_));refine bj rfl trivial fun qo D0=>?_;have OC:cv qo=(Cy (b.toNat%7) (p.toNat%7)).1:=D0;have z24:(rW ((((b.toNat%7):Nat):Int)+5) ((((p.toNat%7):Nat):Int)+2) 64).2=0:=n1;have ajp:gU qo:=rX (by rw[OC];exact n2);refine Gs ?_;refine ag (aJ (v:= .agg (aS qo)) rfl rfl) (ag (aJ (v:= .int .i64 ((rW ((((b.toNat%7:Nat)):Int)+5) ((((p.toNat%7:Nat)):Int)+2) 64).2)) rfl rfl) (bl fun b8=>av ?_));refine bj rfl ajp fun qn DW=>?_;have I9:ca qn=(tV (b.toNat%7) (p.toNat%7)).1:=by rw[DW,OC];rfl
 have z29:(sk (cv qo)).2=0:=by rw[OC];exact n3
 have XG:Rm 1000000000 (ca qn):=by rw[I9];exact n4
 have t29:qn.table.xs=[]:=by rw[show qn.table.xs=(tV (b.toNat%7) (p.toNat%7)).1.table from congrArg FV.table I9,n5]
 refine Gs ?_;refine ag (aJ (v:= .agg (dx qn)) rfl rfl) (ag (aJ (v:= .int .i64 ((sk (cv qo)).2)) rfl rfl) (bl fun Aa=>av ?_));refine bj (vs:=[Sv.none.val,_]) rfl trivial fun iB u7=>Gs ?_;refine ag (aJ (v:=iB.val) rfl rfl) (ag (aJ (v:= .int .i64 (rC [] ts)) rfl rfl) (Gd ?_));refine bn rfl rfl rfl (fun hg=>(Ry.yl (xn (p:=b.toNat) (q:=7) (az hg rfl) rfl rfl rfl (by simp only[Z0,Z1,Z2,Z3,Z4,Z5,Z6,Z7,Z8,Z9]at hg;omega)))) (bn rfl rfl rfl (fun hg=>(Ry.yl (kE (az hg rfl) (by simp only[nb];omega)))) (bn rfl rfl rfl (fun hg=>(Ry.yl (sK (az hg rfl) rfl (by simp only[Z0,Z1,Z2,Z3,Z4,Z5,Z6,Z7,Z8,Z9]at hg;omega)))) (Gg ?_)));refine bn rfl rfl rfl (fun hg=>(Ry.yl (xn (p:=p.toNat) (q:=7) (az hg rfl) rfl rfl rfl (by simp only[Z0,Z1,Z2,Z3,Z4,Z5,Z6,Z7,Z8,Z9]at hg;omega)))) (bn rfl rfl rfl (fun hg=>(Ry.yl (kE (az hg rfl) (by simp only[nb];omega)))) (bn rfl rfl rfl (fun hg=>(Ry.yl (sK (az hg rfl) rfl (by simp only[Z0,Z1,Z2,Z3,Z4,Z5,Z6,Z7,Z8,Z9]at hg;omega)))) (bn rfl rfl rfl (fun hg=>cl (dy (az hg rfl) (dy (az hg rfl) (dy rfl gD))) trivial) (al ?_))));refine Gb (fun h0=>?_) fun h0=>?_
 ·
  have hz:vj (b.toNat%7) (p.toNat%7) ts=false:=by
   cases hk:vj (b.toNat%7) (p.toNat%7) ts with
   |false=>rfl
   |true=>
    obtain⟨g1,g2⟩:=EX.1 hk;have g3:rC [] ts=0:=XF g1;rw[z29,g3]at h0;unfold tW at g2;rcases h0 with(h|h)|h
    ·
     exact absurd rfl h
    ·
     exact absurd rfl h
    omega
  refine aN ?_;refine Gr fun w1 hw=>?_;exact⟨qn,by rw[hz],(fun h=>by rw[hz]at h;cases h),ai.mem hw⟩
 have g3:rC [] ts=0:=by omega
 have qx:=ajj g3;have g4:(ts.length:Int)<=tW (b.toNat%7) (p.toNat%7):=by unfold tW;omega
 have hz:vj (b.toNat%7) (p.toNat%7) ts=true:=EX.2 ⟨qx,g4⟩;refine al ?_;refine bj rfl XG.fb.small fun OD ajq=>?_;have bq:=ajn XG t29 qx (by rw[I9,n6];exact g4);rw[←ajq]at bq;obtain⟨s1,s2,s3,s4⟩:=bq;have s5:eH (ca OD).ar.ae=tW (b.toNat%7) (p.toNat%7):=by rw[s4,I9];exact n6
 refine Gs ?_;refine ag (aJ (v:= .agg (dx OD)) rfl rfl) (ag (aJ (v:= .int .i64 ((cK (ca qn) (pQ [] ts)).2)) rfl rfl) (iF ?_));refine Gr fun w1 hw=>?_;exact⟨OD,by rw[hz,s1];rfl,(fun _=>⟨s2,s3,s5⟩),ai.mem hw⟩)⟩
end Go.Proofs.YtkggjjnhnjjokaaGreatDoor
namespace Go.Kb
open Go.ax
end Go.Kb
namespace Go.ax
open Go.Kb
section
variable {P:Program} {N:cc} {w0:World} {env:Env} {L:List aj} {d:Option Tmp} {ty:TypeId} {ps:String} {af:Array Edge} {gd:Option (Nat×Bool)} {a:Nd}
theorem ajr{fn:Fn}{c:List Operand}{vs:List Value}(hc:hH env c=some vs):Ry P N w0 env L ⟨d, .makeFunc fn #[] c.toArray,ty,ps,af,gd⟩ (.func fn #[] vs.toArray):=fun a w ha _=>by
 simp only[execOp,Instr.makeFunc];rw[show c.toArray.map a.eval=vs.toArray by rw[List.map_toArray,ha.hH hc]];simp[Sem.run_pure,Result.andThen]
end
section
variable {P:Program} {N:cc} {w0:World} {env:Env} {L:List aj} {l:List Oper} {Q:Exit->Act->World->Prop} {rest:List Oper} {ty:TypeId} {ps:String} {af:Array Edge} {a:Nd}
end
end Go.ax
namespace Go.Kb
end Go.Kb
namespace Go.ax
end Go.ax
namespace Go.Proofs.YtkggjjnhnjjokaaGreatDoor
open Go.ax Go.Kb
instance asN:eJ Tryz.prog 4 (.bool false):=⟨by kernel_rfl⟩
theorem ajs{b1:Nat}{t:Sv}{ts:List Rt}:Iter Tryz.prog 202 #[.pointer (some ⟨b1,0,none⟩)] (fun k=>[.int .i64 ((ts.length:Int) -1 -(k:Nat)), .agg (au (ts.getD (ts.length -1 -k) cI))].toArray) ts.length (fun w=>w.cell? ⟨b1,0,none⟩=some t.val/\dJ au 19 (hp w) t ts):=by
 intro l J Jx W0 hJ hJx hN hY h0;change Calls _ _ ([.func (.yield l) #[] #[], .pointer (some ⟨b1,0,none⟩)]:List Value).toArray _ _;obtain⟨n1,n3⟩:=hN 0 W0 h0;have gt:Gv W0 t au 19 ts:=⟨n3⟩;have jk:=n3.bd;refine rL (args:=[_,_]) Tryz.func202 rfl Tryz.ntmps202 rfl ?_;change Cw _ _ _ _ _ [(0, .func (.yield l) #[] #[]),(1, .pointer (some ⟨b1,0,none⟩))] [];refine eE ?_;refine fe ?_;refine ag (HH rfl n1) ?_;refine ag (qN rfl) ?_;refine ag (vr rfl rfl (by omega)) ?_;refine ag (eI rfl) ?_;refine fc ?_;refine dR ?_;refine ud ?_;refine aeb (X:=Nat) (fun zz=>[(3, .int .i64 ((ts.length:Int) -1 -(zz:Nat))),(0, .func (.yield l) #[] #[]),(1, .pointer (some ⟨b1,0,none⟩))]) (fun zz w=>zz<=ts.length/\J zz w) (fun zz=>ts.length -zz) 0 (Sub.cons (look_eq rfl (by simp)) (Sub.cons rfl (Sub.cons rfl (Sub.nil _)))) (fun w hw=>⟨Nat.zero_le _,hJ _ _ _ h0 hw.below⟩) ?_;rintro i W ⟨hi,hj⟩;obtain⟨n1,n3⟩:=hN i W hj;have gt:Gv W t au 19 ts:=⟨n3⟩;have jk:=n3.bd;refine eE ?_;refine eE ?_;refine fe ?_;refine ag (aU rfl) ?_;refine ag (dz rfl rfl rfl) ?_;refine fc ?_;refine dR ?_;refine gn rfl (fun h0=>?_) (fun h0=>?_)
 ·
  try simp only[Z0,Z1,Z2,Z3,Z4,Z5,Z6,Z7,Z8,Z9]at h0
  have Mp:i<ts.length:=by omega
  refine sM ?_;refine dR ?_;refine eE ?_;refine ud ?_;refine eE ?_;refine ad9 ?_;refine xZ (aU rfl) ?_;refine xZ (aU rfl) ?_;refine xZ (HH rfl n1) ?_;refine xZ (aU rfl) ?_;refine xZ (aX rfl rfl (ts.length -1 -i) (by omega) (by omega)) ?_;refine xZ (gQ rfl (ts.length -1 -i) (mN (xs:=ts) (i:=ts.length -1 -i) (d:=cI) (by omega)) rfl) ?_;refine aea (vs:=[.int .i64 ((ts.length:Int) -1 -(i:Nat)), .agg (au (ts.getD (ts.length -1 -i) cI))]) rfl rfl (fun w hw=>hY i w Mp (hJ _ _ _ hj hw.below)) (fun W2 OE=>?_) (fun W2 OE=>?_)
  ·
   refine xZ (jM rfl) ?_;refine T8 ?_;refine dR ?_;refine gn rfl (fun h1=>?_) (fun h1=>?_)
   ·
    exfalso;simp at h1
   try simp only[Z0,Z1,Z2,Z3,Z4,Z5,Z6,Z7,Z8,Z9]at h1
   refine sM ?_;refine vw ?_;refine dR ?_;refine fe ?_;refine ag (aU rfl) ?_;refine ag (vr rfl rfl (by omega)) ?_;refine ag (eI rfl) ?_;refine fc ?_;exact aec (i+1) (by first|omega|(simp only[];omega)) (Sub.cons (look_eq rfl (by congr 1;omega)) (Sub.cons rfl (Sub.cons rfl (Sub.nil _)))) (fun w hw=>⟨by omega,hJ _ _ _ OE hw.below⟩)
  refine xZ (jM rfl) ?_;refine T8 ?_;refine dR ?_;refine gn rfl (fun h1=>?_) (fun h1=>?_)
  ·
   try simp only[Z0,Z1,Z2,Z3,Z4,Z5,Z6,Z7,Z8,Z9]at h1
   refine sN ?_;refine AG ?_;refine yT ?_;refine yT ?_;refine AG ?_;refine eV (.inl rfl) (DS rfl) (fun w1 hw=>?_);exact⟨⟨_,rfl⟩, .inr ⟨_,hJx _ _ _ OE hw.below⟩⟩
  exfalso;simp at h1
 try simp only[Z0,Z1,Z2,Z3,Z4,Z5,Z6,Z7,Z8,Z9]at h0
 obtain rfl:i=ts.length:=by omega
 refine CQ ?_;refine xh ?_;refine xh ?_;refine CS ?_;refine eV (.inr rfl) (DS rfl) (fun w1 hw=>?_);exact⟨⟨_,rfl⟩, .inl (hJ _ _ _ hj hw.below)⟩
theorem ajt(w:World)(s:Sv)(ss:List Rt)(hs:dJ au 19 (hp w) s ss):Calls Tryz.prog 140 #[s.val] w fun e w'=> ∃zz:Nat,e= .returned (.func (.func 202) #[] #[.pointer (some ⟨zz,0,none⟩)])/\(True)/\Mem w [aq zz #[s.val] 22] w':=by
 have yb:Gv w s au 19 ss:=⟨hs⟩;refine rL (args:=[_]) Tryz.func140 rfl Tryz.ntmps140 rfl ?_;change Cw _ _ _ _ _ [(0,s.val)] [];refine eE ?_;refine fe ?_;refine T1 (by first|rfl|exact Sv.jC _) rfl fun b1=>?_;refine ag (eI rfl) ?_;refine fc ?_;refine dR ?_;refine eE ?_;refine fe ?_;refine ag (ajr rfl) ?_;refine ag (eI rfl) ?_;refine fc ?_;refine dR ?_;refine sN ?_;refine eV (.inl rfl) (y0 rfl (sO rfl)) (fun w1 hw=>?_);exact⟨b1,rfl,trivial,ai.mem hw⟩
variable {w0:World}{L:List aj}
instance asO{s:Sv}{ss:List Rt}[hs:cP w0 L au 19 s ss]:bQ Tryz.prog 140 w0 L [s.val] (Nat) (fun zz=> .func (.func 202) #[] #[.pointer (some ⟨zz,0,none⟩)]) (fun zz=>aq zz #[s.val] 22::L) (fun zz=>True) (True):=⟨fun hp w hw=>(ajt w s ss (hs.h w hw)).mono fun e w' ⟨x,h1,h2,h3⟩=>⟨x,h1,h2,hw.call h3⟩⟩
theorem aju(w:World)(t:Sv)(ts:List Rt)(p:aZ)(ht:dJ au 19 (hp w) t ts):Calls Tryz.prog 70 #[t.val, .agg (cz p)] w fun e w'=>e= .returned (.tuple #[.agg (au ((lA ts p).getD cI)), .bool ((lA ts p).isSome)])/\Mem w [] w':=by
 have oH:Gv w t au 19 ts:=⟨ht⟩;refine rL (args:=[_,_]) Tryz.func70 rfl Tryz.ntmps70 rfl ?_;change Cw _ _ _ _ _ [(0,t.val),(1, .agg (cz p))] [];refine eE ?_;refine fe ?_;refine bN rfl fun b3=>?_;refine bl fun b4=>?_;refine T2 (z:= .bool false) rfl fun b5=>?_;refine fc ?_;refine dR ?_;refine eE ?_;refine eE ?_;refine fe ?_;refine ag (aU rfl) ?_;refine bj rfl trivial fun x9 BM=>?_;refine fc ?_;refine dR ?_;refine ud ?_;refine ad3 (vals:=fun k=>[.int .i64 ((ts.length:Int) -1 -(k:Nat)), .agg (au (ts.getD (ts.length -1 -k) cI))]) (m:=ts.length) (X:=Unit) (Y:=Rt) rfl ajs (fun _=>rfl) (by decide) (kF:=[(3, .pointer (some ⟨b3,0,none⟩)),(4, .pointer (some ⟨b4,0,none⟩)),(5, .pointer (some ⟨b5,0,none⟩)),(9, .func (.func 202) #[] #[.pointer (some ⟨x9,0,none⟩)])]) (Sub.cons rfl (Sub.cons rfl (Sub.cons rfl (Sub.cons rfl (Sub.nil _))))) (fun k zz=>[aq x9 #[t.val] 22,aq b3 (cz p) 32,aq b4 (au cI) 34,aq b5 #[.bool false] 4]) (fun k zz=> ∀j,j<k->pK (ts.getD (ts.length -1 -j) cI) p=false) () (fun j hj=>by first|omega|(simp only[];omega)) (fun w hw=>ai.mem hw) (fun k zz w hI hw=>⟨(hw.cell (inferInstance:Has _ x9 _ _ _).h 0).trans rfl,ht.mono hw.below⟩) (fun yy=>[aq b4 (au yy) 34,aq b5 #[.bool true] 4]) (fun yy=>lA ts p=some yy) ?_ ?_ ?_
 ·
  rintro lr k ⟨⟩ r0 hk hI;change Cw _ _ _ _ _ [(11, .agg (au (ts.getD (ts.length -1 -k) cI))),(10, .int .i64 ((ts.length:Int) -1 -(k:Nat))),(3, .pointer (some ⟨b3,0,none⟩)),(4, .pointer (some ⟨b4,0,none⟩)),(5, .pointer (some ⟨b5,0,none⟩)),(9, .func (.func 202) #[] #[.pointer (some ⟨x9,0,none⟩)])] (r0::[aq x9 #[t.val] 22,aq b3 (cz p) 32,aq b4 (au cI) 34,aq b5 #[.bool false] 4]);refine fe ?_;refine bl fun b7=>?_;refine xf rfl rfl ?_;refine fc ?_;refine ad8 [aq b7 (au (ts.getD (ts.length -1 -k) cI)) 34,aq x9 #[t.val] 22,aq b3 (cz p) 32,aq b4 (au cI) 34,aq b5 #[.bool false] 4] (fun w hw=>ai.mem hw) fun r1=>?_;refine ud ?_;refine eE ?_;refine fe ?_;refine ag (aL (o':=0) rfl rfl) ?_;refine ag (hK rfl) ?_;refine ag (gE rfl) ?_;refine ag (Fp rfl rfl) ?_;refine ag (aU rfl) ?_;refine gG rfl rfl rfl (fun hg=>(Ry.yl (aL (o':=0) rfl rfl))) ?_;refine gG rfl rfl rfl (fun hg=>(Ry.yl (hK (az hg rfl)))) ?_;refine gG rfl rfl rfl (fun hg=>(Ry.yl (gE rfl))) ?_;refine gG rfl rfl rfl (fun hg=>cl (dy (az hg rfl) (dy (az hg rfl) gD)) trivial) ?_;refine ag (wV rfl rfl rfl) ?_;refine fc ?_;refine dR ?_;refine gn rfl (fun h0=>?_) (fun h0=>?_)
  ·
   try simp only[Z0,Z1,Z2,Z3,Z4,Z5,Z6,Z7,Z8,Z9]at h0
   refine eE ?_;refine fe ?_;refine ag (gE rfl) ?_;refine xf rfl rfl ?_;refine Mh (by first|rfl|exact Sv.one _) rfl rfl ?_;refine fc ?_;refine dR ?_;refine sN ?_;refine AG ?_;exact ad7 (ts.getD (ts.length -1 -k) cI) (adl hk hI (zK.2 h0)) (fun w hw=>ai.mem hw)
  try simp only[Z0,Z1,Z2,Z3,Z4,Z5,Z6,Z7,Z8,Z9]at h0
  refine sM ?_;refine vw ?_;exact ad6 () (fun j hj=>if e:j=k then(by subst e;rw[←av4,zK];rintro⟨g1,g2⟩;rcases h0 with h|h;(exact g1 h);(rw[g2]at h;cases h))else hI j (by first|omega|(simp only[];omega))) (fun w hw=>ai.mem hw)
 ·
  rintro D ⟨⟩ hI;have fZ:=adm hI;refine vw ?_;refine dR ?_;refine eE ?_;refine fe ?_;refine ag (gF rfl) ?_;refine xf rfl rfl ?_;refine Mh (by first|rfl|exact Sv.one _) rfl rfl ?_;refine fc ?_;refine dR ?_;refine sN ?_;refine T7 (.inl rfl) (JQ rfl (xm rfl) (Pm rfl rfl)) (fun w1 hw=>?_);exact⟨(by rw[fZ];rfl),ai.mem hw⟩
 rintro D y hJ;refine AG ?_;refine yT ?_;refine T7 (.inl rfl) (JQ rfl (xm rfl) (Pm rfl rfl)) (fun w1 hw=>?_);exact⟨(by rw[hJ];rfl),ai.mem hw⟩
instance asP{t:Sv}{ts:List Rt}{p:aZ}[ht:cP w0 L au 19 t ts]:cx Tryz.prog 70 w0 L [t.val, .agg (cz p)] (.tuple #[.agg (au ((lA ts p).getD cI)), .bool ((lA ts p).isSome)]) (True):=⟨fun hp w hw=>aju w t ts p (ht.h w hw)⟩
theorem ajv(w:World)(t:Sv)(ts:List Rt)(k:Key)(bits:Int)(ht:dJ au 19 (hp w) t ts):Calls Tryz.prog 28 #[t.val, .agg (bI k), .int .i64 bits] w fun e w'=> ∃zz:Sv,e= .returned (zz.val)/\(True)/\Mem w [own au 19 zz (lB ts k bits)] w':=by
 have oH:Gv w t au 19 ts:=⟨ht⟩;refine rL (args:=[_,_,_]) Tryz.func28 rfl Tryz.ntmps28 rfl ?_;change Cw _ _ _ _ _ [(0,t.val),(1, .agg (bI k)),(2, .int .i64 bits)] [];refine eE ?_;refine fe ?_;refine bN rfl fun b4=>?_;refine ag (eI rfl) ?_;refine fc ?_;refine dR ?_;refine eE ?_;refine eE ?_;refine fe ?_;refine ag (aU rfl) ?_;refine ag (gE rfl) ?_;refine ag (aU rfl) ?_;refine eC (cl rfl trivial) ?_;refine ag (aU rfl) ?_;refine ag (aJ (v:= .agg (au (kN ts k bits))) rfl rfl) ?_;refine ag (aJ (v:= .int .i64 (ky ts k bits)) rfl rfl) ?_;refine bl fun b7=>?_;refine xf rfl rfl ?_;refine ag (eI rfl) ?_;refine fc ?_;refine dR ?_;refine eE ?_;refine fe ?_;refine ag (aU rfl) ?_;refine ag (dz rfl rfl rfl) ?_;refine fc ?_;refine dR ?_;refine gn rfl (fun h0=>?_) (fun h0=>?_)
 ·
  try simp only[Z0,Z1,Z2,Z3,Z4,Z5,Z6,Z7,Z8,Z9]at h0
  refine eE ?_;refine fe ?_;refine ag (eI rfl) ?_;refine fc ?_;refine dR ?_;refine sN ?_;refine yT ?_;refine eV (.inl rfl) (y0 rfl (sO rfl)) (fun w1 hw=>?_);exact⟨Sv.none,rfl,trivial,by rw[lB,if_pos h0];exact(ai.mem hw:Mem w [] _).dA au 19⟩
 try simp only[Z0,Z1,Z2,Z3,Z4,Z5,Z6,Z7,Z8,Z9]at h0
 have hlen:ts.length<=256:=by apply atc;intro hn;exact h0 (by rw[ky,tA,J8 (by omega)];rfl)
 refine sM ?_;refine dR ?_;refine eE ?_;refine fe ?_;refine ag (eI rfl) ?_;refine fc ?_;refine dR ?_;refine eE ?_;refine eE ?_;refine fe ?_;refine ag (aU rfl) ?_;refine ag (qN rfl) ?_;refine ag (aU rfl) ?_;refine fc ?_;refine dR ?_;refine ud ?_;refine bR (X:=Nat×Sv) (fun zz=>[(23, .int .i64 (zz.1:Nat)),(9,zz.2.val),(2, .int .i64 bits),(4, .pointer (some ⟨b4,0,none⟩)),(21,t.val),(22, .int .i64 (ts.length:Nat))]) (fun zz=>[own au 19 zz.2 ((ts.take zz.1).filter (jY k bits)),aq b4 (bI k) 25]) (fun zz=>zz.1<=ts.length) (fun zz=>ts.length -zz.1) (0,Sv.none) (Nat.zero_le _) (Sub.cons rfl (Sub.cons rfl (Sub.cons rfl (Sub.cons rfl (Sub.cons rfl (Sub.cons rfl (Sub.nil _))))))) (fun w hw=>(ai.mem hw:Mem _ [aq b4 (bI k) 25] _).dA au 19) ?_;rintro⟨i,s1⟩ hi;dsimp only;simp only at hi;have eL:=List.length_filter_le (jY k bits) (ts.take i);have iT:=List.length_take (l:=ts) (i:=i);refine eE ?_;refine fe ?_;refine ag (dz rfl rfl rfl) ?_;refine fc ?_;refine dR ?_;refine eE ?_;refine gn rfl (fun h1=>?_) (fun h1=>?_)
 ·
  try simp only[Z0,Z1,Z2,Z3,Z4,Z5,Z6,Z7,Z8,Z9]at h1
  refine sM ?_;refine dR ?_;refine eE ?_;refine ud ?_;refine eE ?_;refine fe ?_;obtain⟨EY,OF⟩:=get_some (xs:=ts) (i:=i) (by omega);refine ag (aX rfl rfl i rfl (by omega)) ?_;refine ag (gQ rfl i OF rfl) ?_;refine bl fun nO=>?_;refine xf rfl rfl ?_;refine fc ?_;refine dR ?_;refine eE ?_;refine fe ?_;refine ag (aL (o':=0) rfl rfl) ?_;refine ag (aL (o':=0) rfl rfl) ?_;refine ag (bO rfl) ?_;refine ag (aU rfl) ?_;refine ag (dz rfl rfl rfl) ?_;refine ag (aU rfl) ?_;refine gG rfl rfl rfl (fun hg=>(Ry.yl (aL (o':=0) rfl rfl))) ?_;refine gG rfl rfl rfl (fun hg=>(Ry.yl (hK (az hg rfl)))) ?_;refine gG rfl rfl rfl (fun hg=>(Ry.yl (gE rfl))) ?_;refine gG rfl rfl rfl (fun hg=>cl (dy (az hg rfl) (dy (az hg rfl) gD)) trivial) ?_;refine ag (wV rfl rfl rfl) ?_;refine fc ?_;refine dR ?_;refine gn rfl (fun h2=>?_) (fun h2=>?_)
  ·
   try simp only[Z0,Z1,Z2,Z3,Z4,Z5,Z6,Z7,Z8,Z9]at h2
   have hy:jY k bits EY=true:=by simp only[jY,anc,decide_eq_true_eq];exact h2
   refine fe ?_;refine ag (aU rfl) ?_;refine ag (gE rfl) ?_;refine mc (enc:=au) (vals:=[_]) [EY] rfl rfl rfl (by decide) (by decide) fun qz=>?_;refine kV (s:=s1) (ys:=[EY]) rfl rfl (by decide) (fun w hw=>jN (s:=⟨false,qz,0,1,1,none⟩) Tryz.underlying22 (by decide) ((inferInstance:Hd _ _ ⟨false,qz,0,1,1,none⟩ au 19 [EY]).h w hw)) (by simp only[asZ,as0];omega) (by simp only[asZ,as0];omega) fun NQ ahH ahI=>?_;refine ag (eI rfl) ?_;refine fc ?_;refine vw ?_;refine dR ?_;refine fe ?_;refine ag (sK rfl rfl (by omega)) ?_;refine ag (aU rfl) ?_;refine fc ?_;exact bm (x:=(i,s1)) (i+1,NQ) (by simp only;omega) (by simp only;omega) (Sub.cons rfl (Sub.cons rfl (Sub.cons rfl (Sub.cons rfl (Sub.cons rfl (Sub.cons rfl (Sub.nil _))))))) (fun w hw=>by rw[Hz OF,if_pos hy];exact ai.mem hw)
  try simp only[Z0,Z1,Z2,Z3,Z4,Z5,Z6,Z7,Z8,Z9]at h2
  have hy: ¬jY k bits EY=true:=by simp only[jY,anc,decide_eq_true_eq];rintro⟨g1,g2⟩;rcases h2 with h|h;(exact h g1);(rw[g2]at h;cases h)
  refine sM ?_;refine vw ?_;refine dR ?_;refine fe ?_;refine ag (sK rfl rfl (by omega)) ?_;refine ag (aU rfl) ?_;refine fc ?_;exact bm (x:=(i,s1)) (i+1,s1) (by simp only;omega) (by simp only;omega) (Sub.cons rfl (Sub.cons rfl (Sub.cons rfl (Sub.cons rfl (Sub.cons rfl (Sub.cons rfl (Sub.nil _))))))) (fun w hw=>by rw[Hz OF,if_neg hy,atK];exact ai.mem hw)
 try simp only[Z0,Z1,Z2,Z3,Z4,Z5,Z6,Z7,Z8,Z9]at h1
 obtain rfl:i=ts.length:=by omega
 refine CQ ?_;refine xh ?_;refine xh ?_;refine CS ?_;refine dR ?_;refine eE ?_;refine fe ?_;refine ag (aU rfl) ?_;refine ag (eI rfl) ?_;refine fc ?_;refine dR ?_;refine sN ?_;refine eV (.inl rfl) (y0 rfl (sO rfl)) (fun w1 hw=>?_);exact⟨s1,rfl,trivial,by rw[lB,if_neg h0,mF];rw[atr]at hw;exact ai.mem hw⟩
instance asQ{t:Sv}{ts:List Rt}{k:Key}{bits:Int}[ht:cP w0 L au 19 t ts]:bQ Tryz.prog 28 w0 L [t.val, .agg (bI k), .int .i64 bits] (Sv) (fun zz=>zz.val) (fun zz=>own au 19 zz (lB ts k bits)::L) (fun zz=>True) (True):=⟨fun hp w hw=>(ajv w t ts k bits (ht.h w hw)).mono fun e w' ⟨x,h1,h2,h3⟩=>⟨x,h1,h2,hw.call h3⟩⟩
theorem ajw(w:World)(t:Sv)(ts:List Rt)(ht:dJ au 19 (hp w) t ts)(aF:ts.length<=1000000):Calls Tryz.prog 26 #[t.val] w fun e w'=> ∃zz:Sv,e= .returned (zz.val)/\(True)/\Mem w [own au 19 zz (uT ts)] w':=by
 have oH:Gv w t au 19 ts:=⟨ht⟩;refine rL (args:=[_]) Tryz.func26 rfl Tryz.ntmps26 rfl ?_;change Cw _ _ _ _ _ [(0,t.val)] [];refine eE ?_;refine fe ?_;refine ag (eI rfl) ?_;refine fc ?_;refine dR ?_;refine eE ?_;refine eE ?_;refine fe ?_;refine ag (aU rfl) ?_;refine eC (cl rfl trivial) ?_;refine ag (jM rfl) ?_;refine fc ?_;refine dR ?_;refine gn rfl (fun h0=>?_) (fun h0=>?_)
 ·
  try simp only[Z0,Z1,Z2,Z3,Z4,Z5,Z6,Z7,Z8,Z9]at h0
  refine eE ?_;refine fe ?_;refine ag (aU rfl) ?_;refine bj rfl aF fun yt UM=>?_;refine ag (eI rfl) ?_;refine fc ?_;refine dR ?_;refine sN ?_;refine yT ?_;refine eV (.inl rfl) (y0 rfl (sO rfl)) (fun w1 hw=>?_);exact⟨yt,rfl,trivial,by rw[uT,if_neg (by rw[h0];simp)];exact ai.mem hw⟩
 try simp only[Z0,Z1,Z2,Z3,Z4,Z5,Z6,Z7,Z8,Z9]at h0
 have bD:br ts=true:=h0;have hlen:=uB bD;have F5:=kz bD;refine sM ?_;refine dR ?_;refine eE ?_;refine fe ?_;refine ag (eI rfl) ?_;refine fc ?_;refine dR ?_;refine eE ?_;refine eE ?_;refine fe ?_;refine ag (aU rfl) ?_;refine ag (qN rfl) ?_;refine ag (aU rfl) ?_;refine fc ?_;refine dR ?_;refine ud ?_;refine bR (X:=Nat×Sv) (fun zz=>[(15, .int .i64 (zz.1:Nat)),(3,zz.2.val),(0,t.val),(13,t.val),(14, .int .i64 (ts.length:Nat))]) (fun zz=>[own au 19 zz.2 ((ts.take zz.1).filter (uR ts))]) (fun zz=>zz.1<=ts.length) (fun zz=>ts.length -zz.1) (0,Sv.none) (Nat.zero_le _) (Sub.cons rfl (Sub.cons rfl (Sub.cons rfl (Sub.cons rfl (Sub.cons rfl (Sub.nil _)))))) (fun w hw=>(ai.mem hw:Mem _ [] _).dA au 19) ?_;rintro⟨i,s1⟩ hi;dsimp only;simp only at hi;have eL:=List.length_filter_le (uR ts) (ts.take i);have iT:=List.length_take (l:=ts) (i:=i);refine eE ?_;refine fe ?_;refine ag (dz rfl rfl rfl) ?_;refine fc ?_;refine dR ?_;refine eE ?_;refine gn rfl (fun h1=>?_) (fun h1=>?_)
 ·
  try simp only[Z0,Z1,Z2,Z3,Z4,Z5,Z6,Z7,Z8,Z9]at h1
  refine sM ?_;refine dR ?_;refine eE ?_;refine ud ?_;refine eE ?_;refine fe ?_;obtain⟨wQ,OG⟩:=get_some (xs:=ts) (i:=i) (by omega);refine ag (aX rfl rfl i rfl (by omega)) ?_;refine ag (gQ rfl i OG rfl) ?_;refine bl fun b5=>?_;refine xf rfl rfl ?_;refine fc ?_;refine dR ?_;refine eE ?_;refine fe ?_;refine ag (aU rfl) ?_;refine ag (aL (o':=0) rfl rfl) ?_;refine ag (hK rfl) ?_;refine eC (cl rfl trivial) ?_;refine ag (aU rfl) ?_;refine ag (aJ (v:= .agg (au ((lA ts wQ.p).getD cI))) rfl rfl) ?_;refine ag (aJ (v:= .bool ((lA ts wQ.p).isSome)) rfl rfl) ?_;refine bl fun b6=>?_;refine xf rfl rfl ?_;refine ag (eI rfl) ?_;refine fc ?_;refine dR ?_;refine eE ?_;refine fe ?_;refine ag (aU rfl) ?_;refine ag (jM rfl) ?_;refine ag (aU rfl) ?_;refine bn rfl rfl rfl (fun hg=>(Ry.yl (aL (o':=18) rfl rfl))) ?_;refine bn rfl rfl rfl (fun hg=>(Ry.yl (bO (az hg rfl)))) ?_;refine bn rfl rfl rfl (fun hg=>(Ry.yl (aL (o':=18) rfl rfl))) ?_;refine bn rfl rfl rfl (fun hg=>(Ry.yl (bO (az hg rfl)))) ?_;refine bn rfl rfl rfl (fun hg=>(Ry.yl (dz (az hg rfl) (az hg rfl) rfl))) ?_;refine ag (wW rfl rfl rfl) ?_;refine fc ?_;refine dR ?_;refine gn rfl (fun h2=>?_) (fun h2=>?_)
  ·
   try simp only[Z0,Z1,Z2,Z3,Z4,Z5,Z6,Z7,Z8,Z9]at h2
   have hy:uR ts wQ=true:=by unfold uR;cases ho:lA ts wQ.p with|none=>rfl|some o=>rw[ho]at h2;simp only[Option.isSome_some,auT]at h2;simp only[at0,decide_eq_false_iff_not];rintro g;rcases h2 with h|h;(cases h);(exact h (by rw[g]))
   refine fe ?_;refine ag (aU rfl) ?_;refine ag (gE rfl) ?_;refine mc (enc:=au) (vals:=[_]) [wQ] rfl rfl rfl (by decide) (by decide) fun Ey=>?_;refine kV (s:=s1) (ys:=[wQ]) rfl rfl (by decide) (fun w hw=>jN (s:=⟨false,Ey,0,1,1,none⟩) Tryz.underlying22 (by decide) ((inferInstance:Hd _ _ ⟨false,Ey,0,1,1,none⟩ au 19 [wQ]).h w hw)) (by simp only[asZ,as0];omega) (by simp only[asZ,as0];omega) fun Cc Il Im=>?_;refine ag (eI rfl) ?_;refine fc ?_;refine vw ?_;refine dR ?_;refine fe ?_;refine ag (sK rfl rfl (by omega)) ?_;refine ag (aU rfl) ?_;refine fc ?_;exact bm (x:=(i,s1)) (i+1,Cc) (by simp only;omega) (by simp only;omega) (Sub.cons rfl (Sub.cons rfl (Sub.cons rfl (Sub.cons rfl (Sub.cons rfl (Sub.nil _)))))) (fun w hw=>by rw[Hz OG,if_pos hy];exact ai.mem hw)
  try simp only[Z0,Z1,Z2,Z3,Z4,Z5,Z6,Z7,Z8,Z9]at h2
  have hy: ¬uR ts wQ=true:=by unfold uR;cases ho:lA ts wQ.p with|none=>rw[ho]at h2;cases h2.1|some o=>rw[ho]at h2;simp only[Option.isSome_some,auT]at h2;simp only[at0,decide_eq_false_iff_not,Classical.not_not];exact UInt16.toNat.inj (by omega)
  refine sM ?_;refine vw ?_;refine dR ?_;refine fe ?_;refine ag (sK rfl rfl (by omega)) ?_;refine ag (aU rfl) ?_;refine fc ?_;exact bm (x:=(i,s1)) (i+1,s1) (by simp only;omega) (by simp only;omega) (Sub.cons rfl (Sub.cons rfl (Sub.cons rfl (Sub.cons rfl (Sub.cons rfl (Sub.nil _)))))) (fun w hw=>by rw[Hz OG,if_neg hy,atK];exact ai.mem hw)
 try simp only[Z0,Z1,Z2,Z3,Z4,Z5,Z6,Z7,Z8,Z9]at h1
 obtain rfl:i=ts.length:=by omega
 refine CQ ?_;refine xh ?_;refine xh ?_;refine CS ?_;refine dR ?_;refine eE ?_;refine fe ?_;refine ag (aU rfl) ?_;refine ag (eI rfl) ?_;refine fc ?_;refine dR ?_;refine sN ?_;refine eV (.inl rfl) (y0 rfl (sO rfl)) (fun w1 hw=>?_);exact⟨s1,rfl,trivial,by rw[uT,if_pos bD,we];rw[atr]at hw;exact ai.mem hw⟩
instance asR{t:Sv}{ts:List Rt}[ht:cP w0 L au 19 t ts]:bQ Tryz.prog 26 w0 L [t.val] (Sv) (fun zz=>zz.val) (fun zz=>own au 19 zz (uT ts)::L) (fun zz=>True) (ts.length<=1000000):=⟨fun hp w hw=>(ajw w t ts (ht.h w hw) hp).mono fun e w' ⟨x,h1,h2,h3⟩=>⟨x,h1,h2,hw.call h3⟩⟩
open Go.RowKit
theorem ajx(w:World)[tb:rQ w](b:UInt8)(p:UInt8)(t:Sv)(ts:List Rt)(k:Key)(bits:Int)(ht:dJ au 19 (hp w) t ts):Calls Tryz.prog 5 #[.int .u8 (b.toNat:Nat), .int .u8 (p.toNat:Nat),t.val, .agg (bI k), .int .i64 bits] w fun e w'=>e= .returned (.bool true)/\Mem w [] w':=by
 have oH:Gv w t au 19 ts:=⟨ht⟩;have hM:zP ((b.toNat:Int)%7+5) ((p.toNat:Int)%7+2) 64=tW (b.toNat%7) (p.toNat%7):=by unfold tW;rw[Int.natCast_emod,Int.natCast_emod];rfl
 refine Gl5 Tryz.func5 rfl Tryz.ntmps5 rfl ?_;refine Gc ?_;refine bN rfl fun b8=>aN ?_;refine gn rfl (fun h0=>?_) (fun h0=>?_)
 ·
  exfalso;simp at h0
 replace h0:=bz h0;refine ba ?_;refine bn rfl rfl rfl (fun hg=>cl (dy (az hg rfl) gD) trivial) (bn rfl rfl rfl (fun hg=>(Ry.yl (jM (az hg rfl)))) (aA ?_));refine Gb (fun h1=>?_) fun h1=>?_
 ·
  refine al ?_;refine Gr fun w1 hw=>?_;exact⟨rfl,ai.mem hw⟩
 have hr:br ts=true:=by simpa using h1.2
 have hlen:ts.length<=60:=by omega
 have vb:uT ts=we ts:=if_pos hr;have B4:br (uT ts)=true:=by rw[vb];exact NB hr
 have oq:(uT ts).length<=ts.length:=by rw[vb];exact(BC ts).length_le
 obtain⟨rn,mC⟩:=ag0 (k:=k) (bits:=bits) hr;rw[←vb]at rn mC;obtain⟨c1,c2,c3⟩:=ajo (k:=k) (bits:=bits) hr;refine av ?_;refine bj rfl oM fun iB u7=>Gs ?_;refine ag (aJ (v:= .agg (dx iB)) rfl rfl) (ag (aJ (v:= .bool (vj (b.toNat%7) (p.toNat%7) ts)) rfl rfl) (bl fun nO=>ba ?_));refine Gb (fun h2=>?_) fun h2=>?_
 ·
  have Ox:tW (b.toNat%7) (p.toNat%7)<(ts.length:Int):=by
   apply atc;intro hn;have:=EX.2 ⟨hr,show(ts.length:Int)<=tW (b.toNat%7) (p.toNat%7) by omega⟩;rw[this]at h2;cases h2
  refine av ?_;refine ag (xn (p:=b.toNat) (q:=7) rfl rfl rfl rfl oM) (ag (kE rfl (by simp only[nb];omega)) (aA ?_));refine ag (xn (p:=p.toNat) (q:=7) rfl rfl rfl rfl oM) (ag (kE rfl (by simp only[nb];omega)) (aN ?_));refine Gr fun w1 hw=>?_;exact Ge ((by simp[hM,Ox])) hw
 obtain⟨r1,r2,r3⟩:=u7 h2;have nf:vj (b.toNat%7) (p.toNat%7) (uT ts)=true:=EX.2 ⟨B4,by have:=(EX.1 h2).2;omega⟩;have f1:=(r1.fb.IW k bits).1;have f2:=(r1.fb.IW k bits).2;rw[show(ca iB).table=ts from r2]at f1 f2;refine av ?_;refine bj rfl oM fun ru Nn=>bj rfl oM fun wD Ei=>?_;obtain⟨q1,q2,q3⟩:=Ei nf;have g1:=(q1.fb.IW k bits).1;have g2:=(q1.fb.IW k bits).2;rw[show(ca wD).table=uT ts from q2]at g1 g2;refine Gs ?_;refine ag (aJ (v:= .agg (dx wD)) rfl rfl) (ag (aJ (v:= .bool (vj (b.toNat%7) (p.toNat%7) (uT ts))) rfl rfl) (bl fun jZ=>fk ?_));refine ag (aJ (v:= .agg (au (zQ (ca iB) k bits))) rfl rfl) (ag (aJ (v:= .int .i64 (zR (ca iB) k bits)) rfl rfl) (bl fun UF=>fk ?_));refine ag (aJ (v:= .agg (au (zQ (ca wD) k bits))) rfl rfl) (ag (aJ (v:= .int .i64 (zR (ca wD) k bits)) rfl rfl) (bl fun b17=>ba ?_));refine bj rfl trivial fun H3 H4=>aA ?_;refine gm oK oK (QD ?_);refine fO rfl rfl rfl (fun hg=>(Ry.yl (O3 (az hg rfl) (az hg rfl) Tryz.underlying4))) (av ?_);refine fO rfl rfl rfl (fun hg=>(Ry.yl (aU (az hg rfl)))) (sL rfl rfl rfl (fun hg=>(Ry.yl (aU rfl))) (sL rfl rfl rfl (fun hg=>(Ry.yl (aU rfl))) (sL rfl rfl rfl (fun hg=>(Ry.yl (qN (az hg rfl)))) (sL rfl rfl rfl (fun hg=>(Ry.yl (vr (az hg rfl) rfl (by simp only[Z0,Z1,Z2,Z3,Z4,Z5,Z6,Z7,Z8,Z9]at hg;omega)))) (sL rfl rfl rfl (fun hg=>(Ry.yl (aX (az hg rfl) (az hg rfl) (((((lB ts k bits).length:Int) -1)).toNat) (by simp only[Z0,Z1,Z2,Z3,Z4,Z5,Z6,Z7,Z8,Z9]at hg;omega) (by simp only[Z0,Z1,Z2,Z3,Z4,Z5,Z6,Z7,Z8,Z9]at hg;omega)))) (sL rfl rfl rfl (fun hg=>(Ry.yl (gQ (az hg rfl) (((((lB ts k bits).length:Int) -1)).toNat) (mN (xs:=lB ts k bits) (i:=((((lB ts k bits).length:Int) -1)).toNat) (d:=cI) (by simp only[Z0,Z1,Z2,Z3,Z4,Z5,Z6,Z7,Z8,Z9]at hg;omega)) rfl))) (sL rfl rfl rfl (fun hg=>(Ry.yl (gE rfl))) (sL rfl rfl rfl (fun hg=>(Ry.yl (Jo (az hg rfl) (az hg rfl)))) (fO rfl rfl rfl (fun hg=>(Ry.yl (wW (az hg rfl) rfl (xe hg rfl)))) (al ?_))))))))));refine Gr fun w1 hw=>?_;exact⟨congrArg (fun b=>Ending.returned (Value.bool b)) ((by
  rw[nf,f1,f2,g1,g2,rn,mC]
  by_cases he:ky ts k bits=0
  ·
   have hl: ¬(lB ts k bits).length=0:=fun h=>(c1.1 h) he;have hg:(lB ts k bits).getD (((lB ts k bits).length:Int) -1).toNat cI=kN ts k bits:=by
    rw[show(((lB ts k bits).length:Int) -1).toNat=(lB ts k bits).length -1 by omega];simp[List.getD,c2 he]
   have hp:(0:Int)<((lB ts k bits).length:Int):=by omega
   rw[hg,decide_eq_true hp];simp[he]
  have hl:(lB ts k bits).length=0:=c1.2 he;simp[he,hl])),ai.mem hw⟩
end Go.Proofs.YtkggjjnhnjjokaaGreatDoor
namespace Go.ax
open Go.ChangeShapes Go.WideShapes Go.ChangeAt Go.RowKit Go.Kb
variable {H:Type} {enc:TypeId×Value->H} {P:Program}
theorem XH(hl:laidOutB P=true){W W':World}{sp:Nat->Bool}: ∀{ts:List TypeId} {vs:List Value} {ds:List (DataW H)} {ps:List MemPlace},
  (∀t∈ts,P.readableRec t=true/\t<P.types.size)->DataW.TrodAll enc P W 0 (fun _=>true) true ts vs ds ps->(∀p∈ps,W.sameAt W' p)->(∀p∈ps,sp p.block=true)->
  DataW.TrodAll enc P W' 0 sp true ts vs ds ps
 |[],_,_,_,_,h,_,_=>by
  obtain⟨rfl,rfl,rfl⟩:=trodAll_nil h;exact rfl
 |t::_,_,_,_,ht,h,hs,hp=>by
  obtain⟨v,XI,d,XJ,a,b,rfl,rfl,rfl,h1,h2⟩:=trodAll_cons h;exact⟨a,b,WideElems.Trod_stays hl (ht t (by simp)).1 (ht t (by simp)).2 h1 (fun p h=>hs p (by simp[h])) (fun p h=>hp p (by simp[h])),
   XH hl (fun t h=>ht t (by simp[h])) h2 (fun p h=>hs p (by simp[h])) (fun p h=>hp p (by simp[h])),rfl⟩
theorem OH{W:World}{b:Nat}{sp:Nat->Bool}{hd:Bool}: ∀{ts:List TypeId} {vs:List Value} {ds:List (DataW H)} {ps:List MemPlace},
  DataW.TrodAll enc P W b sp hd ts vs ds ps->vs.length=ts.length/\ds.length=ts.length
 |[],_,_,_,h=>by
  obtain⟨rfl,rfl,rfl⟩:=trodAll_nil h;exact⟨rfl,rfl⟩
 |_::_,_,_,_,h=>by
  obtain⟨v,XI,d,XJ,a,b,rfl,rfl,rfl,h1,h2⟩:=trodAll_cons h;have:=OH h2;simp[this.1,this.2]
theorem ajy(hl:laidOutB P=true){f:Func}{s:ChangeSpec}{apart fresh handsOn:Bool}{W W':World}{args:Array Value}{ds gs:List (DataW H)}{before:List MemPlace}{tb:TypeId}
  (hp:f.params.toList.all (fun t=>P.readableRec t&&decide (t<P.types.size))=true) (hr:f.resultTypes= #[tb]) (hb:P.underlying tb=some .bool) (hv:s.vars=[])
  (EZ: ∀ds:List (DataW H),ds.length=f.params.size->s.fn H ds={results:=[.lit (.bool true)],args:=ds})
  (hW:DataW.Whole enc P f.params.toList s.vars apart W args.toList ds gs before) (XK:Below W.heap.size W W'):
  s.post enc P f apart fresh handsOn false W args (.bool true) W':=by
 have bc:=hW.lt;have hW0:=hW;obtain⟨p,q,hA,hV,rfl,nB,cA⟩:=hW;rw[hv]at hV;obtain⟨rfl,rfl⟩:=trodVars_none hV;have hlen:=OH hA;have e1:s.fn H (ds++[])={results:=[.lit (.bool true)],args:=ds}:=by rw[atK];exact EZ ds (by rw[hlen.2];simp)
 have mV: ∀t∈f.params.toList,P.readableRec t=true/\t<P.types.size:=fun t ht=>by
  simpa using atk.1 hp t ht
 refine⟨ds,[],p++[],[],p,[],hW0,?_,?_,?_,XK.frame _,fun h=>by cases h⟩
 ·
  rw[e1,hr];exact trodAll_mk1 (shut_bool hb true)
 ·
  rw[e1];exact XH hl mV hA (fun x hx=>XK.same (bc x (by simp[hx]))) (fun x hx=>by simpa using bc x (by simp[hx]))
 ·
  rw[e1,hv];exact rfl
theorem ajz{w:World}{b:Nat}{e:TypeId}{v:Value}(he:P.underlying e=some (.int .u8))(h:Cell.okWide P w .any b e v): ∃n:Nat,n<256/\v= .int .u8 n:=by
 cases v with
 |int k n=>
  simp only[Cell.okWide,he,Cell.ok,IntKind.has]at h;obtain⟨rfl,h1,h2⟩:=h;have a1:(0:Int)<=n:=h1;have a2:n<=(255:Int):=h2;exact⟨n.toNat,by omega,by rw[aub a1]⟩
 |_=>simp[Cell.okWide,he,Cell.ok]at h
theorem ajA{w:World}{b:Nat}{e:TypeId}{v:Value}(he:P.underlying e=some (.int .i64))(h:Cell.okWide P w .any b e v): ∃n:Int,v= .int .i64 n/\ -2^63<=n/\n<2^63:=by
 cases v with
 |int k n=>
  simp only[Cell.okWide,he,Cell.ok,IntKind.has]at h;obtain⟨rfl,h1,h2⟩:=h;have a1:(-2^63:Int)<=n:=h1;have a2:n<=(2^63 -1:Int):=h2;exact⟨n,rfl,a1,by omega⟩
 |_=>simp[Cell.okWide,he,Cell.ok]at h
theorem ajB{w:World}{b:Nat}{t:TypeId}{v:Value}(he:P.underlying t=some (.int .i64))(h:Value.okWide P w .any b t v): ∃n:Int,v= .int .i64 n/\ -2^63<=n/\n<2^63:=by
 unfold Value.okWide at h;rw[he]at h;exact ajA he h
theorem ajC{w:World}{b:Nat}{t:TypeId}{v:Value}(he:P.underlying t=some (.int .u8))(h:Value.okWide P w .any b t v): ∃n:Nat,n<256/\v= .int .u8 n:=by
 unfold Value.okWide at h;rw[he]at h;exact ajz he h
theorem XL{α:Type}{l:List α}(h:l.length=5): ∃a b c d e,l=[a,b,c,d,e]:=match l,h with|[a,b,c,d,e],_=>⟨a,b,c,d,e,rfl⟩
theorem XM{w:World}{b:Nat}{t:TypeId}{v:Value}(he:P.underlying t=some (.int .u8))(h:Value.okWide P w .any b t v): ∃n:UInt8,v= .int .u8 n.toNat:=by
 obtain⟨n,hn,rfl⟩:=ajC he h;exact⟨UInt8.ofNat n,by simp;omega⟩
variable {P:Program}
theorem OI{α:Type}{p:Nat->α->Prop}: ∀{n:Nat},(∀i,i<n-> ∃x,p i x)-> ∃l:List α,l.length=n/\ ∀i x,l[i]? =some x->p i x
 |0,_=>⟨[],rfl,fun i x h=>by simp at h⟩
 |n+1,h=>by
  obtain⟨l,hl,hp⟩:=OI (n:=n) fun i hi=>h i (by omega);obtain⟨x,hx⟩:=h n (by omega);refine⟨l++[x],by simp[hl],fun i y hy=>?_⟩
  by_cases hi:i<n
  ·
   rw[atb (by omega)]at hy;exact hp i y hy
  have:i=n:=by
   have:=(ad2.1 hy).1;rw[af0,hl]at this;simp at this;omega
  subst this;rw[ata (by omega),hl]at hy;have:x=y:=by simpa using hy
  exact this▸hx
class nv(P:Program)(t:TypeId)(τ:Type)[Deep τ]:Prop where
 sz:P.cellsOf t=Deep.c τ
 h: ∀{H:Type} {enc:TypeId×Value->H} {w:World} {fuel:Nat} {cs:List Value} {d:DataW H} {ps:List MemPlace},DataW.trod enc P w 0 (fun _=>true) true fuel t cs=some (d,ps)->(∀n∈d.weights P t,n<=reachBytes)->
  ∃x:τ,(Deep.cells x).toList=cs/\Deep.cM (hp w) x
theorem ajD{w:World}{b:Nat}{a:Addr}{n:Nat}{cs:List Value}(h:w.cells? b a n=some cs):cs.length=n/\ ∀j,j<n->w.cell? (a.add j)=cs[j]? :=by
 unfold World.cells? at h;split at h
 ·
  have hl:=mapM_some_length h;refine⟨by simpa using hl,fun j hj=>?_⟩;exact mapM_some_get h j j (by simp[hj])
 cases h
theorem OJ{H:Type}{e:TypeId}{n:Nat}: ∀{l:List (DataW H)} {d:DataW H},d∈l->n∈d.weights P e->n∈DataW.weightsAll P e l
 |x::l,d,hd,hn=>by
  rw[DataW.weightsAll];rcases as2.1 hd with rfl|hd
  ·
   exact atA _ hn
  exact aur _ (OJ hd hn)
theorem OK{H:Type}{n:Nat}: ∀{ts:List TypeId} {l:List (DataW H)} {i:Nat} {t:TypeId} {d:DataW H},ts[i]? =some t->l[i]? =some d->n∈d.weights P t->n∈DataW.weightsEach P ts l
 |[],_,i,_,_,h,_,_=>by simp at h
 |_::_,[],i,_,_,_,h,_=>by simp at h
 |t0::ts,d0::l,0,t,d,ht,hd,hn=>by
  obtain rfl:t0=t:=by simpa using ht
  obtain rfl:d0=d:=by simpa using hd
  rw[DataW.weightsEach];exact atA _ hn
 |t0::ts,d0::l,i+1,t,d,ht,hd,hn=>by
  rw[DataW.weightsEach];exact aur _ (OK (i:=i) (by simpa using ht) (by simpa using hd) hn)
theorem ajE:reachBytes<=140737488355328:=by decide
theorem AK{t e:TypeId}{τ:Type}[Deep τ](hu:P.underlying t=some (.slice e))(cN:Nat.ble 1 (P.bytesOf e)=true)(hc:1<=Deep.c τ)(hs:P.cellsOf t=1)[o:nv P e τ]:nv P t (Sl τ):=⟨hs,fun{H enc w fuel cs d ps} h hw=>by
 have hb:1<=P.bytesOf e:=Nat.le_of_ble_eq_true cN;rcases Go.Deep.open_slice hu h with⟨rfl,_⟩|⟨a,len,cap,m,n,D,Pl,rfl,_,hl,_,hm,hx,F2⟩
 ·
  exact⟨⟨Sv.none,[]⟩,rfl,xp⟩
 simp only[if_true]at hm;subst hm;have hd:d= .slice ((List.range len).map D) ((List.range (m -len)).map fun j=>D (len+j)):=congrArg Prod.fst hx;subst hd;simp only[DataW.weights,hu,atL,av0]at hw;have yV:m<=140737488355328:=by
  have h1:=hw _ (as5 ..);have h2:(len+(m -len))*1<=(len+(m -len))*P.bytesOf e:=Nat.mul_le_mul_left _ hb;have:=ajE;omega
 have XN: ∀i,i<m-> ∃cs',(cs'.length=Deep.c τ/\ ∀j,j<Deep.c τ->w.cell? ((a.add (i*Deep.c τ)).add j)=cs'[j]?)/\DataW.trod enc P w 0 (fun _=>true) true n e cs'=some (D i,Pl i):=fun i hi=>by
  obtain⟨cs',h1,h2⟩:=F2 i hi;rw[o.sz]at h1;exact⟨cs',ajD h1,h2⟩
 have XO:0<m->a.spot=none:=fun hm=>by
  obtain⟨cs',⟨h1,h2⟩,_⟩:=XN 0 hm;have h3:=h2 0 (by omega);have e0:(a.add (0*Deep.c τ)).add 0=a:=by simp[Addr.add]
  rw[e0,as1 (by omega)]at h3;unfold World.cell? at h3;split at h3
  ·
   split at h3
   ·
    cases h3
   rename_i hs;simpa using hs
  cases h3
 obtain⟨l,oq,Ja⟩:=OI (p:=fun i (x:τ)=>(∀j,j<Deep.c τ->w.cell? ((a.add (i*Deep.c τ)).add j)=(Deep.cells x)[j]?)/\Deep.cM (hp w) x) (n:=len) fun i hi=>by
  obtain⟨cs',⟨h1,h2⟩,h3⟩:=XN i (by omega);obtain⟨x,pE,gV⟩:=o.h h3 (fun k hk=>hw k (atd _ (atA _ (OJ (at7.2 ⟨i,aty.2 hi,rfl⟩) hk))));refine⟨x,fun j hj=>?_,gV⟩;rw[h2 j hj,←pE];simp
 refine⟨⟨⟨false,a.block,a.off,len,m,a.spot⟩,l⟩,rfl,⟨⟨(fun h=>by cases h),hl,by simp only;omega,XO⟩,by simp[oq],fun i x hi j hj=>?_⟩,fun x hx=>?_⟩
 ·
  have dL:i<len:=by rw[←oq];exact(ad2.1 hi).1
  have h1:=(Ja i x hi).1 j hj;have hs:=XO (by omega);have ea:(a.add (i*Deep.c τ)).add j=⟨a.block,a.off+i*Deep.c τ+j,none⟩:=by
   obtain⟨ab,ao,asp⟩:=a;simp only at hs;subst hs;rw[Addr.ie,Addr.ie]
  rw[ea,uf]at h1;exact h1
 obtain⟨i,hi⟩:=ato hx;exact(Ja i x hi).2⟩
theorem E3{H:Type}{enc:TypeId×Value->H}{w:World}{fuel:Nat}{t:TypeId}{cs:List Value}{d:DataW H}{ps:List MemPlace}{fs:Array Field}(hu:P.underlying t=some (.struct fs))(h:DataW.trod enc P w 0 (fun _=>true) true fuel t cs=some (d,ps))(hw: ∀n∈d.weights P t,n<=reachBytes)
  {i tf off:Nat} (nW:(fs[i]?).map (fun f=>(f.type,f.offset))=some (tf,off)) (τ:Type) [Deep τ] [o:nv P tf τ]:cs.length=P.cellsOf t/\ ∃x:τ,(Deep.cells x).toList=(cs.drop off).take (Deep.c τ)/\Deep.cM (hp w) x:=by
 obtain⟨f,hf,e⟩:=au6.1 nW;obtain⟨rfl,rfl⟩:=Prod.mk.inj e;obtain⟨xs,n,_,hx,hl,hlen,hg⟩:=DataW.trod_struct hu h;have h1:=hg i f hf;have hi:i<xs.length:=by rw[hlen];exact(auC.1 hf).1
 rw[as1 hi,o.sz]at h1;have hd:d= .agg (xs.map (·.1)):=congrArg Prod.fst hx;subst hd;obtain⟨x,pE,gV⟩:=o.h (d:=xs[i].1) (ps:=xs[i].2) h1 (fun k hk=>hw k (by
  simp only[DataW.weights,hu];exact OK (i:=i) (t:=f.type) (d:=xs[i].1) (by
   have:fs.toList[i]? =some f:=by simpa using hf
   rw[atg,this];rfl) (by simp[hi]) hk))
 exact⟨hl,x,pE,gV⟩
theorem ajF{H:Type}{enc:TypeId×Value->H}{w:World}{fuel:Nat}{t e:TypeId}{m:Nat}{cs:List Value}{d:DataW H}{ps:List MemPlace}(hu:P.underlying t=some (.array m e))(h:DataW.trod enc P w 0 (fun _=>true) true fuel t cs=some (d,ps))(hw: ∀n∈d.weights P t,n<=reachBytes)
  (τ:Type) [Deep τ] [o:nv P e τ]:cs.length=P.cellsOf t/\ ∀i,i<m-> ∃x:τ,(Deep.cells x).toList=(cs.drop (i*Deep.c τ)).take (Deep.c τ)/\Deep.cM (hp w) x:=by
 cases fuel with
 |zero=>simp[DataW.trod]at h
 |succ n=>
  unfold DataW.trod at h;rw[hu]at h;split at h<;>simp_all
  rename_i m' e' heq;obtain⟨hl,xs,fG,hd⟩:=h;obtain⟨rfl,rfl⟩:=heq;intro i hi;have hlen:=mapM_some_length fG;have nR:i<xs.length:=by simpa[hlen]using hi
  have h1:=mapM_some_get fG i i (by simp[hi]);rw[as1 nR,o.sz]at h1;obtain⟨rfl,-⟩:=hd;exact o.h (d:=xs[i].1) (ps:=xs[i].2) h1 (fun k hk=>hw k (by
   simp only[DataW.weights,hu];exact OJ (atp (auS nR)) hk))
theorem XP{α:Type}{cs:List α}{a b:Nat}(h:cs.length=a+b):(cs.drop 0).take a++(cs.drop a).take b=cs:=by
 rw[auu,ath (l:=cs.drop a) (by rw[as9];omega),atz]
theorem ajG{α:Type}{cs:List α}{a b c:Nat}(h:cs.length=a+b+c):(cs.drop 0).take a++(cs.drop a).take b++(cs.drop (a+b)).take c=cs:=by
 have h1:=XP (cs:=cs) (a:=a+b) (b:=c) (by omega)
 conv=>rhs;rw[←h1]
 congr 1;rw[auu,List.take_add]
def OL(n:Int):Array Value:= #[.int .i64 n]
instance:bu OL 1:=⟨fun _=>rfl,fun _=>by simp[OL,Value.oneCell']⟩
instance:Deep Int:=Deep.flat OL 1
def E4(n:UInt16):Array Value:= #[.int .u16 n.toNat]
instance:bu E4 1:=⟨fun _=>rfl,fun _=>by simp[E4,Value.oneCell']⟩
instance:Deep UInt16:=Deep.flat E4 1
theorem ajH{t:TypeId}(hu:P.underlying t=some (.int .i64))(hs:P.cellsOf t=1):nv P t Int:=⟨hs,fun h _=>by
 obtain⟨n,rfl,_,_⟩:=DataW.trod_int hu h;exact⟨n,rfl,trivial⟩⟩
theorem ajI{t:TypeId}(hu:P.underlying t=some (.int .u8))(hs:P.cellsOf t=1):nv P t UInt8:=⟨hs,fun h _=>by
 obtain⟨n,rfl,_,hw⟩:=DataW.trod_int hu h;simp only[Lit.wf,anc,decide_eq_true_eq]at hw;have h1:(0:Int)<=n:=hw.1;have h2:n<=(255:Int):=hw.2;refine⟨UInt8.ofNat n.toNat,?_,trivial⟩;have:((UInt8.ofNat n.toNat).toNat:Int)=n:=by simp;omega
 show(aQ (UInt8.ofNat n.toNat)).toList=_;simp only[aQ,this]⟩
theorem ajJ{t:TypeId}(hu:P.underlying t=some (.int .u16))(hs:P.cellsOf t=1):nv P t UInt16:=⟨hs,fun h _=>by
 obtain⟨n,rfl,_,hw⟩:=DataW.trod_int hu h;simp only[Lit.wf,anc,decide_eq_true_eq]at hw;have h1:(0:Int)<=n:=hw.1;have h2:n<=(65535:Int):=hw.2;refine⟨UInt16.ofNat n.toNat,?_,trivial⟩;have:((UInt16.ofNat n.toNat).toNat:Int)=n:=by simp;omega
 show(E4 (UInt16.ofNat n.toNat)).toList=_;simp only[E4,this]⟩
theorem ajK{H:Type}{enc:TypeId×Value->H}{w:World}{b:Nat}{t e:TypeId}{τ:Type}[Deep τ][o:nv P t (Sl τ)](hu:P.underlying t=some (.slice e)){v:Value}{d:DataW H}{ps:List MemPlace}(hv:Value.okWide P w .any b t v)(h:DataW.Trod enc P w 0 (fun _=>true) true t v d ps)(hw: ∀n∈d.weights P t,n<=reachBytes):
  ∃x:Sl τ,v=x.sv.val/\Deep.cM (hp w) x:=by
 obtain⟨fuel,h⟩:=h;obtain⟨x,h1,h2⟩:=o.h h hw;refine⟨x,?_,h2⟩;have hc:v.cells= #[v]:=by
  unfold Value.okWide at hv;rw[hu]at hv;unfold Cell.okWide at hv;rw[hu]at hv
  cases v<;>simp_all[Cell.ok,Value.cells]
 rw[hc]at h1;have:[x.sv.val]=[v]:=h1;simpa using this.symm
theorem ajL{H:Type}{enc:TypeId×Value->H}{w:World}{b:Nat}{t:TypeId}{τ:Type}[Deep τ][o:nv P t τ](hu: ∃d,P.underlying t=some d/\wX d=true){v:Value}{d:DataW H}{ps:List MemPlace}(hv:Value.okWide P w .any b t v)(h:DataW.Trod enc P w 0 (fun _=>true) true t v d ps)(hw: ∀n∈d.weights P t,n<=reachBytes):
  ∃x:τ,v= .agg (Deep.cells x)/\Deep.cM (hp w) x:=by
 obtain⟨fuel,h⟩:=h;obtain⟨x,h1,h2⟩:=o.h h hw;refine⟨x,?_,h2⟩;obtain⟨dd,yp,Lu⟩:=hu;have hc: ∃cs,v= .agg cs:=by
  unfold Value.okWide at hv;rw[yp]at hv
  cases dd<;>simp[wX]at Lu
  ·
   obtain⟨cs,rfl,_⟩:=hv;exact⟨cs,rfl⟩
  ·
   obtain⟨cs,rfl,_⟩:=hv;exact⟨cs,rfl⟩
 obtain⟨cs,rfl⟩:=hc;have:(Deep.cells x).toList=cs.toList:=h1;rw[Array.toList_inj.1 this]
structure Arg(H:Type)(enc:TypeId×Value->H)(P:Program)(W:World)(b:Nat)(t:TypeId)(v:Value):Prop where
 ok:Value.okWide P W .any b t v
 trod: ∃d ps,DataW.Trod enc P W 0 (fun _=>true) true t v d ps/\ ∀n∈d.weights P t,n<=reachBytes
theorem Arg.sl{H:Type}{enc:TypeId×Value->H}{W:World}{b:Nat}{t e:TypeId}{v:Value}(h:Arg H enc P W b t v)(hu:P.underlying t=some (.slice e))(τ:Type)[Deep τ][o:nv P t (Sl τ)]: ∃x:Sl τ,v=x.sv.val/\Deep.cM (hp W) x:=by
 obtain⟨d,ps,h1,h2⟩:=h.trod;exact ajK hu h.ok h1 h2
theorem Arg.agg{H:Type}{enc:TypeId×Value->H}{W:World}{b:Nat}{t:TypeId}{v:Value}(h:Arg H enc P W b t v){n:Nat}(hu:fE P t n)(τ:Type)[Deep τ][o:nv P t τ]: ∃x:τ,v= .agg (Deep.cells x)/\Deep.cM (hp W) x:=by
 obtain⟨d,ps,h1,h2⟩:=h.trod;exact ajL hu.row h.ok h1 h2
theorem XQ{H:Type}{enc:TypeId×Value->H}{W:World}{sp:Nat->Bool}{hd:Bool}: ∀{ts:List TypeId} {vs:List Value} {ds:List (DataW H)} {ps:List MemPlace},DataW.TrodAll enc P W 0 sp hd ts vs ds ps-> ∀(j:Nat) (t:TypeId) (v:Value),ts[j]? =some t->vs[j]? =some v->
  ∃d p,ds[j]? =some d/\DataW.Trod enc P W 0 sp hd t v d p
 |[],_,_,_,h,j,_,_,ht,_=>by simp at ht
 |t0::ts,vs,ds,ps,h,j,t,v,ht,hv=>by
  obtain⟨v0,XI,d0,XJ,a,b,rfl,rfl,rfl,h1,h2⟩:=trodAll_cons h
  cases j with
  |zero=>
   obtain rfl:t0=t:=by simpa using ht
   obtain rfl:v0=v:=by simpa using hv
   exact⟨d0,a,rfl,h1⟩
  |succ j=>exact XQ h2 j t v (by simpa using ht) (by simpa using hv)
variable {P:Program}
theorem ajM{H:Type}{enc:TypeId×Value->H}{C:Checked}{os:Os}{f:FuncId}{fn:Func}{s:ChangeSpec}{conds:List PathCond}{apart fresh handsOn:Bool}{tb:TypeId}{laid:List (String×DataW Unit)}
  (own:ownKnob C.prog.godebug=none) (started:os.Started) (ajN:C.prog.inits.idxOf? f=none) (ajO:C.prog.funcs[f]? =some fn)
  (wit: ∃(w:World) (tape:Tape) (i:Input),w.os=os/\(w.forCall tape i).Shaped C.prog/\i.vars=[]/\Input.okWide C.prog (w.forCall tape i) .any w.heap.size f i/\
   ((s.pre enc C.prog fn conds apart (w.forCall tape i).memory i.args/\laidMetH C.prog laid (w.forCall tape i).memory)/\sizedMet enc C.prog fn (OpenSpec.ofChange s) apart (w.forCall tape i).memory i.args)/\({}:Assume).holds C.prog (lone (Frame.enter C.prog f i.args .normal) [] (w.forCall tape i)))
  (hl:laidOutB C.prog=true) (hp:fn.params.toList.all (fun t=>C.prog.readableRec t&&decide (t<C.prog.types.size))=true) (hr:fn.resultTypes= #[tb]) (hb:C.prog.underlying tb=some .bool)
  (hv:s.vars=[]) (EZ: ∀ds:List (DataW H),ds.length=fn.params.size->s.fn H ds={results:=[.lit (.bool true)],args:=ds})
  (ajP: ∀(W:World) (base:Nat) (vs:List Value),W.ShapedOpen C.prog->laidMetH C.prog laid W->vs.length=fn.params.size->(∀(j:Nat) t v,fn.params[j]? =some t->vs[j]? =some v->Arg H enc C.prog W base t v)->
   Calls C.prog f vs.toArray W fun e W'=>e= .returned (.bool true)/\Mem W [] W'):
  ReturnsInHanded {} C os f .any (fun w args=>(s.pre enc C.prog fn conds apart w args/\laidMetH C.prog laid w)/\sizedMet enc C.prog fn (OpenSpec.ofChange s) apart w args) (s.post enc C.prog fn apart fresh handsOn false):=by
 refine returnsInHanded_of_calls own started ajN wit ?_;intro w tape i _ hsh _ bD aF asS;obtain⟨_,_,_,XR,ajQ,_,_,_,_,ajR⟩:=bD;have e:XR=fn:=asY (ajQ.symm.trans ajO);subst e;obtain⟨⟨⟨ds,gs,before,hw,hc⟩,hx⟩,hz⟩:=aF;have hW:=DataW.Whole.of_heap (w':=w.forCall tape i) (by rfl) hw;have rG:=hz.weights hw;have hlen:i.args.toList.length=XR.params.size:=by
  obtain⟨p,q,hA,_⟩:=hW;rw[(OH hA).1];simp
 have h:=ajP (w.forCall tape i) w.heap.size i.args.toList hsh (laidMetH.of_heap (by rfl) hx) hlen (fun j t v h1 h2=>⟨ajR j t v h1 (by simpa using h2),by
  obtain⟨p,q,hA,_⟩:=hW;obtain⟨d,pp,hd,ht⟩:=XQ hA j t v (by simpa using h1) h2;refine⟨d,pp,ht,fun n hn=>?_⟩;have hh:=atk.1 rG n (OK (i:=j) (t:=t) (d:=d) (by rw[atb (by have:=(auC.1 h1).1;simpa using this)];simpa using h1)
   (by rw[atb (ad2.1 hd).1];exact hd) hn)
  simpa using hh⟩)
 rw[Array.toArray_toList]at h;refine h.mono fun e W' hh=>?_;obtain⟨he,hm⟩:=hh;subst he;exact ChangeSpec.post_blind (ajy hl hp hr hb hv EZ hW hm.below)
end Go.ax
namespace Go.Proofs.YtkggjjnhnjjokaaGreatDoor
open Go.ax Go.Kb
instance op3:nv Tryz.prog 3 Int:=ajH Tryz.underlying3 (by kernel_rfl)
instance op5:nv Tryz.prog 5 UInt8:=ajI Tryz.underlying5 (by kernel_rfl)
instance asT:nv Tryz.prog 27 UInt16:=ajJ Tryz.underlying27 (by kernel_rfl)
instance:bu bI 16:=⟨gq,fun k=>(inferInstance:gk (bI k) 16).one⟩
instance:Deep Key:=Deep.flat bI 16
instance:bu cz 18:=⟨qP,fun k=>(inferInstance:gk (cz k) 18).one⟩
instance:Deep aZ:=Deep.flat cz 18
instance asU:nv Tryz.prog 25 Key:=⟨by kernel_rfl,fun h hw=>by
 obtain⟨hl,he⟩:=ajF Tryz.underlying25 h hw UInt8;rw[show Tryz.prog.cellsOf 25=16 from by kernel_rfl]at hl;obtain⟨l,oq,Ja⟩:=OI (p:=fun i (x:UInt8)=>_) he;refine⟨nZ fun i=>(l.getD i 0).toNat,?_,trivial⟩;refine at5 fun i=>?_;rw[Array.getElem?_toList];rcases as3 i 16 with hi|hi
 ·
  have hx:l[i]? =some (l.getD i 0):=mN (by omega);have h1:=congrArg (·[0]?) (Ja i _ hx).1;simp only[avv,aug]at h1;rw[if_pos (by decide),show i*Deep.c UInt8+0=i from auL i]at h1;have h3:some (Value.int .u8 (l.getD i 0).toNat)=_:=h1;have e8:(l.getD i 0).toNat%2^8=(l.getD i 0).toNat:=atN (l.getD i 0).toNat_lt;show(bI _)[i]? =_;rw[jQ _ _ hi,ur _ _ hi,e8,←h3]
 show(bI _)[i]? =_;rw[PK _ _ hi,as7 (by omega)]⟩
instance asV:nv Tryz.prog 32 aZ:=⟨by kernel_rfl,fun h hw=>by
 obtain⟨hl,x0,h0,-⟩:=E3 Tryz.underlying32 h hw (i:=0) (tf:=3) (off:=0) rfl Int;obtain⟨-,x1,h1,-⟩:=E3 Tryz.underlying32 h hw (i:=1) (tf:=3) (off:=1) rfl Int;obtain⟨-,x2,h2,-⟩:=E3 Tryz.underlying32 h hw (i:=2) (tf:=25) (off:=2) rfl Key;refine⟨⟨x0,x1,x2⟩,?_,trivial⟩;refine Eq.trans ?_ (ajG (a:=1) (b:=1) (c:=16) (hl.trans (by kernel_rfl)));rw[show(Deep.cells (⟨x0,x1,x2⟩:aZ)).toList=(Deep.cells x0).toList++(Deep.cells x1).toList++(Deep.cells x2).toList from by show(cz _).toList=_;unfold cz;rw[Array.toList_append];rfl,h0,h1,h2];rfl⟩
instance asW:nv Tryz.prog 34 Rt:=⟨by kernel_rfl,fun h hw=>by
 obtain⟨hl,x0,h0,-⟩:=E3 Tryz.underlying34 h hw (i:=0) (tf:=32) (off:=0) rfl aZ;obtain⟨-,x1,h1,-⟩:=E3 Tryz.underlying34 h hw (i:=1) (tf:=27) (off:=18) rfl UInt16;refine⟨⟨x0,x1⟩,?_,trivial⟩;refine Eq.trans ?_ (XP (a:=18) (b:=1) (hl.trans (by kernel_rfl)));rw[show(Deep.cells (⟨x0,x1⟩:Rt)).toList=(Deep.cells x0).toList++(Deep.cells x1).toList from by show(au _).toList=_;unfold au;rw[Array.toList_append];rfl,h0,h1];rfl⟩
instance asX:nv Tryz.prog 22 (Sl Rt):=AK Tryz.underlying22 (by kernel_rfl) (by decide) (by kernel_rfl)
end Go.Proofs.YtkggjjnhnjjokaaGreatDoor

/- Laws and walks by which the law LabTells is proved, each with its own conditions. -/
import Derived.Test.YtkggjjnhnjjokaaGreatDoorH7
import Derived.ProofKit
import Derived.Deep.Slices
import Derived.HandedShaped
import Derived.Lay
import Derived.MakeChecks
import Derived.Stop.Joined
set_option maxRecDepth 20000
set_option linter.unusedSimpArgs false
set_option linter.unusedVariables false
namespace Go.Kb
open Go.ax
def IU(p:Int)(b:Int)(n:Int):Bool:=decide (0<n)&&decide ((n -1)/p=b)
def vn(p:Int)(b:Int)(l:List Int):Nat:=(l.filter (IU p b)).length
theorem ai0(P:Int->Bool): ∀(l:List Int),((List.range l.length).filter fun j=>P (l.getD j 0)).length=(l.filter P).length:=by
 intro l;have key: ∀k,k<=l.length->((List.range k).filter fun j=>P (l.getD j 0)).length=((l.take k).filter P).length:=by
  intro k
  induction k with
  |zero=>intro _;simp
  |succ k ih=>
   intro hk;have hy:=at2 (show k<l.length by omega);rw[avi,avj,adr,ih oM,at6,hy,avj,adr,qC hy|>fun e=>(show(List.filter (fun j=>P (l.getD j 0)) [k]).length=(List.filter P [l[k]]).length by
    have:l.getD k 0=l[k]:=e;simp only[au9,awc,this];split<;>rfl)]
   rfl
 have:=key l.length (at5 _);rwa [aup]at this
theorem ai1{v:VV}(h:fw v)(i:Nat):vn v.ae.pages ((i:Int)+2) v.at_=dh v.ae.pages v.at_ i:=by
 have hp:1<=v.ae.pages:=by have:=(fN.1 h.bears).2.2.1;omega
 rw[←IL hp i (h.pl.nF.pos hp),ad7 (Eu.2 h) i,LN,vn];exact(ai0 (IU v.ae.pages ((i:Int)+2)) v.at_).symm
theorem Xt{c:CV}{fl:List Int}(hk:aW c=true)(h:Std c fl): ∀x∈fl,0<=x/\x<=65535:=fun x hx=>by
 have hd:=fe hk;rcases h.pos oM x hx with h0|h1
 ·omega
 have hp:=nr.1 (h x hx oM);have:=Lm (n:=x) hd.2.2.1 hd.2.2.2.1 hd.2.1 hp.2.1;omega
theorem ai2{c:CV}(hb:gH c=true){i n:Int}(h:oR c i n=true):mO (cM (bS c (n -1))).1 c.size=true/\(cM (bS c (n -1))).1.id=i/\jw c n=(cM (bS c (n -1))).1.body:=by
 obtain⟨h1,h2,h3,h4⟩:=Et h;obtain⟨p1,p2,p3⟩:=nr.1 h1;obtain⟨k1,_,k3,_⟩:=fN.1 hb;have ph:=fy.1 (tu k1 (b:=(n -1)/c.pages) oM p2);have h0:0<=(n -1)%c.pages:=av4 _ oM;have hj:((n -1)%c.pages).toNat<(ak c ((n -1)/c.pages)).pages.length:=by omega
 have hl:((bS c (n -1)).length:Int)=c.size:=by
  rw[bS];simp only[List.getD];rw[at2 hj];exact ph.2.2.2.2.2 _ (avL hj)
 refine⟨?_,h4,by rw[jw,if_pos h2]⟩;have:=aiW h2 (by rw[h3];decide);rwa [hl]at this
theorem Ob{v:VV}{src:Int}{t:Nat}(vX:(t:Int)+2≠src)(hg:v.gen+1<281474976710656): ∀(l:List Int) (id:Nat) {n:Nat} {c:CV} {a:List Int} {m:Nat} {w:Int},Ok (n+l.length) c->dV v.ae c->t<c.blocks.length -2->Pl c v.at_->Std c a->a.length=v.at_.length->v.at_.drop id=l->(∀j,id<=j->a[j]? =v.at_[j]?)->(∀(j:Nat) (y:Int),v.at_[j]? =some y->(y=0\/(y -1)/v.ae.pages≠src)->a[j]? =some y)->
  dh c.pages (v.at_++a) t=m->(ak c ((t:Int)+2)).used=m->(m:Int)+vn c.pages src l<=c.pages->
  ((cj v src ((t:Int)+2) l id c a).e=none/\Ok n (cj v src ((t:Int)+2) l id c a).c/\Std (cj v src ((t:Int)+2) l id c a).c (cj v src ((t:Int)+2) l id c a).a/\
   (∃m' w':Int,av (cj v src ((t:Int)+2) l id c a).c (v.at_++(cj v src ((t:Int)+2) l id c a).a)=(av c (v.at_++a)).set t ⟨m',m',w',false⟩)/\
   (∀(j:Nat) (y:Int),v.at_[j]? =some y->(y=0\/(y -1)/v.ae.pages≠src)->(cj v src ((t:Int)+2) l id c a).a[j]? =some y))\/(cj v src ((t:Int)+2) l id c a).e=some 7
 |[],id,n,c,a,m,w,h,fI,ht,hv,ha,dj,hl,fP,dB,qM,Bz,Oc=>by
  left;refine⟨rfl,h,ha,⟨m,(ak c ((t:Int)+2)).aU,?_⟩,dB⟩;have:=h.get (fl:=v.at_++a) (hv.nF.append ha) ht;rw[qM,Bz]at this;exact(IS this).symm
 |y::r,id,n,c,a,m,w,h,fI,ht,hv,ha,dj,hl,fP,dB,qM,Bz,Oc=>by
  have hy:v.at_[id]? =some y:=by
   have:=congrArg (fun l:List Int=>l[0]?) hl;simpa using this
  have hr:v.at_.drop (id+1)=r:=by rw[←av0,hl];rfl
  have hp:=fI.pages;have hd:=fe h.ae;rw[cj]
  by_cases h1:y=0\/(y -1)/v.ae.pages≠src
  ·
   rw[if_pos h1];refine Ob vX hg r (id+1) (n:=n) (w:=w) (h.mono (by simp only[ad2];omega)) fI ht hv ha dj hr (fun j hj=>fP j oM) dB qM Bz ?_;have:vn c.pages src (y::r)=vn c.pages src r:=by
    rw[vn,List.filter_cons_of_neg];rfl;simp only[IU,af0,decide_eq_true_eq];rintro⟨g1,g2⟩;rcases h1 with g|g
    ·omega
    ·rw[←hp]at g;exact g g2
   rw[←this];exact Oc
  ·
   rw[if_neg h1];have ox:y≠0:=fun e=>h1 (.inl e);have hys:(y -1)/c.pages=src:=by rw[hp];exact awW.1 fun e=>h1 (.inr e)
   have HE:1<=y:=(hv.nF.pos oM y (atl hy)).resolve_left ox;have hb:cC c v.at_ a src ((t:Int)+2)=((t:Int)+2,true):=by rw[cC,if_neg oM]
   rw[hb,if_neg (by simp)];have wD:=hv.1 id y hy ox;obtain⟨y1,y2,y3⟩:=ai2 h.ok wD;obtain⟨z1,z2,z3,z4,z5,z6⟩:=sa.1 y1;rw[y2]at z3 z4;have BS:mO ⟨1,id,((v.gen:Int)+1).toNat,jw c y⟩ c.size=true:=sa.2 ⟨z1, .inl rfl,z3,z4,by simp only;omega,by rw[y3];exact z6⟩;have Od:eA c ((v.gen:Int)+1) id y=((eA c ((v.gen:Int)+1) id y).1,0):=by
    rw[eA,dy,if_pos BS]
   have cf:((eA c ((v.gen:Int)+1) id y).1.length:Int)=c.size:=Eo BS;rw[if_neg (by rw[Od];simp)];have ai3:vn c.pages src (y::r)=vn c.pages src r+1:=by
    rw[vn,List.filter_cons_of_pos];rfl;simp only[IU,af0,decide_eq_true_eq];exact⟨oM,hys⟩
   rw[ai3]at Oc;rcases h.prog (n:=n+r.length) (b:=(t:Int)+2) (p:=(eA c ((v.gen:Int)+1) id y).1) oM oM oM cf with⟨z,g⟩|z
   ·
    rw[if_neg (by rw[z];simp)];have e2:(t:Int)+2=((t:Nat):Int)+2:=rfl;generalize hN:((t:Int)+2)*v.ae.pages+(ak c ((t:Int)+2)).used+1=N;have l5: ∀k,k∈v.at_++a.set id N↔k∈v.at_++a\/k=((t:Int)+2)*c.pages+(ak c ((t:Int)+2)).used+1:=fun k=>by
     rw[hp,hN,at7,at7];have hid:id<a.length:=by rw[dj];exact(zz.1 hy).1
     constructor
     ·
      rintro(q|q)
      ·exact .inl (.inl q)
      ·
       rcases auG q with q|q
       ·exact .inl (.inr q)
       ·exact .inr q
     ·
      rintro((q|q)|q)
      ·exact .inl q
      ·
       obtain⟨j,hj⟩:=aul q
       by_cases e:j=id
       ·rw[e,fP id (at5 _)]at hj;exact .inl (atl hj)
       ·right;exact atl (i:=j) (by rw[auF (fun g=>e g.symm)];exact hj)
      ·right;rw[q];exact atl (i:=id) (by rw[auk hid])
    obtain⟨b1,b2⟩:=Xg h.ae (hv.nF.append ha) z l5;have wL:=Iv (L:=v.at_) (c:=c) (b:=(t:Int)+2) (p:=(eA c ((v.gen:Int)+1) id y).1);have qe:=iY c ((t:Int)+2) (eA c ((v.gen:Int)+1) id y).1;have gn:=j7.1 (qD z).1;have ke:=EC z;have fm:(((t:Int)+2)*c.pages+(ak c ((t:Int)+2)).used+1 -1)/c.pages=(t:Int)+2:=by
     rw[avt,avT,avh _ _ oM,auZ gn.2.1 gn.2.2.1,avY]
    have ai4:((t:Int)+2)*c.pages+(ak c ((t:Int)+2)).used+1∉v.at_++a:=fun iO=>by
     have xF:0<=((t:Int)+2)*c.pages:=avG oM oM;have:=hv.nF.append ha _ iO (by have:=gn.2.1;omega);rw[avt,(IB (L:=[]) oM z).2.2.2]at this;cases this
    have Xu:=N3 oM fm ai4 l5 t;rw[if_pos rfl,qM]at Xu;have ih:=Ob vX hg r (id+1) (n:=n) (w:=w) (m:=m+1) (a:=a.set id N) g (fI.trans qe) (by rw[qe.len];exact ht) (hv.kd wL fun _ q=>q) (fun k hk=>b2 k (avp _ hk)) (by rw[auA,dj]) hr (fun j hj=>by rw[auF oM];exact fP j oM) (fun j q hq IG=>by
     by_cases e:j=id
     ·rw[e,hy]at hq;obtain rfl:=at1 hq;exact absurd IG h1
     ·rw[auF (fun g=>e g.symm)];exact dB j q hq IG) (by rw[qe.pages];exact Xu) (by rw[ke.1,Bz];rfl) (by rw[qe.pages];omega)
    rcases ih with⟨i1,i2,i3,⟨m',w',i4⟩,i5⟩|i1
    ·left;refine⟨i1,i2,i3,⟨m',w',?_⟩,i5⟩;rw[i4,b1,awo]
    ·exact .inr i1
   ·right;rw[if_pos (by rw[z];decide)];show some (j9 (bC c ((t:Int)+2) (eA c ((v.gen:Int)+1) id y).1))=some 7;rw[z];rfl
structure Lv(n:Nat)(x:WV):Prop where
 ok:Ok n x.v.ae
 wr:db x
 rt:fw x.v
 pl:iN x.v.ae
 kT:(x.v.at_.length:Int)<=kP x.v.ae.size
 half:2*(x.v.at_.length:Int)<=((x.v.ae.blocks.length:Int) -4)*x.v.ae.pages
 idle: ∃j,j<x.v.ae.blocks.length -2/\dh x.v.ae.pages x.v.at_ j=0
theorem Lv.mono{n m:Nat}{x:WV}(h:Lv n x)(hm:m<=n):Lv m x:=⟨h.ok.mono hm,h.wr,h.rt,h.pl,h.kT,h.half,h.idle⟩
def nH(x:WV):Nat:=qg x.v.ae.pages (av x.v.ae x.v.at_)
theorem Lv.next{n m:Nat}{x y:WV}(h:Lv m x)(s:Sf x (cG x.v) y 0)(o:db y)(k:Ok n y.v.ae)(hi: ∃j,j<y.v.ae.blocks.length -2/\dh y.v.ae.pages y.v.at_ j=0):Lv n y:=
 ⟨k,o,(s.cP rfl).1,h.pl.kd s.kd,by rw[s.len,s.kd.cm.size];exact h.kT,by rw[s.len,s.kd.cm.len,s.kd.cm.pages];exact h.half,hi⟩
theorem ai5{n:Nat}{x:WV}{i:Nat}(h:Lv (n+100) x)(hg:x.v.gen+2<281474976710656)(hi:i<x.v.ae.blocks.length -2)(h0:0<dh x.v.ae.pages x.v.at_ i)(h1:(dh x.v.ae.pages x.v.at_ i:Int)<(ak x.v.ae ((i:Int)+2)).used):
  ((ff x (dv x) i).2=0/\Lv n (ff x (dv x) i).1/\nH (ff x (dv x) i).1<nH x/\(ff x (dv x) i).1.v.gen=x.v.gen+1)\/(ff x (dv x) i).2=7:=by
 obtain⟨j,hj,IK⟩:=h.idle;have cD:j≠i:=fun e=>by rw[e]at IK;omega
 have hd:=fe h.ok.ae;have jE:=h.rt.pl.nF;have eS:x.v.at_.length<=64:=h.wr.kT;have nh:=W2 (l:=dv x) (i:=(i:Int)) h.wr h.rt h.pl (zr _ _) (Iz _ _) oM (by rw[show(dv x).length=_ from mh _ _];omega);have nM:=LH (l:=dv x) (i:=(i:Int)) h.wr (zr _ _);have sL:=nh.1;have Xv:=h.ok.get (fl:=x.v.at_) jE hi;have nG:(dv x).getD i eu=_:=h.ok.getD (fl:=x.v.at_) jE hi;rcases aiZ (n:=n+83) (i:=i) h.ok jE hj cD IK with⟨t,w,t1,t2,t3,t4,t5,t6,t7⟩|tz
 ·
  have dj:rv x.v.ae (dv x) i=false:=by
   rw[rv,show(cc x.v.ae ((dv x).set (i:Int).toNat bc)).2.2=0 from congrArg Prod.snd t4];rfl
  have qd:cU x.v.ae (dv x) i=((t:Int)+2,0):=by
   rw[cU,if_neg (by rw[dj];simp)];exact t4
  rw[ff,qd]at sL nM⊢;rw[if_neg (by simp)]at sL nM⊢;have aK:(i:Int).toNat=i:=rfl;rw[aK]at sL nM⊢;change Ok (n+83) (cc x.v.ae ((dv x).set i bc)).1 at t5;change av (cc x.v.ae ((dv x).set i bc)).1 x.v.at_=(dv x).set t ⟨0,0,w,false⟩at t6;change Kp x.v.at_ x.v.ae (cc x.v.ae ((dv x).set i bc)).1 at t7;generalize(cc x.v.ae ((dv x).set i bc)).1=c1 at*;have zV:=h.rt.kp t7;have fI:=t7.cm;have sS:vn c1.pages ((i:Int)+2) x.v.at_=dh x.v.ae.pages x.v.at_ i:=by rw[fI.pages];exact ai1 h.rt i
  have N8:=h.ok.BX hi;have BZ:Std c1 x.v.at_:=zV.pl.nF;have vd:av c1 (x.v.at_++x.v.at_)=(dv x).set t ⟨0,0,w,false⟩:=by
   rw[←t6];exact N5 (by rw[fI.pages];omega) BZ (BZ.append BZ) (.du _) fun k=>⟨rfl,rfl,rfl,fun _=>yA (fun m _=>by rw[at7];exact or_self_iff) (by rw[fI.pages];omega)⟩
  have By:t<c1.blocks.length -2:=by rw[fI.len];exact t2
  have wY:=t5.get (fl:=x.v.at_++x.v.at_) (BZ.append BZ) By;rw[vd,auk (by rw[show(dv x).length=_ from mh _ _];exact t2)]at wY;have Xw:=at1 wY;have yo:(ak c1 ((t:Int)+2)).used=0:=(congrArg az.used Xw).symm;have yR:dh c1.pages (x.v.at_++x.v.at_) t=0:=by have:=congrArg az.live Xw;simp only at this;omega
  have Nx:=Ob (v:=x.v) (src:=(i:Int)+2) (t:=t) oM oM x.v.at_ 0 (n:=n+19) (c:=c1) (a:=x.v.at_) (m:=0) (w:=w) (t5.mono oM) fI By zV.pl BZ rfl rfl (fun _ _=>rfl) (fun _ _ q _=>q) yR yo (by rw[sS,fI.pages];omega);have hmk:=ID (v:=(x.on c1).v) (src:=(i:Int)+2) (tgt:=(t:Int)+2) oM (fun _=>by omega) (by show 1<=c1.pages;rw[fI.pages];omega) (x.on c1).v.at_ 0 (c:=(x.on c1).v.ae) (a:=(x.on c1).v.at_) (t7.ok h.ok.ae) zV.pl (.du _ _) zV.pl rfl (fun _=>⟨oM,by show(t:Int)+2<c1.blocks.length;omega,t5.nb _⟩) rfl (fun _ _=>rfl) (fun j n hj=>by omega) rfl;have kt:cj x.v ((i:Int)+2) ((t:Int)+2) x.v.at_ 0 c1 x.v.at_=cj (x.on c1).v ((i:Int)+2) ((t:Int)+2) (x.on c1).v.at_ 0 (x.on c1).v.ae (x.on c1).v.at_:=by
   exact ai6 (v:=x.v) (u:=(x.on c1).v) fI.pages.symm rfl rfl _ _ _ _
  rw[kt]at Nx;rcases Nx with⟨e1,e2,e3,⟨m',w',e4⟩,e5⟩|e1
  ·
   obtain⟨k1,k2,_,_⟩:=hmk;obtain⟨k3,k4,k5,k6⟩:=k2 e1;have IV:cZ (x.on c1) ((i:Int)+2) ((t:Int)+2)=((dQ ((x.on c1).on (cj (x.on c1).v ((i:Int)+2) ((t:Int)+2) (x.on c1).v.at_ 0 (x.on c1).v.ae (x.on c1).v.at_).c) (cj (x.on c1).v ((i:Int)+2) ((t:Int)+2) (x.on c1).v.at_ 0 (x.on c1).v.ae (x.on c1).v.at_).a).1,decide ((dQ ((x.on c1).on (cj (x.on c1).v ((i:Int)+2) ((t:Int)+2) (x.on c1).v.at_ 0 (x.on c1).v.ae (x.on c1).v.at_).c) (cj (x.on c1).v ((i:Int)+2) ((t:Int)+2) (x.on c1).v.at_ 0 (x.on c1).v.ae (x.on c1).v.at_).a).2=0),(dQ ((x.on c1).on (cj (x.on c1).v ((i:Int)+2) ((t:Int)+2) (x.on c1).v.at_ 0 (x.on c1).v.ae (x.on c1).v.at_).c) (cj (x.on c1).v ((i:Int)+2) ((t:Int)+2) (x.on c1).v.at_ 0 (x.on c1).v.ae (x.on c1).v.at_).a).2):=by
    rw[cZ,e1]
   generalize hM:cj (x.on c1).v ((i:Int)+2) ((t:Int)+2) (x.on c1).v.at_ 0 (x.on c1).v.ae (x.on c1).v.at_=M at*;have qe:=fI.trans k1.cm;have fY:db ((x.on c1).on M.c):=(h.wr.on (t7.ok h.ok.ae) fI).on e2.ae k1.cm;have ai7:IQ ((x.on c1).on M.c).v.ae ((x.on c1).on M.c).v.gen M.a:=⟨by show x.v.gen+1<_;omega,by rw[show M.a.length=x.v.at_.length from k5,show((x.on c1).on M.c).v.ae.size=x.v.ae.size from qe.size];exact h.kT,Xt e2.ae e3⟩;rcases Xl (n:=n+17) fY (e2.mono oM) ai7 with⟨w1,w2,w3,w4,w5,w6⟩|w1
   ·
    have EE:=NR (a:=M.a) fY (by
     have:=zV.kp k1;exact this) ((h.pl.kd t7.toKd).kd k1.toKd) k3 k5
    have hRW:=(EE.1.cP w1).1;have vo:dV x.v.ae (dQ ((x.on c1).on M.c) M.a).1.v.ae:=qe.trans EE.1.kd.cm;rw[IV]at sL nM⊢;simp only[w1,decide_true]at sL nM⊢;generalize hW:(dQ ((x.on c1).on M.c) M.a).1=W at*;have EF:Std W.v.ae M.a:=by have:=hRW.pl.nF;rwa [w3]at this
    have Xx:av W.v.ae M.a=((dv x).set t ⟨m',m',w',false⟩).set i ⟨0,(ak x.v.ae ((i:Int)+2)).used,(ak x.v.ae ((i:Int)+2)).aU,false⟩:=by
     have Xy:av M.c (x.v.at_++M.a)=(dv x).set t ⟨m',m',w',false⟩:=by
      rw[e4,vd,awo]
     have EG:Std M.c (x.v.at_++M.a):=(h.rt.pl.nF.kd t7.toKd (fun _ q=>q)|>.kd k1.toKd fun _ q=>q).append e3;have Xz:=e2.get (fl:=x.v.at_++M.a) EG (i:=i) (by rw[qe.len];exact hi);rw[Xy,auF t1,show(dv x)[i]? =_ from Xv]at Xz;have XA:=at1 Xz;have qO:1<=M.c.pages:=by rw[qe.pages];omega
     rw[←Xy];refine N4 qO EG EF (by have:=EE.1.kd.cm;exact this) (fun k hk=>⟨w5 k,yA (fun q hq=>?_) qO⟩) ?_
     ·rw[at7];refine⟨.inr,fun g=>g.elim (fun g=>?_) id⟩;obtain⟨z,hz⟩:=aul g;have:=e5 z q hz (.inr (by rw[←qe.pages,hq];omega));exact atl this
     ·
      have nv:k9 M.a W.v.ae ((i:Int)+2):=by
       have:k9 M.a c1 ((i:Int)+2):=k6;exact this.cm (k1.cm.trans EE.1.kd.cm)
      have:=(vm (by rw[vo.pages];omega) EF i).2 nv;rw[w2.tell,this,w5 i];have u1:=congrArg az.used XA;have u2:=congrArg az.aU XA;simp only at u1 u2;rw[show(ak ((x.on c1).on M.c).v.ae ((i:Int)+2)).used=_ from u1.symm,show(ak ((x.on c1).on M.c).v.ae ((i:Int)+2)).aU=_ from u2.symm];rfl
    have hgt:(dv x)[t]? =_:=h.ok.get (fl:=x.v.at_) jE t2;have mq:=ED (p:=x.v.ae.pages) (x:=⟨m',m',w',false⟩) hgt;have atI:lf x.v.ae.pages ⟨m',m',w',false⟩=0:=by
     rw[lf];simp only[auH,if_false];split
     ·rename_i e;rw[if_neg oM]
     ·omega
    have XB:((dv x).set t ⟨m',m',w',false⟩)[i]? =_:=(auF t1).trans Xv;have ME:1<=lf x.v.ae.pages ⟨dh x.v.ae.pages x.v.at_ i,(ak x.v.ae ((i:Int)+2)).used,(ak x.v.ae ((i:Int)+2)).aU,false⟩:=by
     rw[lf];simp only[auH,if_false];rw[if_neg oM];omega
    have Oe:dh W.v.ae.pages W.v.at_ i=0:=by
     have nv:k9 M.a W.v.ae ((i:Int)+2):=by
      have:k9 M.a c1 ((i:Int)+2):=k6;exact this.cm (k1.cm.trans EE.1.kd.cm)
     rw[w3];exact(vm (by rw[vo.pages];omega) EF i).2 nv
    have XC:i<W.v.ae.blocks.length -2:=by rw[vo.len];exact hi
    by_cases XD:(ak x.v.ae ((i:Int)+2)).used=x.v.ae.pages
    ·
     rw[nG]at sL nM⊢;rw[if_pos (.inr XD)]at sL nM⊢;left;refine⟨rfl,h.next sL nM.1.ok (w2.mono oM) ⟨i,XC,Oe⟩,?_,w4⟩;rw[nH,nH,vo.pages,w3,Xx];have jM:=ED (p:=x.v.ae.pages) (x:=⟨0,(ak x.v.ae ((i:Int)+2)).used,(ak x.v.ae ((i:Int)+2)).aU,false⟩) XB;have XE:lf x.v.ae.pages ⟨0,(ak x.v.ae ((i:Int)+2)).used,(ak x.v.ae ((i:Int)+2)).aU,false⟩=0:=by
      rw[lf];simp only[auH,if_false,if_true];rw[if_neg oM]
     change _<qg x.v.ae.pages (dv x);omega
    ·
     rw[nG]at sL nM⊢;rw[if_neg (by rintro(g|g);cases g;exact XD g)]at sL nM⊢;rcases w2.IP (n:=n) (b:=(i:Int)+2) oM oM with⟨q1,q2⟩|q1
     ·
      simp only[q1]at sL nM⊢;left;have nv:k9 M.a W.v.ae ((i:Int)+2):=(vm (by rw[vo.pages];omega) EF i).1 (by rw[←w3];exact Oe);obtain⟨b1,b2⟩:=IN w2.ae EF nv q1;have kc:=(xD ((i:Int)+2) w2.ae).2;refine⟨rfl,h.next sL nM.1.ok q2 ⟨i,by show i<(cJ W.v.ae _).1.blocks.length -2;rw[kc.len];exact XC,by show dh (cJ W.v.ae ((i:Int)+2)).1.pages W.v.at_ i=0;rw[kc.pages];exact Oe⟩,?_,w4⟩;show qg (cJ W.v.ae ((i:Int)+2)).1.pages (av (cJ W.v.ae ((i:Int)+2)).1 W.v.at_)<_;rw[w3,b1,Xx,kc.pages,vo.pages,awo];have jM:=ED (p:=x.v.ae.pages) (x:=⟨0,0,(ak W.v.ae ((i:Int)+2)).aU+1,false⟩) XB;have XE:lf x.v.ae.pages ⟨0,0,(ak W.v.ae ((i:Int)+2)).aU+1,false⟩=0:=by
       rw[lf];simp
      change _<qg x.v.ae.pages (dv x);omega
     ·right;simp only[q1];rfl
   ·
    right;rw[IV];have hnz: ¬(dQ ((x.on c1).on M.c) M.a).2=0:=by rw[w1];decide
    rw[if_pos (.inl (decide_eq_false hnz))];exact w1
  ·
   right;have IV:cZ (x.on c1) ((i:Int)+2) ((t:Int)+2)=((x.on c1).on (cj (x.on c1).v ((i:Int)+2) ((t:Int)+2) (x.on c1).v.at_ 0 (x.on c1).v.ae (x.on c1).v.at_).c,false,7):=by
    rw[cZ,e1]
   rw[IV,if_pos (.inl rfl)]
 ·
  right;have XF:(cc x.v.ae ((dv x).set (i:Int).toNat bc)).2.2=7:=tz;have dj:rv x.v.ae (dv x) i=false:=by rw[rv,XF];rfl
  have qd:(cU x.v.ae (dv x) i).2=7:=by rw[cU,if_neg (by rw[dj];simp)];exact XF
  rw[ff,if_pos (by rw[qd];decide),qd];rfl
where
 ai6 {v u:VV} {src tgt:Int} (h1:v.ae.pages=u.ae.pages) (h2:v.at_=u.at_) (h3:v.gen=u.gen) (l:List Int): ∀(id:Nat) (c:CV) (a:List Int),cj v src tgt l id c a=cj u src tgt l id c a:=by
  induction l with
  |nil=>intro id c a;rfl
  |cons n r ih=>
   intro id c a;rw[cj,cj,h1,h2,h3,ih,ih]
theorem ai8{n:Nat}{x:WV}{j:Nat}(h:Lv (n+17) x)(hj:j<x.v.ae.blocks.length -2)(h0:dh x.v.ae.pages x.v.at_ j=0)(h1:0<(ak x.v.ae ((j:Int)+2)).used)(h2:(ak x.v.ae ((j:Int)+2)).used<x.v.ae.pages):
  ((jz x (dv x)).2=0/\Lv n (jz x (dv x)).1/\nH (jz x (dv x)).1<nH x/\(jz x (dv x)).1.v.gen=x.v.gen)\/(jz x (dv x)).2=7:=by
 have hd:=fe h.ok.ae;have jE:=h.rt.pl.nF;have hw:=N7 h.ok.ae jE oM;have hg:=h.ok.get (fl:=x.v.at_) jE hj;have hwo:=h.ok.aU ((j:Int)+2);have nh:=NV (l:=dv x) h.rt (Iz _ _);have qd:=LK (l:=dv x) h.wr (zr _ _);have hD:(oT x.v.ae (dv x)).2=true:=by
  cases hq:(oT x.v.ae (dv x)).2 with
  |true=>rfl
  |false=>
   have:=uL (BW (R:=n9 x.v.ae.pages) hw) hq _ (auq (f:=iK (n9 x.v.ae.pages)) (atl hg));rw[BY rfl (by simp only[n9,af0,decide_eq_true_eq];omega)]at this;have IT:mR ⟨dh x.v.ae.pages x.v.at_ j,(ak x.v.ae ((j:Int)+2)).used,(ak x.v.ae ((j:Int)+2)).aU,false⟩=true:=by
    simp only[mR,h0,avZ,au2,af0,decide_eq_true_eq];exact⟨rfl,h1⟩
   rw[IT]at this;cases this
 obtain⟨z,hz,a1,a2,a3,a4,a5⟩:=pT (fun x h=>(mj h).1) (show(gw (cl (n9 x.v.ae.pages) (dv x)) x.v.ae.pages mR [tr]).2=true from hD);have nW:(dv x)[(oT x.v.ae (dv x)).1.toNat]? =some z:=hz;change 0<=(oT x.v.ae (dv x)).1 at a4;rw[jz,if_neg (by rw[hD];simp)]at nh qd⊢;generalize oT x.v.ae (dv x)=T at*;obtain⟨e1,e2⟩:=wM oM jE nW;rw[h.ok.tell]at e1;have kO:=(mj a3).2.1;have DY:=(mj a3).2.2;rw[n9,af0,decide_eq_true_eq]at a2;have yo:=a2.1;rw[e1]at kO DY yo;simp only at kO DY yo;have eT:T.1=((T.1.toNat:Nat):Int):=by omega
 rw[eT]at nh qd⊢;have nv:=(vm oM jE T.1.toNat).1 oM;rcases h.ok.IP (n:=n) (b:=((T.1.toNat:Nat):Int)+2) oM oM with⟨q1,q2⟩|q1
 ·
  left;simp only[q1]at nh qd⊢;obtain⟨b1,b2⟩:=IN h.ok.ae jE nv q1;have kc:=(xD (((T.1.toNat:Nat):Int)+2) h.ok.ae).2;refine⟨rfl,h.next nh qd.1.ok q2 ⟨T.1.toNat,by show _<(cJ x.v.ae _).1.blocks.length -2;rw[kc.len];exact e2,by show dh (cJ x.v.ae _).1.pages x.v.at_ _=0;rw[kc.pages];omega⟩,?_,rfl⟩;show qg (cJ x.v.ae (((T.1.toNat:Nat):Int)+2)).1.pages (av (cJ x.v.ae (((T.1.toNat:Nat):Int)+2)).1 x.v.at_)<qg x.v.ae.pages (av x.v.ae x.v.at_);rw[b1,kc.pages];have jM:=ED (p:=x.v.ae.pages) (x:=⟨0,0,(ak x.v.ae (((T.1.toNat:Nat):Int)+2)).aU+1,false⟩) nW;have XE:lf x.v.ae.pages ⟨0,0,(ak x.v.ae (((T.1.toNat:Nat):Int)+2)).aU+1,false⟩=0:=by
   rw[lf];simp
  have qL:lf x.v.ae.pages z=1:=by
   rw[e1,lf];simp only[auH,if_false];rw[if_pos kO,if_pos ⟨DY,yo⟩]
  change qg x.v.ae.pages ((dv x).set _ _)<qg x.v.ae.pages (dv x);omega
 ·right;simp only[q1];rfl
theorem ai9{p:Int}{l:List az}(h:0<qg p l): ∃(i:Nat) (x:az),l[i]? =some x/\lf p x≠0:=by
 apply aut;intro hn;have:qg p l=0:=Xn fun x hx=>by
  obtain⟨i,hi⟩:=aul hx;apply aut;intro bN;exact hn ⟨i,x,hi,bN⟩
 omega
theorem aja{n:Nat}{x:WV}(h:Lv (n+100) x)(hg:x.v.gen+2<281474976710656)(hP:0<nH x):
  ((eC x).2=0/\Lv n (eC x).1/\nH (eC x).1<nH x/\(eC x).1.v.gen<=x.v.gen+1)\/(eC x).2=7:=by
 have hd:=fe h.ok.ae;have jE:=h.rt.pl.nF;have Bf:A2 x.v.gen=false:=decide_eq_false oM;rw[eC]
 by_cases hv:(tE x).2=true
 ·
  rw[if_pos ⟨hv,Bf⟩];obtain⟨i,v1,v2,v3,v4⟩:=aiX h.ok jE hv;have v1':(tE x).1=i:=v1;rw[v1'];rcases ai5 h hg v2 v3 v4 with⟨r1,r2,r3,r4⟩|r1
  ·rw[if_pos (by rw[r1];decide)];exact .inl ⟨r1,r2,r3,oM⟩
  ·rw[if_pos (by rw[r1];decide)];exact .inr r1
 ·
  rw[if_neg (fun g=>hv g.1)];obtain⟨i,z,hz,bN⟩:=ai9 hP;obtain⟨e1,e2⟩:=wM oM jE hz;rw[h.ok.tell]at e1;have hu:=h.ok.BX e2;rw[e1,lf]at bN;simp only[auH,if_false]at bN
  by_cases hl:dh x.v.ae.pages x.v.at_ i=0
  ·
   rw[if_pos oM]at bN;have hb:0<(ak x.v.ae ((i:Int)+2)).used/\(ak x.v.ae ((i:Int)+2)).used<x.v.ae.pages:=by
    apply aut;intro hn;rw[if_neg hn]at bN;exact bN rfl
   rcases ai8 (h.mono (by omega:n+17<=n+100)) e2 hl hb.1 hb.2 with⟨r1,r2,r3,r4⟩|r1
   ·exact .inl ⟨r1,r2,r3,oM⟩
   ·exact .inr r1
  ·rw[if_neg oM]at bN;exact absurd (aiY h.ok jE e2 oM oM) hv
def jF(p:Int)(x:az):Int:=if x.bad=true then 0 else lB p x
def mu(p:Int)(x:az):Int:=if x.bad=true then 0 else if x.live=0 then lB p x else 0
def qh(l:List Int):Int:=l.foldl max 0
theorem IW{M:Int}(l:List Int): ∀s:Int,l.foldl max s<=M↔s<=M/\ ∀x∈l,x<=M:=by
 induction l with
 |nil=>intro s;simp
 |cons y r ih=>
  intro s;rw[avq,ih,Int.max_le];simp only[auc,forall_eq_or_imp];exact and_assoc
theorem ajb{p:Int}(l:List az)(h: ∀x∈l,0<=lB p x): ∀s:Int×Int,0<=s.2->l.foldl (tA p) s=(s.1+fV (l.map (jF p)),(l.map (mu p)).foldl max s.2):=by
 induction l with
 |nil=>intro s _;simp[fV]
 |cons y r ih=>
  intro s hs;have ih':=ih fun x hx=>h x (aui _ hx);have hy:=h y auD;rw[avq];have bD:0<=(tA p s y).2:=by
   rw[tA];split
   ·exact hs
   simp only;split<;>omega
  rw[ih' _ bD,aum,aum,avq,fV];rw[tA,jF,mu]
  by_cases hb:y.bad=true
  ·rw[if_pos hb,if_pos hb,if_pos hb];rw[avY,Int.max_eq_left hs]
  rw[if_neg hb,if_neg hb,if_neg hb]
  by_cases hl:y.live=0
  ·rw[if_pos hl,if_pos hl,Int.add_assoc]
  rw[if_neg hl,if_neg hl,Int.max_eq_left hs,Int.add_assoc]
theorem XG{c:CV}{fl:List Int}(hk:aW c=true):lC c fl=(fV ((av c fl).map (jF c.pages)) -qh ((av c fl).map (mu c.pages)),fV ((av c fl).map (jF c.pages))):=by
 have:=ajb (p:=c.pages) (av c fl) (fun x hx=>(G8 (uP hk hx) hk).1) (0,0) (auY _);rw[lC,fW,this,qh];simp only[avY]
theorem XH{f:az->Int}: ∀{l:List az} {i:Nat} {x y:az},l[i]? =some y->fV ((l.set i x).map f)=fV (l.map f) -f y+f x
 |[],i,x,y,h=>by simp at h
 |z::r,0,x,y,h=>by
  obtain rfl:z=y:=by simpa using h
  simp only[avo,aum,fV];omega
 |z::r,i+1,x,y,h=>by
  have:=XH (f:=f) (l:=r) (i:=i) (x:=x) (y:=y) (by simpa using h);simp only[awg,aum,fV];omega
theorem ajc{pages:Int}{l:List Int}: ∀(D k:Nat),((List.range D).map fun i=>kD pages l k i).sum<=k:=by
 have step: ∀(D:Nat) (P:Bool) (b:Int),((List.range D).map fun i:Nat=>if P&&decide (b=(i:Int)+2)then 1 else 0).sum<=(if 2<=b/\b<(D:Int)+2 then 1 else 0):=by
  intro D P b
  induction D with
  |zero=>simp
  |succ D ih=>
   rw[avi,auv,awS];simp only[aum,au4,awz,List.sum_nil,avk]
   by_cases e:b=(D:Int)+2
   ·
    have hc:(if 2<=b/\b<(D:Int)+2 then 1 else 0)=0:=if_neg oM;have yp:(if 2<=b/\b<((D+1:Nat):Int)+2 then 1 else 0)=1:=if_pos oM;have BI:(if P&&decide (b=(D:Int)+2)then 1 else 0)<=1:=by split<;>omega
    rw[hc]at ih;rw[yp];omega
   have BI:(if P&&decide (b=(D:Int)+2)then 1 else 0)=0:=if_neg (by simp[e]);have hc4:(if 2<=b/\b<(D:Int)+2 then 1 else 0)<=(if 2<=b/\b<((D+1:Nat):Int)+2 then 1 else 0):=by
    by_cases g:2<=b/\b<(D:Int)+2
    ·rw[if_pos g,if_pos oM];exact at5 _
    rw[if_neg g];exact auo _
   rw[BI];omega
 intro D k
 induction k with
 |zero=>
  have: ∀i∈List.range D,kD pages l 0 i=0:=fun i _=>by simp[kD]
  rw[avf this];have: ∀n:Nat,((List.range n).map fun _:Nat=>(0:Nat)).sum=0:=fun n=>by
   induction n with
   |zero=>rfl
   |succ n ih=>rw[avi,auv,awS,ih];rfl
  rw[this];exact at5 _
 |succ k ih=>
  have: ∀i∈List.range D,kD pages l (k+1) i=kD pages l k i+(if nZ l k&&decide ((l.getD k 0 -1)/pages=(i:Int)+2)then 1 else 0):=fun i _=>Dk pages l k i;rw[avf this];have Jz: ∀(f g:Nat->Nat) (n:Nat),((List.range n).map fun i=>f i+g i).sum=((List.range n).map f).sum+((List.range n).map g).sum:=fun f g n=>by
   induction n with
   |zero=>rfl
   |succ n ih=>
    rw[avi,auv,auv,auv,awS,awS,awS,ih];simp only[aum,au4,awz,List.sum_nil];omega
  have e:=Jz (fun i=>kD pages l k i) (fun i=>if nZ l k&&decide ((l.getD k 0 -1)/pages=(i:Int)+2)then 1 else 0) D;have h2:=step D (nZ l k) ((l.getD k 0 -1)/pages);have h1:(if 2<=(l.getD k 0 -1)/pages/\(l.getD k 0 -1)/pages<(D:Int)+2 then 1 else 0)<=1:=by split<;>omega
  refine awu (Nat.le_of_eq e) ?_;exact Nat.add_le_add ih (awu h2 h1)
theorem ajd{c:CV}{fl:List Int}{f:az->Int}{g:Nat->Int}(hp:1<=c.pages)(hs:Std c fl)(h: ∀i,i<c.blocks.length -2->f (qf c fl i)=g i):fV ((av c fl).map f)=fV ((List.range (c.blocks.length -2)).map g):=by
 rw[zU hp hs,awJ];congr 1;refine avf fun i hi=>?_;exact h i (auB.1 hi)
theorem XI(p:Int)(f:Nat->Nat): ∀D:Nat,fV ((List.range D).map fun i=>p -(f i:Int))=(D:Int)*p -(((List.range D).map f).sum:Nat)
 |0=>by simp[fV]
 |D+1=>by
  have ih:=XI p f D;rw[avi,auv,auv,SB,awS,ih];simp only[aum,au4,fV,awz,List.sum_nil];rw[show((D+1:Nat):Int)*p=(D:Int)*p+p by rw[Int.natCast_add,Int.add_mul];omega];omega
theorem aje{n:Nat}{x:WV}(h:Lv n x)(hP:nH x=0){need:Int}(hn:need<=x.v.at_.length):need<=(lC x.v.ae x.v.at_).1:=by
 have hd:=fe h.ok.ae;have hp:1<=x.v.ae.pages:=by omega
 have jE:=h.rt.pl.nF;have hz: ∀i,i<x.v.ae.blocks.length -2->lf x.v.ae.pages (qf x.v.ae x.v.at_ i)=0:=fun i hi=>by
  apply aut;intro bN;have hg:=h.ok.get (fl:=x.v.at_) jE hi;rw[←h.ok.tell]at hg;have:=ED (p:=x.v.ae.pages) (x:=bc) hg;have hb:lf x.v.ae.pages bc=0:=rfl;change qg x.v.ae.pages (av x.v.ae x.v.at_)=0 at hP;omega
 have wY: ∀i,i<x.v.ae.blocks.length -2->lB x.v.ae.pages (qf x.v.ae x.v.at_ i)=x.v.ae.pages -(dh x.v.ae.pages x.v.at_ i:Nat):=fun i hi=>by
  have h0:=hz i hi;have hu:=h.ok.BX hi;have hl:=h.ok.Xo jE hi;rw[h.ok.tell,lf]at h0;rw[h.ok.tell,lB];simp only[auH,if_false]at h0⊢
  by_cases kO:(dh x.v.ae.pages x.v.at_ i:Int)=0
  ·
   rw[if_pos kO]at h0;have hb: ¬(0<(ak x.v.ae ((i:Int)+2)).used/\(ak x.v.ae ((i:Int)+2)).used<x.v.ae.pages):=fun g=>by rw[if_pos g]at h0;cases h0
   split
   ·omega
   omega
  rw[if_neg kO]at h0;rw[if_neg (fun g=>kO g.1)];omega
 rw[XG h.ok.ae];simp only;have ajf:fV ((av x.v.ae x.v.at_).map (jF x.v.ae.pages))=((x.v.ae.blocks.length -2:Nat):Int)*x.v.ae.pages -(((List.range (x.v.ae.blocks.length -2)).map fun i=>dh x.v.ae.pages x.v.at_ i).sum:Nat):=by
  rw[ajd hp jE (g:=fun i=>x.v.ae.pages -(dh x.v.ae.pages x.v.at_ i:Nat)) fun i hi=>by
   rw[jF,if_neg (by rw[h.ok.tell];simp)];exact wY i hi]
  exact XI _ _ _
 have xV:((List.range (x.v.ae.blocks.length -2)).map fun i=>dh x.v.ae.pages x.v.at_ i).sum<=x.v.at_.length:=by
  have:=ajc (pages:=x.v.ae.pages) (l:=x.v.at_) (x.v.ae.blocks.length -2) x.v.at_.length;rwa [avf fun i _=>IL hp i (jE.pos hp)]at this
 have Qf:qh ((av x.v.ae x.v.at_).map (mu x.v.ae.pages))<=x.v.ae.pages:=by
  refine(IW _ 0).2 ⟨oM,fun z hz=>?_⟩;obtain⟨y,hy,rfl⟩:=ava.1 hz;have:=G8 (uP h.ok.ae hy) h.ok.ae;rw[mu];split
  ·omega
  split<;>omega
 have atJ:=h.half;have hB:=h.wr.len;generalize x.v.ae.pages=p at*;generalize((List.range (x.v.ae.blocks.length -2)).map fun i=>dh p x.v.at_ i).sum=S at*;have e:((x.v.ae.blocks.length -2:Nat):Int)*p=((x.v.ae.blocks.length:Int) -4)*p+2*p:=by
  rw[←Int.add_mul];congr 1;omega
 rw[ajf,e];omega
theorem XJ: ∀(k:Nat) {n:Nat} {x:WV} {need:Int},nH x<k->Lv (n+100*(nH x+1)) x->x.v.gen+nH x+2<281474976710656->need<=x.v.at_.length->
  ((lE k x need).2=0/\Lv n (lE k x need).1/\need<=(lC (lE k x need).1.v.ae (lE k x need).1.v.at_).1/\(lE k x need).1.v.gen<=x.v.gen+nH x)\/(lE k x need).2=7
 |0,n,x,need,hk,h,hg,hn=>by omega
 |k+1,n,x,need,hk,h,hg,hn=>by
  rw[lE]
  by_cases h1:need<=(lC x.v.ae x.v.at_).1
  ·rw[if_pos h1];exact .inl ⟨rfl,h.mono oM,h1,by simp only;omega⟩
  ·
   rw[if_neg h1];have cf:wc x.v.ae x.v.last=x.v.ae.pages:=by
    rw[wc,if_neg (by rw[h.ok.nb];simp),if_neg (by rw[h.ok.nb];simp)]
   rw[if_neg (fun g=>by have:=h.wr.pages;omega)];have hP:0<nH x:=by
    apply aut;intro h0;exact h1 (aje h oM hn)
   rcases aja (n:=n+100*nH x) (h.mono oM) oM hP with⟨c1,c2,c3,c4⟩|c1
   ·
    rw[if_pos c1];have ke:=(Hh h.wr).1.xH;rcases XJ k (n:=n) (need:=need) (x:=(eC x).1) oM (c2.mono oM) oM (by rw[ke];exact hn)with⟨s1,s2,s3,s4⟩|s1
    ·exact .inl ⟨s1,s2,s3,oM⟩
    ·exact .inr s1
   ·rw[if_neg (by rw[c1];decide),if_pos (by rw[c1];decide)];exact .inr c1
theorem ajg{p:Int}(hp:p<=16){l:List az}(h: ∀x∈l,x.used<=p/\0<=x.live):qg p l<=16*l.length:=by
 unfold qg
 induction l with
 |nil=>simp
 |cons z r ih=>
  have:=ih fun x hx=>h x (aui _ hx);have hz:=h z auD;rw[aum,awz,ad2];have:lf p z<=16:=by
   rw[lf];split
   ·omega
   split
   ·split<;>omega
   omega
  omega
theorem ajh{x:WV}(h:db x):nH x<=480:=by
 have hd:=fe h.ae;have:=ajg hd.2.2.2.1 (l:=av x.v.ae x.v.at_) fun z hz=>by
  have t:=uP h.ae hz;exact⟨t.A4,t.SP⟩
 rw[mh]at this;unfold nH;omega
theorem aji{n:Nat}{x:WV}{need:Int}(h:Lv (n+50000) x)(hg:x.v.gen+500<281474976710656)(hn:need<=x.v.at_.length):
  ((kU x need).2=0/\Lv n (kU x need).1/\need<=(lC (kU x need).1.v.ae (kU x need).1.v.at_).1/\(kU x need).1.v.gen<=x.v.gen+480)\/(kU x need).2=7:=by
 have hP:=ajh h.wr;have ho:=h.ok.ops;rcases XJ ((cT -x.v.ae.ops).toNat+1) (n:=n) (x:=x) (need:=need) oM (h.mono oM) oM hn with⟨s1,s2,s3,s4⟩|s1
 ·exact .inl ⟨s1,s2,s3,by rw[kU];omega⟩
 ·exact .inr s1
def sM(c:CV)(fl:List Int):Int:=(lC c fl).1
theorem EH{c:CV}{fl:List Int}(hk:aW c=true):sM c fl=fV ((av c fl).map (jF c.pages)) -qh ((av c fl).map (mu c.pages)):=by
 rw[sM,XG hk]
theorem Of{l:List Int}{x:Int}(h:x∈l):x<=qh l:=((IW (M:=qh l) l 0).1 (auY _)).2 x h
theorem XK(l:List Int):0<=qh l:=((IW (M:=qh l) l 0).1 (auY _)).1
theorem ajj{p:Int}{l:List az}{i:Nat}{x y:az}(h:l[i]? =some y)(hn:jF p x=jF p y -1)(hm:mu p x<=mu p y):fV (l.map (jF p)) -qh (l.map (mu p)) -1<=fV ((l.set i x).map (jF p)) -qh ((l.set i x).map (mu p)):=by
 have hs:=XH (f:=jF p) (x:=x) h;have:qh ((l.set i x).map (mu p))<=qh (l.map (mu p)):=by
  refine(IW _ 0).2 ⟨XK _,fun z hz=>?_⟩;obtain⟨w,hw,rfl⟩:=ava.1 hz;rcases auG hw with g|rfl
  ·exact Of (auq g)
  exact Int.le_trans hm (Of (auq (atl h)))
 omega
theorem ajk{l:List az}{j:Nat}{x:az}(h:l[j]? =some x)(hb:x.bad=false)(hl:x.live=0):1<=dW l:=by
 rw[dW];refine List.length_pos_of_mem (a:=x) (auC.2 ⟨List.mem_of_getElem? h,?_⟩);rw[hb,hl];rfl
theorem ajl{l:List az}(h:1<=dW l): ∃(j:Nat) (x:az),l[j]? =some x/\x.bad=false/\x.live=0:=by
 obtain⟨x,hx⟩:=List.exists_mem_of_length_pos (show 0<_ from h);obtain⟨h1,h2⟩:=auC.1 hx;simp only[af0,au5,decide_eq_true_eq]at h2;obtain⟨j,hj⟩:=aul h1;exact⟨j,x,hj,h2.1,h2.2⟩
theorem XL{x y:az}(hx:x.live≠0): ∀{l:List az} {i:Nat},l[i]? =some y->dW l<=dW (l.set i x)+1
 |[],i,h=>by simp at h
 |z::r,0,h=>by
  simp only[avo,dW,au9];split<;>split<;>simp<;>omega
 |z::r,i+1,h=>by
  have:=XL hx (l:=r) (i:=i) (by simpa using h);simp only[dW]at this;simp only[awg,dW,au9];split
  ·simp only[ad2];omega
  exact this
theorem XM{x y:az}(hx:x.live≠0)(hy:y.live≠0): ∀{l:List az} {i:Nat},l[i]? =some y->dW (l.set i x)=dW l
 |[],i,h=>by simp at h
 |z::r,0,h=>by
  obtain rfl:z=y:=by simpa using h
  simp only[avo,dW,au9,hx,hy,decide_false,awj];rfl
 |z::r,i+1,h=>by
  have:=XM hx hy (l:=r) (i:=i) (by simpa using h);simp only[dW]at this;simp only[awg,dW,au9];split
  ·simp only[ad2];omega
  exact this
theorem XN{p M:Int}: ∀{l:List az},(∀x∈l,x.bad=false/\(x.live≠0->jF p x<=0)/\(x.live=0->jF p x<=M))->fV (l.map (jF p))<=(dW l:Int)*M
 |[],_=>by simp[fV,dW]
 |z::r,h=>by
  have ih:=XN (l:=r) fun x hx=>h x (aui _ hx);obtain⟨z1,z2,z3⟩:=h z auD;simp only[dW]at ih;simp only[aum,fV,dW,au9,z1,avZ,au2]
  by_cases hl:z.live=0
  ·rw[decide_eq_true hl,if_pos rfl,ad2,Int.natCast_add,Int.add_mul];have:=z3 hl;omega
  rw[decide_eq_false hl];have:=z2 hl;simp only[auH,if_false];omega
theorem ajm{n:Nat}{c:CV}{fl:List Int}{aF:Bool}{p:PV}(h:Ok (n+18) c)(hs:Std c fl)(h3:3<=c.blocks.length)(hc:1<=sM c fl)(hm:mO p c.size=true):
  ((cY c fl aF p).2.2=0/\Ok n (cY c fl aF p).1/\ ∀gl:List Int,(∀k,k∈gl↔k∈fl\/k=(cY c fl aF p).2.1)->(1<=dW (av c fl)->1<=dW (av (cY c fl aF p).1 gl))/\sM c fl -1<=sM (cY c fl aF p).1 gl/\Std (cY c fl aF p).1 gl)\/(cY c fl aF p).2.2=7:=by
 have hd:=fe h.ae;have Od:(dy p c.size).2=0:=by rw[dy,if_pos hm]
 have cf:((dy p c.size).1.length:Int)=c.size:=Eo hm;rw[cY,if_neg (by rw[Od];simp)];generalize(dy p c.size).1=b at*;rw[EH h.ae]at hc;have key: ∀{i:Nat} {d:CV} (y:az),Ok (n+1) d->dV c d->Std d fl->i<c.blocks.length -2->av d fl=(av c fl).set i y->y.bad=false->y.used<c.pages->(∀z,(av c fl)[i]? =some z->z.bad=false/\jF c.pages y=jF c.pages z/\(y.live=0->z.live=0)/\(y.live≠0->y.live=z.live))->
   (dW (av c fl)≥1->y.live=0->2<=dW (av c fl))->
   ((bC d ((i:Int)+2) b=0/\Ok n (bB d ((i:Int)+2) b)/\ ∀gl:List Int,(∀k,k∈gl↔k∈fl\/k=((i:Int)+2)*c.pages+(ak d ((i:Int)+2)).used+1)->(1<=dW (av c fl)->1<=dW (av (bB d ((i:Int)+2) b) gl))/\sM c fl -1<=sM (bB d ((i:Int)+2) b) gl/\Std (bB d ((i:Int)+2) b) gl)\/bC d ((i:Int)+2) b=7):=by
  intro i d y bJ fI XO hi hb hyb hyu hz hid;have nG:=bJ.get XO (i:=i) (by rw[fI.len];exact hi);have fo:i<(av c fl).length:=by rw[mh];exact hi
  rw[hb,auk fo]at nG;have ey:=at1 nG;have hu:(ak d ((i:Int)+2)).used=y.used:=by rw[ey]
  have xV:(dh d.pages fl i:Int)=y.live:=by rw[ey]
  obtain⟨z,qK⟩: ∃z,(av c fl)[i]? =some z:=⟨_,at2 fo⟩;obtain⟨z1,z2,z3,z4⟩:=hz z qK;rcases bJ.prog (n:=n) (b:=(i:Int)+2) (p:=b) oM (by rw[fI.len];omega) (by rw[hu,fI.pages];exact hyu) (by rw[fI.size];exact cf)with⟨e,g⟩|e
  ·
   left;refine⟨e,g,fun gl zG=>?_⟩;obtain⟨b1,b2⟩:=Xg (gl:=gl) bJ.ae XO e (by rw[fI.pages];exact zG);rw[hb,awo]at b1;have qe:=fI.trans (iY d ((i:Int)+2) b);have yk:((dh d.pages fl i:Int)+1)≠0:=by omega
   refine⟨fun h1=>?_,?_,b2⟩
   ·
    rw[b1]
    by_cases ox:y.live=0
    ·have:=hid h1 ox;have:=XL (x:=⟨(dh d.pages fl i:Int)+1,(ak d ((i:Int)+2)).used+1,(ak d ((i:Int)+2)).aU,false⟩) yk qK;omega
    ·rw[XM (x:=⟨(dh d.pages fl i:Int)+1,(ak d ((i:Int)+2)).used+1,(ak d ((i:Int)+2)).aU,false⟩) yk (by rw[←z4 ox];exact ox) qK];exact h1
   ·
    rw[EH h.ae,EH g.ae,b1,qe.pages];refine ajj qK ?_ ?_
    ·
     rw[←z2,jF,jF,if_neg (by simp),if_neg (by rw[hyb];simp),lB,lB];simp only;rw[if_neg (fun g=>yk g.1)]
     by_cases ox:y.live=0/\c.pages -y.used=0
     ·omega
     ·rw[if_neg ox];omega
    ·
     rw[mu,if_neg (by simp),if_neg yk,mu,if_neg (by rw[z1];simp)];split
     ·have:=G8 (uP h.ae (atl qK)) h.ae;exact this.1
     ·exact auY _
  ·exact .inr e
 obtain⟨m,Tw⟩: ∃m,(cT -c.ops).toNat+1=m+1:=⟨_,rfl⟩;rw[Tw,ie]
 suffices main:(∃(i:Nat) (d:CV),bj c fl aF=(d,(i:Int)+2,0)/\((bC d ((i:Int)+2) b=0/\Ok n (bB d ((i:Int)+2) b)/\ ∀gl:List Int,(∀k,k∈gl↔k∈fl\/k=((i:Int)+2)*c.pages+(ak d ((i:Int)+2)).used+1)->(1<=dW (av c fl)->1<=dW (av (bB d ((i:Int)+2) b) gl))/\sM c fl -1<=sM (bB d ((i:Int)+2) b) gl/\Std (bB d ((i:Int)+2) b) gl)\/bC d ((i:Int)+2) b=7))\/ ∃(d:CV) (b0:Int),bj c fl aF=(d,b0,7) by
  rcases main with⟨i,d,he,ajn⟩|⟨d,b0,he⟩
  ·
   rw[he];simp only[if_true];rcases ajn with⟨r1,r2,r3⟩|r1
   ·rw[if_pos r1];exact .inl ⟨rfl,r2,r3⟩
   ·rw[if_neg (by rw[r1];decide),if_pos (by rw[r1];decide)];exact .inr r1
  ·rw[he,if_neg (show ¬(7:Int)=0 by decide),if_pos (show(7:Int)≠9 by decide)];exact .inr rfl
 have hw:=N7 h.ae hs h3
 by_cases hA:(mT c fl).2=true
 ·
  obtain⟨z,hz,a1,a2,a3,a4,a5⟩:=pT (fun x h=>(tv h).1) hA;have nW:(av c fl)[(mT c fl).1.toNat]? =some z:=hz;change 0<=(mT c fl).1 at a4;obtain⟨e1,e2⟩:=wM oM hs nW;have rb:bj c fl aF=(c,(((mT c fl).1.toNat:Nat):Int)+2,0):=by rw[bj,if_pos hA,auU a4]
  simp only[si,decide_eq_true_eq]at a2;refine .inl ⟨_,_,rb,key z (h.mono oM) (.du _) hs e2 (IS nW).symm a1 (tv a3).2 (fun w hw=>?_) (fun _ g=>absurd g oM)⟩;obtain rfl:=at1 (nW.symm.trans hw);exact⟨a1,rfl,id,fun _=>rfl⟩
 ·
  have N9:=uL (BW (R:=si) hw) (show(gw (cl si (av c fl)) c.pages (nu c.pages) [AX,tr]).2=false by simpa[mT,fL]using hA);have jh: ∀x∈av c fl,x.bad=false/\(x.live≠0->jF c.pages x<=0)/\(x.live=0->jF c.pages x<=qh ((av c fl).map (mu c.pages))):=fun x hx=>by
   obtain⟨j,hj⟩:=aul hx;obtain⟨e1,e2⟩:=wM oM hs hj;rw[h.tell]at e1;have et:x.bad=false:=by rw[e1]
   have AQ:0<=x.live:=by rw[e1];simp only;omega
   refine⟨et,fun hl=>?_,fun hl=>?_⟩
   ·have:=N9 _ (auq (f:=iK si) hx);rw[BY et (by simp only[si,decide_eq_true_eq];omega),nu,et]at this;simp only[avZ,au2,decide_eq_false_iff_not]at this;rw[jF,if_neg (by rw[et];simp),lB,if_neg (fun g=>hl g.1)];omega
   ·
    have:mu c.pages x=jF c.pages x:=by
     have Ij: ¬x.bad=true:=by rw[et];simp
     rw[mu,jF,if_neg Ij,if_neg Ij,if_pos hl]
    rw[←this];exact Of (auq hx)
  have XP:2<=dW (av c fl):=by
   have hr:=XN jh;have h0:=XK ((av c fl).map (mu c.pages));apply aut;intro hn;have hle:(dW (av c fl):Int)*qh ((av c fl).map (mu c.pages))<=1*qh ((av c fl).map (mu c.pages)):=Int.mul_le_mul_of_nonneg_right oM h0;omega
  have bN: ¬(dW (av c fl)=0\/(dW (av c fl)=1/\aF=false)):=by rintro(g|g)<;>omega
  by_cases hB:(kF c fl).2=true
  ·
   obtain⟨z,hz,a1,a2,a3,a4,a5⟩:=pT (fun x h=>(tv h).1) hB;have nW:(av c fl)[(kF c fl).1.toNat]? =some z:=hz;change 0<=(kF c fl).1 at a4;obtain⟨e1,e2⟩:=wM oM hs nW;have rb:bj c fl aF=(c,(((kF c fl).1.toNat:Nat):Int)+2,0):=by rw[bj,if_neg hA,if_neg bN,if_pos hB,auU a4]
   refine .inl ⟨_,_,rb,key z (h.mono oM) (.du _) hs e2 (IS nW).symm a1 (tv a3).2 (fun w hw=>?_) (fun _ _=>XP)⟩;obtain rfl:=at1 (nW.symm.trans hw);exact⟨a1,rfl,id,fun _=>rfl⟩
  ·
   have hfd:=WI h.ae h3 oM hB;have Oa:=uL (BW (R:=gO) hw) (show(gw (cl gO (av c fl)) c.pages (nu c.pages) [AX,tr]).2=false by simpa[kF,fL]using hB);obtain⟨z,hz,a1,a2,a3,a4,a5⟩:=pT (fun x h=>(mj h).1) hfd;have nW:(av c fl)[(jN c fl).toNat]? =some z:=hz;change 0<=jN c fl at a4;obtain⟨e1,e2⟩:=wM oM hs nW;have rC:=(mj a3).2.1;have hzu:c.pages<=z.used:=by
    have:=Oa _ (auq (f:=iK gO) (atl nW));rw[BY a1 a2,nu,a1]at this;simp only[avZ,au2,decide_eq_false_iff_not]at this;omega
   have N8:=h.BX e2;rw[h.tell]at e1;have nv:=(vm oM hs (jN c fl).toNat).1 (by rw[e1]at rC;simp only at rC;omega);have eD:jN c fl+2=(((jN c fl).toNat:Nat):Int)+2:=by rw[auU a4]
   rcases h.IP (n:=n+1) (b:=(((jN c fl).toNat:Nat):Int)+2) oM oM with⟨q1,q2⟩|q1
   ·
    have rb:bj c fl aF=((cJ c ((((jN c fl).toNat:Nat):Int)+2)).1,(((jN c fl).toNat:Nat):Int)+2,0):=by rw[bj,if_neg hA,if_neg bN,if_neg hB,eD,q1]
    obtain⟨b1,b2⟩:=IN h.ae hs nv q1;refine .inl ⟨_,_,rb,key _ q2 (xD _ h.ae).2 b2 e2 b1 rfl (by simp only;omega) (fun w hw=>?_) (fun _ _=>XP)⟩;obtain rfl:=at1 (nW.symm.trans hw);refine⟨a1,?_,fun _=>rC,fun g=>absurd rfl g⟩;have atK:z.used<=c.pages:=by rw[e1];exact N8.2
    rw[jF,if_neg (by simp),jF,if_neg (by rw[a1];simp),lB,lB,if_neg (show ¬((0:Int)=0/\c.pages -0=0) by omega),if_pos ⟨rC,oM⟩];simp only;omega
   ·
    right;have rb:bj c fl aF=((cJ c ((((jN c fl).toNat:Nat):Int)+2)).1,(((jN c fl).toNat:Nat):Int)+2,7):=by rw[bj,if_neg hA,if_neg bN,if_neg hB,eD,q1]
    exact⟨_,_,rb⟩
theorem XQ{c:CV}{fl gl:List Int}(hk:aW c=true)(h:av c gl=av c fl):sM c gl=sM c fl:=by rw[EH hk,EH hk,h]
theorem Og{v:VV}{aF:Bool}(hg:v.gen+1<281474976710656)(XR:v.at_.length≤64): ∀(l:List (Int×List UInt8)) {n:Nat} {c:CV} {a:List Int},Ok (n+18*l.length) c→3≤c.blocks.length→Pl c v.at_→Std c a→a.length=v.at_.length→l.Pairwise (fun p q=>p.1≠q.1)→
    (∀x∈l,0<=x.1/\x.1<v.at_.length/\(x.2.length:Int)<=dY c.size)->(∀x∈l,a[x.1.toNat]? =v.at_[x.1.toNat]?)->(mV l:Int)<=sM c (v.at_++a)->1<=dW (av c (v.at_++a))->
    ((gp v aF l c a).2.2=0/\Ok n (gp v aF l c a).1/\Std (gp v aF l c a).1 (gp v aF l c a).2.1/\1<=dW (av (gp v aF l c a).1 (v.at_++(gp v aF l c a).2.1)))\/(gp v aF l c a).2.2=7
  |[],n,c,a,h,h3,hv,ha,dj,hp,hi,hs,hc,hid=> .inl ⟨rfl,h,ha,hid⟩
  |x::r,n,c,a,h,h3,hv,ha,dj,hp,hi,hs,hc,hid=>by
   obtain⟨mq,jM⟩:=auV.1 hp;obtain⟨x0,x1,x2⟩:=hi x auD;have hd:=fe h.ae;have XS:x.1.toNat<v.at_.length:=by omega
   obtain⟨y,hy⟩: ∃y,v.at_[x.1.toNat]? =some y:=⟨_,at2 XS⟩;have MA:a[x.1.toNat]? =some y:=(hs x auD).trans hy
   have Ey: ∀{k N:Int},k∈a->k∈v.at_\/k∈a.set x.1.toNat N:=fun{k N} hk=>by
      obtain⟨j,hj⟩:=aul hk
      by_cases e:j=x.1.toNat
      ·rw[e,MA]at hj
       obtain rfl:=at1 hj;exact .inl (atl hy)
      ·right
       exact atl (i:=j) (by rw[auF (fun g=>e g.symm)];exact hj)
   have XT: ∀{N:Int},∀q∈r,(a.set x.1.toNat N)[q.1.toNat]? =v.at_[q.1.toNat]? :=fun{N} q hq=>by
      have h0:=(hi q (aui _ hq)).1;have bN:=mq q hq;rw[auF oM];exact hs q (aui _ hq)
   rw[gp]
   by_cases h0:x.2.length=0
   ·rw[if_pos h0]
    have Oh:mV (x::r)=mV r:=by
        rw[mV,List.filter_cons_of_neg (by simp[h0])];rfl
    have bD:Std c (a.set x.1.toNat 0):=fun k hk oN=>by
        rcases auG hk with g|g
        ·exact ha k g oN
        ·exact absurd g oN
    have wk:av c (v.at_++a.set x.1.toNat 0)=av c (v.at_++a):=by
        refine N5 oM (hv.nF.append ha) (hv.nF.append bD) (.du _) fun i=>⟨rfl,rfl,rfl,fun _=>yA (fun k hk=>?_) oM⟩;have oN:k≠0:=fun e=>by
          rw[e]at hk;have:((0:Int) -1)/c.pages<0:=awA dDq oM;omega
        rw[at7,at7];constructor
        ·rintro(g|g)
         ·exact .inl g
         ·rcases auG g with g|g
          ·exact .inr g
          ·exact absurd g oN
        ·rintro(g|g)
         ·exact .inl g
         ·exact Ey g
    exact Og hg XR r (h.mono (by simp only[ad2];omega)) h3 hv bD (by rw[auA,dj]) jM (fun q hq=>hi q (aui _ hq)) XT (by rw[XQ h.ae wk,←Oh];exact hc) (by rw[wk];exact hid)
   ·rw[if_neg h0]
    have Oh:mV (x::r)=mV r+1:=by
        rw[mV,List.filter_cons_of_pos (by rw[decide_eq_true_eq];omega)];rfl
    rw[Oh]at hc;obtain⟨k1,_,_,k4⟩:=fN.1 h.ok;have BS:mO (jb v x) c.size=true:=sa.2 ⟨tn.2 ⟨k4,oM⟩, .inl rfl,x0,by show x.1<64;omega,hg,x2⟩;have oG:=(WJ (c:=c) (fl:=v.at_++a) (aF:=aF) (p:=jb v x) h.ae h3).1;rcases ajm (n:=n+18*r.length) (c:=c) (fl:=v.at_++a) (aF:=aF) (p:=jb v x) (h.mono (by simp only[ad2];omega)) (hv.nF.append ha) h3 oM BS with⟨p1,p2,p3⟩|p1
    ·rw[if_neg (by rw[p1];simp)]
     generalize cY c (v.at_++a) aF (jb v x)=P at*
     obtain⟨q1,q2,q3⟩:=p3 (v.at_++a.set x.1.toNat P.2.1) (fun k=>by
          rw[at7,at7];constructor
          ·rintro(g|g)
           ·exact .inl (.inl g)
           ·rcases auG g with g|g
            ·exact .inl (.inr g)
            ·exact .inr g
          ·rintro((g|g)|g)
           ·exact .inl g
           ·exact Ey g
           ·right
            rw[g];exact atl (i:=x.1.toNat) (by rw[auk (by rw[dj];exact XS)]))
     exact Og hg XR r p2 (by rw[oG.cm.len];exact h3) (hv.kd oG.toKd fun _ g=>auy _ g) (fun k hk=>q3 k (avp _ hk)) (by rw[auA,dj]) jM (fun q hq=>by
          obtain⟨z0,z1,z2⟩:=hi q (aui _ hq);exact⟨z0,z1,by rw[oG.cm.size];exact z2⟩) XT oM (q1 hid)
    ·right
     rw[if_pos (by rw[p1];decide)];exact p1
structure Items(v:VV)(l:List (Int×List UInt8)):Prop where
  ne:l.Pairwise fun p q=>p.1≠q.1
  it: ∀x∈l,0<=x.1/\x.1<v.at_.length/\(x.2.length:Int)<=dY v.ae.size
  len:l.length<=v.at_.length
theorem ajo(l:List (Int×List UInt8)):mV l<=l.length:=awi _ _
theorem Lv.by{n:Nat}{x:WV}(h:Lv n x)(b:Bool):Lv n {x with beyond:=b}:=⟨h.ok,h.wr.by b,h.rt,h.pl,h.kT,h.half,h.idle⟩
theorem ajp{n:Nat}{x:WV}{l:List (Int×List UInt8)}(h:Lv (n+60000) x)(hg:x.v.gen+600<281474976710656)(hl:Items x.v l):
    ((gI x l).2=0/\Lv n (gI x l).1/\(gI x l).1.v.gen<=x.v.gen+481)\/(gI x l).2=7:=by
  have hf:=h.wr.kT;have mL:=hl.len;have yk:=ajo l;have nh:=W5 (l:=l) h.wr h.rt h.pl fun y hy=>(hl.it y hy).1;have ph:=Hj (l:=l) h.wr;have zy:Sf x (cG x.v) (cN x l).1 (cN x l).2:=(W4 (x:={x with beyond:=false}) (need:=mV l) (h.wr.by false) h.rt h.pl).bP
  have je:=Hi (l:=l) h.wr;rw[gI]at nh ph⊢;rcases aji (n:=n+2000) (x:={x with beyond:=false}) (need:=mV l) (h.by false|>.mono oM) (by show x.v.gen+500<_;omega) (by show(mV l:Int)<=x.v.at_.length;omega)with⟨s1,s2,s3,s4⟩|s1
  ·change(cN x l).2=0 at s1
   change Lv (n+2000) (cN x l).1 at s2;change(mV l:Int)<=(lC (cN x l).1.v.ae (cN x l).1.v.at_).1 at s3;change(cN x l).1.v.gen<=x.v.gen+480 at s4;rw[if_neg (by rw[s1];simp)]at nh ph⊢;have hlen:=zy.len;have eQ:=zy.kd.cm;have hd:=fe s2.ok.ae;have h3:3<=(cN x l).1.v.ae.blocks.length:=by have:=s2.wr.tB;omega
   have jE:=s2.rt.pl.nF
   have wk:av (cN x l).1.v.ae ((cN x l).1.v.at_++(cN x l).1.v.at_)=av (cN x l).1.v.ae (cN x l).1.v.at_:=
      N5 oM jE (jE.append jE) (.du _) fun i=>⟨rfl,rfl,rfl,fun _=>yA (fun k _=>by rw[at7];exact or_self_iff) oM⟩
   have ajq:1<=dW (av (cN x l).1.v.ae (cN x l).1.v.at_):=by
      obtain⟨j,j1,j2⟩:=s2.idle;exact ajk (s2.ok.get jE j1) rfl (by simp only;omega)
   have hit:=Og (v:=(cN x l).1.v) (aF:=(cN x l).1.beyond) oM oM l (n:=n+2) (c:=(cN x l).1.v.ae) (a:=(cN x l).1.v.at_) (s2.ok.mono oM) h3 s2.rt.pl jE rfl hl.ne (fun y hy=>by
      obtain⟨z0,z1,z2⟩:=hl.it y hy;exact⟨z0,by rw[hlen];exact z1,by rw[eQ.size];exact z2⟩) (fun _ _=>rfl) (by rw[XQ s2.ok.ae wk];exact s3) (by rw[wk];exact ajq)
   have oE:=IC (v:=(cN x l).1.v) (aF:=(cN x l).1.beyond) l (c:=(cN x l).1.v.ae) (a:=(cN x l).1.v.at_) s2.ok.ae h3 s2.rt.pl s2.rt.pl (fun y hy=>(hl.it y hy).1);change _\/(gy x l).2.2=7 at hit;rcases hit with⟨i1,i2,i3,i4⟩|i1
   ·change(gy x l).2.2=0 at i1
    change Ok (n+2) (gy x l).1 at i2;change Std (gy x l).1 (gy x l).2.1 at i3;change 1<=dW (av (gy x l).1 ((cN x l).1.v.at_++(gy x l).2.1))at i4;rw[if_neg (by rw[i1];simp)]at nh ph⊢;obtain⟨t1,t2,t3⟩:=oE;obtain⟨t4,t5,t6⟩:=t2 i1;change Kp (cN x l).1.v.at_ (cN x l).1.v.ae (gy x l).1 at t1;change(gy x l).2.1.length=(cN x l).1.v.at_.length at t6;have fY:db ((cN x l).1.on (gy x l).1):=s2.wr.on i2.ae t1.cm;rcases Xl (n:=n) fY i2 ⟨by show(cN x l).1.v.gen+1<_;omega,by rw[t6,show((cN x l).1.on (gy x l).1).v.ae.size=(cN x l).1.v.ae.size from t1.cm.size];exact s2.kT,Xt i2.ae i3⟩with⟨w1,w2,w3,w4,w5,w6⟩|w1
    ·left
     rw[w1]at nh;refine⟨w1,⟨w2,ph.ok,(nh.cP rfl).1,h.pl.kd nh.kd,by rw[nh.len,nh.kd.cm.size];exact h.kT,by rw[nh.len,nh.kd.cm.len,nh.kd.cm.pages];exact h.half,?_⟩,by rw[w4];show(cN x l).1.v.gen+1<=_;omega⟩;obtain⟨j,z,hz,z1,z2⟩:=ajl i4;have EG:Std (gy x l).1 ((cN x l).1.v.at_++(gy x l).2.1):=(jE.kd t1.toKd fun _ g=>g).append i3;obtain⟨e1,e2⟩:=wM (by rw[t1.cm.pages];omega) EG hz;have vo:dV (gy x l).1 (dQ ((cN x l).1.on (gy x l).1) (gy x l).2.1).1.v.ae:=(Lw fY (ajr i3 (by show 1<=(gy x l).1.pages;rw[t1.cm.pages];omega)) t6).1.cm;refine⟨j,by rw[vo.len];exact e2,?_⟩;rw[i2.tell]at e1;rw[e1]at z2;simp only at z2;have nv:=(vm (by rw[t1.cm.pages];omega) EG j).1 oM;have hS:=(nh.cP rfl).1.pl.nF;refine(vm (by rw[vo.pages,t1.cm.pages];omega) hS j).2 ?_;rw[w3];intro k hk oN;rw[vo.pages];exact nv k (avp _ hk) oN
    ·exact .inr w1
   ·right
    rw[if_pos (by rw[i1];decide)];exact i1
  ·right
   change(cN x l).2=7 at s1;rw[if_pos (by rw[s1];decide)];exact s1
where
  ajr {c:CV} {a:List Int} (h:Std c a) (hp:1<=c.pages):iZ c a:=fun k hk=>by
    by_cases h0:k=0
    ·exact .inl h0
    ·obtain⟨q1,q2,_⟩:=nr.1 (h k hk h0)
     exact .inr ⟨(h.pos hp k hk).resolve_left h0,q1,q2⟩
theorem ajs{v:VV}{l:List (Int×List UInt8)}(h:Items v l):tF v l=true:=by
  refine Dt.2 fun i hi=>?_;have hx:=at2 hi;obtain⟨z0,z1,z2⟩:=h.it l[i] (avL hi);rw[uR,show l.getD i (0,[])=l[i] by simp[List.getD,hi],af0,uQ,af0,af0,decide_eq_true_eq,decide_eq_true_eq,decide_eq_true_eq];refine⟨⟨⟨z0,z1⟩,z2⟩,?_⟩;rw[au5]
  cases hc:((l.take i).map Prod.fst).contains l[i].1 with
  |false=>rfl
  |true=>
   exfalso;obtain⟨p,hp,e⟩:=ava.1 (avl.1 hc);obtain⟨j,hj,e2⟩:=List.mem_take_iff_getElem.1 hp;have:=avA.1 h.ne j i oM hi oM;rw[e2]at this;exact this e
theorem ajt{n:Nat}{v:VV}{l:List (Int×List UInt8)}(h:Lv (n+60000) ⟨v,false⟩)(hg:v.gen+600<281474976710656)(hl:Items v l):
    ((fg v l).2=0/\Lv n ⟨(fg v l).1,false⟩/\(fg v l).1.gen<=v.gen+481)\/(fg v l).2=7:=by
  have hb:=ajp (l:=l) h hg hl;have e:lF (v.ae.blocks.length+1) ⟨v,false⟩ l=gI ⟨v,false⟩ l:=by
    rw[lF,if_neg];rintro⟨g,_⟩;rcases hb with⟨b1,_⟩|b1
    ·rw[b1]at g;cases g
    ·rw[b1]at g;cases g
  rw[fg,if_neg (fun g=>g ⟨Eu.2 h.rt,oM,ajs hl⟩),if_neg (by have:=h.ok.off;rw[show(⟨v,false⟩:WV).v.ae=v.ae from rfl]at this;rw[this];simp),e];rcases hb with⟨b1,b2,b3⟩|b1
  ·exact .inl ⟨b1,b2.by false,b3⟩
  ·exact .inr b1
theorem XU{n:Nat}{f:FV}(h:jT f)(k:Ok n f.aj.ae)(hp:iN f.aj.ae)(hi: ∃j,j<f.aj.ae.blocks.length -2/\dh f.aj.ae.pages f.aj.at_ j=0):Lv n ⟨f.aj,false⟩:=by
  have hid:=h.ids;have hc:eJ f.aj.ae<=kP f.aj.ae.size/\eJ f.aj.ae<=uT f.aj.ae.blocks.length f.aj.ae.pages/2:=by rw[eJ,zv];omega
  have hl:uT f.aj.ae.blocks.length f.aj.ae.pages<=((f.aj.ae.blocks.length:Int) -4)*f.aj.ae.pages:=by
    have h4:=(fN.1 h.rt.bears).2.1;have hd:=fe k.ae;rw[uT];split
    ·exact avG oM oM
    ·exact auY _
  exact⟨k,Du (Eu.2 h.rt),h.rt,hp,by show(f.aj.at_.length:Int)<=kP f.aj.ae.size;omega,by show 2*(f.aj.at_.length:Int)<=((f.aj.ae.blocks.length:Int) -4)*f.aj.ae.pages;omega,hi⟩
theorem aju(t:List Rt){room:Int}(hr:0<=room)(id:Nat):((sr t (room/20).toNat id).length:Int)<=room:=by
  have:=LO t (room/20).toNat id;omega
theorem XV{n:Nat}{f:FV}{l:List Ch}(h:jT f)(k:Lv (n+60000) ⟨f.aj,false⟩)(hg:f.aj.gen+600<281474976710656)(he:dF f.table l=0)(hm: ¬fh f.aj.ae<(bT f.table l).length):
    ((bI f l).2=0/\Lv n ⟨(bI f l).1.aj,false⟩/\(bI f l).1.aj.gen<=f.aj.gen+481)\/(bI f l).2=7:=by
  have hE:=BU (l:=l) h;rw[if_neg hm]at hE
  by_cases hc:fq (eX f) (dL f l)=[]
  ·rw[(IJ h he hm hc).1]
   exact .inl ⟨rfl,k.mono oM,by simp only;omega⟩
  ·have hlen:(eX f).length=(dL f l).length:=by
      have:=(Ei hE).1;have h2:=h.ids;rw[ub h,Bd];have:((dL f l).length:Int)=eJ f.aj.ae:=this;omega
   have Bt:(eX f).length=f.aj.at_.length:=by rw[ub h,Bd]
   have ajv:Items f.aj (fq (eX f) (dL f l)):=by
      refine⟨(Ie (eX f) (dL f l) _).imp fun g=>by omega,fun x hx=>?_,?_⟩
      ·obtain⟨i,i1,rfl,i3⟩:=Nq hx
       refine⟨Int.natCast_nonneg _,by simp only;omega,?_⟩;obtain⟨_,_,_,e⟩:=Np hE;have hi:i<(dL f l).length:=by omega
       have l5:(dL f l).getD i []∈dL f l:=by
          simp only[List.getD,at2 hi,avM];exact avL hi
       rw[show dL f l=mn (bT f.table l) (eJ f.aj.ae).toNat (dY f.aj.ae.size/20).toNat from e]at l5⊢;rw[mn]at l5⊢;obtain⟨j,_,hj⟩:=ava.1 l5;simp only;rw[←hj]
       exact aju _ (by rw[dY];split;·rename_i hf;have:=tn.1 hf;omega
                       ·exact auY _) j
      ·have:=Ho (eX f) (dL f l) (max (eX f).length (dL f l).length)
       rw[fq];omega
   rw[Hv (zT.2 h) he hE hc];exact ajt k hg ajv
def EI(n p:Nat):CV×Int:=eH ((n:Int)+5) ((p:Int)+2) 64
def rK(n p:Nat):FV×Int:=jc (EI n p).1
def Oi(f:FV):Bool:=jP f&&decide (f.table=[])&&f.aj.ae.blocks.all (fun b=> !b.bad&&decide (b.aU=0))&&decide (f.aj.ae.ops<=10)&& !f.aj.ae.off&&decide (f.aj.ae.aA=[])&&decide (f.aj.gen<=10)&&f.aj.at_.all (fun n=>decide (n=0))&&decide (fq (eX f) (dL f [])=[])
def XW(n p:Nat):Bool:=decide ((EI n p).2=0)&&decide ((rK n p).2=0)&&Oi (rK n p).1&&aW (EI n p).1&&decide ((rK n p).1.aj.ae.blocks.length=n+5)&&decide ((rK n p).1.aj.ae.pages=(p:Int)+2)&&decide ((rK n p).1.aj.ae.size=64)
theorem ajw: ∀n,n<8-> ∀p,p<7->XW n p=true:=by decide+kernel
structure Rm(k:Nat)(f:FV):Prop where
 fb:jT f
 lv:Lv k ⟨f.aj,false⟩
 iM:f.aj.ae.aA=[]
 off:f.aj.ae.off=false
 gen:f.aj.gen+k<281474976710656
 can:fq (eX f) (dL f [])=[]
 kT:(f.table.length:Int)<=fh f.aj.ae
theorem Rm.mono{k m:Nat}{f:FV}(h:Rm k f)(hm:m<=k):Rm m f:=⟨h.fb,h.lv.mono hm,h.iM,h.off,avI (Nat.add_le_add_left hm _) h.gen,h.can,h.kT⟩
theorem ajx{f:FV}(h:Oi f=true):Rm 1000000000 f/\f.table=[]:=by
 simp only[Oi,af0,decide_eq_true_eq,aue,au5]at h;obtain⟨⟨⟨⟨⟨⟨⟨⟨h1,h2⟩,h3⟩,h4⟩,h5⟩,h6⟩,h7⟩,h8⟩,h9⟩:=h;have rL:=zT.1 h1;have pS:cT=1099511627776:=rfl;have fm: ∀b:Int,(ak f.aj.ae b).bad=false/\(ak f.aj.ae b).aU=0:=fun b=>by
  rcases aud b.toNat f.aj.ae.blocks.length with hl|hl
  ·
   have hm:ak f.aj.ae b∈f.aj.ae.blocks:=by
    simp only[ak,List.getD,at2 hl,avM];exact avL hl
   exact h3 _ hm
  simp only[ak,List.getD,aub hl,Option.getD_none];exact⟨rfl,rfl⟩
 have h4l:4<=(f.aj.ae.blocks.length:Int):=(fN.1 rL.rt.bears).2.1;have hp:2<=f.aj.ae.pages:=(fN.1 rL.rt.bears).2.2.1;have bJ:Ok 1000000000 f.aj.ae:=⟨rL.rt.bears,fun b=>(fm b).1,h5,(by rw[h6];exact fun x hx=>absurd hx avO),oM,fun b=>by rw[(fm b).2];omega⟩;refine⟨⟨rL,XU rL bJ (.nil h6) ⟨0,oM,?_⟩,h6,h5,avI (Nat.add_le_add_right h7 _) dDq,h9,?_⟩,h2⟩
 ·refine(vm oM rL.rt.pl.nF 0).2 fun k hk oN=>?_;exact absurd (h8 k hk) oN
 rw[h2];have hm:=rL.jA;have:0<=fh f.aj.ae:=by
  rw[fh,xO,jA];split
  ·omega
  rename_i g;have hi:=L8 f.aj.ae;have h0:0<=dY f.aj.ae.size/20:=by omega
  have h1:0<=zv f.aj.ae.blocks.length f.aj.ae.pages f.aj.ae.size*(dY f.aj.ae.size/20):=avG oM h0;omega
 simpa using this
theorem ajy{n p:Nat}(hn:n<8)(hp:p<7):(EI n p).2=0/\aW (EI n p).1=true/\(rK n p).2=0/\Rm 1000000000 (rK n p).1/\(rK n p).1.table=[]/\fh (rK n p).1.aj.ae=xO ((n:Int)+5) ((p:Int)+2) 64:=by
 have h:=ajw n hn p hp;simp only[XW,af0,decide_eq_true_eq]at h;obtain⟨⟨⟨⟨⟨⟨h1,h2⟩,h3⟩,h4⟩,h5⟩,h6⟩,h7⟩:=h;obtain⟨g1,g2⟩:=ajx h3;refine⟨h1,h4,h2,g1,g2,?_⟩;rw[fh,h5,h6,h7];rfl
theorem ajz{g k:Nat}(h:g+(k+60000)<281474976710656):g+600<281474976710656:=avI (Nat.add_le_add_left (awu (by decide:600<=60000) (Nat.le_add_left _ _)) g) h
theorem ajA{g g2 k:Nat}(h:g+(k+60000)<281474976710656)(h2:g2<=g+481):g2+k<281474976710656:=avI (by omega:g2+k<=g+(k+60000)) h
theorem Rm.step{k:Nat}{f:FV}{l:List Ch}(h:Rm (k+60000) f)(he:dF f.table l=0)(hm: ¬fh f.aj.ae<(bT f.table l).length):(bI f l).2=0/\Rm k (bI f l).1/\(bI f l).1.table=bT f.table l/\fh (bI f l).1.aj.ae=fh f.aj.ae:=by
 obtain⟨q1,q2,q3,q4,q5,q6,q7⟩:=aiP h.fb h.iM h.off l;have hg:=h.gen;have xV:=h.lv;have hg2:f.aj.gen+600<281474976710656:=ajz h.gen;have dj:=XV (n:=k) h.fb xV hg2 he hm;have a1:(bI f l).2=0:=by
  rcases dj with g|g
  ·exact g.1
  exact absurd g q6
 have a23:Lv k ⟨(bI f l).1.aj,false⟩/\(bI f l).1.aj.gen<=f.aj.gen+481:=by
  rcases dj with g|g
  ·exact g.2
  exact absurd g q6
 obtain⟨a2,a3⟩:=a23;have B2:=N1 h.fb (.nil h.iM) he hm;have hc:=NW B2.kd.cm;have ht:=(q4 a1).2;refine⟨a1,⟨q1,a2,q2,q3,ajA h.gen a3,?_,by rw[ht,hc.1];omega⟩,ht,hc.1⟩;have hE:=BU (l:=l) h.fb;rw[if_neg hm]at hE;have HX:=BU (l:=[]) q1;have IX:bT (bI f l).1.table []=(bI f l).1.table:=by rw[bT];split<;>rfl
 rw[IX,ht,hc.1,if_neg hm]at HX;have BJ:dL (bI f l).1 []=dL f l:=by
  rw[dL,dL,IX,ht,hc.2,B2.kd.cm.size]
 by_cases XX:fq (eX f) (dL f l)=[]
 ·obtain⟨e1,e2⟩:=IJ h.fb he hm XX;rw[e1];exact h.can
 have hold:eX (bI f l).1=dL f l:=by
  rw[ub q1];have hlen:(eX f).length=(dL f l).length:=by
   have:=(Ei hE).1;have h2:=h.fb.ids;rw[ub h.fb,Bd];have:((dL f l).length:Int)=eJ f.aj.ae:=this;omega
  have hs:=W7 (l:=fq (eX f) (dL f l)) h.fb.rt (.nil h.iM);rw[←ub h.fb,Xc hlen]at hs;have ew:=Hv (zT.2 h.fb) he hE XX;rw[ew]at a1⊢;exact(hs.cP a1).2
 rw[hold,BJ];exact VW _
theorem Rm.same{k:Nat}{f:FV}(h:Rm k f){l:List Ch}(he:dF f.table l=0)(hl:bT f.table l=f.table):bI f l=(f,0):=by
 have IX:bT f.table []=f.table:=by rw[bT];split<;>rfl
 have hn:dL f l=dL f []:=by rw[dL,dL,hl,IX]
 have hf:=h.kT;exact(IJ h.fb he (by rw[hl];omega) (by rw[hn];exact h.can)).1
theorem Rm.stays{k:Nat}{f:FV}(h:Rm (k+60000) f)(l:List Ch):Rm k (bI f l).1/\((bI f l).2=0->dF f.table l=0/\(bI f l).1.table=bT f.table l)/\((bI f l).2≠0->(bI f l).1=f):=by
 by_cases he:dF f.table l=0
 ·
  by_cases hm:fh f.aj.ae<(bT f.table l).length
  ·rw[NZ h.fb he hm];exact⟨h.mono oM,fun g=>absurd (show(5:Int)=0 from g) dDq,fun _=>rfl⟩
  obtain⟨a1,a2,a3,a4⟩:=h.step he hm;exact⟨a2,fun _=>⟨he,a3⟩,fun g=>absurd a1 g⟩
 rw[NY h.fb he];exact⟨h.mono oM,fun g=>absurd g he,fun _=>rfl⟩
def Oj(t:List Rt)(l:List Ch)(m:Int):Int:=if dF t l=0/\m<(bT t l).length then 5 else dF t l
theorem Rm.done{k:Nat}{f:FV}(h:Rm (k+60000) f)(l:List Ch):(bI f l).2=Oj f.table l (fh f.aj.ae)/\Rm k (bI f l).1/\((bI f l).2=0->(bI f l).1.table=bT f.table l)/\((bI f l).2≠0->(bI f l).1=f)/\fh (bI f l).1.aj.ae=fh f.aj.ae:=by
 rw[Oj]
 by_cases he:dF f.table l=0
 ·
  by_cases hm:fh f.aj.ae<(bT f.table l).length
  ·rw[NZ h.fb he hm,if_pos ⟨he,hm⟩];exact⟨rfl,h.mono oM,fun g=>absurd (show(5:Int)=0 from g) dDq,fun _=>rfl,rfl⟩
  obtain⟨a1,a2,a3,a4⟩:=h.step he hm;rw[if_neg (fun g=>hm g.2),he];exact⟨a1,a2,fun _=>a3,fun g=>absurd a1 g,a4⟩
 rw[NY h.fb he,if_neg (fun g=>he g.1)];exact⟨rfl,h.mono oM,fun g=>absurd g he,fun _=>rfl,rfl⟩
def lQ(c:Ch):aO:=if c.gone=true then⟨2,⟨c.r.p,0⟩,0#128,0,0⟩else⟨1,c.r,0#128,0,0⟩
def hH(c:Ch):Ch:=if c.gone=true then⟨⟨c.r.p,0⟩,true⟩else c
theorem ajB(t:List Rt)(c:Ch):eO t (hH c)=eO t c/\jj t (hH c)=jj t c:=by
 rw[hH];split
 ·
  rename_i hg;have e1:eO t ⟨⟨c.r.p,0⟩,true⟩=eO t c:=by simp only[eO,hg]
  refine⟨e1,?_⟩;rw[jj,jj,e1,hg];rfl
 exact⟨rfl,rfl⟩
theorem Ol: ∀(l:List Ch) (t:List Rt),jk t (l.map hH)=jk t l
 |[],_=>rfl
 |c::r,t=>by
  obtain⟨e1,e2⟩:=ajB t c;rw[aum,jk,jk,e1,e2,Ol r]
theorem XY(t:List Rt)(l:List Ch):dF t (l.map hH)=dF t l/\bT t (l.map hH)=bT t l:=by
 have e:dF t (l.map hH)=dF t l:=by rw[dF,dF,Ol]
 exact⟨e,by rw[bT,bT,e,Ol]⟩
theorem XZ(p:bh)(l m:List aO):dX p (l++m)=dX (dX p l) m:=avQ
theorem ajC(p:bh)(c:Ch):cI p (lQ c)={p with batch:=p.batch++[hH c]}:=by
 rw[lQ,hH]
 cases hg:c.gone with
 |true=>rfl
 |false=>
  obtain⟨r,g⟩:=c;simp only at hg;subst hg;rfl
theorem Om: ∀(l:List Ch) (p:bh),dX p (l.map lQ)={p with batch:=p.batch++l.map hH}
 |[],p=>by simp[dX]
 |c::r,p=>by
  have:dX p ((c::r).map lQ)=dX (cI p (lQ c)) (r.map lQ):=rfl;rw[this,ajC,Om r];simp
def yB:aO:=⟨3,bQ,0#128,0,0⟩
def IY(n:Nat):aO:=⟨5,bQ,0#128,0,Int64.ofInt (n:Int)⟩
def IZ:aO:=⟨7,bQ,0#128,0,0⟩
def I0:aO:=⟨8,bQ,0#128,0,0⟩
def I1(a b:List Ch)(n:Nat):List aO:=a.map lQ++(yB::IY n::(b.map lQ++[yB,IZ,I0]))
def vp(l:List Ch):aJ:=(l.map fun c=>qx (lQ c)++[10]).flatten
theorem ajD(l:List Ch)(c:Ch):vp (l++[c])=vp l++(qx (lQ c)++[10]):=by simp[vp]
theorem X0: ∀l:List Ch,(vp l).length<=48*l.length
 |[]=>at5 _
 |c::r=>by
  have:=X0 r;have h:=Gu (lQ c);have:vp (c::r)=(qx (lQ c)++[10])++vp r:=by simp[vp]
  rw[this];simp only[adr,ad2,alM];omega
theorem ajE{c:CV}{b:Bool}{fs:List Ft}(hk:aW c=true)(hl:fs.length<=64):aW {c with off:=b,aA:=fs}=true:=by
 obtain⟨h1,h2,h3,_,h5⟩:=eN.1 hk;exact eN.2 ⟨h1,h2,h3,hl,h5⟩
theorem ajF{v:VV}(h:fw v){b:Bool}{fs:List Ft}(hl:fs.length<=64):fw {v with ae:={v.ae with off:=b,aA:=fs}}:=by
 obtain⟨h1,h2,h3,h4,h5,h6,h7⟩:=h;obtain⟨k1,k2⟩:=fN.1 h1;exact⟨fN.2 ⟨ajE k1 hl,k2⟩,h2,h3,h4,h5,h6,h7⟩
theorem X1{f:FV}(h:jT f){b:Bool}{fs:List Ft}(hl:fs.length<=64):jT ⟨{f.aj with ae:={f.aj.ae with off:=b,aA:=fs}},f.table⟩:=
 ⟨ajF h.rt hl,h.jA,h.ids,h.oo,h.eq⟩
theorem ajG{g:FV}(h:jT g): ∃o:FV,cy (iI g.aj.ae [])=(o,0)/\o.table=g.table/\kN g.aj.ae []=0:=by
 have hk:=(fN.1 h.rt.bears).1;obtain⟨o1,o2⟩:=Ic hk;have h2:=(X1 h (b:=false) (fs:=[]) (auo _)).load.1;rw[o2];exact⟨_,h2,rfl,o1⟩
theorem whole{n p N:Nat}{a b:List Ch}(hn:n<7)(hp:p<7)(hN:N<20)(ha:dF [] a=0)(hb:dF (bT [] a) b=0)
  (ht:((bT [] a).length:Int)<=xO ((n:Int)+5) ((p:Int)+2) 64) (hu:((bT (bT [] a) b).length:Int)<=xO ((n:Int)+5) ((p:Int)+2) 64):
  (dX (eo (rK n p).1) (I1 a b N)).told=gZ 0++gZ 0++gZ 0++BP (bT (bT [] a) b)\/(dX (eo (rK n p).1) (I1 a b N)).told=gZ 0++gZ 7++gZ 0++BP (bT [] a)\/(dX (eo (rK n p).1) (I1 a b N)).told=gZ 0++gZ 7++gZ 0++BP (bT (bT [] a) b):=by
 obtain⟨_,_,_,w1,w2,w3⟩:=ajy (n:=n) (p:=p) oM oM;generalize rK n p=F at*;obtain⟨f0,e0⟩:=F;simp only at w1 w2 w3⊢;generalize xO ((n:Int)+5) ((p:Int)+2) 64=M at*;obtain⟨a1,a2⟩:=XY [] a;obtain⟨b1,b2⟩:=XY (bT [] a) b;obtain⟨q1,q2,q3,_,q5⟩:=Rm.done (k:=100000) (f:=f0) (w1.mono dDq) (a.map hH);have BT:(bI f0 (a.map hH)).2=0:=by
  rw[q1,Oj,w2,a1,if_neg]
  ·exact ha
  ·rintro⟨_,g⟩;rw[a2,w3]at g;omega
 have By:=q3 BT;rw[w2,a2]at By;rw[w3]at q5;rw[I1,XZ,Om];have gz:dX {eo f0 with batch:=(eo f0).batch++a.map hH} (yB::IY N::(b.map lQ++[yB,IZ,I0]))=dX (cI (cI ⟨f0,a.map hH,[]⟩ yB) (IY N)) (b.map lQ++[yB,IZ,I0]):=by
  simp only[eo,auS];rfl
 rw[gz];have hs2:cI ⟨f0,a.map hH,[]⟩ yB=⟨(bI f0 (a.map hH)).1,[],gZ 0⟩:=by
  show jC _ pZ (bI f0 (a.map hH)).2=_;rw[BT];rfl
 rw[hs2];generalize(bI f0 (a.map hH)).1=f1 at*;obtain⟨N0,hN0⟩: ∃N0,N0=(Int64.ofInt (N:Int)).toInt:=⟨_,rfl⟩;have IH:cI ⟨f1,[],gZ 0⟩ (IY N)=⟨⟨{f1.aj with ae:={f1.aj.ae with off:=false,aA:=[⟨f1.aj.ae.ops+N0,false,true,0⟩]}},f1.table⟩,[],gZ 0⟩:=by
  show p0 _ _=_;rw[p0,if_neg (by show ¬64<=f1.aj.ae.aA.length;rw[q2.iM];decide)];simp only[Bi,q2.iM,hN0,auS];have lO:=q2.off;obtain⟨⟨⟨c1,c2,c3,c4,c5,c6⟩,v2,v3,v4⟩,tb⟩:=f1;simp only at lO;subst lO;rfl
 rw[IH,XZ,Om];have rL:=X1 q2.fb (b:=false) (fs:=[⟨f1.aj.ae.ops+N0,false,true,0⟩]) (by simp);have bJ:=q2.lv.ok;have hid:=q2.lv.idle;have zJ:=q2.gen;have hmo:fh {f1.aj.ae with off:=false,aA:=[⟨f1.aj.ae.ops+N0,false,true,0⟩]}=M:=q5
 generalize hF:(⟨{f1.aj with ae:={f1.aj.ae with off:=false,aA:=[⟨f1.aj.ae.ops+N0,false,true,0⟩]}},f1.table⟩:FV)=f2 at rL⊢
 have pn:f2.aj.ae={f1.aj.ae with off:=false,aA:=[⟨f1.aj.ae.ops+N0,false,true,0⟩]}:=by rw[←hF]
 have zP:f2.table=bT [] a:=by rw[←hF];exact By
 have cf:iN f2.aj.ae:=by
  rw[pn];intro f hf;obtain rfl:f=_:=by simpa using hf
  exact .inl rfl
 have xV:Lv (0+60000) ⟨f2.aj,false⟩:=by
  refine(XU rL ?_ cf ?_).mono (at5 _)
  ·
   have k:=bJ.mono (show 0+60000<=100000 by decide);rw[pn];refine⟨?_,k.nb,rfl,fun f hf AF=>?_,k.ops,k.aU⟩
   ·have:=rL.rt.bears;rw[pn]at this;exact this
   ·
    obtain rfl:f=_:=by simpa using hf
    rfl
  ·
   obtain⟨j,j1,j2⟩:=hid;refine⟨j,?_,?_⟩
   ·rw[pn];exact j1
   ·rw[←hF];exact j2
 have NG:f2.aj.gen+600<281474976710656:=by
  have:f2.aj.gen=f1.aj.gen:=by rw[←hF]
  rw[this];have h9:f1.aj.gen+100000<281474976710656:=zJ;omega
 have oh:dF f2.table (b.map hH)=0:=by rw[zP,b1];exact hb
 have dI:bT f2.table (b.map hH)=bT (bT [] a) b:=by rw[zP,b2]
 have rY: ¬fh f2.aj.ae<(bT f2.table (b.map hH)).length:=by rw[dI,pn,hmo];omega
 have dj:=XV (n:=0) rL xV NG oh rY;have B2:=N1 rL cf oh rY;rw[dI]at B2;have hs4:dX {(⟨f2,[],gZ 0⟩:bh)with batch:=(⟨f2,[],gZ 0⟩:bh).batch++b.map hH} [yB,IZ,I0]=oZ (jD (jC ⟨(bI f2 (b.map hH)).1,[],gZ 0⟩ pZ (bI f2 (b.map hH)).2)):=rfl;rw[hs4];have hg: ∃g:FV,jT g/\g.aj.ae=(bI f2 (b.map hH)).1.aj.ae/\((bI f2 (b.map hH)).2=0/\g.table=bT (bT [] a) b\/(bI f2 (b.map hH)).2=7/\(g.table=bT [] a\/g.table=bT (bT [] a) b)):=by
  rcases dj with⟨h0,_⟩|h7
  ·obtain⟨r1,r2⟩:=B2.cP h0;exact⟨_,r1,rfl, .inl ⟨h0,r2⟩⟩
  ·obtain⟨g,g1,g2,g3⟩:=B2.any;rw[zP]at g3;exact⟨g,g1,g2, .inr ⟨h7,g3⟩⟩
 obtain⟨g,g1,g2,g3⟩:=hg;obtain⟨o,o1,o2,o3⟩:=ajG g1;rw[g2]at o1 o3;have NX:jD (jC ⟨(bI f2 (b.map hH)).1,[],gZ 0⟩ pZ (bI f2 (b.map hH)).2)=⟨o,[],gZ 0++gZ (bI f2 (b.map hH)).2++gZ 0⟩:=by
  rw[jD,if_neg (fun k=>k (show kN (bI f2 (b.map hH)).1.aj.ae []=0 from o3)),if_neg (fun k=>k (by show(cy (iI (bI f2 (b.map hH)).1.aj.ae [])).2=0;rw[o1]))];simp only[jC,jQ,o1,gZ,at4]
 rw[NX,Wg (by show cS o.table=true;rw[o2];exact g1.right),o2];rcases g3 with⟨h0,h1⟩|⟨h7,h1|h1⟩
 ·left;simp only[h0,h1]
 ·right;left;simp only[h7,h1]
 ·right;right;simp only[h7,h1]
end Go.Kb
namespace Go.Proofs.YtkggjjnhnjjokaaGreatDoor
open Go.ax Go.Kb Go.RowKit Go.Proofs.Tryz
theorem atL(w:World)[tb:iH w](l:Sv)(ls:List Ch)(hl:eZ dx 20 (hp w) l ls)(aC:ls.length<=1000000):Calls prog 45 #[l.val] w fun e w'=>e= .returned (.string ⟨(vp ls).toArray⟩)/\Mem w [] w':=by
 have qF:Gv w l dx 20 ls:=⟨hl⟩;refine cx func45 rfl ntmps45 rfl ?_;refine cX ?_;refine cg (X:=Nat) (fun U=>[(4, .int .i64 (U:Nat)),(3, .string ⟨(vp (ls.take U)).toArray⟩),(0,l.val)]) (fun U=>[]) (fun U=>U<=ls.length) (fun U=>ls.length -U) 0 (auo _) (Sub.cons rfl (Sub.cons (look_eq rfl (by rw[auw];rfl)) sb)) (fun w hw=>ah.mem hw) ?_;rintro i bg;have sS:=X0 (ls.take i);rw[at3]at sS;refine aY ?_;refine Gb ?_ ?_<;>intro h0
 ·
  refine al ?_;obtain⟨c,hc⟩:=get_some (xs:=ls) (i:=i) oM;refine ag (bf rfl rfl i rfl oM) (ag (aM rfl rfl) (ag (Fs (j:=0) rfl i hc rfl dDq) (ag (cR (v:= .agg (bA (⟨1,c.r,0#128,0,0⟩:aO))) rfl (fun w=>kRq)) (bn fun b5=>Gs ?_))));refine gF ?_;refine qY (X:=Unit) (fun U=>[(5, .pointer (some ⟨b5,0,none⟩)),(0,l.val),(3, .string ⟨(vp (ls.take i)).toArray⟩),(4, .int .i64 (i:Nat))]) (fun U=>[aq b5 (bA (lQ c)) 73]) (fun U=>True) ?_ ?_
  ·
   refine al ?_;refine ag (bf rfl rfl i rfl oM) (ag (aM rfl rfl) (ag (bW (j:=19) rfl i hc rfl dDq) (Gc ?_)));refine Gb ?_ ?_<;>intro h1
   ·refine Gi ?_;refine au ?_;refine ag (bf rfl rfl i rfl oM) (ag (aM rfl rfl) (ag (aM rfl rfl) (ag (Fs (j:=0) rfl i hc rfl dDq) (ag (cR (v:= .agg (ay (⟨c.r.p,0⟩:Rt))) rfl (fun w=>kRq)) (ag (cR (v:= .agg (bA (⟨2,⟨c.r.p,0⟩,0#128,0,0⟩:aO))) rfl (fun w=>kRq)) (Gs ?_))))));refine Gi ?_;exact gD () trivial sb (fun w hw=>(by rw[lQ,if_pos h1];exact ah.mem hw))
   refine Gi ?_;exact gD () trivial sb (fun w hw=>(by rw[lQ,if_neg (by simp[h1])];exact ah.mem hw))
  rintro⟨⟩ hJ;refine ar ?_;refine ag (aB (v:= .string ⟨(qx (lQ c)).toArray⟩) rfl rfl) (ag (aB (v:= .int .i64 (pD (lQ c))) rfl rfl) (aP ?_));refine ag (jq rfl rfl (by have:=Gu (lQ c);simp only[ad2,alM];omega)) (ag (jq rfl rfl (by have:=Gu (lQ c);simp only[adr,ad2,alM];omega)) (aP ?_));refine Gi ?_;exact bo (x:=(i)) (i+1) oF oF (Sub.cons rfl (Sub.cons (look_eq rfl (by rw[at6,hc,show(Option.some c).toList=[c]from rfl,ajD])) sb)) (fun w hw=>ah.mem hw)
 obtain rfl:i=ls.length:=by omega
 refine ar ?_;refine Gr fun w1 hw=>?_;exact⟨(by rw[aup]),ah.mem hw⟩
variable {w0:World}{L:List ai}
instance atM{er:Int}[tb:iH w0]:bV prog 40 w0 L [.int .i64 er] (.string ⟨(gZ er).toArray⟩) (Er er):=⟨fun aC w hw=>by
 have tb:=tb.at hw;obtain⟨DD,he9⟩:=aC;have yb:=jY 1 er.toNat oM dDq;refine cx func40 rfl ntmps40 rfl ?_;refine aY ?_;refine Gb ?_ ?_<;>intro h0
 ·refine al ?_;refine Gr fun w1 hw=>?_;exact⟨(by rw[h0];rfl),ah.mem hw⟩
 refine au ?_;refine cO (bK rfl ⟨DD,oM⟩) (ag (jq rfl rfl (by simp only[ad2,alM];omega)) (ag (jq rfl rfl (by simp only[adr,ad2,alM];omega)) (au ?_)));refine Gr fun w1 hw=>?_;exact⟨(by rw[gZ,jR,if_pos h0];rfl),ah.mem hw⟩⟩
theorem ajH(b p s:Int)(l:Sl aO)(w:World):(Instr.build 76 #[(0, .int .i64 b),(1, .int .i64 p),(2, .int .i64 s),(3,l.sv.val)]).run prog w= .ok (.agg (fX ⟨b,p,s,l⟩)) w:=by
 obtain⟨⟨e,b,o,l,c,p⟩,xs⟩:=l;unfold fX
 cases e<;>kernel_rfl
theorem ajI(w:World)[tb:iH w](b:UInt8)(p:UInt8)(l:Sl aO)(hl:Deep.cP (hp w) l):Calls prog 7 #[.int .u8 (b.toNat:Nat), .int .u8 (p.toNat:Nat),l.sv.val] w fun e w'=>e= .returned (.bool true)/\Mem w [] w':=by
 have qF:cQ w l:=⟨hl⟩;have mX:(b.toNat%7)<7:=avV _ dDq;have DF:(p.toNat%7)<7:=avV _ dDq;have hdb:=jY 2 ((b.toNat%7)+5) oM dDq;have hdp:=jY 2 ((p.toNat%7)+2) oM dDq;have BD:fF (⟨(((b.toNat%7)+5:Nat):Int),(((p.toNat%7)+2:Nat):Int),64,l⟩:fv)=rJ (b.toNat%7) (p.toNat%7) l.xs:=rfl;have pS:cT=1099511627776:=rfl;refine th func7 rfl ntmps7 rfl ?_;refine aY ?_;refine lU rfl (fun h0=>?_) (fun h0=>?_)
 ·exfalso;simp at h0
 replace h0:=bz h0;refine aP ?_;refine Gb ?_ ?_<;>intro h1
 ·refine al ?_;refine Gr fun w1 hw=>?_;exact⟨rfl,ah.mem hw⟩
 have Wh:l.xs.length<=40:=by omega
 refine au ?_;refine ag (Cx (p:=b.toNat) (q:=7) rfl rfl rfl rfl oM) (ag (mw rfl (by simp only[nb];omega)) (ag (Ry.to (v':= .int .i64 (((b.toNat%7)+5:Nat):Int)) (wT rfl rfl oM) rfl) (Gs ?_)));refine ag (Cx (p:=p.toNat) (q:=7) rfl rfl rfl rfl oM) (ag (mw rfl (by simp only[nb];omega)) (ag (Ry.to (v':= .int .i64 (((p.toNat%7)+2:Nat):Int)) (wT rfl rfl oM) rfl) (Gs ?_)));refine ag (cR (v:= .agg (fX (⟨(((b.toNat%7)+5:Nat):Int),(((p.toNat%7)+2:Nat):Int),64,l⟩:fv))) rfl (ajH _ _ _ _)) (bn fun b7=>au ?_);refine jI oK oK (au ?_);refine uh (bK rfl (by first|omega|exact avR (awG _) dDq|exact avR (awp _) dDq)) (bX (jq rfl rfl (by simp only[adr,ad2,alM];omega)) (bX (jq rfl rfl (by simp only[adr,ad2,alM];omega)) (au ?_)));refine uh (bK rfl (by first|omega|exact avR (awG _) dDq|exact avR (awp _) dDq)) (bX (jq rfl rfl (by simp only[adr,ad2,alM];omega)) (bX (jq rfl rfl (by simp only[adr,ad2,alM];omega)) (ar ?_)));refine cg (X:=Nat) (fun U=>[(9, .int .i64 (U:Nat)),(8, .string ⟨([99,104,105,112,32]++dec ((b.toNat%7)+5)++[32]++dec ((p.toNat%7)+2)++[32,54,52,10]++lq (l.xs.take U)).toArray⟩),(2,l.sv.val),(7, .pointer (some ⟨b7,0,none⟩))]) (fun U=>[aq b7 (fX (⟨(((b.toNat%7)+5:Nat):Int),(((p.toNat%7)+2:Nat):Int),64,l⟩:fv)) 76]) (fun U=>U<=l.xs.length/\ ∀j y,j<U->l.xs[j]? =Option.some y->eV y=true) (fun U=>l.xs.length -U) 0 ⟨Nat.zero_le _,fun j y h=>by first|omega|(simp only[];omega)⟩ (Sub.cons rfl (Sub.cons (look_eq rfl (by rw[auw];simp[lq])) sb)) (fun w hw=>ah.mem hw) ?_;rintro i ⟨bg,aK⟩;have dI:=Wj (l:=l.xs.take i) fun x hx=>by
  obtain⟨j,hj⟩:=avv.1 hx;rw[avJ]at hj;split at hj
  ·rename_i cD;exact aK j x cD hj
  cases hj
 rw[at3]at dI;refine aY ?_;refine Gb ?_ ?_<;>intro h2
 ·
  obtain⟨y,hy⟩:=get_some (xs:=l.xs) (i:=i) oM;refine al ?_;refine ag (bf rfl rfl i rfl oM) (ag (gV rfl i hy rfl) (au ?_));refine ag (aB (v:= .string ⟨(qx y).toArray⟩) rfl rfl) (ag (aB (v:= .int .i64 (pD y)) rfl rfl) (aY ?_));refine Gb ?_ ?_<;>intro h3
  ·
   have bJ:eV y=false:=by
    cases hq:eV y with
    |false=>rfl
    |true=>exact absurd (show pD y=0 by rw[pD,hq];rfl) h3
   obtain⟨tb1,tb2,tb3⟩:=ahT (n:=(b.toNat%7)) (p:=(p.toNat%7)) (atl hy) bJ;refine au ?_;refine cO (bK rfl ⟨by rw[BD];exact tb1,fun _=>(by first|exact tl.ae|exact(Wd mX DF).2.1)⟩) (Gs ?_);refine ag (aB (v:= .string ⟨(od (fF (⟨(((b.toNat%7)+5:Nat):Int),(((p.toNat%7)+2:Nat):Int),64,l⟩:fv))).toArray⟩) rfl rfl) (ag (aB (v:= .int .i64 (og (fF (⟨(((b.toNat%7)+5:Nat):Int),(((p.toNat%7)+2:Nat):Int),64,l⟩:fv)))) rfl rfl) (cX ?_));refine jo rfl rfl rfl (fun hg=>(Ry.yl (yT (aG hg rfl) rfl))) (al ?_);refine Gr fun w1 hw=>?_;exact Ge ((by rw[BD,tb2,tb3];rfl)) hw
  have bJ:eV y=true:=by
   cases hq:eV y with
   |true=>rfl
   |false=>rw[pD,hq]at h3;exact absurd h3 dDq
  have hly:=(AK bJ).1;have mL:=Gt bJ;have atN:=Gu y;refine al ?_;refine ag (jq rfl rfl (by simp only[adr,ad2,alM];omega)) (ag (jq rfl rfl (by simp only[adr,ad2,alM];omega)) (aP ?_));refine Gi ?_;exact bo (x:=(i)) (i+1) ⟨oF,fun j z hj hz=>if e:j=i then(by subst e;rw[hy]at hz;cases hz;exact bJ)else aK j z oF hz⟩ oF (Sub.cons rfl (Sub.cons (look_eq rfl (by rw[at6,hy,show(Option.some y).toList=[y]from rfl,ahQ,hly];simp only[at4])) sb)) (fun w hw=>ah.mem hw)
 obtain rfl:i=l.xs.length:=by omega
 have dj: ∀x∈l.xs,eV x=true:=fun x hx=>by
  obtain⟨j,hj⟩:=avv.1 hx;exact aK j x (zz.1 hj).1 hj
 have tl:=ahS mX DF dj Wh;have hTX:([99,104,105,112,32]++dec ((b.toNat%7)+5)++[32]++dec ((p.toNat%7)+2)++[32,54,52,10]++lq (l.xs.take l.xs.length))=(iu ((b.toNat%7)+5) ((p.toNat%7)+2) 64 l.xs):=by rw[aup];exact ahP
 refine l6 ?_;rw[hTX];refine Gi ?_;refine aY ?_;refine bb rfl trivial fun I2 On=>?_;have ajJ:(eH ((((b.toNat%7)+5:Nat):Int)) ((((p.toNat%7)+2:Nat):Int)) 64).2=0:=tl.new;have ajK:(eH ((b.toNat:Int)%7+5) ((p.toNat:Int)%7+2) 64).2=0:=by have h9:=tl.new;rw[Int.natCast_emod,Int.natCast_emod]at h9;exact h9
 have ajL:gk I2:=r9 (by rw[On];exact tl.ae);refine Gs ?_;refine ag (aB (v:= .agg (aV I2)) rfl rfl) (ag (aB (v:= .int .i64 ((eH ((⟨(((b.toNat%7)+5:Nat):Int),(((p.toNat%7)+2:Nat):Int),64,l⟩:fv).b) ((⟨(((b.toNat%7)+5:Nat):Int),(((p.toNat%7)+2:Nat):Int),64,l⟩:fv).p) ((⟨(((b.toNat%7)+5:Nat):Int),(((p.toNat%7)+2:Nat):Int),64,l⟩:fv).s)).2)) rfl rfl) (bn fun DP=>ar ?_));refine bb rfl ajL fun EJ ajM=>?_;have ajN:(jc (cv I2)).2=0:=by rw[On];exact tl.fmt
 have lV:aI EJ=(dX (eo (lP (b.toNat%7) (p.toNat%7))) (l.xs.take 0)).f:=by rw[ajM,On];rfl
 refine Gs ?_;refine ag (aB (v:= .agg (cV EJ)) rfl rfl) (ag (aB (v:= .int .i64 ((jc (cv I2)).2)) rfl rfl) (bn fun pf=>rZ ?_));refine lU rfl (fun h4=>?_) (fun h4=>?_)
 ·exfalso;simp[ajJ,ajK,ajN]at h4
 replace h4:=bz h4;refine cX ?_;refine cg (X:=Nat×bL×Sl Ch) (fun U=>[(20, .int .i64 (U.1:Nat)),(16, .pointer (some ⟨pf,0,none⟩)),(18, .string ⟨((dX (eo (lP (b.toNat%7) (p.toNat%7))) (l.xs.take U.1)).told).toArray⟩),(19,U.2.2.sv.val),(2,l.sv.val),(7, .pointer (some ⟨b7,0,none⟩)),(8, .string ⟨(iu ((b.toNat%7)+5) ((p.toNat%7)+2) 64 l.xs).toArray⟩)]) (fun U=>[aq pf (cV U.2.1) 65,fz U.2.1,own dx 20 U.2.2.sv U.2.2.xs,aq b7 (fX (⟨(((b.toNat%7)+5:Nat):Int),(((p.toNat%7)+2:Nat):Int),64,l⟩:fv)) 76]) (fun U=>U.1<=l.xs.length/\aI U.2.1=(dX (eo (lP (b.toNat%7) (p.toNat%7))) (l.xs.take U.1)).f/\U.2.2.xs=(dX (eo (lP (b.toNat%7) (p.toNat%7))) (l.xs.take U.1)).batch) (fun U=>l.xs.length -U.1) (0,EJ,⟨Sv.none,[]⟩) ⟨Nat.zero_le _,lV,rfl⟩ (Sub.cons rfl (Sub.cons rfl (Sub.cons (look_eq rfl (by simp only[List.take_zero];rfl)) sb))) (fun w hw=>(show Mem _ [aq pf (cV EJ) 65,fz EJ,own dx 20 Sv.none [],aq b7 (fX (⟨(((b.toNat%7)+5:Nat):Int),(((p.toNat%7)+2:Nat):Int),64,l⟩:fv)) 76] _ from ah.mem (Mem.dE dx 20 hw))) ?_;rintro⟨i,f,q⟩ ⟨fP,dB,gJ⟩;dsimp only;simp only at fP dB gJ;have El:(⟨aI f,q.xs,(dX (eo (lP (b.toNat%7) (p.toNat%7))) (l.xs.take i)).told⟩:bh)=(dX (eo (lP (b.toNat%7) (p.toNat%7))) (l.xs.take i)):=by rw[dB,gJ]
 refine aY ?_;refine Gb ?_ ?_<;>intro h5
 ·
  refine al ?_;obtain⟨y,hy⟩:=get_some (xs:=l.xs) (i:=i) oM;refine ag (bf rfl rfl i rfl oM) (ag (gV rfl i hy rfl) (bn fun B3=>Gs ?_));refine j6 ?_;have bN:(dX (eo (lP (b.toNat%7) (p.toNat%7))) (l.xs.take (i+1)))=cI (⟨aI f,q.xs,(dX (eo (lP (b.toNat%7) (p.toNat%7))) (l.xs.take i)).told⟩:bh) y:=by rw[Ud hy,El]
  have D0:=uE (kV (aI f) y.key y.bits);have Ik:eV y=true:=dj y (atl hy);have hky:=Q6 Ik;have Oo:=tl.lb i fP;have eL:=sm_at i tl.all fP;rw[←El]at Oo eL;simp only[qG,xQ,af0,decide_eq_true_eq]at eL;obtain⟨⟨⟨⟨rW,ke⟩,zP⟩,dI⟩,jl⟩:=eL;have gQ:gk f.aj.ae:=r9 rW;have Nr:f.aj.at_.xs.length<=1000000:=ke;have Ig:f.table.xs.length<=1000000:=zP;have yb:=jY 7 f.table.xs.length oM dDq;have rH:cS f.table.xs=true:=Oo.oo;have eS:f.aj.ae.aA.xs.length<=i:=Oo.iM;obtain⟨_,Ns,Nt,_,_⟩:=eN.1 rW;have ahx:0<=f.aj.ae.ops:=Ns;have ahy:f.aj.ae.ops<=cT:=Nt;have H2:y.kind=5\/y.kind=6->0<=y.n.toInt/\y.n.toInt<=999:=by
   intro h;have:=(qy.1 Ik).1;rw[kx,if_neg oM,if_neg oM,if_pos h]at this;exact of_decide_eq_true this
  refine Gi ?_;refine au ?_;refine j6 ?_;refine qY (X:=Bool) (fun U=>[(160, .bool U),(2,l.sv.val),(7, .pointer (some ⟨b7,0,none⟩)),(8, .string ⟨(iu ((b.toNat%7)+5) ((p.toNat%7)+2) 64 l.xs).toArray⟩),(16, .pointer (some ⟨pf,0,none⟩)),(18, .string ⟨((dX (eo (lP (b.toNat%7) (p.toNat%7))) (l.xs.take i)).told).toArray⟩),(19,q.sv.val),(20, .int .i64 (i:Nat)),(21, .pointer (some ⟨B3,0,none⟩)),(131, .int .i64 y.kind)]) (fun U=>[aq B3 (bA y) 73,aq pf (cV f) 65,fz f,own dx 20 q.sv q.xs,aq b7 (fX (⟨(((b.toNat%7)+5:Nat):Int),(((p.toNat%7)+2:Nat):Int),64,l⟩:fv)) 76]) (fun U=>U=decide (y.kind=1\/y.kind=2)) ?_ ?_
  ·
   refine ar ?_;refine Gb ?_ ?_<;>intro h6
   ·refine Gi ?_;exact gD (decide (y.kind=1)) (by simp[h6]) sb (fun w hw=>ah.mem hw)
   refine Gi ?_;refine au ?_;refine Gi ?_;exact gD (decide (y.kind=2)) (by simp[h6]) sb (fun w hw=>ah.mem hw)
  rintro z hz;refine Gb ?_ ?_<;>intro h7
  ·have B4:y.kind=1\/y.kind=2:=of_decide_eq_true (hz.symm.trans h7);have hE:=bN.trans (ahU B4);refine Gi ?_;refine au ?_;refine ag (fM rfl) (al ?_);refine ag (cR (v:= .agg (dx (⟨y.r,decide (y.kind=2)⟩:Ch))) rfl (fun w=>kRq)) ?_;refine nP (enc:=dx) (vals:=[_]) [(⟨y.r,decide (y.kind=2)⟩:Ch)] rfl rfl rfl dDq dDq fun X2=>?_;refine mB (s:=q.sv) (ys:=[(⟨y.r,decide (y.kind=2)⟩:Ch)]) rfl rfl dDq (fun w hw=>iQ (s:=⟨false,X2,0,1,1,none⟩) underlying45 dDq ((inferInstance:Hd _ _ ⟨false,X2,0,1,1,none⟩ dx 20 [(⟨y.r,decide (y.kind=2)⟩:Ch)]).h w hw)) (by simp only[adr,ad2,alM];omega) (by simp only[adr,ad2,alM];omega) fun ajO atO atP=>?_;refine aP ?_;refine Gi ?_;exact bo (x:=(i,f,q)) (i+1,f,⟨ajO,q.xs++[(⟨y.r,decide (y.kind=2)⟩:Ch)]⟩) ⟨by first|omega|(simp only;omega),by simp only[hE],by simp only[hE]⟩ (by simp only;omega) (Sub.cons rfl (Sub.cons rfl (Sub.cons (look_eq rfl (by simp only[hE])) sb))) (fun w hw=>ah.mem hw)
  have B4: ¬(y.kind=1\/y.kind=2):=of_decide_eq_false (hz.symm.trans h7);refine ar ?_;refine Gb ?_ ?_<;>intro h8
  ·have hE:=bN.trans (ahV h8);refine al ?_;refine bb rfl ⟨gQ,Nr,Ig⟩ fun X3 ajP=>Gs ?_;refine ag (aB (v:= .agg (cV X3)) rfl rfl) (ag (aB (v:= .int .i64 ((bI (aI f) q.xs).2)) rfl rfl) (bn fun Bu=>iS ?_));refine cO (bK rfl (HB _ _)) (ag (jq rfl rfl (by have:=Ir (HB (aI f) q.xs);omega)) (aP ?_));refine Gi ?_;exact bo (x:=(i,f,q)) (i+1,X3,⟨Sv.none,[]⟩) ⟨by first|omega|(simp only;omega),by simp only[hE];exact ajP,by simp only[hE]⟩ (by simp only;omega) (Sub.cons rfl (Sub.cons rfl (Sub.cons (look_eq rfl (by simp only[hE])) sb))) (fun w hw=>ah.mem (Mem.dE dx 20 hw))
  refine ar ?_;refine Gb ?_ ?_<;>intro h9
  ·
   refine al ?_;refine ag (fM rfl) (ar ?_);refine ag (aB (v:= .agg (ay (kV (aI f) y.key y.bits))) rfl rfl) (ag (aB (v:= .int .i64 (ob (aI f) y.key y.bits)) rfl rfl) (bn fun b24=>aY ?_));refine Gb (fun lG=>?_) fun lG=>?_
   ·have hE:=bN.trans (ahW h9 lG);refine ar ?_;refine ag (aB (v:= .string ⟨(ir (kV (aI f) y.key y.bits)).toArray⟩) rfl rfl) (ag (aB (v:= .int .i64 (gM (bu (kV (aI f) y.key y.bits).p))) rfl rfl) (aP ?_));refine ag (jq rfl rfl (by simp only[adr,ad2,alM];omega)) (ag (jq rfl rfl (by simp only[adr,ad2,alM];omega)) (aP ?_));refine Gi ?_;exact bo (x:=(i,f,q)) (i+1,f,q) ⟨by first|omega|(simp only;omega),by simp only[hE],by simp only[hE]⟩ (by simp only;omega) (Sub.cons rfl (Sub.cons rfl (Sub.cons (look_eq rfl (by simp only[hE])) sb))) (fun w hw=>ah.mem hw)
   have hE:=bN.trans (ahX h9 lG);refine Gi ?_;refine au ?_;refine cO (bK rfl (HC _ _ _)) (ag (jq rfl rfl (by have:=Ir (HC (aI f) y.key y.bits);omega)) (aP ?_));refine Gi ?_;exact bo (x:=(i,f,q)) (i+1,f,q) ⟨by first|omega|(simp only;omega),by simp only[hE],by simp only[hE]⟩ (by simp only;omega) (Sub.cons rfl (Sub.cons rfl (Sub.cons (look_eq rfl (by simp only[hE])) sb))) (fun w hw=>ah.mem hw)
  refine qY (X:=Bool) (fun U=>[(211, .bool U),(2,l.sv.val),(7, .pointer (some ⟨b7,0,none⟩)),(8, .string ⟨(iu ((b.toNat%7)+5) ((p.toNat%7)+2) 64 l.xs).toArray⟩),(16, .pointer (some ⟨pf,0,none⟩)),(18, .string ⟨((dX (eo (lP (b.toNat%7) (p.toNat%7))) (l.xs.take i)).told).toArray⟩),(19,q.sv.val),(20, .int .i64 (i:Nat)),(21, .pointer (some ⟨B3,0,none⟩)),(131, .int .i64 y.kind)]) (fun U=>[aq B3 (bA y) 73,aq pf (cV f) 65,fz f,own dx 20 q.sv q.xs,aq b7 (fX (⟨(((b.toNat%7)+5:Nat):Int),(((p.toNat%7)+2:Nat):Int),64,l⟩:fv)) 76]) (fun U=>U=decide (y.kind=5\/y.kind=6)) ?_ ?_
  ·
   refine ar ?_;refine Gb (fun Oq=>?_) fun Oq=>?_
   ·refine Gi ?_;exact gD (decide (y.kind=5)) (by simp[Oq]) sb (fun w hw=>ah.mem hw)
   refine Gi ?_;refine au ?_;refine Gi ?_;exact gD (decide (y.kind=6)) (by simp[Oq]) sb (fun w hw=>ah.mem hw)
  rintro z X4;refine Gb (fun B4=>?_) fun B4=>?_
  ·have qJ:y.kind=5\/y.kind=6:=of_decide_eq_true (X4.symm.trans B4);obtain⟨uY,xS⟩:=H2 qJ;have hE:=bN.trans (ahY qJ (by show f.aj.ae.aA.xs.length<64;omega));refine pA [0,5,20,21,25,1004,1009,2020,4000,4005,5000,5005] [[],[],[],[],[],[0,4],[],[],[],[],[],[],[9],[],[],[],[],[],[],[9],[9],[0,4,5,9,20],[0,4,5,9,20,21],[0,4,5,9,20,21],[0,4,5,9,20,21],[0,4,5,9,20,21]] [1,2,3,4,6,7,8,9,10,11,12,13,14,15,16,17,18,19,0,5,20,21,22,23,24,25] [aq B3 (bA y) 73] [(20,oJ cH 4 1 [(⟨f.aj.ae.ops+y.n.toInt,decide (y.kind=6),decide (y.kind=5),0⟩:Ft)])] oK (fun _ hw=>ah.mem hw) oK oK (an rfl (aM (o':=0) rfl rfl) (an rfl (aM (o':=0) rfl rfl) (an rfl (aM (o':=5) rfl rfl) (gq rfl (bE rfl) (an rfl (aM (o':=0) rfl rfl) (an rfl (aM (o':=0) rfl rfl) (an rfl (aM (o':=3) rfl rfl) (gq rfl (bE rfl) (an rfl (aM (o':=37) rfl rfl) (an rfl (bE rfl) (an rfl (wT rfl rfl oM) (an rfl (aM (o':=0) rfl rfl) ?_))))))))))));refine an rfl (bE rfl) (an rfl (eR rfl rfl rfl) (an rfl (aM (o':=0) rfl rfl) (an rfl (bE rfl) (an rfl (eR rfl rfl rfl) (an rfl (cR (v:= .agg (cH (⟨f.aj.ae.ops+y.n.toInt,decide (y.kind=6),decide (y.kind=5),0⟩:Ft))) rfl (fun w=>kRq)) ?_)))));refine ah2 (N:=_) cH rfl (Cert.one (i:=20) rfl rfl rfl (vS (enc:=cH) (c:=4) (n:=1) (vals:=[.agg (cH (⟨f.aj.ae.ops+y.n.toInt,decide (y.kind=6),decide (y.kind=5),0⟩:Ft))]) [(⟨f.aj.ae.ops+y.n.toInt,decide (y.kind=6),decide (y.kind=5),0⟩:Ft)] rfl rfl rfl dDq dDq) (Cert.none rfl)) fun atQ=>⟨fun _ hw=>ah.mem hw,?_⟩;refine ah3 (enc:=cH) (ys:=f.aj.ae.aA.xs) rfl rfl rfl dDq (fun w hw=>iQ (s:=f.aj.ae.aA.sv) underlying57 dDq ((inferInstance:Hd _ _ f.aj.ae.aA.sv cH 4 f.aj.ae.aA.xs).h w hw)) oM oM (Cert.one (i:=20) rfl rfl rfl (vS (enc:=cH) (c:=4) (n:=1) (vals:=[.agg (cH (⟨f.aj.ae.ops+y.n.toInt,decide (y.kind=6),decide (y.kind=5),0⟩:Ft))]) [(⟨f.aj.ae.ops+y.n.toInt,decide (y.kind=6),decide (y.kind=5),0⟩:Ft)] rfl rfl rfl dDq dDq) (Cert.none rfl)) fun ajQ atS zV hR2=>⟨fun w hw=>ah.mem (zV.mem hw),?_⟩;refine oI (m:=oJ cH 4 1 [(⟨f.aj.ae.ops+y.n.toInt,decide (y.kind=6),decide (y.kind=5),0⟩:Ft)]) rfl rfl (vS (enc:=cH) (c:=4) (n:=1) (vals:=[.agg (cH (⟨f.aj.ae.ops+y.n.toInt,decide (y.kind=6),decide (y.kind=5),0⟩:Ft))]) [(⟨f.aj.ae.ops+y.n.toInt,decide (y.kind=6),decide (y.kind=5),0⟩:Ft)] rfl rfl rfl dDq dDq) (Cert.none rfl) fun I3=>?_;change Ln _ _ _ _ _ _ _ _ (cr _ _ (Sv.val ⟨false,I3,0,1,1,none⟩)) (own cH 4 ⟨false,I3,0,1,1,none⟩ [(⟨f.aj.ae.ops+y.n.toInt,decide (y.kind=6),decide (y.kind=5),0⟩:Ft)]::_) _;refine dr rfl (aaG (enc:=cH) (xs:=f.aj.ae.aA.xs) (ys:=[(⟨f.aj.ae.ops+y.n.toInt,decide (y.kind=6),decide (y.kind=5),0⟩:Ft)]) (s:=ajQ) _ rfl rfl (fun w hw=>((hR2.cons _).mem hw).perm (List.Perm.swap _ _ _)) dDq (fun w hw=>iQ (s:=⟨false,I3,0,1,1,none⟩) underlying57 dDq ((inferInstance:Hd _ _ ⟨false,I3,0,1,1,none⟩ cH 4 [(⟨f.aj.ae.ops+y.n.toInt,decide (y.kind=6),decide (y.kind=5),0⟩:Ft)]).h w hw)) (by simp only[ad2,alM];omega) (by simp only[ad2,alM];omega) fun EK=>⟨fun _ hw=>ah.mem hw,?_⟩);refine an rfl (aM (o':=0) rfl rfl) (an rfl (aM (o':=0) rfl rfl) (an rfl (aM (o':=5) rfl rfl) ?_));refine dr rfl (tg (cs':=cV (⟨⟨⟨f.aj.ae.pages,f.aj.ae.size,f.aj.ae.blocks,f.aj.ae.ops,f.aj.ae.off,⟨EK,f.aj.ae.aA.xs++[(⟨f.aj.ae.ops+y.n.toInt,decide (y.kind=6),decide (y.kind=5),0⟩:Ft)]⟩⟩,f.aj.at_,f.aj.gen,f.aj.last⟩,f.table⟩:bL)) rfl rfl (by show 5<10;decide) (by first|rfl|exact Sv.one _) rfl ⟨fun _ hw=>ah.mem hw,?_⟩);refine ar ?_;refine Gi ?_;exact bo (x:=(i,f,q)) (i+1,(⟨⟨⟨f.aj.ae.pages,f.aj.ae.size,f.aj.ae.blocks,f.aj.ae.ops,f.aj.ae.off,⟨EK,f.aj.ae.aA.xs++[(⟨f.aj.ae.ops+y.n.toInt,decide (y.kind=6),decide (y.kind=5),0⟩:Ft)]⟩⟩,f.aj.at_,f.aj.gen,f.aj.last⟩,f.table⟩:bL),q) ⟨by first|omega|(simp only;omega),by simp only[hE];rfl,by simp only[hE]⟩ (by simp only;omega) (Sub.cons rfl (Sub.cons rfl (Sub.cons (look_eq rfl (by simp only[hE])) sb))) (fun w hw=>ah.mem (Vm (f:=f) (a:=⟨EK,f.aj.ae.aA.xs++[(⟨f.aj.ae.ops+y.n.toInt,decide (y.kind=6),decide (y.kind=5),0⟩:Ft)]⟩) (ah.mem hw:Mem _ [fz f,own cH 4 EK (f.aj.ae.aA.xs++[(⟨f.aj.ae.ops+y.n.toInt,decide (y.kind=6),decide (y.kind=5),0⟩:Ft)]),aq pf (cV (⟨⟨⟨f.aj.ae.pages,f.aj.ae.size,f.aj.ae.blocks,f.aj.ae.ops,f.aj.ae.off,⟨EK,f.aj.ae.aA.xs++[(⟨f.aj.ae.ops+y.n.toInt,decide (y.kind=6),decide (y.kind=5),0⟩:Ft)]⟩⟩,f.aj.at_,f.aj.gen,f.aj.last⟩,f.table⟩:bL)) 65,own dx 20 q.sv q.xs,aq b7 (fX (⟨(((b.toNat%7)+5:Nat):Int),(((p.toNat%7)+2:Nat):Int),64,l⟩:fv)) 76] _)))
  have qJ: ¬(y.kind=5\/y.kind=6):=of_decide_eq_false (X4.symm.trans B4);refine ar ?_;refine Gb (fun Ot=>?_) fun Ot=>?_
  ·
   refine al ?_;refine ag (fM rfl) (bb (vs:=[_,Sv.none.val]) rfl gQ fun EL yC=>?_);have ajR:cv EL=iI (aI f).aj.ae []:=yC;clear yC;have yC:=ajR;refine Gs ?_;refine ag (aB (v:= .agg (aV EL)) rfl rfl) (ag (aB (v:= .int .i64 (kN (cv f.aj.ae) [])) rfl rfl) (bn fun yc=>ar ?_));refine bb rfl trivial fun X5 ajS=>Gs ?_;refine ag (aB (v:= .agg (cV X5)) rfl rfl) (ag (aB (v:= .int .i64 ((cy (cv EL)).2)) rfl rfl) (bn fun gA=>aY ?_));refine Gb (fun Ou=>?_) fun Ou=>?_
   ·
    have Ov:(cy (iI (aI f).aj.ae [])).2=0:=by rw[←yC];exact Ou
    have hE:=bN.trans (ahZ Ot rW Ov);refine Gi ?_;refine aP ?_;refine cO (bK rfl (ya _)) (ag (jq rfl rfl (by have:=Ir (ya (cv EL));omega)) (aP ?_));refine Gi ?_;exact bo (x:=(i,f,q)) (i+1,X5,q) ⟨by first|omega|(simp only;omega),by simp only[hE];rw[ajS,yC],by simp only[hE]⟩ (by simp only;omega) (Sub.cons rfl (Sub.cons rfl (Sub.cons (look_eq rfl (by simp only[hE];rw[yC])) sb))) (fun w hw=>ah.mem hw)
   have Ov: ¬(cy (iI (aI f).aj.ae [])).2=0:=by rw[←yC];exact Ou
   have hE:=bN.trans (ah0 Ot rW Ov);refine al ?_;refine cO (bK rfl (ya _)) (ag (jq rfl rfl (by have:=Ir (ya (cv EL));omega)) (aP ?_));refine Gi ?_;exact bo (x:=(i,f,q)) (i+1,f,q) ⟨by first|omega|(simp only;omega),by simp only[hE],by simp only[hE]⟩ (by simp only;omega) (Sub.cons rfl (Sub.cons rfl (Sub.cons (look_eq rfl (by simp only[hE];rw[yC])) sb))) (fun w hw=>ah.mem hw)
  have h8k:y.kind=8:=by omega
  have hE:=bN.trans (ah1 h8k rH);refine aP ?_;refine cO (bK rfl (by first|omega|exact avR (awG _) dDq|exact avR (awp _) dDq)) (ag (jq rfl rfl (by simp only[adr,ad2,alM];omega)) (ag (jq rfl rfl (by simp only[adr,ad2,alM];omega)) (ag (jq rfl rfl (by simp only[adr,ad2,alM];omega)) (ar ?_))));refine cg (X:=Nat) (fun U=>[(32, .int .i64 (U:Nat)),(18, .string ⟨((dX (eo (lP (b.toNat%7) (p.toNat%7))) (l.xs.take i)).told++([114,111,117,116,101,115,32]++dec f.table.xs.length++[10])++rI (f.table.xs.take U)).toArray⟩),(2,l.sv.val),(7, .pointer (some ⟨b7,0,none⟩)),(8, .string ⟨(iu ((b.toNat%7)+5) ((p.toNat%7)+2) 64 l.xs).toArray⟩),(16, .pointer (some ⟨pf,0,none⟩)),(19,q.sv.val),(20, .int .i64 (i:Nat))]) (fun U=>[aq B3 (bA y) 73,aq pf (cV f) 65,fz f,own dx 20 q.sv q.xs,aq b7 (fX (⟨(((b.toNat%7)+5:Nat):Int),(((p.toNat%7)+2:Nat):Int),64,l⟩:fv)) 76]) (fun U=>U<=f.table.xs.length) (fun U=>f.table.xs.length -U) 0 (auo _) (Sub.cons rfl (Sub.cons (look_eq rfl (by rw[auw];simp[rI])) sb)) (fun w hw=>ah.mem hw) ?_;rintro j Vb;have tO:=Wi (f.table.xs.take j);rw[at3]at tO;refine cX ?_;refine Gb ?_ ?_<;>intro h15
  ·refine ar ?_;obtain⟨r,hr⟩:=get_some (xs:=f.table.xs) (i:=j) oM;refine ag (bf rfl rfl j rfl oM) (ag (gV rfl j hr rfl) (au ?_));refine ag (aB (v:= .string ⟨(ir r).toArray⟩) rfl rfl) (ag (aB (v:= .int .i64 (gM (bu r.p))) rfl rfl) (aP ?_));refine ag (jq rfl rfl (by have:=uE r;simp only[adr,ad2,alM];omega)) (ag (jq rfl rfl (by have:=uE r;simp only[adr,ad2,alM];omega)) (aP ?_));refine Gi ?_;exact bo (x:=(j)) (j+1) oF oF (Sub.cons rfl (Sub.cons (look_eq rfl (by rw[at6,hr,show(Option.some r).toList=[r]from rfl,ahO];simp only[at4])) sb)) (fun w hw=>ah.mem hw)
  obtain rfl:j=f.table.xs.length:=by omega
  refine ar ?_;refine Gi ?_;exact bo (x:=(i,f,q)) (i+1,f,q) ⟨by first|omega|(simp only;omega),by simp only[hE],by simp only[hE]⟩ (by simp only;omega) (Sub.cons rfl (Sub.cons rfl (Sub.cons (look_eq rfl (by simp only[hE];rw[aup,at4 (dX (eo (lP (b.toNat%7) (p.toNat%7))) (l.xs.take i)).told];rfl)) sb))) (fun w hw=>ah.mem hw)
 obtain rfl:i=l.xs.length:=by omega
 refine au ?_;refine bb rfl (by have:=tl.len;omega) fun EM ajT=>?_;have kS:EM.b=(((b.toNat%7)+5:Nat):Int)/\EM.p=(((p.toNat%7)+2:Nat):Int)/\EM.s=64/\EM.l.xs=l.xs:=by
  have h1:=ajT;rw[tl.rd]at h1;exact⟨congrArg pE.b h1,congrArg pE.p h1,congrArg pE.s h1,congrArg pE.l h1⟩
 have k1:(fx (iu ((b.toNat%7)+5) ((p.toNat%7)+2) 64 l.xs)).2.1=0:=by rw[tl.rd]
 have k2:(fx (iu ((b.toNat%7)+5) ((p.toNat%7)+2) 64 l.xs)).2.2=0:=by rw[tl.rd]
 have k3:og (fF (⟨(((b.toNat%7)+5:Nat):Int),(((p.toNat%7)+2:Nat):Int),64,l⟩:fv))=0:=tl.te;have k4:od (fF (⟨(((b.toNat%7)+5:Nat):Int),(((p.toNat%7)+2:Nat):Int),64,l⟩:fv))=(dX (eo (lP (b.toNat%7) (p.toNat%7))) l.xs).told:=tl.ts;have k5:=tl.pe;have k6:=tl.ps;have k7:dX (eo (lP (b.toNat%7) (p.toNat%7))) (l.xs.take l.xs.length)=dX (eo (lP (b.toNat%7) (p.toNat%7))) l.xs:=by rw[aup]
 refine Gs ?_;refine ag (aB (v:= .agg (fX EM)) rfl rfl) (ag (aB (v:= .int .i64 ((fx (iu ((b.toNat%7)+5) ((p.toNat%7)+2) 64 l.xs)).2.1)) rfl rfl) (ag (aB (v:= .int .i64 ((fx (iu ((b.toNat%7)+5) ((p.toNat%7)+2) 64 l.xs)).2.2)) rfl rfl) (bn fun MK=>aP ?_)));refine cO (bK rfl ⟨by rw[BD];exact tl.sm,fun _=>tl.ae⟩) (Gs ?_);refine ag (aB (v:= .string ⟨(od (fF (⟨(((b.toNat%7)+5:Nat):Int),(((p.toNat%7)+2:Nat):Int),64,l⟩:fv))).toArray⟩) rfl rfl) (ag (aB (v:= .int .i64 (og (fF (⟨(((b.toNat%7)+5:Nat):Int),(((p.toNat%7)+2:Nat):Int),64,l⟩:fv)))) rfl rfl) (ar ?_));refine cO (bK rfl ⟨by have:=tl.len;omega,by rw[tl.rd];exact tl.sm,by rw[tl.rd];exact fun _=>tl.ae⟩) (Gs ?_);refine ag (aB (v:= .string ⟨(u5 (iu ((b.toNat%7)+5) ((p.toNat%7)+2) 64 l.xs)).toArray⟩) rfl rfl) (ag (aB (v:= .int .i64 (u6 (iu ((b.toNat%7)+5) ((p.toNat%7)+2) 64 l.xs))) rfl rfl) (ag (aB (v:= .int .i64 (xZ (iu ((b.toNat%7)+5) ((p.toNat%7)+2) 64 l.xs))) rfl rfl) (al ?_)));refine j6 ?_;rw[k1,k2,k3,k4,k5,k6,k7];refine Gi ?_;refine al ?_;refine mD rfl rfl rfl (by simp[kS]) (Ry.yl (bm rfl)) (mD rfl rfl rfl (by simp[kS]) (Ry.yl (eR rfl rfl rfl)) (ag (xe rfl (by simp[kS]) rfl rfl) (Gs ?_)));refine mD rfl rfl rfl (by simp[kS]) (Ry.yl (jU rfl)) (mD rfl rfl rfl (by simp[kS]) (Ry.yl (jU rfl)) (mD rfl rfl rfl (by simp[kS]) (bK rfl trivial) (ag (xe rfl (by simp[kS]) rfl rfl) (Gs ?_))));refine mD rfl rfl rfl (by simp[kS]) (Ry.yl (bm rfl)) (mD rfl rfl rfl (by simp[kS]) (Ry.yl (eR rfl rfl rfl)) (ag (xe rfl (by simp[kS]) rfl rfl) (Gs ?_)));refine mD rfl rfl rfl (by simp[kS]) (Ry.yl (bm rfl)) (mD rfl rfl rfl (by simp[kS]) (Ry.yl (bm rfl)) (mD rfl rfl rfl (by simp[kS]) (Ry.yl (yT rfl rfl)) (ag (xe rfl (by simp[kS]) rfl rfl) (Gs ?_))));refine mD rfl rfl rfl (by simp[kS]) (Ry.yl (bm rfl)) (mD rfl rfl rfl (by simp[kS]) (Ry.yl (eR rfl rfl rfl)) (ag (xe rfl (by simp[kS]) rfl rfl) (Gs ?_)));refine mD rfl rfl rfl (by simp[kS]) (Ry.yl (bm rfl)) (mD rfl rfl rfl (by simp[kS]) (Ry.yl (bm rfl)) (mD rfl rfl rfl (by simp[kS]) (Ry.yl (yT rfl rfl)) (ag (xe rfl (by simp[kS]) rfl rfl) (au ?_))));refine Gr fun w1 hw=>?_;exact Ge ((by simp[kS])) hw
end Go.Proofs.YtkggjjnhnjjokaaGreatDoor
namespace Go.ax
open Go.ChangeShapes Go.WideShapes Go.ChangeAt Go.RowKit Go.Kb
variable {H:Type} {enc:TypeId×Value->H} {P:Program}
theorem X6(hl:laidOutB P=true){W W':World}{sp:Nat->Bool}: ∀{ts:List TypeId} {vs:List Value} {ds:List (DataW H)} {ps:List MemPlace},
  (∀t∈ts,P.readableRec t=true/\t<P.types.size)->DataW.TrodAll enc P W 0 (fun _=>true) true ts vs ds ps->(∀p∈ps,W.sameAt W' p)->(∀p∈ps,sp p.block=true)->
  DataW.TrodAll enc P W' 0 sp true ts vs ds ps
 |[],_,_,_,_,h,_,_=>by
  obtain⟨rfl,rfl,rfl⟩:=trodAll_nil h;exact rfl
 |t::_,_,_,_,ht,h,hs,hp=>by
  obtain⟨v,X7,d,X8,a,b,rfl,rfl,rfl,h1,h2⟩:=trodAll_cons h;exact⟨a,b,WideElems.Trod_stays hl (ht t (by simp)).1 (ht t (by simp)).2 h1 (fun p h=>hs p (by simp[h])) (fun p h=>hp p (by simp[h])),
   X6 hl (fun t h=>ht t (by simp[h])) h2 (fun p h=>hs p (by simp[h])) (fun p h=>hp p (by simp[h])),rfl⟩
theorem Ow{W:World}{b:Nat}{sp:Nat->Bool}{hd:Bool}: ∀{ts:List TypeId} {vs:List Value} {ds:List (DataW H)} {ps:List MemPlace},
  DataW.TrodAll enc P W b sp hd ts vs ds ps->vs.length=ts.length/\ds.length=ts.length
 |[],_,_,_,h=>by
  obtain⟨rfl,rfl,rfl⟩:=trodAll_nil h;exact⟨rfl,rfl⟩
 |_::_,_,_,_,h=>by
  obtain⟨v,X7,d,X8,a,b,rfl,rfl,rfl,h1,h2⟩:=trodAll_cons h;have:=Ow h2;simp[this.1,this.2]
theorem ajU(hl:laidOutB P=true){f:Func}{s:ChangeSpec}{apart fresh handsOn:Bool}{W W':World}{args:Array Value}{ds gs:List (DataW H)}{before:List MemPlace}{tb:TypeId}
  (hp:f.params.toList.all (fun t=>P.readableRec t&&decide (t<P.types.size))=true) (hr:f.resultTypes= #[tb]) (hb:P.underlying tb=some .bool) (hv:s.vars=[])
  (EN: ∀ds:List (DataW H),ds.length=f.params.size->s.fn H ds={results:=[.lit (.bool true)],args:=ds})
  (hW:DataW.Whole enc P f.params.toList s.vars apart W args.toList ds gs before) (X9:Below W.heap.size W W'):
  s.post enc P f apart fresh handsOn false W args (.bool true) W':=by
 have bq:=hW.lt;have hW0:=hW;obtain⟨p,q,hA,hV,rfl,nO,cL⟩:=hW;rw[hv]at hV;obtain⟨rfl,rfl⟩:=trodVars_none hV;have hlen:=Ow hA;have e1:s.fn H (ds++[])={results:=[.lit (.bool true)],args:=ds}:=by rw[auT];exact EN ds (by rw[hlen.2];simp)
 have nw: ∀t∈f.params.toList,P.readableRec t=true/\t<P.types.size:=fun t ht=>by
  simpa using aue.1 hp t ht
 refine⟨ds,[],p++[],[],p,[],hW0,?_,?_,?_,X9.frame _,fun h=>by cases h⟩
 ·rw[e1,hr];exact trodAll_mk1 (shut_bool hb true)
 ·rw[e1];exact X6 hl nw hA (fun x hx=>X9.same (bq x (by simp[hx]))) (fun x hx=>by simpa using bq x (by simp[hx]))
 ·rw[e1,hv];exact rfl
theorem ajV{w:World}{b:Nat}{e:TypeId}{v:Value}(he:P.underlying e=some (.int .u8))(h:Cell.okWide P w .any b e v): ∃n:Nat,n<256/\v= .int .u8 n:=by
 cases v with
 |int k n=>
  simp only[Cell.okWide,he,Cell.ok,IntKind.has]at h;obtain⟨rfl,h1,h2⟩:=h;have a1:(0:Int)<=n:=h1;have a2:n<=(255:Int):=h2;exact⟨n.toNat,oM,by rw[auU a1]⟩
 |_=>simp[Cell.okWide,he,Cell.ok]at h
theorem ajW{w:World}{b:Nat}{t:TypeId}{v:Value}(he:P.underlying t=some (.int .u8))(h:Value.okWide P w .any b t v): ∃n:Nat,n<256/\v= .int .u8 n:=by
 unfold Value.okWide at h;rw[he]at h;exact ajV he h
theorem Ya{α:Type}{l:List α}(h:l.length=3): ∃a b c,l=[a,b,c]:=match l,h with|[a,b,c],_=>⟨a,b,c,rfl⟩
theorem Gw{α:Type}{l:List α}(h:l.length=4): ∃a b c d,l=[a,b,c,d]:=match l,h with|[a,b,c,d],_=>⟨a,b,c,d,rfl⟩
theorem Yb{w:World}{b:Nat}{t:TypeId}{v:Value}(he:P.underlying t=some (.int .u8))(h:Value.okWide P w .any b t v): ∃n:UInt8,v= .int .u8 n.toNat:=by
 obtain⟨n,hn,rfl⟩:=ajW he h;exact⟨UInt8.ofNat n,by simp;omega⟩
variable {P:Program}
theorem Ox{α:Type}{p:Nat->α->Prop}: ∀{n:Nat},(∀i,i<n-> ∃x,p i x)-> ∃l:List α,l.length=n/\ ∀i x,l[i]? =some x->p i x
 |0,_=>⟨[],rfl,fun i x h=>by simp at h⟩
 |n+1,h=>by
  obtain⟨l,hl,hp⟩:=Ox (n:=n) fun i hi=>h i oM;obtain⟨x,hx⟩:=h n oM;refine⟨l++[x],by simp[hl],fun i y hy=>?_⟩
  by_cases hi:i<n
  ·rw[aus oM]at hy;exact hp i y hy
  have:i=n:=by
   have:=(zz.1 hy).1;rw[adr,hl]at this;simp at this;omega
  subst this;rw[auf oM,hl]at hy;have:x=y:=by simpa using hy
  exact this▸hx
class lR(P:Program)(t:TypeId)(τ:Type)[Deep τ]:Prop where
 sz:P.cellsOf t=Deep.c τ
 h: ∀{H:Type} {enc:TypeId×Value->H} {w:World} {fuel:Nat} {cs:List Value} {d:DataW H} {ps:List MemPlace},DataW.trod enc P w 0 (fun _=>true) true fuel t cs=some (d,ps)->(∀n∈d.weights P t,n<=reachBytes)->
  ∃x:τ,(Deep.cells x).toList=cs/\Deep.cP (hp w) x
theorem ajX{w:World}{b:Nat}{a:Addr}{n:Nat}{cs:List Value}(h:w.cells? b a n=some cs):cs.length=n/\ ∀j,j<n->w.cell? (a.add j)=cs[j]? :=by
 unfold World.cells? at h;split at h
 ·have hl:=mapM_some_length h;refine⟨by simpa using hl,fun j hj=>?_⟩;exact mapM_some_get h j j (by simp[hj])
 cases h
theorem Oy{H:Type}{e:TypeId}{n:Nat}: ∀{l:List (DataW H)} {d:DataW H},d∈l->n∈d.weights P e->n∈DataW.weightsAll P e l
 |x::l,d,hd,hn=>by
  rw[DataW.weightsAll];rcases auc.1 hd with rfl|hd
  ·exact auy _ hn
  exact avp _ (Oy hd hn)
theorem Oz{H:Type}{n:Nat}: ∀{ts:List TypeId} {l:List (DataW H)} {i:Nat} {t:TypeId} {d:DataW H},ts[i]? =some t->l[i]? =some d->n∈d.weights P t->n∈DataW.weightsEach P ts l
 |[],_,i,_,_,h,_,_=>by simp at h
 |_::_,[],i,_,_,_,h,_=>by simp at h
 |t0::ts,d0::l,0,t,d,ht,hd,hn=>by
  obtain rfl:t0=t:=by simpa using ht
  obtain rfl:d0=d:=by simpa using hd
  rw[DataW.weightsEach];exact auy _ hn
 |t0::ts,d0::l,i+1,t,d,ht,hd,hn=>by
  rw[DataW.weightsEach];exact avp _ (Oz (i:=i) (by simpa using ht) (by simpa using hd) hn)
theorem ajY:reachBytes<=140737488355328:=by decide
theorem Ar{t e:TypeId}{τ:Type}[Deep τ](hu:P.underlying t=some (.slice e))(mA:Nat.ble 1 (P.bytesOf e)=true)(hc:1<=Deep.c τ)(hs:P.cellsOf t=1)[o:lR P e τ]:lR P t (Sl τ):=⟨hs,fun{H enc w fuel cs d ps} h hw=>by
 have hb:1<=P.bytesOf e:=Nat.le_of_ble_eq_true mA;rcases Go.Deep.open_slice hu h with⟨rfl,_⟩|⟨a,len,cap,m,n,D,Pl,rfl,_,hl,_,hm,hx,FZ⟩
 ·exact⟨⟨Sv.none,[]⟩,rfl,xd⟩
 simp only[if_true]at hm;subst hm;have hd:d= .slice ((List.range len).map D) ((List.range (m -len)).map fun j=>D (len+j)):=congrArg Prod.fst hx;subst hd;simp only[DataW.weights,hu,aur,awV]at hw;have vG:m<=140737488355328:=by
  have h1:=hw _ (auD ..);have h2:(len+(m -len))*1<=(len+(m -len))*P.bytesOf e:=Nat.mul_le_mul_left _ hb;have:=ajY;omega
 have FT: ∀i,i<m-> ∃cs',(cs'.length=Deep.c τ/\ ∀j,j<Deep.c τ->w.cell? ((a.add (i*Deep.c τ)).add j)=cs'[j]?)/\DataW.trod enc P w 0 (fun _=>true) true n e cs'=some (D i,Pl i):=fun i hi=>by
  obtain⟨cs',h1,h2⟩:=FZ i hi;rw[o.sz]at h1;exact⟨cs',ajX h1,h2⟩
 have Yc:0<m->a.spot=none:=fun hm=>by
  obtain⟨cs',⟨h1,h2⟩,_⟩:=FT 0 hm;have h3:=h2 0 oM;have e0:(a.add (0*Deep.c τ)).add 0=a:=by simp[Addr.add]
  rw[e0,at2 oM]at h3;unfold World.cell? at h3;split at h3
  ·
   split at h3
   ·cases h3
   rename_i hs;simpa using hs
  cases h3
 obtain⟨l,mL,I4⟩:=Ox (p:=fun i (x:τ)=>(∀j,j<Deep.c τ->w.cell? ((a.add (i*Deep.c τ)).add j)=(Deep.cells x)[j]?)/\Deep.cP (hp w) x) (n:=len) fun i hi=>by
  obtain⟨cs',⟨h1,h2⟩,h3⟩:=FT i oM;obtain⟨x,pU,kR⟩:=o.h h3 (fun k hk=>hw k (aui _ (auy _ (Oy (ava.2 ⟨i,auB.2 hi,rfl⟩) hk))));refine⟨x,fun j hj=>?_,kR⟩;rw[h2 j hj,←pU];simp
 refine⟨⟨⟨false,a.block,a.off,len,m,a.spot⟩,l⟩,rfl,⟨⟨(fun h=>by cases h),hl,by simp only;omega,Yc⟩,by simp[mL],fun i x hi j hj=>?_⟩,fun x hx=>?_⟩
 ·
  have fo:i<len:=by rw[←mL];exact(zz.1 hi).1
  have h1:=(I4 i x hi).1 j hj;have hs:=Yc oM;have ea:(a.add (i*Deep.c τ)).add j=⟨a.block,a.off+i*Deep.c τ+j,none⟩:=by
   obtain⟨ab,ao,asp⟩:=a;simp only at hs;subst hs;rw[Addr.hQ,Addr.hQ]
  rw[ea,rU]at h1;exact h1
 obtain⟨i,hi⟩:=aul hx;exact(I4 i x hi).2⟩
theorem vr{H:Type}{enc:TypeId×Value->H}{w:World}{fuel:Nat}{t:TypeId}{cs:List Value}{d:DataW H}{ps:List MemPlace}{fs:Array Field}(hu:P.underlying t=some (.struct fs))(h:DataW.trod enc P w 0 (fun _=>true) true fuel t cs=some (d,ps))(hw: ∀n∈d.weights P t,n<=reachBytes)
  {i tf off:Nat} (lV:(fs[i]?).map (fun f=>(f.type,f.offset))=some (tf,off)) (τ:Type) [Deep τ] [o:lR P tf τ]:cs.length=P.cellsOf t/\ ∃x:τ,(Deep.cells x).toList=(cs.drop off).take (Deep.c τ)/\Deep.cP (hp w) x:=by
 obtain⟨f,hf,e⟩:=avC.1 lV;obtain⟨rfl,rfl⟩:=Prod.mk.inj e;obtain⟨xs,n,_,hx,hl,hlen,hg⟩:=DataW.trod_struct hu h;have h1:=hg i f hf;have hi:i<xs.length:=by rw[hlen];exact(avF.1 hf).1
 rw[at2 hi,o.sz]at h1;have hd:d= .agg (xs.map (·.1)):=congrArg Prod.fst hx;subst hd;obtain⟨x,pU,kR⟩:=o.h (d:=xs[i].1) (ps:=xs[i].2) h1 (fun k hk=>hw k (by
  simp only[DataW.weights,hu];exact Oz (i:=i) (t:=f.type) (d:=xs[i].1) (by
   have:fs.toList[i]? =some f:=by simpa using hf
   rw[aua,this];rfl) (by simp[hi]) hk))
 exact⟨hl,x,pU,kR⟩
theorem ajZ{H:Type}{enc:TypeId×Value->H}{w:World}{fuel:Nat}{t e:TypeId}{m:Nat}{cs:List Value}{d:DataW H}{ps:List MemPlace}(hu:P.underlying t=some (.array m e))(h:DataW.trod enc P w 0 (fun _=>true) true fuel t cs=some (d,ps))(hw: ∀n∈d.weights P t,n<=reachBytes)
  (τ:Type) [Deep τ] [o:lR P e τ]:cs.length=P.cellsOf t/\ ∀i,i<m-> ∃x:τ,(Deep.cells x).toList=(cs.drop (i*Deep.c τ)).take (Deep.c τ)/\Deep.cP (hp w) x:=by
 cases fuel with
 |zero=>simp[DataW.trod]at h
 |succ n=>
  unfold DataW.trod at h;rw[hu]at h;split at h<;>simp_all
  rename_i m' e' heq;obtain⟨hl,xs,iP,hd⟩:=h;obtain⟨rfl,rfl⟩:=heq;intro i hi;have hlen:=mapM_some_length iP;have qj:i<xs.length:=by simpa[hlen]using hi
  have h1:=mapM_some_get iP i i (by simp[hi]);rw[at2 qj,o.sz]at h1;obtain⟨rfl,-⟩:=hd;exact o.h (d:=xs[i].1) (ps:=xs[i].2) h1 (fun k hk=>hw k (by
   simp only[DataW.weights,hu];exact Oy (auq (avL qj)) hk))
theorem OA{α:Type}{cs:List α}{a b:Nat}(h:cs.length=a+b):(cs.drop 0).take a++(cs.drop a).take b=cs:=by
 rw[avg,aug (l:=cs.drop a) (by rw[auh];omega),auO]
theorem aj0{α:Type}{cs:List α}{a b c:Nat}(h:cs.length=a+b+c):(cs.drop 0).take a++(cs.drop a).take b++(cs.drop (a+b)).take c=cs:=by
 have h1:=OA (cs:=cs) (a:=a+b) (b:=c) oM
 conv=>rhs;rw[←h1]
 congr 1;rw[avg,List.take_add]
def OB(n:Int):Array Value:= #[.int .i64 n]
instance:bp OB 1:=⟨fun _=>rfl,fun _=>by simp[OB,Value.oneCell']⟩
instance:Deep Int:=Deep.flat OB 1
def EO(n:UInt16):Array Value:= #[.int .u16 n.toNat]
instance:bp EO 1:=⟨fun _=>rfl,fun _=>by simp[EO,Value.oneCell']⟩
instance:Deep UInt16:=Deep.flat EO 1
theorem aj1{t:TypeId}(hu:P.underlying t=some (.int .i64))(hs:P.cellsOf t=1):lR P t Int:=⟨hs,fun h _=>by
 obtain⟨n,rfl,_,_⟩:=DataW.trod_int hu h;exact⟨n,rfl,trivial⟩⟩
theorem aj2{t:TypeId}(hu:P.underlying t=some (.int .u8))(hs:P.cellsOf t=1):lR P t UInt8:=⟨hs,fun h _=>by
 obtain⟨n,rfl,_,hw⟩:=DataW.trod_int hu h;simp only[Lit.wf,af0,decide_eq_true_eq]at hw;have h1:(0:Int)<=n:=hw.1;have h2:n<=(255:Int):=hw.2;refine⟨UInt8.ofNat n.toNat,?_,trivial⟩;have:((UInt8.ofNat n.toNat).toNat:Int)=n:=by simp;omega
 show(aQ (UInt8.ofNat n.toNat)).toList=_;simp only[aQ,this]⟩
theorem aj3{t:TypeId}(hu:P.underlying t=some (.int .u16))(hs:P.cellsOf t=1):lR P t UInt16:=⟨hs,fun h _=>by
 obtain⟨n,rfl,_,hw⟩:=DataW.trod_int hu h;simp only[Lit.wf,af0,decide_eq_true_eq]at hw;have h1:(0:Int)<=n:=hw.1;have h2:n<=(65535:Int):=hw.2;refine⟨UInt16.ofNat n.toNat,?_,trivial⟩;have:((UInt16.ofNat n.toNat).toNat:Int)=n:=by simp;omega
 show(EO (UInt16.ofNat n.toNat)).toList=_;simp only[EO,this]⟩
theorem aj4{H:Type}{enc:TypeId×Value->H}{w:World}{b:Nat}{t e:TypeId}{τ:Type}[Deep τ][o:lR P t (Sl τ)](hu:P.underlying t=some (.slice e)){v:Value}{d:DataW H}{ps:List MemPlace}(hv:Value.okWide P w .any b t v)(h:DataW.Trod enc P w 0 (fun _=>true) true t v d ps)(hw: ∀n∈d.weights P t,n<=reachBytes):
  ∃x:Sl τ,v=x.sv.val/\Deep.cP (hp w) x:=by
 obtain⟨fuel,h⟩:=h;obtain⟨x,h1,h2⟩:=o.h h hw;refine⟨x,?_,h2⟩;have hc:v.cells= #[v]:=by
  unfold Value.okWide at hv;rw[hu]at hv;unfold Cell.okWide at hv;rw[hu]at hv
  cases v<;>simp_all[Cell.ok,Value.cells]
 rw[hc]at h1;have:[x.sv.val]=[v]:=h1;simpa using this.symm
theorem aj5{H:Type}{enc:TypeId×Value->H}{w:World}{b:Nat}{t:TypeId}{τ:Type}[Deep τ][o:lR P t τ](hu: ∃d,P.underlying t=some d/\wR d=true){v:Value}{d:DataW H}{ps:List MemPlace}(hv:Value.okWide P w .any b t v)(h:DataW.Trod enc P w 0 (fun _=>true) true t v d ps)(hw: ∀n∈d.weights P t,n<=reachBytes):
  ∃x:τ,v= .agg (Deep.cells x)/\Deep.cP (hp w) x:=by
 obtain⟨fuel,h⟩:=h;obtain⟨x,h1,h2⟩:=o.h h hw;refine⟨x,?_,h2⟩;obtain⟨dd,yo,Lu⟩:=hu;have hc: ∃cs,v= .agg cs:=by
  unfold Value.okWide at hv;rw[yo]at hv
  cases dd<;>simp[wR]at Lu
  ·obtain⟨cs,rfl,_⟩:=hv;exact⟨cs,rfl⟩
  ·obtain⟨cs,rfl,_⟩:=hv;exact⟨cs,rfl⟩
 obtain⟨cs,rfl⟩:=hc;have:(Deep.cells x).toList=cs.toList:=h1;rw[Array.toList_inj.1 this]
structure Arg(H:Type)(enc:TypeId×Value->H)(P:Program)(W:World)(b:Nat)(t:TypeId)(v:Value):Prop where
 ok:Value.okWide P W .any b t v
 trod: ∃d ps,DataW.Trod enc P W 0 (fun _=>true) true t v d ps/\ ∀n∈d.weights P t,n<=reachBytes
theorem Arg.sl{H:Type}{enc:TypeId×Value->H}{W:World}{b:Nat}{t e:TypeId}{v:Value}(h:Arg H enc P W b t v)(hu:P.underlying t=some (.slice e))(τ:Type)[Deep τ][o:lR P t (Sl τ)]: ∃x:Sl τ,v=x.sv.val/\Deep.cP (hp W) x:=by
 obtain⟨d,ps,h1,h2⟩:=h.trod;exact aj4 hu h.ok h1 h2
theorem Arg.agg{H:Type}{enc:TypeId×Value->H}{W:World}{b:Nat}{t:TypeId}{v:Value}(h:Arg H enc P W b t v){n:Nat}(hu:gK P t n)(τ:Type)[Deep τ][o:lR P t τ]: ∃x:τ,v= .agg (Deep.cells x)/\Deep.cP (hp W) x:=by
 obtain⟨d,ps,h1,h2⟩:=h.trod;exact aj5 hu.row h.ok h1 h2
theorem Yd{H:Type}{enc:TypeId×Value->H}{W:World}{sp:Nat->Bool}{hd:Bool}: ∀{ts:List TypeId} {vs:List Value} {ds:List (DataW H)} {ps:List MemPlace},DataW.TrodAll enc P W 0 sp hd ts vs ds ps-> ∀(j:Nat) (t:TypeId) (v:Value),ts[j]? =some t->vs[j]? =some v->
  ∃d p,ds[j]? =some d/\DataW.Trod enc P W 0 sp hd t v d p
 |[],_,_,_,h,j,_,_,ht,_=>by simp at ht
 |t0::ts,vs,ds,ps,h,j,t,v,ht,hv=>by
  obtain⟨v0,X7,d0,X8,a,b,rfl,rfl,rfl,h1,h2⟩:=trodAll_cons h
  cases j with
  |zero=>
   obtain rfl:t0=t:=by simpa using ht
   obtain rfl:v0=v:=by simpa using hv
   exact⟨d0,a,rfl,h1⟩
  |succ j=>exact Yd h2 j t v (by simpa using ht) (by simpa using hv)
variable {P:Program}
theorem aj6{H:Type}{enc:TypeId×Value->H}{C:Checked}{os:Os}{f:FuncId}{fn:Func}{s:ChangeSpec}{conds:List PathCond}{apart fresh handsOn:Bool}{tb:TypeId}{laid:List (String×DataW Unit)}
  (own:ownKnob C.prog.godebug=none) (started:os.Started) (aj7:C.prog.inits.idxOf? f=none) (aj8:C.prog.funcs[f]? =some fn)
  (wit: ∃(w:World) (tape:Tape) (i:Input),w.os=os/\(w.forCall tape i).Shaped C.prog/\i.vars=[]/\Input.okWide C.prog (w.forCall tape i) .any w.heap.size f i/\
   ((s.pre enc C.prog fn conds apart (w.forCall tape i).memory i.args/\laidMetH C.prog laid (w.forCall tape i).memory)/\sizedMet enc C.prog fn (OpenSpec.ofChange s) apart (w.forCall tape i).memory i.args)/\({}:Assume).holds C.prog (lone (Frame.enter C.prog f i.args .normal) [] (w.forCall tape i)))
  (hl:laidOutB C.prog=true) (hp:fn.params.toList.all (fun t=>C.prog.readableRec t&&decide (t<C.prog.types.size))=true) (hr:fn.resultTypes= #[tb]) (hb:C.prog.underlying tb=some .bool)
  (hv:s.vars=[]) (EN: ∀ds:List (DataW H),ds.length=fn.params.size->s.fn H ds={results:=[.lit (.bool true)],args:=ds})
  (aj9: ∀(W:World) (base:Nat) (vs:List Value),W.ShapedOpen C.prog->laidMetH C.prog laid W->vs.length=fn.params.size->(∀(j:Nat) t v,fn.params[j]? =some t->vs[j]? =some v->Arg H enc C.prog W base t v)->
   Calls C.prog f vs.toArray W fun e W'=>e= .returned (.bool true)/\Mem W [] W'):
  ReturnsInHanded {} C os f .any (fun w args=>(s.pre enc C.prog fn conds apart w args/\laidMetH C.prog laid w)/\sizedMet enc C.prog fn (OpenSpec.ofChange s) apart w args) (s.post enc C.prog fn apart fresh handsOn false):=by
 refine returnsInHanded_of_calls own started aj7 wit ?_;intro w tape i _ hsh _ bJ aC atT;obtain⟨_,_,_,Ye,aka,_,_,_,_,akb⟩:=bJ;have e:Ye=fn:=at1 (aka.symm.trans aj8);subst e;obtain⟨⟨⟨ds,gs,before,hw,hc⟩,hx⟩,hz⟩:=aC;have hW:=DataW.Whole.of_heap (w':=w.forCall tape i) (by rfl) hw;have rP:=hz.weights hw;have hlen:i.args.toList.length=Ye.params.size:=by
  obtain⟨p,q,hA,_⟩:=hW;rw[(Ow hA).1];simp
 have h:=aj9 (w.forCall tape i) w.heap.size i.args.toList hsh (laidMetH.of_heap (by rfl) hx) hlen (fun j t v h1 h2=>⟨akb j t v h1 (by simpa using h2),by
  obtain⟨p,q,hA,_⟩:=hW;obtain⟨d,pp,hd,ht⟩:=Yd hA j t v (by simpa using h1) h2;refine⟨d,pp,ht,fun n hn=>?_⟩;have hh:=aue.1 rP n (Oz (i:=j) (t:=t) (d:=d) (by rw[aus (by have:=(avF.1 h1).1;simpa using this)];simpa using h1)
   (by rw[aus (zz.1 hd).1];exact hd) hn)
  simpa using hh⟩)
 rw[Array.toArray_toList]at h;refine h.mono fun e W' hh=>?_;obtain⟨he,hm⟩:=hh;subst he;exact ChangeSpec.post_blind (ajU hl hp hr hb hv EN hW hm.below)
variable {P:Program}
def OC(n:Int64):Array Value:= #[.int .i64 n.toInt]
instance:bp OC 1:=⟨fun _=>rfl,fun _=>by simp[OC,Value.oneCell']⟩
instance:Deep Int64:=Deep.flat OC 1
theorem akc{t:TypeId}(hu:P.underlying t=some (.int .i64))(hs:P.cellsOf t=1):lR P t Int64:=⟨hs,fun h _=>by
 obtain⟨n,rfl,_,hw⟩:=DataW.trod_int hu h;simp only[Lit.wf,af0,decide_eq_true_eq]at hw;have h1:(-9223372036854775808:Int)<=n:=hw.1;have h2:n<=(9223372036854775807:Int):=hw.2;refine⟨Int64.ofInt n,?_,trivial⟩;show(#[Value.int .i64 (Int64.ofInt n).toInt]).toList=_;rw[Int64.toInt_ofInt_of_le oM oM]⟩
theorem akd{α:Type}{cs:List α}{a b c d e:Nat}(h:cs.length=a+b+c+d+e):(cs.drop 0).take a++(cs.drop a).take b++(cs.drop (a+b)).take c++(cs.drop (a+b+c)).take d++(cs.drop (a+b+c+d)).take e=cs:=by
 have h1:=OA (cs:=cs) (a:=a+b+c+d) (b:=e) oM
 conv=>rhs;rw[←h1]
 congr 1;rw[avg,List.take_add,List.take_add,List.take_add]
end Go.ax
namespace Go.Proofs.YtkggjjnhnjjokaaGreatDoor
open Go.ax Go.Kb Go.Proofs.Tryz
instance op3:lR prog 3 Int:=aj1 underlying3 kRq
instance op5:lR prog 5 UInt8:=aj2 underlying5 kRq
instance atU:lR prog 27 UInt16:=aj3 underlying27 kRq
instance:bp bR 16:=⟨eU,fun k=>(inferInstance:gB (bR k) 16).one⟩
instance:Deep Key:=Deep.flat bR 16
instance:bp cW 18:=⟨oA,fun k=>(inferInstance:gB (cW k) 18).one⟩
instance:Deep cK:=Deep.flat cW 18
instance atV:lR prog 25 Key:=⟨kRq,fun h hw=>by
 obtain⟨hl,he⟩:=ajZ underlying25 h hw UInt8;rw[show prog.cellsOf 25=16 from by kernel_rfl]at hl;obtain⟨l,mL,I4⟩:=Ox (p:=fun i (x:UInt8)=>_) he;refine⟨oz fun i=>(l.getD i 0).toNat,?_,trivial⟩;refine au6 fun i=>?_;rw[Array.getElem?_toList];rcases aud i 16 with hi|hi
 ·have hx:l[i]? =some (l.getD i 0):=pz oM;have h1:=congrArg (·[0]?) (I4 i _ hx).1;simp only[avJ,avd]at h1;rw[if_pos dDq,show i*Deep.c UInt8+0=i from av9 i]at h1;have h3:some (Value.int .u8 (l.getD i 0).toNat)=_:=h1;have e8:(l.getD i 0).toNat%2^8=(l.getD i 0).toNat:=auJ (l.getD i 0).toNat_lt;show(bR _)[i]? =_;rw[jr _ _ hi,ux _ _ hi,e8,←h3]
 show(bR _)[i]? =_;rw[PH _ _ hi,aub oM]⟩
instance atW:lR prog 32 cK:=⟨kRq,fun h hw=>by
 obtain⟨hl,x0,h0,-⟩:=vr underlying32 h hw (i:=0) (tf:=3) (off:=0) rfl Int;obtain⟨-,x1,h1,-⟩:=vr underlying32 h hw (i:=1) (tf:=3) (off:=1) rfl Int;obtain⟨-,x2,h2,-⟩:=vr underlying32 h hw (i:=2) (tf:=25) (off:=2) rfl Key;refine⟨⟨x0,x1,x2⟩,?_,trivial⟩;refine Eq.trans ?_ (aj0 (a:=1) (b:=1) (c:=16) (hl.trans kRq));rw[show(Deep.cells (⟨x0,x1,x2⟩:cK)).toList=(Deep.cells x0).toList++(Deep.cells x1).toList++(Deep.cells x2).toList from by show(cW _).toList=_;unfold cW;rw[awN];rfl,h0,h1,h2];rfl⟩
instance atX:lR prog 34 Rt:=⟨kRq,fun h hw=>by
 obtain⟨hl,x0,h0,-⟩:=vr underlying34 h hw (i:=0) (tf:=32) (off:=0) rfl cK;obtain⟨-,x1,h1,-⟩:=vr underlying34 h hw (i:=1) (tf:=27) (off:=18) rfl UInt16;refine⟨⟨x0,x1⟩,?_,trivial⟩;refine Eq.trans ?_ (OA (a:=18) (b:=1) (hl.trans kRq));rw[show(Deep.cells (⟨x0,x1⟩:Rt)).toList=(Deep.cells x0).toList++(Deep.cells x1).toList from by show(ay _).toList=_;unfold ay;rw[awN];rfl,h0,h1];rfl⟩
open Go.RowKit Go.ChangeShapes Go.WideShapes Go.ChangeAt
instance atY:lR prog 3 Int64:=akc underlying3 kRq
instance atZ:lR prog 73 aO:=⟨kRq,fun h hw=>by
 obtain⟨hl,x0,h0,-⟩:=vr underlying73 h hw (i:=0) (tf:=3) (off:=0) rfl Int;obtain⟨-,x1,h1,-⟩:=vr underlying73 h hw (i:=1) (tf:=34) (off:=1) rfl Rt;obtain⟨-,x2,h2,-⟩:=vr underlying73 h hw (i:=2) (tf:=25) (off:=20) rfl Key;obtain⟨-,x3,h3,-⟩:=vr underlying73 h hw (i:=3) (tf:=3) (off:=36) rfl Int;obtain⟨-,x4,h4,-⟩:=vr underlying73 h hw (i:=4) (tf:=3) (off:=37) rfl Int64;refine⟨⟨x0,x1,x2,x3,x4⟩,?_,trivial⟩;refine Eq.trans ?_ (akd (a:=1) (b:=19) (c:=16) (d:=1) (e:=1) (hl.trans kRq));rw[show(Deep.cells (⟨x0,x1,x2,x3,x4⟩:aO)).toList=(Deep.cells x0).toList++(Deep.cells x1).toList++(Deep.cells x2).toList++(Deep.cells x3).toList++(Deep.cells x4).toList from by
  show(bA _).toList=_;rw[afC,awN,awN,awN];exact(at4 _ [_] [_]).symm,h0,h1,h2,h3,h4]
 rfl⟩
instance at0:lR prog 74 (Sl aO):=Ar underlying74 kRq dDq kRq
end Go.Proofs.YtkggjjnhnjjokaaGreatDoor

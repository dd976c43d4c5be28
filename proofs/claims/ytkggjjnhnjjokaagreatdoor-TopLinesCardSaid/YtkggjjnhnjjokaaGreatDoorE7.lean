/- Part of a proof. -/
import Derived.Test.YtkggjjnhnjjokaaGreatDoorE6
import Derived.Test.YtkggjjnhnjjokaaGreatDoorE3
import Derived.Test.YtkggjjnhnjjokaaGreatDoorE1
import Derived.Test.YtkggjjnhnjjokaaGreatDoorE2
import Derived.Test.YtkggjjnhnjjokaaGreatDoorE4
import Derived.Lib.ReflectliteSwap
import Derived.Laws.Externs
set_option maxRecDepth 20000
set_option linter.unusedSimpArgs false
set_option linter.unusedVariables false
namespace Go.Kb
open Go.ax
def iE(c:CV):Prop:= ∀f∈c.aU,f.mask=0\/f.mask=255
theorem iE.kd{L:List Int}{c d:CV}(h:iE c)(k:Kd L c d):iE d:=by unfold iE;rw[k.n5];exact h
theorem iE.Dy{c:CV}(h:iE c)(hs:(bq c).2=true):(bq c).1.mask=0\/(bq c).1.mask=255:=by
 rw[bq]at hs⊢
 cases hf:c.aU.find? fun f=>decide (f.op=c.ops)with
 |none=>rw[hf]at hs;cases hs
 |some x=>exact h x (as0 hf)
theorem Uf(p:List UInt8):cR 0 p=p:=by
 rw[cR]
 conv=>rhs;rw[←List.map_id p]
 exact arT fun x _=>by simp
theorem Ug(p:List UInt8):jT (cR 255 p)=true:=by
 refine Ct.2 fun x hx=>?_;obtain⟨y,_,rfl⟩:=ar0.1 hx;apply UInt8.eq_of_toBitVec_eq;show y.toBitVec|||255#8=255#8;exact BitVec.or_allOnes
theorem Ml{p:List UInt8}(h:jT p=true):(bC p).2≠0:=by
 rw[bC]
 by_cases h1:nL p.length=false
 ·
  rw[if_pos (by rw[cD,if_pos h1];decide)];rw[cD,if_pos h1];decide
 have e:cD p=(jS,0):=by rw[cD,if_neg h1,if_pos h]
 rw[e,if_neg (by decide),if_pos (show(jS,(0:Int)).1.kind=0 from rfl)];decide
theorem afJ(n:Int):jT (gX n)=true:=Ct.2 fun _ hx=>List.eq_of_mem_replicate hx
theorem ua{c:CV}(hb:fV c=true){k:Nat}(hk:(k:Int)<2*c.pages):((ak c 0).pages++(ak c 1).pages).getD k []=bK c k:=by
 obtain⟨l0,l1⟩:=Du hb;have hp:2<=c.pages:=(fM.1 hb).2.2.1;rw[bK]
 by_cases h:(k:Int)<c.pages
 ·
  rw[arR (by omega) h,atD (by omega) h,arN];simp only[List.getD];rw[aq4 (by omega)]
 have e1:(k:Int)/c.pages=1:=by
  have:(k:Int)=(k -c.pages)+1*c.pages:=by omega
  rw[this,ar8 _ _ (by omega),arR (by omega) (by omega)];rfl
 have e2:(k:Int)%c.pages=k -c.pages:=by
  have:(k:Int)=(k -c.pages)+1*c.pages:=by omega
  rw[this,atv,atD (by omega) (by omega)];omega
 rw[e1,e2];simp only[List.getD];rw[aq3 (by omega)];congr 2;omega
theorem Uh{c:CV}(hb:fV c=true){i:Int}(h0:0<=i)(h1:i<2*c.pages)(hi:(bC (bK c i)).2=0)(iG: ∀k,0<=k->k<2*c.pages->(bC (bK c k)).2=0-> ¬((bC (bK c i)).1.gen<(bC (bK c k)).1.gen\/((bC (bK c k)).1.gen=(bC (bK c i)).1.gen/\i<k))):
  bO c=(i,(bC (bK c i)).1,0):=by
 obtain⟨l0,l1⟩:=Du hb;obtain⟨n,rfl⟩: ∃n:Nat,i=n:=⟨i.toNat,by omega⟩;have hl:((ak c 0).pages++(ak c 1).pages).length=(ak c 0).pages.length+(ak c 1).pages.length:=af0;have hn:n<((ak c 0).pages++(ak c 1).pages).length:=by omega
 have:=Rr hn (FZ.2 ⟨by rw[ua hb h1];exact hi,fun k hk hv=>by
  rw[ua hb h1,ua hb (by omega)];rw[ua hb (by omega)]at hv;have:=iG k (by omega) (by omega) hv;omega⟩)
 rw[bO,this,ua hb h1]
theorem Ui{c:CV}(hb:fV c=true)(h:(bO c).2.2=0):bC (bK c (bO c).1)=((bO c).2.1,0)/\ ∀k,0<=k->k<2*c.pages->(bC (bK c k)).2=0-> ¬((bO c).2.1.gen<(bC (bK c k)).1.gen\/((bC (bK c k)).1.gen=(bO c).2.1.gen/\(bO c).1<k)):=by
 obtain⟨l0,l1⟩:=Du hb;have hl:((ak c 0).pages++(ak c 1).pages).length=(ak c 0).pages.length+(ak c 1).pages.length:=af0
 by_cases hex: ∃i,i<((ak c 0).pages++(ak c 1).pages).length/\yg ((ak c 0).pages++(ak c 1).pages) i=true
 ·
  obtain⟨i,hi,Uj⟩:=hex;have e:=Rr hi Uj;obtain⟨g1,g2⟩:=FZ.1 Uj;rw[ua hb (by omega)]at e g1;rw[bO,e];refine⟨by rw[←g1],fun k k0 k1 hv=>?_⟩;obtain⟨n,rfl⟩: ∃n:Nat,k=n:=⟨k.toNat,by omega⟩;have:=g2 n (by omega) (by rw[ua hb k1];exact hv);rw[ua hb k1,ua hb (by omega)]at this;simp only;omega
 have:=abo (l:=(ak c 0).pages++(ak c 1).pages) fun i hi=>by
  cases hq:yg ((ak c 0).pages++(ak c 1).pages) i with
  |false=>rfl
  |true=>exact absurd ⟨i,hi,hq⟩ hex
 rw[bO,this]at h;simp only at h;split at h<;>cases h
structure Wv(g:Nat)(at_:List Int)(last:Int)(a:List Int)(c:CV):Prop where
 bears:fV c=true
 AN: ∃i:Int,0<=i/\i<2*c.pages/\bC (bK c i)=(⟨g,at_⟩,0)/\i/c.pages=last/\i%c.pages<(ak c last).used/\
  ∀k,0<=k->k<2*c.pages->(bC (bK c k)).2=0->(bC (bK c k)).1.gen<g\/((bC (bK c k)).1.gen=g/\k<=i)\/(bC (bK c k)=(⟨g+1,a⟩,0)/\k%c.pages<(ak c (k/c.pages)).used)
theorem ft.wv{x:VV}(h:ft x)(a:List Int):Wv x.gen x.at_ x.last a x.ae:=by
 obtain⟨h1,h2⟩:=Ui h.bears h.roots;have hr:=T7 h.bears;refine⟨h.bears,(bO x.ae).1,hr.1,hr.2,?_,h.last,by rw[←h.last];exact h.used,fun k k0 k1 hv=>?_⟩
 ·
  rw[h1,←h.at_,←h.gen]
 have:=h2 k k0 k1 hv;rw[h.gen]at this;omega
theorem Wv.step{g:Nat}{at_ a:List Int}{last:Int}{c d:CV}(h:Wv g at_ last a c)(hb:fV d=true)(hP:d.pages=c.pages)
  (hl: ∀i,0<=i->i/c.pages=last->i%c.pages<(ak c last).used->bK d i=bK c i/\i%c.pages<(ak d last).used)
  (hk: ∀k,0<=k->k<2*c.pages->(bC (bK d k)).2=0->(bK d k=bK c k/\(k%c.pages<(ak c (k/c.pages)).used->k%c.pages<(ak d (k/c.pages)).used))\/(bC (bK d k)=(⟨g+1,a⟩,0)/\k%c.pages<(ak d (k/c.pages)).used)):Wv g at_ last a d:=by
 obtain⟨i,i0,i1,i2,i3,i4,i5⟩:=h.AN;obtain⟨e1,e2⟩:=hl i i0 i3 i4;refine⟨hb,i,i0,by rw[hP];exact i1,by rw[e1];exact i2,by rw[hP];exact i3,by rw[hP];exact e2,fun k k0 k1 hv=>?_⟩;rw[hP]at k1⊢;rcases hk k k0 k1 hv with⟨q1,q2⟩|q
 ·
  rw[q1]at hv⊢;rcases i5 k k0 k1 hv with r|r|r
  ·
   exact .inl r
  ·
   exact .inr (.inl r)
  ·
   exact .inr (.inr ⟨r.1,q2 r.2⟩)
 ·
  exact .inr (.inr q)
theorem Wv.Uk{g:Nat}{at_ a:List Int}{last:Int}{c:CV}(h:Wv g at_ last a c)(hp:Pl c at_)(fX: ∀k,0<=k->k<2*c.pages->bC (bK c k)≠(⟨g+1,a⟩,0)):ft ⟨c,at_,g,last⟩:=by
 obtain⟨i,i0,i1,i2,i3,i4,i5⟩:=h.AN;have e:=Uh h.bears i0 i1 (by rw[i2]) (fun k k0 k1 hv=>by
  rw[i2];rcases i5 k k0 k1 hv with r|r|r
  ·
   simp only;omega
  ·
   simp only;omega
  exact absurd r.1 (fX k k0 k1))
 rw[i2]at e;exact⟨h.bears,by show(bO c).2.2=0;rw[e],by show(bO c).1%c.pages<(ak c ((bO c).1/c.pages)).used;rw[e];simp only;rw[i3];exact i4,hp,by show(bO c).2.1.at_=at_;rw[e],by show(bO c).2.1.gen=g;rw[e],by show(bO c).1/c.pages=last;rw[e];exact i3⟩
theorem Ul{P:Int->Prop}{m:Int}: ∀(n:Nat),(∃k,0<=k/\k<m/\P k/\m -k<=n)-> ∃i,0<=i/\i<m/\P i/\ ∀k,k<m->P k->k<=i
 |0,⟨k,_,h1,_,h3⟩=>by omega
 |n+1,⟨k,h0,h1,h2,h3⟩=>by
  by_cases h: ∃j,0<=j/\j<m/\P j/\m -j<=n
  ·
   exact Ul n h
  refine⟨k,h0,h1,h2,fun j hj hP=>?_⟩;apply arf;intro bb;exact h ⟨j,by omega,hj,hP,by omega⟩
theorem Wv.Um{g:Nat}{at_ a:List Int}{last:Int}{c:CV}(h:Wv g at_ last a c)(hp:Pl c a){k0:Int}(q0:0<=k0)(q1:k0<2*c.pages)(q2:bC (bK c k0)=(⟨g+1,a⟩,0)):
  ∃i,ft ⟨c,a,g+1,i/c.pages⟩/\0<=i/\i<2*c.pages/\bC (bK c i)=(⟨g+1,a⟩,0)/\ ∀k,k<2*c.pages->bC (bK c k)=(⟨g+1,a⟩,0)->k<=i:=by
 obtain⟨i,i0,i1,i2,i3⟩:=Ul (P:=fun k=>bC (bK c k)=(⟨g+1,a⟩,0)) (m:=2*c.pages) (2*c.pages -k0).toNat ⟨k0,q0,q1,q2,by omega⟩;obtain⟨j,j0,j1,j2,j3,j4,j5⟩:=h.AN;have e:=Uh h.bears i0 i1 (by rw[i2]) (fun k k0 k1 hv=>by
  rw[i2];rcases j5 k k0 k1 hv with r|r|r
  ·
   simp only;omega
  ·
   simp only;omega
  ·
   have:=i3 k k1 r.1;rw[r.1];simp only;omega)
 rw[i2]at e;have hu:i%c.pages<(ak c (i/c.pages)).used:=by
  rcases j5 i i0 i1 (by rw[i2])with r|r|r
  ·
   rw[i2]at r;simp only at r;omega
  ·
   rw[i2]at r;simp only at r;omega
  ·
   exact r.2
 exact⟨i,⟨h.bears,by show(bO c).2.2=0;rw[e],by show(bO c).1%c.pages<(ak c ((bO c).1/c.pages)).used;rw[e];exact hu,hp,by show(bO c).2.1.at_=a;rw[e],by show(bO c).2.1.gen=g+1;rw[e],by show(bO c).1/c.pages=_;rw[e]⟩,i0,i1,i2,i3⟩
theorem Wv.some{g:Nat}{at_ a:List Int}{last:Int}{c:CV}(h:Wv g at_ last a c)(h1:Pl c at_)(h2:Pl c a): ∃u,ft u/\u.ae=c/\(u=⟨c,at_,g,last⟩\/(u.at_=a/\u.gen=g+1)):=by
 by_cases hex: ∃k,0<=k/\k<2*c.pages/\bC (bK c k)=(⟨g+1,a⟩,0)
 ·
  obtain⟨k,k0,k1,k2⟩:=hex;obtain⟨i,hi,_⟩:=h.Um h2 k0 k1 k2;exact⟨_,hi,rfl, .inr ⟨rfl,rfl⟩⟩
 exact⟨_,h.Uk h1 fun k k0 k1 e=>hex ⟨k,k0,k1,e⟩,rfl, .inl rfl⟩
theorem vC{c:CV}{b e k:Int}:(ak (iX c b e) k).pages=(ak c k).pages/\(ak (iX c b e) k).used=(ak c k).used:=by
 rw[iX];split
 ·
  exact TZ
 exact⟨rfl,rfl⟩
theorem Hk{c:CV}{b e k:Int}:bK (iX c b e) k=bK c k:=by
 rw[bK,bK,(FI c b e).pages,vC.1]
theorem Un{c:CV}{b k:Int}(bS:iE c)(hk:0<=k)(hp:1<=c.pages)(qk:k/c.pages=b)(hv:(bC (bK (dk c b) k)).2=0):bK (dk c b) k=bK c k/\(k%c.pages<(ak c b).used->k%c.pages<(ak (dk c b) b).used):=by
 rw[dk,Hk]at hv⊢;rw[vC.2]
 by_cases h:oD c b=true/\c.off=false/\(ak c b).bad=false
 ·
  have hh:=(pF.1 h.1).1;have e:fT c b=kH c b:=if_pos h;have eb:ak (kH c b) b={ak c b with used:=if(bq c).2=true then c.pages else 0,aR:=(ak c b).aR+1,pages:=rZ c (ak c b).pages}:=qt hh
  have nW:0<=k%c.pages:=asZ _ (by omega);have pN:k%c.pages<c.pages:=as5 _ (by omega);have CY:=(fc.1 (qo hh)).1;have Dz:bK (kH c b) k=(rZ c (ak c b).pages).getD (k%c.pages).toNat []:=by
   show(ak (kH c b) (k/c.pages)).pages.getD _ []=_;rw[qk,eb];rfl
  obtain⟨x,hx⟩: ∃x,(ak c b).pages[(k%c.pages).toNat]? =some x:=⟨_,aqR (by omega)⟩;have ec:bK c k=x:=by rw[bK,qk];simp[List.getD,hx]
  rw[e]at hv⊢;rw[Dz,rZ]at hv⊢
  by_cases hs:(bq c).2=true
  ·
   rw[if_pos hs]at hv⊢;have eg:((ak c b).pages.map (cR (bq c).1.mask)).getD (k%c.pages).toNat []=cR (bq c).1.mask x:=by simp[List.getD,hx]
   rw[eg]at hv⊢;rcases bS.Dy hs with m|m
   ·
    rw[m,Uf,ec,eb];exact⟨rfl,fun _=>by simp only;rw[if_pos hs];exact pN⟩
   rw[m]at hv;exact absurd hv (Ml (Ug x))
  rw[if_neg hs]at hv;have eg:((ak c b).pages.map fun _=>gX c.size).getD (k%c.pages).toNat []=gX c.size:=by simp[List.getD,hx]
  rw[eg]at hv;exact absurd hv (Ml (afJ _))
 rw[fT,if_neg h];exact⟨rfl,id⟩
theorem Wv.erase{g:Nat}{at_ a:List Int}{last:Int}{c:CV}(h:Wv g at_ last a c)(bS:iE c){b:Int}(hb:b≠last)(qE:0<=b)(mr:0<=last):Wv g at_ last a (dk c b):=by
 have hP:=(wC c b).pages;have hp:2<=c.pages:=(fM.1 h.bears).2.2.1;have pO:fV (dk c b)=true:=by
  obtain⟨h1,h2,h3,h4⟩:=fM.1 h.bears;exact fM.2 ⟨CA h1 b,by rw[(wC c b).len];exact h2,by rw[hP];exact h3,by rw[(wC c b).size];exact h4⟩
 have sM: ∀k,0<=k->k≠b->(ak (dk c b) k).pages=(ak c k).pages/\(ak (dk c b) k).used=(ak c k).used:=fun k k0 hk=>by
  rw[dk,vC.1,vC.2,Bb (by omega)];exact⟨rfl,rfl⟩
 refine h.step pO hP (fun i i0 i1 i2=>?_) fun k k0 k1 hv=> .inl ?_
 ·
  obtain⟨e1,e2⟩:=sM last mr (fun e=>hb e.symm);exact⟨by rw[bK,bK,hP,i1,e1],by rw[e2];exact i2⟩
 by_cases e:k/c.pages=b
 ·
  have:=Un bS k0 (by omega) e hv;rw[e];exact this
 obtain⟨e1,e2⟩:=sM (k/c.pages) (asW k0 (by omega)) e;exact⟨by rw[bK,bK,hP,e1],by rw[e2];exact id⟩
theorem afK{c:CV}{b k:Int}{p:List UInt8}(bS:iE c)(hk:0<=k)(hp:1<=c.pages)(qk:k/c.pages=b)(hv:(bC (bK (bA c b p) k)).2=0):
  (bK (bA c b p) k=bK c k/\(k%c.pages<(ak c b).used->k%c.pages<(ak (bA c b p) b).used))\/(bK (bA c b p) k=p/\k%c.pages<(ak (bA c b p) b).used):=by
 rw[bA,Hk]at hv⊢;rw[vC.2]
 by_cases h:nK c b (ak c b).used p=true/\c.off=false/\(ak c b).bad=false/\(ak c b).used=(ak c b).used
 ·
  obtain⟨hh,u0,u1,_,_⟩:=jA.1 h.1;have e:gy c b (ak c b).used p=iq c b (ak c b).used p:=if_pos h;have eb:ak (iq c b (ak c b).used p) b={ak c b with used:=(ak c b).used+1,pages:=(ak c b).pages.set (ak c b).used.toNat (oC c p)}:=qt hh
  have nW:0<=k%c.pages:=asZ _ (by omega);have pN:k%c.pages<c.pages:=as5 _ (by omega);have CY:=(fc.1 (qo hh)).1;have Dz:bK (iq c b (ak c b).used p) k=((ak c b).pages.set (ak c b).used.toNat (oC c p)).getD (k%c.pages).toNat []:=by
   show(ak (iq c b (ak c b).used p) (k/c.pages)).pages.getD _ []=_;rw[qk,eb];rfl
  rw[e]at hv⊢;rw[Dz]at hv⊢
  by_cases hj:k%c.pages=(ak c b).used
  ·
   have eg:((ak c b).pages.set (ak c b).used.toNat (oC c p)).getD (k%c.pages).toNat []=oC c p:=by
    rw[hj];simp only[List.getD];rw[aq7 (by omega)];rfl
   rw[eg]at hv⊢;right;refine⟨?_,by rw[eb];simp only;omega⟩;rw[oC]at hv⊢;split
   ·
    rename_i hs;rw[if_pos hs]at hv;rcases bS.Dy hs with m|m
    ·
     rw[m]at hv;exact absurd hv (Ml (Ug p))
    ·
     rw[m];exact Uf p
   ·
    rfl
  ·
   left;refine⟨?_,fun bb=>by rw[eb];simp only;omega⟩;simp only[List.getD];rw[arj (by omega),bK,qk];rfl
 ·
  left;rw[gy,if_neg h];exact⟨rfl,id⟩
theorem afL{c:CV}{b k:Int}{p:List UInt8}(hp:1<=c.pages)(qk:k/c.pages=b)(hu:k%c.pages<(ak c b).used):bK (bA c b p) k=bK c k/\k%c.pages<(ak (bA c b p) b).used:=by
 rw[bA,Hk,vC.2]
 by_cases h:nK c b (ak c b).used p=true/\c.off=false/\(ak c b).bad=false/\(ak c b).used=(ak c b).used
 ·
  obtain⟨hh,u0,u1,_,_⟩:=jA.1 h.1;have e:gy c b (ak c b).used p=iq c b (ak c b).used p:=if_pos h;have eb:ak (iq c b (ak c b).used p) b={ak c b with used:=(ak c b).used+1,pages:=(ak c b).pages.set (ak c b).used.toNat (oC c p)}:=qt hh
  have nW:0<=k%c.pages:=asZ _ (by omega);have Dz:bK (iq c b (ak c b).used p) k=((ak c b).pages.set (ak c b).used.toNat (oC c p)).getD (k%c.pages).toNat []:=by
   show(ak (iq c b (ak c b).used p) (k/c.pages)).pages.getD _ []=_;rw[qk,eb];rfl
  rw[e,Dz,eb];refine⟨?_,by simp only;omega⟩;simp only[List.getD];rw[arj (by omega),bK,qk];rfl
 rw[gy,if_neg h];exact⟨rfl,hu⟩
theorem Wv.prog{g:Nat}{at_ a:List Int}{last:Int}{c:CV}{p:List UInt8}(h:Wv g at_ last a c)(bS:iE c){b:Int}(qE:0<=b)(mr:0<=last)(hr:bC p=(⟨g+1,a⟩,0)):Wv g at_ last a (bA c b p):=by
 have hP:=(iv c b p).pages;have hp:2<=c.pages:=(fM.1 h.bears).2.2.1;have pO:fV (bA c b p)=true:=by
  obtain⟨h1,h2,h3,h4⟩:=fM.1 h.bears;exact fM.2 ⟨lu h1 b p,by rw[(iv c b p).len];exact h2,by rw[hP];exact h3,by rw[(iv c b p).size];exact h4⟩
 have sM: ∀k,0<=k->k≠b->(ak (bA c b p) k).pages=(ak c k).pages/\(ak (bA c b p) k).used=(ak c k).used:=fun k k0 hk=>by
  rw[bA,vC.1,vC.2,T0 (by omega)];exact⟨rfl,rfl⟩
 refine h.step pO hP (fun i i0 i1 i2=>?_) fun k k0 k1 hv=>?_
 ·
  by_cases e:last=b
  ·
   have:=afL (p:=p) (show 1<=c.pages by omega) (i1.trans e) (by rw[←e];exact i2);rw[e];exact this
  obtain⟨e1,e2⟩:=sM last mr e;exact⟨by rw[bK,bK,hP,i1,e1],by rw[e2];exact i2⟩
 by_cases e:k/c.pages=b
 ·
  rcases afK bS k0 (by omega) e hv with q|q
  ·
   left;rw[e];exact q
  right;rw[q.1,e];exact⟨hr,q.2⟩
 obtain⟨e1,e2⟩:=sM (k/c.pages) (asW k0 (by omega)) e;exact .inl ⟨by rw[bK,bK,hP,e1],by rw[e2];exact id⟩
def Hl(c:CV):Prop:=cN<=c.ops\/ ∃b,cN<=(ak c b).aR
def sN(g:Nat)(a:List Int)(c:CV):Prop:= ∀k,0<=k->k<2*c.pages->bC (bK c k)≠(⟨g+1,a⟩,0)
theorem afM{c:CV}(h:c.aU=[]):(bq c).2=false:=by rw[bq,h];rfl
theorem Uo{c:CV}{b:Int}{p:List UInt8}(h:c.aU=[])(he:bx c b p≠0):gy c b (ak c b).used p=c:=by
 rw[gy,if_neg];rintro⟨h1,h2,h3,h4⟩;apply he;rw[bx,kh,if_pos h1,if_neg (by rw[h2];simp),if_neg (by rw[h3];simp),if_neg (by rw[afM h];simp)]
theorem sN.erase{g:Nat}{a:List Int}{c:CV}(h:sN g a c)(hb:fV c=true)(bS:iE c){b:Int}(qE:0<=b):sN g a (dk c b):=by
 have hP:=(wC c b).pages;have hp:2<=c.pages:=(fM.1 hb).2.2.1;intro k k0 k1 he;rw[hP]at k1
 by_cases e:k/c.pages=b
 ·
  have:=(Un bS k0 (by omega) e (by rw[he])).1;rw[this]at he;exact h k k0 k1 he
 have:bK (dk c b) k=bK c k:=by
  have hk:=asW k0 (show 0<=c.pages by omega);rw[bK,bK,hP,dk,vC.1,Bb (by omega)]
 rw[this]at he;exact h k k0 k1 he
theorem afN{c:CV}{b:Int}(q:dV c b=1):oD c b=false:=by
 cases ho:oD c b with
 |false=>rfl
 |true=>
  exfalso;rw[dV,if_pos ho]at q
  by_cases h1:c.off=true
  ·
   rw[if_pos h1]at q;cases q
  rw[if_neg h1]at q
  by_cases h2:(ak c b).bad=true
  ·
   rw[if_pos h2]at q;cases q
  rw[if_neg h2]at q
  by_cases h3:(bq c).2=true
  ·
   rw[if_pos h3,lS]at q;split at q<;>cases q
  rw[if_neg h3]at q;cases q
theorem afO{g:Nat}{at_ a:List Int}{last:Int}{c:CV}(h:Wv g at_ last a c)(bS:iE c)(hl:last=0\/last=1):
  (∀L,Kd L c (aV c last).1)/\Wv g at_ last a (aV c last).1/\(sN g a c->sN g a (aV c last).1)/\((aV c last).2.2=7->(aV c last).1.off=true)/\
   ((aV c last).2.2=0->((aV c last).2.1=0\/(aV c last).2.1=1)/\0<dX (aV c last).1 (aV c last).2.1)/\((aV c last).2.2≠0->(aV c last).2.2=7\/(aV c last).2.2=9\/((aV c last).2.2=1/\Hl (aV c last).1)):=by
 have hk:=(fM.1 h.bears).1;have h4:=(fM.1 h.bears).2.1;have z7: ∀{P:Prop},(0:Int)=7->P:=fun h=>absurd h (by decide);rw[aV]
 by_cases h1:0<dX c last
 ·
  rw[if_pos h1];exact⟨fun L=> .c8 _ _,h,id,fun h=>z7 h,fun _=>⟨hl,h1⟩,fun h=>absurd rfl h⟩
 ·
  rw[if_neg h1]
  by_cases h2:0<dX c (1 -last)
  ·
   rw[if_pos h2];exact⟨fun L=> .c8 _ _,h,id,fun h=>z7 h,fun _=>⟨by simp only;omega,h2⟩,fun h=>absurd rfl h⟩
  ·
   rw[if_neg h2]
   by_cases h3:(ak c (1 -last)).bad=true
   ·
    rw[if_pos h3];exact⟨fun L=> .c8 _ _,h,id,fun h=>absurd (show(9:Int)=7 from h) (by decide),fun h=>absurd (show(9:Int)=0 from h) (by decide),fun _=> .inr (.inl rfl)⟩
   ·
    rw[if_neg h3];refine⟨fun L=>afy (by omega),h.erase bS (by omega) (by omega) (by omega),fun g=>g.erase h.bears bS (by omega),T4,fun he=>⟨by simp only;omega,?_⟩,fun he=>?_⟩
    ·
     obtain⟨e1,e2,e3,e4,e5⟩:=CG he;have hh:=(pF.1 e1).1;have hd:=eQ hk;show 0<dX (dk c (1 -last)) (1 -last);rw[e5,dX,kH,qt hh,e4,e3];simp only[arv,if_false];omega
    ·
     simp only at he;rcases Kf c (1 -last)with q|q|q|q
     ·
      exact absurd q he
     ·
      refine .inr (.inr ⟨q,?_⟩);simp only;have fX:=afN q;have afP:dk c (1 -last)=c:=by rw[dk,q,iX,if_neg (by decide),fT,if_neg (by rw[fX];simp)]
      rw[afP];have hh:gV c (1 -last)=true:=gW.2 ⟨hk,by omega,by omega⟩
      by_cases ho:c.ops<cN
      ·
       right;refine⟨1 -last,?_⟩;apply arf;intro hw;rw[pF.2 ⟨hh,ho,by omega⟩]at fX;cases fX
      ·
       exact .inl (by omega)
     ·
      exact .inl q
     ·
      exact .inr (.inl q)
theorem afQ{c:CV}{b:Int}{p:List UInt8}(hh:gV c b=true)(hf:0<dX c b)(hl:(p.length:Int)=c.size)(h:bx c b p=1):cN<=c.ops/\gy c b (ak c b).used p=c:=by
 have fX:nK c b (ak c b).used p=false:=by
  cases ho:nK c b (ak c b).used p with
  |false=>rfl
  |true=>
   rw[bx,kh,if_pos ho]at h;split at h
   ·
    cases h
   split at h
   ·
    cases h
   split at h
   ·
    rw[lS]at h;split at h<;>cases h
   cases h
 have hu:=(fc.1 (qo hh)).2.1;have hb:=FN hf;rw[dX,if_neg (by rw[hb];simp)]at hf;refine⟨?_,by rw[gy,if_neg (by rw[fX];simp)]⟩;apply arf;intro hw;rw[jA.2 ⟨hh,hu,by omega,hl,by omega⟩]at fX;cases fX
theorem sN.prog{g:Nat}{a:List Int}{c:CV}{b:Int}{p:List UInt8}(h:sN g a c)(hf:c.aU=[])(he:bx c b p≠0):sN g a (bA c b p):=by
 intro k k0 k1 e;rw[bA,Hk,Uo hf he]at e;rw[bA,(FI _ _ _).pages,Uo hf he]at k1;exact h k k0 k1 e
theorem Up{p:List UInt8}: ∀(l:List (List UInt8)) (m:Nat),m<=l.foldl (fun m p=>max m (kJ p)) m/\(p∈l->kJ p<=l.foldl (fun m p=>max m (kJ p)) m)
 |[],m=>⟨Nat.le_refl _,fun h=>by cases h⟩
 |q::r,m=>by
  obtain⟨h1,h2⟩:=Up (p:=p) r (max m (kJ q));refine⟨by rw[asw];omega,fun h=>?_⟩;rw[asw];rcases aqW.1 h with rfl|h
  ·
   omega
  exact h2 h
theorem Mm{M:Nat}: ∀(l:List (List UInt8)) (m:Nat),m<=M->(∀p∈l,kJ p<=M)->l.foldl (fun m p=>max m (kJ p)) m<=M
 |[],m,h,_=>h
 |q::r,m,h,hp=>by
  rw[asw];exact Mm r _ (by have:=hp q aqU;omega) fun p fv=>hp p (aq2 _ fv)
theorem Wv.last{g:Nat}{at_ a:List Int}{last:Int}{c:CV}(h:Wv g at_ last a c)(hp:Pl c a){b:Int}(hb:b=0\/b=1){k0:Int}(q0:0<=k0)(q1:k0/c.pages=b)(q2:bC (bK c k0)=(⟨g+1,a⟩,0)):
  ft ⟨c,a,g+1,if lz c 1=g+1 then 1 else b⟩:=by
 have gZ:2<=c.pages:=(fM.1 h.bears).2.2.1;obtain⟨l0,l1⟩:=Du h.bears;have bb: ∀k:Int,k/c.pages<2->k<2*c.pages:=fun k hk=>by
  apply arf;intro hn;have:2<=k/c.pages:=by
   have:=Int.ediv_le_ediv (show 0<c.pages by omega) (show 2*c.pages<=k by omega);rwa [Int.mul_ediv_cancel _ (by omega)]at this
  omega
 obtain⟨i,hR,i0,i1,i2,i3⟩:=h.Um hp q0 (bb k0 (by omega)) q2;have Le:i/c.pages=0\/i/c.pages=1:=by
  have h1:=asW i0 (show 0<=c.pages by omega);have h2:i/c.pages<2:=Int.ediv_lt_of_lt_mul (by omega) i1;omega
 have hle: ∀k,0<=k->k<2*c.pages->kJ (bK c k)<=g+1:=fun k k0 k1=>by
  rw[kJ];split
  ·
   rename_i hv;obtain⟨j,_,_,_,_,_,j5⟩:=h.AN;rcases j5 k k0 k1 hv with r|r|r
   ·
    omega
   ·
    omega
   ·
    rw[r.1];exact aqY _
  ·
   omega
 have Uq: ∀p∈(ak c 1).pages,∃k,c.pages<=k/\k<2*c.pages/\bK c k=p:=fun p xm=>by
  obtain⟨j,hj⟩:=arc xm;have iO:=(ad2.1 hj).1;refine⟨c.pages+j,by omega,by omega,?_⟩;have:=ua h.bears (k:=(ak c 0).pages.length+j) (by omega);rw[show(((ak c 0).pages.length+j:Nat):Int)=c.pages+j by omega]at this;rw[←this];simp only[List.getD];rw[aq3 (by omega),asi,hj];rfl
 have afR:i/c.pages=(if lz c 1=g+1 then 1 else b):=by
  rcases Le with e|e
  ·
   have dD:i<c.pages:=by
    apply arf;intro hn;have:=Int.ediv_le_ediv (show 0<c.pages by omega) (show c.pages<=i by omega);rw[Int.ediv_self (by omega)]at this;omega
   have hg:lz c 1<=g:=by
    refine Mm _ 0 (arn _) fun p xm=>?_;obtain⟨k,KL,oo,rfl⟩:=Uq p xm;rw[kJ];split
    ·
     rename_i hv;obtain⟨j,_,_,_,_,_,j5⟩:=h.AN;rcases j5 k (by omega) oo hv with r|r|r
     ·
      omega
     ·
      omega
     ·
      have:=i3 k oo r.1;omega
    ·
     omega
   rw[if_neg (by omega),e];have aqy:=i3 k0 (bb k0 (by omega)) q2;have:k0/c.pages=0:=arR q0 (by omega);omega
  ·
   have dD:c.pages<=i:=by
    apply arf;intro hn;have:i/c.pages=0:=arR i0 (by omega);omega
   have hg:lz c 1=g+1:=by
    have h1:lz c 1<=g+1:=Mm _ 0 (arn _) fun p xm=>by
     obtain⟨k,KL,oo,rfl⟩:=Uq p xm;exact hle k (by omega) oo
    have h2:bK c i∈(ak c 1).pages:=by
     rw[bK,e];have nW:0<=i%c.pages:=asZ _ (by omega);have pN:i%c.pages<c.pages:=as5 _ (by omega);have hj:(i%c.pages).toNat<(ak c 1).pages.length:=by omega
     simp only[List.getD];rw[aqR hj];exact asG hj
    have h3:=(Up (p:=bK c i) (ak c 1).pages 0).2 h2;have h4:kJ (bK c i)=g+1:=by rw[kJ,if_pos (by rw[i2]),i2]
    have h5:lz c 1=(ak c 1).pages.foldl (fun m p=>max m (kJ p)) 0:=rfl;omega
   rw[if_pos hg,e]
 rw[←afR];exact hR
theorem Ur: ∀(n:Nat) {x:WV} {a:List Int} {b:List UInt8},cP x->Wv x.v.gen x.v.at_ x.v.last a x.v.ae->Pl x.v.ae a->iE x.v.ae->bC b=(⟨x.v.gen+1,a⟩,0)->(b.length:Int)=x.v.ae.size->(cN -x.v.ae.ops).toNat<n->
  (∀L,Kd L x.v.ae (gH n x a b).1.v.ae)/\((gH n x a b).2=0->ft (gH n x a b).1.v/\(gH n x a b).1.v.at_=a)/\
  ((gH n x a b).2≠0->(gH n x a b).1=x.on (gH n x a b).1.v.ae/\Wv x.v.gen x.v.at_ x.v.last a (gH n x a b).1.v.ae/\(x.v.ae.aU=[]->sN x.v.gen a x.v.ae->sN x.v.gen a (gH n x a b).1.v.ae)/\
   ((gH n x a b).2=7\/(gH n x a b).2=9\/((gH n x a b).2=1/\Hl (gH n x a b).1.v.ae)))/\((gH n x a b).2=7->(gH n x a b).1.v.ae.off=true)
 |0,x,a,b,_,_,_,_,_,_,hn=>by omega
 |n+1,x,a,b,hx,hw,ha,bS,hr,dP,hn=>by
  have hl:=hx.last;obtain⟨k1,k2,k3,k4,k5,k6⟩:=afO hw bS hl;obtain⟨o1,o2,o3,o4⟩:=FO (last:=x.v.last) hx.ae hl;have mr:0<=x.v.last:=by omega
  rw[gH]
  by_cases h0:(aV x.v.ae x.v.last).2.2≠0
  ·
   rw[if_pos h0];exact⟨k1,fun h=>absurd h h0,fun _=>⟨rfl,k2,fun _ g=>k3 g,k6 h0⟩,k4⟩
  ·
   rw[if_neg h0];obtain⟨g1,g2⟩:=k5 (by simpa using h0);have afS:iE (aV x.v.ae x.v.last).1:=bS.kd (k1 []);have hh:gV (aV x.v.ae x.v.last).1 (aV x.v.ae x.v.last).2.1=true:=by
    have:=(fM.1 k2.bears).2.1;exact gW.2 ⟨o1,by omega,by omega⟩
   have qE:0<=(aV x.v.ae x.v.last).2.1:=by omega
   have ff:=k2.prog afS qE mr hr;have vD: ∀L,Kd L x.v.ae (bA (aV x.v.ae x.v.last).1 (aV x.v.ae x.v.last).2.1 b):=fun L=>(k1 L).trans Ha
   by_cases h1:bx (aV x.v.ae x.v.last).1 (aV x.v.ae x.v.last).2.1 b=0
   ·
    rw[if_pos h1];refine⟨vD,fun _=>⟨?_,rfl⟩,fun h=>absurd rfl h,fun h=>absurd (show(0:Int)=7 from h) (by decide)⟩;have hz:=pJ h1;obtain⟨j1,j2,j3,j4,j5⟩:=jA.1 hz.1;have hP:=(iv (aV x.v.ae x.v.last).1 (aV x.v.ae x.v.last).2.1 b).pages;generalize(aV x.v.ae x.v.last).1=c at*;generalize(aV x.v.ae x.v.last).2.1=B at*;have hd:(B*c.pages+(ak c B).used)/c.pages=B:=by
     rw[asM,ar8 _ _ (by omega),arR j2 j3,asQ]
    have hm:(B*c.pages+(ak c B).used)%c.pages=(ak c B).used:=by
     rw[asM,atv,atD j2 j3]
    have CY:=(fc.1 (qo j1)).1;have pP:bK (bA c B b) (B*c.pages+(ak c B).used)=b:=by
     rw[hz.2.2.2.2];show(ak _ ((B*c.pages+(ak c B).used)/c.pages)).pages.getD ((B*c.pages+(ak c B).used)%c.pages).toNat []=b;rw[hd,hm,iq,qt j1];simp only[List.getD];rw[aq7 (by omega),oC,hz.2.2.2.1];rfl
    have:0<=B*c.pages:=asC qE (by omega);exact ff.last (k0:=B*c.pages+(ak c B).used) (ha.kd (vD a) fun _ g=>g) g1 (by omega) (by rw[hP,hd]) (by rw[pP];exact hr)
   ·
    rw[if_neg h1]
    by_cases h9:bx (aV x.v.ae x.v.last).1 (aV x.v.ae x.v.last).2.1 b≠9
    ·
     rw[if_pos h9];refine⟨vD,fun h=>absurd h h1,fun _=>⟨rfl,ff,fun hf fX=>(k3 fX).prog (by rw[(k1 []).n5];exact hf) h1,?_⟩,Hc⟩;rcases CH (aV x.v.ae x.v.last).1 (aV x.v.ae x.v.last).2.1 (ak (aV x.v.ae x.v.last).1 (aV x.v.ae x.v.last).2.1).used b with q|q|q|q
     ·
      exact absurd q h1
     ·
      obtain⟨t1,t2⟩:=afQ hh g2 (by rw[dP,o2.size]) q;refine .inr (.inr ⟨q, .inl ?_⟩);simp only[WV.on];rw[bA,CB,t2];exact t1
     ·
      exact .inl q
     ·
      exact absurd q h9
    ·
     rw[if_neg h9];have e9:bx (aV x.v.ae x.v.last).1 (aV x.v.ae x.v.last).2.1 b=9:=by simpa using h9
     have ho:=tA (FN g2) (p:=b) (.inl e9);have bF:=lu o1 (aV x.v.ae x.v.last).2.1 b;have fk:=o2.trans (iv (aV x.v.ae x.v.last).1 (aV x.v.ae x.v.last).2.1 b);have hle:=sf bF;have fJ:=hx.on bF fk;obtain⟨t1,t2,t3,t4⟩:=Ur n (x:=x.on (bA (aV x.v.ae x.v.last).1 (aV x.v.ae x.v.last).2.1 b)) (a:=a) (b:=b) fJ ff (ha.kd (vD a) fun _ g=>g) (bS.kd (vD [])) hr (by rw[dP];exact fk.size.symm) (by simp only[WV.on];omega);refine⟨fun L=>(vD L).trans (t1 L),t2,fun h=>?_,t4⟩;obtain⟨s1,s2,s3,s4⟩:=t3 h;refine⟨by rw[s1,Rd];rfl,s2,fun hf fX=>s3 (by rw[←hf];exact(vD []).n5) ((k3 fX).prog (by rw[(k1 []).n5];exact hf) h1),s4⟩
structure Sf(x:WV)(bs:List (List UInt8))(y:WV)(e:Int):Prop where
 kd:Kd [] x.v.ae y.v.ae
 len:y.v.at_.length=x.v.at_.length
 cF:e=0->ft y.v/\cq y.v=bs
 err:e≠0->(e=7\/e=9\/(e=1/\Hl y.v.ae))\/(ft y.v/\cq y.v=cq x.v)
 yP:e≠0->x.v.ae.aU=[]->ft y.v/\cq y.v=cq x.v
 any: ∃u:VV,ft u/\u.ae=y.v.ae/\u.at_.length=x.v.at_.length/\(cq u=cq x.v\/cq u=bs)
 off:e=7->y.v.ae.off=true
theorem Us{v:VV}{c:CV}(hp:Pl v.ae v.at_)(k:Kd v.at_ v.ae c):cq {v with ae:=c}=cq v:=He hp k fun _ h=>h
theorem Sf.data{x:WV}(h:ft x.v){c:CV}(k:Kp x.v.at_ x.v.ae c){e:Int}{bs:List (List UInt8)}(yQ:e=0->bs=cq x.v)(ho:e=7->c.off=true):Sf x bs (x.on c) e:=by
 have h2:ft (x.on c).v/\cq (x.on c).v=cq x.v:=⟨h.kp k,Us h.pl k.toKd⟩;exact⟨k.toKd.sub fun _ h=>absurd h atf,rfl,fun g=>⟨h2.1,by rw[yQ g];exact h2.2⟩,fun _=> .inr h2,fun _ _=>h2,⟨_,h2.1,rfl,rfl, .inl h2.2⟩,ho⟩
theorem Sf.trans{x y z:WV}{bs:List (List UInt8)}{e:Int}(h:Sf x (cq x.v) y 0)(g:Sf y bs z e):Sf x bs z e:=by
 have hb:=(h.cF rfl).2;refine⟨h.kd.trans g.kd,g.len.trans h.len,g.cF,fun he=>?_,fun he hf=>?_,?_,g.off⟩
 ·
  rw[←hb];exact g.err he
 ·
  rw[←hb];exact g.yP he (by rw[h.kd.n5];exact hf)
 rw[←hb,←h.len];exact g.any
theorem Mn{x:WV}{a:List Int}(hx:cP x)(h:ft x.v)(bS:iE x.v.ae)(ha:Pl x.v.ae a)(dS:a.length=x.v.at_.length):Sf x (a.map (eK x.v.ae)) (dY x a).1 (dY x a).2/\((dY x a).2=0->(dY x a).1.v.at_=a):=by
 rw[dY]
 by_cases h0:(cS ⟨x.v.gen+1,a⟩ x.v.ae.size).2≠0
 ·
  rw[if_pos h0];refine⟨?_,fun g=>absurd g h0⟩;have:=Sf.data (x:=x) h (.c8 _ _) (e:=(cS ⟨x.v.gen+1,a⟩ x.v.ae.size).2) (bs:=a.map (eK x.v.ae)) (fun g=>absurd g h0) (fun g=>by
   rw[cS]at g;split at g
   ·
    rcases Ax ⟨2,max 0 ((a.length:Int) -1),x.v.gen+1,gG a⟩ x.v.ae.size with q|q
    ·
     rw[q]at g;cases g
    rw[q]at g;cases g
   cases g)
  rw[Rc]at this;exact this
 rw[if_neg h0];have hm:=aft (by simpa using h0);obtain⟨t1,t2,t3,t4⟩:=Ur ((cN -x.v.ae.ops).toNat+1) (b:=(cS ⟨x.v.gen+1,a⟩ x.v.ae.size).1) hx (h.wv a) ha bS (afs hm) (TW hm) (by omega);generalize gH ((cN -x.v.ae.ops).toNat+1) x a (cS ⟨x.v.gen+1,a⟩ x.v.ae.size).1=W at*;have ry:cq ⟨W.1.v.ae,a,x.v.gen+1,0⟩=a.map (eK x.v.ae):=He ha (t1 a) fun _ g=>g;have n7:cq ⟨W.1.v.ae,x.v.at_,x.v.gen,x.v.last⟩=cq x.v:=Us h.pl (t1 x.v.at_);have fN:=h.pl.kd (t1 x.v.at_) fun _ g=>g;have qy:=ha.kd (t1 a) fun _ g=>g;have afT:sN x.v.gen a x.v.ae:=fun k k0 k1 e=>by
  have:=(Ui h.bears h.roots).2 k k0 k1 (by rw[e]);rw[e,h.gen]at this;simp only at this;omega
 refine⟨⟨t1 [],?_,fun g=>?_,fun g=>?_,fun g hf=>?_,?_,t4⟩,fun g=>(t2 g).2⟩
 ·
  by_cases g:W.2=0
  ·
   rw[(t2 g).2,dS]
  rw[(t3 g).1];rfl
 ·
  obtain⟨q1,q2⟩:=t2 g;refine⟨q1,?_⟩;show W.1.v.at_.map (eK W.1.v.ae)=_;rw[q2];exact ry
 ·
  exact .inl (t3 g).2.2.2
 ·
  obtain⟨q1,q2,q3,_⟩:=t3 g;have:=q2.Uk fN (q3 hf afT);rw[q1];exact⟨this,n7⟩
 by_cases g:W.2=0
 ·
  obtain⟨q1,q2⟩:=t2 g;refine⟨W.1.v,q1,rfl,by rw[q2,dS], .inr ?_⟩;show W.1.v.at_.map (eK W.1.v.ae)=_;rw[q2];exact ry
 obtain⟨q1,q2,_⟩:=t3 g;obtain⟨u,hu,hc,Hm⟩:=q2.some fN qy;rcases Hm with rfl|⟨e1,e2⟩
 ·
  exact⟨_,hu,rfl,rfl, .inl n7⟩
 refine⟨u,hu,hc,by rw[e1,dS], .inr ?_⟩;show u.at_.map (eK u.ae)=_;rw[e1,hc];exact ry
theorem Sf.by{x y:WV}{bs:List (List UInt8)}{e:Int}(h:Sf x bs y e)(b:Bool):Sf x bs {y with beyond:=b} e:=⟨h.kd,h.len,h.cF,h.err,h.yP,h.any,h.off⟩
theorem Sf.cE{x y:WV}{bs:List (List UInt8)}{e:Int}{b:Bool}(h:Sf {x with beyond:=b} bs y e):Sf x bs y e:=⟨h.kd,h.len,h.cF,h.err,h.yP,h.any,h.off⟩
theorem Sf.ne{x y:WV}{bs:List (List UInt8)}{e:Int}(h:Sf x (cq x.v) y e)(he:e≠0):Sf x bs y e:=
 ⟨h.kd,h.len,fun g=>absurd g he,h.err,h.yP,by
  obtain⟨u,h1,h2,h3,h4⟩:=h.any;exact⟨u,h1,h2,h3, .inl (h4.elim id id)⟩,h.off⟩
theorem Sf.stay{x:WV}(h:ft x.v){e:Int}(he:e≠7):Sf x (cq x.v) x e:=by
 have:=Sf.data (x:=x) h (.c8 _ _) (e:=e) (bs:=cq x.v) (fun _=>rfl) (fun g=>absurd g he);rw[Rc]at this;exact this
theorem Sf.zero{x y:WV}{bs:List (List UInt8)}{e:Int}(h:Sf x bs y e)(h0:e≠0)(h7:e≠7)(h9:e≠9)(h1:e≠1):Sf x (cq x.v) y 0:=by
 have hr:ft y.v/\cq y.v=cq x.v:=(h.err h0).resolve_left fun g=>by
  rcases g with g|g|g
  ·
   exact h7 g
  ·
   exact h9 g
  exact h1 g.1
 exact⟨h.kd,h.len,fun _=>hr,fun g=>absurd rfl g,fun g=>absurd rfl g,⟨y.v,hr.1,rfl,h.len, .inl hr.2⟩,fun g=>absurd g (by decide)⟩
theorem afU{x:WV}{src tgt:Int}(hx:cP x)(h:ft x.v)(bS:iE x.v.ae)(mO:2<=src)(pc:0<=tgt->tgt≠src)(ht:0<=tgt->2<=tgt/\tgt<x.v.ae.blocks.length/\(ak x.v.ae tgt).bad=false):
  Sf x (cq x.v) (cZ x src tgt).1 (cZ x src tgt).2.2/\((cZ x src tgt).2.1=true->(cZ x src tgt).2.2=0/\kv (cZ x src tgt).1.v.at_ x.v.ae src)/\((cZ x src tgt).2.2=6->(cZ x src tgt).1=x.on (cZ x src tgt).1.v.ae):=by
 have hp:1<=x.v.ae.pages:=by have:=hx.pages;omega
 obtain⟨t1,t2,t3,t4⟩:=Hj mO pc hp x.v.at_ 0 (c:=x.v.ae) (a:=x.v.at_) hx.ae h.pl (.c8 _ _) h.pl rfl ht rfl (fun _ _=>rfl) (fun j n hj=>by omega) rfl;rw[cZ];split
 ·
  rename_i e he;exact⟨Sf.data h t1 (fun _=>rfl) (fun g=>t3 (by rw[he];exact congrArg some g)),fun g=>absurd (show false=true from g) (by simp),fun _=>rfl⟩
 ·
  rename_i he;obtain⟨g1,g2,g3,g4⟩:=t2 he;have fJ:=hx.on (t1.ok hx.ae) t1.bR;have hw:=Mn fJ (h.kp t1) (bS.kd t1.toKd) g1 g3;have hs:=Sf.data h t1 (e:=0) (bs:=cq x.v) (fun _=>rfl) (fun g=>absurd g (by decide));have nn:=hw.1;rw[show List.map (eK (x.on (bX x.v src tgt x.v.at_ 0 x.v.ae x.v.at_).c).v.ae) (bX x.v src tgt x.v.at_ 0 x.v.ae x.v.at_).a=cq x.v from g2]at nn;refine⟨hs.trans nn,fun g=>?_,fun g=>absurd g (Kg _ _)⟩;simp only[decide_eq_true_eq]at g;refine⟨g,?_⟩;rw[hw.2 g];exact g4
theorem afV{c:CV}{l:List az}{fl:List Int}(hd:rA c fl l):Kp fl c (bU c l).1/\((bU c l).2.2=7->(bU c l).1.off=true)/\((bU c l).2.2=0-> ∃(j:Nat) (x:az),(bU c l).2.1=(j:Int)+2/\l[j]? =some x/\x.bad=false):=by
 rw[bU]
 by_cases h1:(l8 c l).2=true
 ·
  rw[if_pos h1];obtain⟨x,hx,k1,_,_,k4,_⟩:=oN (fun x h=>(se h).1) h1;exact⟨.c8 _ _,fun h=>absurd (show(0:Int)=7 from h) (by decide),fun _=>⟨_,x,by show(l8 c l).1+2=(((l8 c l).1.toNat:Nat):Int)+2;rw[arY (show 0<=(l8 c l).1 from k4)],hx,k1⟩⟩
 rw[if_neg h1]
 by_cases h2:(jC c l).2=true
 ·
  rw[if_pos h2];obtain⟨x,hx,k1,_,_,k4,_⟩:=oN (fun x h=>(lA h).1) h2;obtain⟨d1,d2⟩:=Hg hd h2;exact⟨yO (by show 2<=(jC c l).1+2;change 0<=(jC c l).1 at d2;omega) d1,Ds,fun _=>⟨_,x,by show(jC c l).1+2=(((jC c l).1.toNat:Nat):Int)+2;rw[arY (show 0<=(jC c l).1 from k4)],hx,k1⟩⟩
 rw[if_neg h2]
 by_cases h3:(jD c l).2=true
 ·
  rw[if_pos h3];obtain⟨x,hx,k1,_,_,k4,_⟩:=oN (fun x h=>(lA h).1) h3;obtain⟨d1,d2⟩:=Hg hd h3;exact⟨yO (by show 2<=(jD c l).1+2;change 0<=(jD c l).1 at d2;omega) d1,Ds,fun _=>⟨_,x,by show(jD c l).1+2=(((jD c l).1.toNat:Nat):Int)+2;rw[arY (show 0<=(jD c l).1 from k4)],hx,k1⟩⟩
 rw[if_neg h3];exact⟨.c8 _ _,fun h=>absurd (show(6:Int)=7 from h) (by decide),fun h=>absurd (show(6:Int)=0 from h) (by decide)⟩
theorem Mo{e:Int}(h:jW e=7):e=7:=by rw[jW]at h;split at h<;>omega
theorem Ut{x:WV}{l:List az}{i:Int}(hx:cP x)(h:ft x.v)(bS:iE x.v.ae)(ht:kM x.v.ae l)(hd:rA x.v.ae x.v.at_ l)(h0:0<=i)(hi:i<l.length):
  Sf x (cq x.v) (fC x l i).1 (fC x l i).2/\((fC x l i).2=6->(fC x l i).1=x.on (fC x l i).1.v.ae):=by
 obtain⟨k1,k2,k3⟩:=afV (hd.set i.toNat);have gn: ∀{e:Int},(e=7->(bU x.v.ae (l.set i.toNat aZ)).1.off=true)->Sf x (cq x.v) (x.on (bU x.v.ae (l.set i.toNat aZ)).1) e:=fun ho=>Sf.data h k1 (fun _=>rfl) ho;rw[fC]
 by_cases pS:(cJ x.v.ae l i).2≠0
 ·
  rw[if_pos pS];refine⟨gn fun g=>k2 ?_,fun _=>rfl⟩;have g:=Mo g;rw[cJ]at g;split at g
  ·
   cases g
  ·
   exact g
 ·
  rw[if_neg pS];have Mp:(cJ x.v.ae l i).2=0:=by simpa using pS
  have mP:=FU (i:=i) hx.ae ht Mp;have fJ:=hx.on (k1.ok hx.ae) k1.bR;have bM:0<=(cJ x.v.ae l i).1->(cJ x.v.ae l i).1≠i+2:=fun hn e=>by
   have ea:qv x.v.ae l i=false:=by
    cases hq:qv x.v.ae l i with
    |false=>rfl
    |true=>rw[cJ,if_pos hq]at hn;exact absurd (show(0:Int)<= -1 from hn) (by decide)
   rw[cJ,if_neg (by rw[ea];simp)]at e Mp;obtain⟨j,z,e1,e2,e3⟩:=k3 Mp;have:j=i.toNat:=by omega
   rw[this,aq7 (by omega)]at e2;obtain rfl:=aqP e2;cases e3
  obtain⟨m1,m2,m3⟩:=afU (x:=x.on (bU x.v.ae (l.set i.toNat aZ)).1) (src:=i+2) (tgt:=(cJ x.v.ae l i).1) fJ (h.kp k1) (bS.kd k1.toKd) (by omega) bM (fun hn=>by
   have:=mP hn;exact⟨this.1,by simp only[WV.on];rw[k1.bR.len];exact this.2.1,this.2.2⟩)
  have mok:=FR (x:=x.on (bU x.v.ae (l.set i.toNat aZ)).1) (src:=i+2) (tgt:=(cJ x.v.ae l i).1) fJ (fun hn=>by
   have:=mP hn;exact⟨this.1,by simp only[WV.on];rw[k1.bR.len];exact this.2.1,this.2.2⟩)
  have Mq:Sf x (cq x.v) (x.on (bU x.v.ae (l.set i.toNat aZ)).1) 0:=gn fun g=>absurd g (by decide);rw[(Mq.cF rfl).2]at m1;generalize cZ (x.on (bU x.v.ae (l.set i.toNat aZ)).1) (i+2) (cJ x.v.ae l i).1=M at*
  by_cases h1:M.2.1=false\/(l.getD i.toNat dW).used=x.v.ae.pages
  ·
   rw[if_pos h1];exact⟨Mq.trans m1,fun g=>by rw[m3 g,Rd];rfl⟩
  ·
   rw[if_neg h1];have hdn:M.2.1=true:=by
    cases hq:M.2.1 with
    |true=>rfl
    |false=>exact absurd (.inl hq) h1
   obtain⟨e0,hdd⟩:=m2 hdn;rw[e0]at m1;have hR:=m1.cF rfl;have afW:kv M.1.v.at_ M.1.v.ae (i+2):=hdd.bR m1.kd.bR;have hc:=yO (c:=M.1.v.ae) (by omega) afW;have Uu:=Sf.data (x:=M.1) hR.1 hc (e:=jW (cz M.1.v.ae (i+2)).2) (bs:=cq M.1.v) (fun _=>rfl) (fun g=>Ds (Mo g));have afX:=Mq.trans m1;rw[hR.2]at Uu;exact⟨afX.trans Uu,fun g=>absurd (FT g) (Rj _ _)⟩
theorem Mr{x:WV}{l:List az}(h:ft x.v)(hd:rA x.v.ae x.v.at_ l):Sf x (cq x.v) (kl x l).1 (kl x l).2:=by
 rw[kl];split
 ·
  exact Sf.stay h (e:=6) (by decide)
 rename_i hq;obtain⟨d1,d2⟩:=Hg hd (show(nQ x.v.ae l).2=true by simpa using hq);exact Sf.data h (yO (by show 2<=(nQ x.v.ae l).1+2;change 0<=(nQ x.v.ae l).1 at d2;omega) d1) (fun _=>rfl) (fun g=>Ds (Mo g))
theorem rA.bR{c d:CV}{fl:List Int}{l:List az}(h:rA c fl l)(g:dK c d):rA d fl l:=fun i x hx hb hl=>(h i x hx hb hl).bR g
theorem afY{x:WV}(hx:cP x)(h:ft x.v)(bS:iE x.v.ae):Sf x (cq x.v) (eR x).1 (eR x).2:=by
 have ht:kM x.v.ae (c0 x):=yf _ _;have hd:rA x.v.ae x.v.at_ (c0 x):=Hf _ _;rw[eR];split
 ·
  rename_i hv;have Hn:=J8 (l:=c0 x) hv.1;obtain⟨r1,r2⟩:=Ut (i:=(sk x).1) hx h bS ht hd Hn.1 Hn.2;split
  ·
   exact r1
  rename_i h6;have Az:(fC x (c0 x) (sk x).1).2=6:=by simpa using h6
  have hz:=r1.zero (by omega) (by omega) (by omega) (by omega);have e:=r2 Az;have hR:=hz.cF rfl;have lB:(fC x (c0 x) (sk x).1).1.v.at_=x.v.at_:=by rw[e];rfl
  have:=Mr hR.1 (l:=c0 x) (by rw[lB];exact hd.bR hz.kd.bR);rw[hR.2]at this;exact hz.trans this
 exact Mr h hd
theorem Uv: ∀(n:Nat) {x:WV} {need:Int},cP x->ft x.v->iE x.v.ae->Sf x (cq x.v) (ng n x need).1 (ng n x need).2
 |0,x,need,hx,h,bS=>Sf.stay h (e:=0) (by decide)
 |n+1,x,need,hx,h,bS=>by
  have hc:=afY hx h bS;have Ev:=FW hx;rw[ng];split
  ·
   exact Sf.stay h (e:=0) (by decide)
  split
  ·
   exact(Sf.stay h (e:=0) (by decide)).by true
  split
  ·
   rename_i h0;rw[h0]at hc;have hR:=hc.cF rfl;have:=Uv n (need:=need) Ev.1.ok hR.1 (bS.kd hc.kd);rw[hR.2]at this;exact hc.trans this
  split
  ·
   exact hc
  rename_i h6;have Az:(eR x).2=6:=by simpa using h6
  have hz:=hc.zero (by omega) (by omega) (by omega) (by omega);have hR:=hz.cF rfl;split
  ·
   exact hz.by true
  have:=Sf.stay (x:=(eR x).1) hR.1 (e:=5) (by decide);rw[hR.2]at this;exact hz.trans this
theorem Uw{x:WV}{need:Int}(hx:cP x)(h:ft x.v)(bS:iE x.v.ae):Sf x (cq x.v) (km x need).1 (km x need).2:=Uv _ hx h bS
theorem Ux{x:WV}{l:List (Int×List UInt8)}(hx:cP x)(h:ft x.v)(bS:iE x.v.ae)(hid: ∀y∈l,0<=y.1):Sf x (tZ (cq x.v) l) (hG x l).1 (hG x l).2:=by
 have hs:Sf x (cq x.v) (cG x l).1 (cG x l).2:=(Uw (x:={x with beyond:=false}) (need:=mc l) (hx.by false) h bS).cE
 have ho:=FX (l:=l) hx;rw[hG]
 by_cases h0:(cG x l).2≠0
 ·
  rw[if_pos h0];exact hs.ne h0
 rw[if_neg h0];rw[show(cG x l).2=0 by simpa using h0]at hs;have hR:=hs.cF rfl;obtain⟨t1,t2,t3⟩:=Hi (v:=(cG x l).1.v) (aF:=(cG x l).1.beyond) l (c:=(cG x l).1.v.ae) (a:=(cG x l).1.v.at_) ho.ok.ae (by have:=ho.ok.sh;omega) hR.1.pl hR.1.pl hid
 by_cases h1:(fW x l).2.2≠0
 ·
  rw[if_pos h1];exact hs.trans (Sf.data hR.1 t1 (fun g=>absurd g h1) t3)
 rw[if_neg h1];obtain⟨g1,g2,g3⟩:=t2 (Classical.not_not.1 h1);have fJ:=ho.ok.on (t1.ok ho.ok.ae) t1.bR;have hw:=(Mn fJ (hR.1.kp t1) ((bS.kd hs.kd).kd t1.toKd) g1 g3).1;have e:List.map (eK (fW x l).1) (fW x l).2.1=tZ (cq x.v) l:=by rw[←hR.2];exact g2
 have hd:=Sf.data (x:=(cG x l).1) hR.1 t1 (e:=0) (bs:=cq (cG x l).1.v) (fun _=>rfl) (fun g=>absurd g (by decide));have ff:Sf ((cG x l).1.on (fW x l).1) (tZ (cq x.v) l) (dY ((cG x l).1.on (fW x l).1) (fW x l).2.1).1 (dY ((cG x l).1.on (fW x l).1) (fW x l).2.1).2:=by rw[←e];exact hw
 exact hs.trans (Sf.trans hd ff)
theorem Uy{l:List (Int×List UInt8)}(hid: ∀y∈l,0<=y.1): ∀(n:Nat) {x:WV},cP x->ft x.v->iE x.v.ae->x.v.ae.blocks.length<n+mY x.v.ae->Sf x (tZ (cq x.v) l) (oQ n x l).1 (oQ n x l).2
 |0,x,hx,h,bS,hn=>by have:=Rn x.v.ae;omega
 |n+1,x,hx,h,bS,hn=>by
  have hb:=Ux (l:=l) hx h bS hid;have ho:=Kk (l:=l) hx;rw[oQ];split
  ·
   rename_i h5;rw[h5.1]at hb;have hz:=hb.zero (by decide) (by decide) (by decide) (by decide);have hR:=hz.cF rfl;have:=Uy hid n ho.ok hR.1 (bS.kd hz.kd) (by have:=ho.bR.len;omega);rw[hR.2]at this;exact hz.trans this
  exact hb
theorem Uz{v:VV}{l:List (Int×List UInt8)}(h:ft v)(bS:iE v.ae):Sf ⟨v,false⟩ (tZ (cq v) l) ⟨(fO v l).1,false⟩ (fO v l).2:=by
 rw[fO];split
 ·
  exact(Sf.stay (x:=⟨v,false⟩) h (e:=1) (by decide)).ne (by decide)
 rename_i h1;have Fb:=Classical.not_not.1 h1;split
 ·
  rename_i ho;have:=Sf.data (x:=⟨v,false⟩) h (.c8 _ _) (e:=7) (bs:=tZ (cq v) l) (fun g=>absurd g (by decide)) (fun _=>ho);exact this
 have hid: ∀y∈l,0<=y.1:=fun y hy=>by
  obtain⟨j,hj⟩:=arc hy;have:=CI.1 Fb.2.2 j (ad2.1 hj).1;rw[tF,show l.getD j (0,[])=y by simp[List.getD,hj],alM,tE,alM,alM,decide_eq_true_eq]at this;exact this.1.1.1
 have:=Uy hid (v.ae.blocks.length+1) (x:=⟨v,false⟩) (FY Fb.1) h bS (by show v.ae.blocks.length<_;omega);exact this.by false
variable {t:List Rt} {k:Key} {bits:Int}
theorem Ord.at{t:List Rt}(h:Ord t){i j:Nat}{a b:Rt}(ha:t[i]? =some a)(hb:t[j]? =some b)(ni:i<j):dt a.p b.p=true:=by
 obtain⟨hi,rfl⟩:=ad2.1 ha;obtain⟨hj,rfl⟩:=ad2.1 hb;exact(ar3.1 h.less) i j hi hj ni
variable {t u:List Rt} {r:Rt} {k:Key} {bits:Int}
theorem aqz(he:dm t [⟨r,false⟩]=0):dU t ⟨r,false⟩=0/\cf t [⟨r,false⟩]=gJ t ⟨r,false⟩:=by
 have hr:bJ t=true:=by
  cases h:bJ t with
  |true=>rfl
  |false=>rw[dm,if_neg (by rw[h];simp)]at he;omega
 have h2:=he;rw[dm,if_pos hr,gK]at h2;have hc:dU t ⟨r,false⟩=0:=by
  apply arf;intro hn;rw[if_neg hn]at h2;exact hn h2
 exact⟨hc,by rw[cf,if_pos he,gK,if_pos hc];rfl⟩
theorem Be{c:Ch}(he:dU t c=0):bj c.r.p=true:=by
 apply arf;intro hn;rw[dU,if_neg hn]at he;omega
theorem afZ(hr:bJ t=true)(he:dU t ⟨r,false⟩=0)(x:Rt):x∈gJ t ⟨r,false⟩↔x=r\/(x∈t/\x.p≠r.p):=by
 have hm:bj r.p=true:=Be he;have ho:=kr hr;rw[gJ,if_pos he,if_neg (by simp)]
 by_cases hb:ko t r.p=true
 ·
  rw[if_pos hb];obtain⟨r0,_,h1,h2⟩:=yk hb;have hn:=(ad2.1 h1).1;have bM: ∀j y,t[j]? =some y->j≠cK t r.p->y.p≠r.p:=fun j y hy hj e=>by
   rcases atL hj with g|g
   ·
    have:=ho.at hy h1 g;rw[e,h2,oU hm]at this;cases this
   have:=ho.at h1 hy g;rw[e,h2,oU hm]at this;cases this
  constructor
  ·
   intro hx;obtain⟨j,hj⟩:=ash.1 hx
   by_cases e:cK t r.p=j
   ·
    subst e;rw[aq7 hn]at hj;exact .inl (aqP hj).symm
   rw[arj e]at hj;exact .inr ⟨List.mem_of_getElem? hj,bM j x hj fun h=>e h.symm⟩
  rintro(rfl|⟨hx,hp⟩)
  ·
   exact anc (aq7 hn)
  obtain⟨j,hj⟩:=ash.1 hx;have e:cK t r.p≠j:=fun e=>by
   subst e;rw[h1]at hj;cases hj;exact hp h2
  exact anc ((arj e).trans hj)
 rw[if_neg hb];have fX: ∀y∈t,y.p≠r.p:=fun y hy e=>hb (F8 hr hm hy e).2;have e:x∈t↔x∈t.take (cK t r.p)\/x∈t.drop (cK t r.p):=by
  rw[←aqZ,arC]
 simp only[aqZ,aqW];constructor
 ·
  rintro(h|h|h)
  ·
   exact .inr ⟨e.2 (.inl h),fX x (e.2 (.inl h))⟩
  ·
   exact .inl h
  exact .inr ⟨e.2 (.inr h),fX x (e.2 (.inr h))⟩
 rintro(h|⟨h,_⟩)
 ·
  exact .inr (.inl h)
 rcases e.1 h with h|h
 ·
  exact .inl h
 exact .inr (.inr h)
variable {t u:List Rt} {r:Rt} {q p:bo}
theorem Ho(hp:bj p=true)(hq:bj q=true)(h:dt p q=false)(hn:p≠q):dt q p=true:=by
 rw[mS hq hp];have h1: ¬dt p q=true:=by rw[h];simp
 rw[mS hp hq]at h1;have h2: ¬(p.bits=q.bits/\p.key.toNat=q.key.toNat/\p.len=q.len):=fun e=>hn (Xt.2 e);omega
theorem Ms(hp:bj p=true)(hq:bj q=true)(h:dt p q=true):dt q p=false:=by
 cases hx:dt q p with
 |false=>rfl
 |true=>rw[mS hq hp]at hx;rw[mS hp hq]at h;omega
theorem Hp(hp:bj p=true)(h:dt p q=true):p≠q:=fun e=>by subst e;rw[oU hp]at h;cases h
theorem Bf{a b c:bo}(ha:bj a=true)(hb:bj b=true)(hc:bj c=true)(h1:dt a b=true)(h2:dt b c=true):dt a c=true:=by
 rw[mS ha hb]at h1;rw[mS hb hc]at h2;rw[mS ha hc];omega
def xn(t:List Rt)(q:bo):List Rt:=t.filter fun x=>dt x.p q
def sO(t:List Rt)(q:bo):List Rt:=t.filter fun x=>dt q x.p
theorem filter_all{α:Type}{f:α->Bool}{l:List α}(h: ∀x∈l,f x=true):l.filter f=l:=List.filter_eq_self.2 h
theorem filter_none{α:Type}{f:α->Bool}{l:List α}(h: ∀x∈l,f x=false):l.filter f=[]:=ate.2 fun x hx=>by rw[h x hx];simp
theorem Ord.ext: ∀{s t:List Rt},Ord s->Ord t->(∀x,x∈s↔x∈t)->s=t
 |[],[],_,_,_=>rfl
 |[],b::t,_,_,h=>by have:=(h b).2 (aqU);cases this
 |a::s,[],_,_,h=>by have:=(h a).1 (aqU);cases this
 |a::s,b::t,hs,ht,h=>by
  have ha:=(arl.1 hs.less);have hb:=(arl.1 ht.less);have ma:=hs.may a aqU;have mb:=ht.may b aqU;have e:a=b:=by
   apply arf;intro hn;rcases aqW.1 ((h a).1 aqU)with h1|h1
   ·
    exact hn h1
   rcases aqW.1 ((h b).2 aqU)with h2|h2
   ·
    exact hn h2.symm
   have h3:=hb.1 a h1;have h4:=ha.1 b h2;rw[Ms mb ma h3]at h4;cases h4
  subst e;have bM: ∀x,(∀y∈s,dt a.p y.p=true)->x∈s->x≠a:=fun x hy hx e=>by
   subst e;have:=hy x hx;rw[oU ma]at this;cases this
  rw[Ord.ext (hs.sub (arQ _ _)) (ht.sub (arQ _ _)) fun x=>⟨fun hx=>?_,fun hx=>?_⟩]
  ·
   rcases aqW.1 ((h x).1 (aq2 _ hx))with h1|h1
   ·
    exact absurd h1 (bM x ha.1 hx)
   exact h1
  rcases aqW.1 ((h x).2 (aq2 _ hx))with h1|h1
  ·
   subst h1;have:=hb.1 x hx;rw[oU ma]at this;cases this
  exact h1
theorem af1(h:bJ t=true)(hq:bj q=true):(∀x∈t.take (cK t q),dt x.p q=true)/\ ∀x∈t.drop (cK t q),dt x.p q=false:=by
 obtain⟨h1,h2,h3⟩:=RM (p:=behind t q) (n:=t.length) fun a b=>RN h hq a b;constructor
 ·
  intro x hx;obtain⟨i,hi⟩:=ash.1 hx;have dD:=(ad2.1 hi).1;rw[aqT]at dD;rw[as1,if_pos (by omega)]at hi;have:=h2 i (by have:cK t q=bs (behind t q) t.length:=rfl;omega);simpa[behind,hi]using this
 intro x hx;obtain⟨i,hi⟩:=ash.1 hx;rw[asa]at hi;have dD:=(ad2.1 hi).1;have:=h3 (cK t q+i) (Nat.le_add_right _ _) dD;simpa[behind,hi]using this
theorem UA(h:bJ t=true)(hq:bj q=true):t.take (cK t q)=xn t q/\(ko t q=true->t.drop (cK t q+1)=sO t q)/\(ko t q=false->t.drop (cK t q)=sO t q):=by
 obtain⟨h1,h2⟩:=af1 h hq;have ho:=kr h;have e:t=t.take (cK t q)++t.drop (cK t q):=(arC _ _).symm;have hm: ∀x∈t,bj x.p=true:=ho.may;have mt: ∀x∈t.take (cK t q),x∈t:=fun x hx=>asN hx;have md: ∀x∈t.drop (cK t q),x∈t:=fun x hx=>List.mem_of_mem_drop hx;have k1:t.take (cK t q)=xn t q:=by
  unfold xn
  conv=>rhs;rw[e]
  rw[ar9,filter_all h1,filter_none h2,arL]
 have k2:sO t q=sO (t.drop (cK t q)) q:=by
  unfold sO
  conv=>lhs;rw[e]
  rw[ar9,filter_none (l:=t.take (cK t q)) fun x hx=>Ms (hm x (mt x hx)) hq (h1 x hx),arJ]
 refine⟨k1,fun hb=>?_,fun hb=>?_⟩
 ·
  obtain⟨x,hx,hi,hp⟩:=yk hb;obtain⟨dD,pn⟩:=ad2.1 hi;have e2:t.drop (cK t q)=x::t.drop (cK t q+1):=by rw[←pn,List.getElem_cons_drop]
  rw[k2,e2,sO,arG,hp,oU hq];simp only[arv,if_false];refine(filter_all fun y hy=>?_).symm;obtain⟨j,hj⟩:=ash.1 hy;rw[asa]at hj;have:=F7 h (cK t q) (cK t q+1+j) x y (by omega) hi hj;rw[hp]at this;exact this
 rw[k2];refine(filter_all fun y hy=>?_).symm;refine Ho (hm y (md y hy)) hq (h2 y hy) fun ep=>?_;have:=(F8 h hq (md y hy) ep).2;rw[hb]at this;cases this
theorem af2(h:bJ t=true)(he:dU t ⟨r,false⟩=0):gJ t ⟨r,false⟩=xn t r.p++r::sO t r.p:=by
 obtain⟨k1,k2,k3⟩:=UA h (Be he);rw[gJ,if_pos he,if_neg (by simp)]
 by_cases hb:ko t r.p=true
 ·
  obtain⟨x,hx,hi,hp⟩:=yk hb;have dD:=(ad2.1 hi).1;rw[if_pos hb,List.set_eq_take_append_cons_drop,if_pos dD,k1,k2 hb]
 rw[if_neg hb];show t.take (cK t r.p)++r::t.drop (cK t r.p)=_;rw[k1,k3 (by simpa using hb)]
theorem UB(h:bJ t=true)(he:dU t ⟨r,true⟩=0):gJ t ⟨r,true⟩=xn t r.p++sO t r.p:=by
 have hm:=Be he;obtain⟨k1,k2,k3⟩:=UA h hm;have hb:ko t r.p=true:=by
  apply arf;intro hn;rw[dU,if_pos hm,if_neg hn,if_pos rfl]at he;omega
 rw[gJ,if_pos he,if_pos rfl];show t.take (cK t r.p)++t.drop (cK t r.p+1)=_;rw[k1,k2 hb]
theorem UC(h:Ord t)(hq:bj q=true):t.filter (fun x=>decide (x.p≠q))=xn t q++sO t q:=by
 refine Ord.ext (h.sub att) ⟨fun x hx=>?_,?_⟩ fun x=>?_
 ·
  rcases aqZ.1 hx with h1|h1<;>exact h.may x (ari.1 h1).1
 ·
  refine as6.2 ⟨h.less.sublist att,h.less.sublist att,fun a ha b hb=>?_⟩;have ha:=ari.1 ha;have hb:=ari.1 hb;exact Bf (h.may a ha.1) hq (h.may b hb.1) ha.2 hb.2
 rw[aqZ,ari,xn,sO,ari,ari];constructor
 ·
  rintro⟨h1,h2⟩
  cases h3:dt x.p q with
  |true=>exact .inl ⟨h1,rfl⟩
  |false=>exact .inr ⟨h1,Ho (h.may x h1) hq h3 (by simpa using h2)⟩
 rintro(⟨h1,h2⟩|⟨h1,h2⟩)
 ·
  exact⟨h1,by simpa using Hp (h.may x h1) h2⟩
 exact⟨h1,by simpa using(Hp hq h2).symm⟩
theorem af3(h:Ord t)(hr:bj r.p=true):Ord (xn t r.p++r::sO t r.p):=by
 refine⟨fun x hx=>?_,?_⟩
 ·
  rcases aqZ.1 hx with h1|h1
  ·
   exact h.may x (ari.1 h1).1
  rcases aqW.1 h1 with rfl|h1
  ·
   exact hr
  exact h.may x (ari.1 h1).1
 refine as6.2 ⟨h.less.sublist att,arl.2 ⟨fun y hy=>(ari.1 hy).2,h.less.sublist att⟩,fun a ha b hb=>?_⟩;have ha:=ari.1 ha;rcases aqW.1 hb with rfl|hb
 ·
  exact ha.2
 have hb:=ari.1 hb;exact Bf (h.may a ha.1) hr (h.may b hb.1) ha.2 hb.2
theorem DA(h:bJ t=true)(c:Ch):bJ (gJ t c)=true:=by
 by_cases he:dU t c=0
 ·
  refine RP ?_ (RU (xS h) c);obtain⟨r,g⟩:=c
  cases g with
  |false=>rw[af2 h he];exact af3 (kr h) (Be he)
  |true=>rw[UB h he,←UC (kr h) (Be he)];exact(kr h).sub att
 rw[gJ,if_neg he];exact h
def rB(t:List Rt)(q:bo):Int:=if bj q=true then(if(t.any fun x=>decide (x.p=q))=true then 0 else 6)else 1
def yR(t:List Rt)(q:bo):UInt16:=if bj q=true then((t.find? fun x=>decide (x.p=q)).map Rt.cx).getD 0 else 0
theorem af4(h:bJ t=true)(hq:bj q=true):(t.any fun x=>decide (x.p=q))=ko t q:=by
 cases hb:ko t q with
 |true=>
  obtain⟨x,hx,_,hp⟩:=yk hb;exact List.any_eq_true.2 ⟨x,hx,by simp[hp]⟩
 |false=>
  refine List.any_eq_false.2 fun x hx=>?_;have hn:x.p≠q:=fun e=>by have:=(F8 h hq hx e).2;rw[hb]at this;cases this
  simp[hn]
theorem af5(h:bJ t=true)(c:Ch):dU t c=if rB t c.r.p=1\/(rB t c.r.p=6/\c.gone=true)then rB t c.r.p else if rB t c.r.p=6/\256<=t.length then 5 else 0:=by
 unfold dU rB
 by_cases hm:bj c.r.p=true
 ·
  rw[if_pos hm,if_pos hm,af4 h hm]
  cases ko t c.r.p<;>cases c.gone<;>simp
 rw[if_neg hm,if_neg hm];simp
theorem af6(h:bj q=false):rB t q=1/\yR t q=0:=by simp[rB,yR,h]
theorem UD(hm:bj q=true)(h: ∀x∈t,x.p≠q):rB t q=6/\yR t q=0:=by
 have h1:(t.any fun x=>decide (x.p=q))=false:=List.any_eq_false.2 fun x hx=>by simp[h x hx]
 have h2:(t.find? fun x=>decide (x.p=q))=none:=atj.2 fun x hx=>by simp[h x hx]
 simp[rB,yR,hm,h1,h2]
theorem af7{i:Nat}{e:Rt}(hm:bj q=true)(fX: ∀x∈t.take i,x.p≠q)(he:t[i]? =some e)(hp:e.p=q):rB t q=0/\yR t q=e.cx:=by
 obtain⟨hi,qc⟩:=ad2.1 he;have ht:t=t.take i++e::t.drop (i+1):=by rw[←qc,List.getElem_cons_drop,arC]
 have h1:(t.any fun x=>decide (x.p=q))=true:=List.any_eq_true.2 ⟨e,anc he,by simp[hp]⟩;have h2:(t.find? fun x=>decide (x.p=q))=some e:=by
  rw[ht,List.find?_append,atj.2 fun x hx=>by simp[fX x hx]];simp[hp]
 rw[rB,yR,if_pos hm,if_pos hm,if_pos h1,h2];exact⟨rfl,rfl⟩
theorem af8(h:bJ t=true)(he:dU t ⟨r,true⟩=0):gJ t ⟨r,true⟩=t.filter fun x=>decide (x.p≠r.p):=by rw[UB h he,UC (kr h) (Be he)]
theorem af9{t:List Rt}(h:bJ t=true): ∀l:List Ch,bJ (gK t l).1=true:=by
 intro l
 induction l generalizing t with
 |nil=>exact h
 |cons c r ih=>
  rw[gK];split
  ·
   exact ih (DA h c)
  exact h
theorem aga{t:List Rt}(h:bJ t=true)(l:List Ch):bJ (cf t l)=true:=by
 rw[cf];split
 ·
  exact af9 h l
 exact h
def powC(c:CV):CV:={c with off:=false}
theorem ft.on{v:VV}(h:ft v)(b:Bool):ft {v with ae:={v.ae with off:=b}}:=by
 obtain⟨h1,h2,h3,h4,h5,h6,h7⟩:=h;exact⟨h1,h2,h3,h4,h5,h6,h7⟩
theorem UE{v:VV}(h:ft v):bE (powC v.ae)=(⟨powC v.ae,v.at_,v.gen,v.last⟩,0):=by
 have h2:=Bc.2 (h.on false);rw[lY]at h2;simp only[alM,decide_eq_true_eq]at h2;obtain⟨⟨⟨g1,g2⟩,g3⟩,g4⟩:=h2;have hc:=Sn g1;change(bE (powC v.ae)).2=0 at g1;change(bE (powC v.ae)).1.gen=v.gen at g2;change(bE (powC v.ae)).1.last=v.last at g3;change(bE (powC v.ae)).1.at_=v.at_ at g4;change(bE (powC v.ae)).1.ae=powC v.ae at hc;generalize bE (powC v.ae)=F at*;obtain⟨⟨f1,f2,f3,f4⟩,f5⟩:=F;simp only at g1 g2 g3 g4 hc;subst g1 g2 g3 g4 hc;rfl
structure jt(f:FV):Prop where
 rt:ft f.aq
 jl:ei f.aq.ae≠0
 ids:(f.aq.at_.length:Int)=ez f.aq.ae
 Mt:kP (cq f.aq)=0
 eq:f.table=jE (cq f.aq)
theorem UF{v:VV}(h:ft v)(hm:ei v.ae≠0)(hi:(v.at_.length:Int)=ez v.ae)(ht:kP (cq v)=0):dF (powC v.ae)=(⟨⟨powC v.ae,v.at_,v.gen,v.last⟩,jE (cq v)⟩,0)/\kS (powC v.ae)=cq v:=by
 have hf:=UE h;have:=CL (c:=powC v.ae) hm (by rw[hf]) (by rw[hf];exact hi) (by rw[hf];exact ht);rw[hf]at this;exact this
theorem jt.load{f:FV}(h:jt f):dF (powC f.aq.ae)=(⟨⟨powC f.aq.ae,f.aq.at_,f.aq.gen,f.aq.last⟩,f.table⟩,0)/\kS (powC f.aq.ae)=cq f.aq:=by
 rw[h.eq];exact UF h.rt h.jl h.ids h.Mt
theorem xo{f:FV}:jm f=true↔jt f:=by
 constructor
 ·
  intro h;rw[aci]at h;simp only[alM,decide_eq_true_eq]at h;obtain⟨⟨h1,h2⟩,h3⟩:=h;obtain⟨g0,g1,g2,g3⟩:=CM h1;have hr:=Bc.1 h2;have hf:=UE hr;change(bE (powC f.aq.ae)).2=0 at g1;change(((bE (powC f.aq.ae)).1.at_.length:Nat):Int)=_ at g2;change kP (cq (bE (powC f.aq.ae)).1)=0 at g3;rw[hf]at g2 g3;refine⟨hr,g0,g2,g3,?_⟩;rw[←h3];exact congrArg (fun z:FV×Int=>z.1.table) (UF hr g0 g2 g3).1
 intro h;rw[Ga];change(dF (powC f.aq.ae)).2=0/\f.aq.gen=(dF (powC f.aq.ae)).1.aq.gen/\f.aq.last=(dF (powC f.aq.ae)).1.aq.last/\f.aq.at_=(dF (powC f.aq.ae)).1.aq.at_/\f.table=(dF (powC f.aq.ae)).1.table;rw[h.load.1];exact⟨rfl,rfl,rfl,rfl,rfl⟩
theorem jt.right{f:FV}(h:jt f):bJ f.table=true:=by rw[h.eq];exact Sj h.Mt
theorem Mu{c d:CV}(h:dK c d):ei d=ei c/\ez d=ez c:=by
 rw[ei,ei,ez,ez,h.len,h.pages,h.size];exact⟨rfl,rfl⟩
theorem UG: ∀(l:List (Int×List UInt8)) (bs:List (List UInt8)) (i:Nat),l.Pairwise (fun p q=>p.1≠q.1)->(∀p∈l,0<=p.1)->(tZ bs l)[i]? =match l.find? fun p=>decide (p.1=(i:Int))with
  |some p=>if i<bs.length then some p.2 else none
  |none=>bs[i]?
 |[],bs,i,_,_=>rfl
 |p::r,bs,i,hw,h0=>by
  obtain⟨nn,ff⟩:=arl.1 hw;have ih:=UG r (bs.set p.1.toNat p.2) i ff fun q hq=>h0 q (aq2 _ hq);have hp0:=h0 p aqU;show(tZ (bs.set p.1.toNat p.2) r)[i]? =_;rw[ih,List.find?_cons]
  by_cases e:p.1=(i:Int)
  ·
   have hn:(r.find? fun q=>decide (q.1=(i:Int)))=none:=atj.2 fun q hq=>by
    rw[decide_eq_true_eq];intro e2;exact nn q hq (by rw[e,e2])
   rw[hn,decide_eq_true e];simp only;rw[arD,if_pos (by omega)]
   by_cases hl:i<bs.length
   ·
    rw[if_pos (by omega),if_pos hl]
   ·
    rw[if_neg (by omega),if_neg hl]
  ·
   rw[decide_eq_false e];simp only
   cases hf:r.find? fun q=>decide (q.1=(i:Int))with
   |some q=>simp only;rw[aru]
   |none=>simp only;rw[arj (by omega)]
theorem UH{a b:List (List UInt8)}(hl:a.length=b.length):tZ a (eW a b)=b:=by
 have hs:=GW a b (max a.length b.length);have hpw:(eW a b).Pairwise fun p q=>p.1≠q.1:=hs.imp fun h=>by omega
 have hm: ∀p∈eW a b,∃i:Nat,i<max a.length b.length/\p=((i:Int),b.getD i [])/\ ¬a.getD i []=b.getD i []:=fun p hp=>LN hp;refine arS fun i=>?_;rw[UG (eW a b) a i hpw fun p hp=>by obtain⟨j,_,rfl,_⟩:=hm p hp;exact Int.natCast_nonneg _]
 cases hf:(eW a b).find? fun p=>decide (p.1=(i:Int))with
 |some p=>
  obtain⟨j,h1,h2,h3⟩:=hm p (as0 hf);have e:=List.find?_some hf;rw[decide_eq_true_eq,h2]at e;simp only at e;have e':j=i:=by omega
  subst e';simp only
  by_cases hi:j<a.length
  ·
   rw[if_pos hi,h2,aqR (by omega)];simp[List.getD,show j<b.length by omega]
  rw[if_neg hi,aqV (by omega)]
 |none=>
  simp only;rcases aqX i a.length with hi|hi
  ·
   have fX:=atj.1 hf;have hq:a.getD i []=b.getD i []:=by
    apply arf;intro bM;have kg:((i:Int),b.getD i [])∈eW a b:=by
     rw[eW,nS];exact List.mem_filterMap.2 ⟨i,arw.2 (by omega),by rw[tI,if_neg bM]⟩
    have:=fX _ kg;simp at this
   simp only[List.getD,aqR hi,aqR (show i<b.length by omega),as3]at hq;rw[aqR hi,aqR (show i<b.length by omega),hq]
  rw[aqV hi,aqV (by omega)]
structure Af(f:FV)(t:List Rt)(o:FV)(e:Int):Prop where
 kd:Kd [] f.aq.ae o.aq.ae
 cF:e=0->jt o/\o.table=t
 bad:e≠0->o.table=f.table
 err:e≠0->(e=7\/e=9\/(e=1/\Hl o.aq.ae))\/jt o
 yP:e≠0->f.aq.ae.aU=[]->jt o
 any: ∃g:FV,jt g/\g.aq.ae=o.aq.ae/\(g.table=f.table\/g.table=t)
 off:e=7->o.aq.ae.off=true
theorem Bg{f:FV}{l:List Ch}(h:jt f):wN f l=if ei f.aq.ae<(cf f.table l).length then 5 else 0:=by
 have hr:=aga h.right l;have hm:jl (ez f.aq.ae) (dO f.aq.ae.size)=ei f.aq.ae:=rfl;rw[wN,jZ,if_neg,hm];rintro(g|g)
 ·
  rw[hr]at g;cases g
 exact h.jl g
theorem Mv{f:FV}{l:List Ch}(h:jt f)(he:dm f.table l≠0):cA f l=(f,dm f.table l):=So (xo.2 h) he
theorem Mw{f:FV}{l:List Ch}(h:jt f)(he:dm f.table l=0)(hm:ei f.aq.ae<(cf f.table l).length):cA f l=(f,5):=by
 have:=Bg (l:=l) h;rw[if_pos hm]at this;rw[Sp (xo.2 h) he (by rw[this];decide),this]
theorem sP{f:FV}(h:jt f):eL f=cq f.aq:=h.load.2
theorem Hq{f:FV}{l:List Ch}(h:jt f)(he:dm f.table l=0)(hm: ¬ei f.aq.ae<(cf f.table l).length)(hc:eW (eL f) (dz f l)=[]):cA f l=(f,0)/\cf f.table l=f.table:=by
 have hE:=Bg (l:=l) h;rw[if_neg hm]at hE;have hlen:(eL f).length=(dz f l).length:=by
  have:=(Dl hE).1;have h2:=h.ids;rw[sP h,AG];have:((dz f l).length:Int)=ez f.aq.ae:=this;omega
 have heq:=(aen hlen).1 hc;have ht:jE (dz f l)=cf f.table l:=(TC hE).1;have e:cf f.table l=f.table:=by
  rw[←ht,←heq,sP h];exact h.eq.symm
 rw[Sr (xo.2 h) he hE hc,e];exact⟨rfl,rfl⟩
theorem UI{f:FV}{l:List Ch}(h:jt f)(bS:iE f.aq.ae)(he:dm f.table l=0)(hm: ¬ei f.aq.ae<(cf f.table l).length):Af f (cf f.table l) (cA f l).1 (cA f l).2:=by
 have hE:=Bg (l:=l) h;rw[if_neg hm]at hE
 by_cases hc:eW (eL f) (dz f l)=[]
 ·
  obtain⟨e1,e2⟩:=Hq h he hm hc;rw[e1,e2];exact⟨.c8 _ _,fun _=>⟨h,rfl⟩,fun g=>absurd rfl g,fun g=>absurd rfl g,fun g=>absurd rfl g,⟨f,h,rfl, .inl rfl⟩,fun g=>absurd (show(0:Int)=7 from g) (by decide)⟩
 have hlen:(eL f).length=(dz f l).length:=by
  have:=(Dl hE).1;have h2:=h.ids;rw[sP h,AG];have:((dz f l).length:Int)=ez f.aq.ae:=this;omega
 have hs:=Uz (l:=eW (eL f) (dz f l)) h.rt bS;rw[←sP h,UH hlen]at hs;have ht:=TC hE;rw[Gm (xo.2 h) he hE hc];generalize fO f.aq (eW (eL f) (dz f l))=W at*;have fk:=Mu hs.kd.bR;change ei W.1.ae=ei f.aq.ae/\ez W.1.ae=ez f.aq.ae at fk;have Mx:W.1.at_.length=f.aq.at_.length:=hs.len;have n7:cq (⟨f.aq,false⟩:WV).v=eL f:=(sP h).symm;have mk: ∀{u:VV} {t:List Rt},ft u->dK f.aq.ae u.ae->u.at_.length=f.aq.at_.length->kP (cq u)=0->t=jE (cq u)->jt ⟨u,t⟩:=fun hu hk hl hte agb=>by
  have:=Mu hk;exact⟨hu,by show ei _≠0;rw[this.1];exact h.jl,by show(_:Int)=ez _;rw[this.2,hl];exact h.ids,hte,agb⟩
 have hold:kP (eL f)=0/\f.table=jE (eL f):=by rw[sP h];exact⟨h.Mt,h.eq⟩
 refine⟨hs.kd,fun g=>?_,fun g=>?_,fun g=>?_,fun g hf=>?_,?_,hs.off⟩
 ·
  obtain⟨q1,q2⟩:=hs.cF g;change ft W.1 at q1;change cq W.1=dz f l at q2;simp only at g;refine⟨mk q1 hs.kd.bR Mx (by rw[q2];exact ht.2) (by rw[if_neg (fun k=>k g),q2];exact ht.1.symm),by rw[if_neg (fun k=>k g)]⟩
 ·
  simp only at g⊢;rw[if_pos g]
 ·
  simp only at g;refine(hs.err g).imp id fun q=>?_;rw[n7]at q;exact mk q.1 hs.kd.bR Mx (by rw[show cq W.1=eL f from q.2];exact hold.1) (by rw[if_pos g,show cq W.1=eL f from q.2];exact hold.2)
 ·
  simp only at g;have q:=hs.yP g hf;rw[n7]at q;exact mk q.1 hs.kd.bR Mx (by rw[show cq W.1=eL f from q.2];exact hold.1) (by rw[if_pos g,show cq W.1=eL f from q.2];exact hold.2)
 obtain⟨u,q1,q2,q3,q4⟩:=hs.any;change u.ae=W.1.ae at q2;have pd:dK f.aq.ae u.ae:=by rw[q2];exact hs.kd.bR
 rw[n7]at q4;rcases q4 with q4|q4
 ·
  exact⟨⟨u,f.table⟩,mk q1 pd q3 (by rw[q4];exact hold.1) (by rw[q4];exact hold.2),q2, .inl rfl⟩
 exact⟨⟨u,cf f.table l⟩,mk q1 pd q3 (by rw[q4];exact ht.2) (by rw[q4];exact ht.1.symm),q2, .inr rfl⟩
theorem iE.nil{c:CV}(h:c.aU=[]):iE c:=fun f hf=>by rw[h]at hf;cases hf
theorem jt.small{f:dr}(h:jt (ck f)):gg f.aq.ae/\f.aq.at_.xs.length<=1000000/\f.table.xs.length<=1000000:=by
 have hk:=(fM.1 h.rt.bears).1;have hw:=(FY (b:=false) (Bc.2 h.rt)).jY;have ht:=xS h.right;change f.aq.at_.xs.length<=64 at hw;change f.table.xs.length<=256 at ht;exact⟨qp hk,by omega,by omega⟩
theorem jt.UJ{f:FV}(h:jt f):jm f=true:=xo.2 h
theorem agc(t:List Rt)(c:List Ch):(gK t c).2=0\/(gK t c).2=1\/(gK t c).2=5\/(gK t c).2=6:=by
 induction c generalizing t with
 |nil=>exact .inl rfl
 |cons x r ih=>
  rw[gK];split
  ·
   exact ih _
  show dU t x=0\/dU t x=1\/dU t x=5\/dU t x=6;rw[dU];repeat' split
  all_goals decide
theorem agd(t:List Rt)(l:List Ch):dm t l=0\/dm t l=1\/dm t l=5\/dm t l=6:=by
 rw[dm];split
 ·
  exact agc t l
 exact .inr (.inl rfl)
theorem age(t:List Rt)(l:List Ch):dm t l≠7:=by have:=agd t l;omega
theorem agf{f:FV}(h:jt f)(hf:f.aq.ae.aU=[])(ho:f.aq.ae.off=false)(l:List Ch):
  jt (cA f l).1/\(cA f l).1.aq.ae.aU=[]/\(cA f l).1.aq.ae.off=false/\((cA f l).2=0->dm f.table l=0/\(cA f l).1.table=cf f.table l)/\((cA f l).2≠0->(cA f l).1.table=f.table)/\
   ((cA f l).2≠7)/\(dm f.table l≠0->cA f l=(f,dm f.table l)):=by
 have hE7:=age f.table l
 by_cases he:dm f.table l=0
 ·
  by_cases hm:ei f.aq.ae<(cf f.table l).length
  ·
   rw[Mw h he hm];exact⟨h,hf,ho,fun g=>absurd (show(5:Int)=0 from g) (by decide),fun _=>rfl,show(5:Int)≠7 by decide,fun g=>absurd he g⟩
  ·
   have ha:=UI h (.nil hf) he hm;have mF:=ha.kd.on ho (by rw[hf];intro x hx;cases hx);refine⟨?_,ha.kd.n5.trans hf,mF,fun g=>⟨he,(ha.cF g).2⟩,ha.bad,fun g=>?_,fun g=>absurd he g⟩
   ·
    by_cases g:(cA f l).2=0
    ·
     exact(ha.cF g).1
    ·
     exact ha.yP g hf
   ·
    have:=ha.off g;rw[mF]at this;cases this
 ·
  rw[Mv h he];exact⟨h,hf,ho,fun g=>absurd g he,fun _=>rfl,hE7,fun _=>rfl⟩
theorem UK{P Q:Nat->Bool}{j0:Nat}(hp:P j0=false)(hq: ∀j,Q j=(P j||decide (j=j0))): ∀n,((List.range n).filter Q).length=((List.range n).filter P).length+(if j0<n then 1 else 0)
 |0=>by simp
 |n+1=>by
  have ih:=UK hp hq n;rw[ar1,ar9,ar9,af0,af0,ih]
  by_cases e:n=j0
  ·
   have h1:Q n=true:=by rw[hq n,decide_eq_true e,Bool.or_true]
   have h2:P n=false:=by rw[e];exact hp
   rw[List.filter_cons_of_pos h1,List.filter_cons_of_neg (by rw[h2];simp),if_neg (by omega),if_pos (by omega)];simp
  have h1:Q n=P n:=by rw[hq n,decide_eq_false e,Bool.or_false]
  have h2:([n].filter Q).length=([n].filter P).length:=by simp[arG,h1]
  rw[h2]
  by_cases h:j0<n
  ·
   rw[if_pos h,if_pos (by omega)];omega
  rw[if_neg h,if_neg (by omega)];omega
def cL(pages:Int)(fl:List Int)(i:Nat):Nat:=((List.range pages.toNat).filter fun j:Nat=>fl.contains (((i:Int)+2)*pages+j+1)).length
theorem xp{pages:Int}{fl gl:List Int}{i:Nat}(h: ∀n:Int,(n -1)/pages=(i:Int)+2->(n∈fl↔n∈gl))(hp:1<=pages):cL pages fl i=cL pages gl i:=by
 rw[cL,cL];congr 1;refine List.filter_congr fun j hj=>?_;have iP:=arw.1 hj;have hd:(((i:Int)+2)*pages+j+1 -1)/pages=(i:Int)+2:=by
  rw[asn,asM,ar8 _ _ (by omega),arR (by omega) (by omega),asQ]
 rw[atx,asb,asb];exact h _ hd
theorem agh{pages n:Int}(hp:1<=pages){i:Nat}(hb:(n -1)/pages=(i:Int)+2): ∃j:Nat,j<pages.toNat/\n=((i:Int)+2)*pages+j+1/\(n -1)%pages=j:=by
 have h0:0<=(n -1)%pages:=asZ _ (by omega);have h1:(n -1)%pages<pages:=as5 _ (by omega);have h2:=Int.mul_ediv_add_emod (n -1) pages;rw[hb,Int.mul_comm]at h2;exact⟨((n -1)%pages).toNat,by omega,by omega,by omega⟩
theorem My{pages n:Int}{fl gl:List Int}{i0:Nat}(hp:1<=pages)(hb:(n -1)/pages=(i0:Int)+2)(hn:n∉fl)(h: ∀m,m∈gl↔m∈fl\/m=n)(i:Nat):cL pages gl i=cL pages fl i+(if i=i0 then 1 else 0):=by
 by_cases e:i=i0
 ·
  subst e;obtain⟨j0,Hr,en,_⟩:=agh hp hb;rw[if_pos rfl,cL,cL];have:=UK (P:=fun j:Nat=>fl.contains (((i:Int)+2)*pages+j+1)) (Q:=fun j:Nat=>gl.contains (((i:Int)+2)*pages+j+1)) (j0:=j0) (by
   rw[←en]
   cases hc:fl.contains n with
   |false=>rfl
   |true=>exact absurd (asb.1 hc) hn) (fun j=>by
   rw[atx,ar4,asb,asb,decide_eq_true_eq,h,en];constructor
   ·
    rintro(g|g)
    ·
     exact .inl g
    exact .inr (by omega)
   rintro(g|g)
   ·
    exact .inl g
   exact .inr (by rw[g])) pages.toNat
  rw[if_pos Hr]at this;exact this
 rw[if_neg e,arP];refine xp (fun m hm=>?_) hp;rw[h];constructor
 ·
  rintro(g|g)
  ·
   exact g
  rw[g,hb]at hm;omega
 exact .inl
theorem UL{pages:Int}{l:List Int}(hp:1<=pages)(i:Nat)(h: ∀n∈l,n=0\/1<=n): ∀k,k<=l.length->jU pages l k i=cL pages (l.take k) i
 |0,_=>by
  rw[cL,ate.2 (fun j _=>by simp)];simp[jU]
 |k+1,hk=>by
  have ih:=UL hp i h k (by omega);obtain⟨y,hy⟩: ∃y,l[k]? =some y:=⟨_,aqR (by omega)⟩;have kg: ∀m,m∈l.take (k+1)↔m∈l.take k\/m=y:=fun m=>by
   rw[aq0,hy,aqZ];simp
  rw[Cz,ih,pI hy];have tN:mX l k=(decide (y≠0)&& !(l.take k).contains y):=by rw[mX,pI hy]
  by_cases h0:y=0
  ·
   rw[tN,decide_eq_false (fun g=>g h0),as7,as7,if_neg (by simp),arP];refine xp (fun m hm=>?_) hp;rw[kg];refine⟨.inl,fun g=>g.elim id fun g=>?_⟩;exfalso;rw[g,h0]at hm;have:((0:Int) -1)/pages<0:=atA (by decide) (by omega);omega
  by_cases hc:(l.take k).contains y=true
  ·
   rw[tN,hc,Bool.not_true,Bool.and_false,as7,if_neg (by simp),arP];refine xp (fun m _=>?_) hp;rw[kg];exact⟨.inl,fun g=>g.elim id fun g=>by rw[g];exact asb.1 hc⟩
  have hn:y∉l.take k:=fun g=>hc (asb.2 g);have hcf:(l.take k).contains y=false:=by simpa using hc
  rw[tN,hcf,decide_eq_true h0,asR,asA,arH]
  by_cases hb:(y -1)/pages=(i:Int)+2
  ·
   rw[decide_eq_true hb,if_pos rfl,My hp hb hn kg i,if_pos rfl]
  rw[decide_eq_false hb,if_neg (by simp),arP];refine xp (fun m hm=>?_) hp;rw[kg];exact⟨.inl,fun g=>g.elim id fun g=>by rw[g]at hm;exact absurd hm hb⟩
theorem Hs{pages:Int}{l:List Int}(hp:1<=pages)(i:Nat)(h: ∀n∈l,n=0\/1<=n):jU pages l l.length i=cL pages l i:=by
 have:=UL hp i h l.length (aqY _);rwa [ark]at this
def Std(c:CV)(fl:List Int):Prop:= ∀n∈fl,n≠0->kI c (n -1)=true
theorem Pl.mK{c:CV}{a:List Int}(h:Pl c a):Std c a:=fun _ hn h0=>h.place hn h0
theorem Std.append{c:CV}{a b:List Int}(h:Std c a)(g:Std c b):Std c (a++b):=fun n hn=>(aqZ.1 hn).elim (h n) (g n)
theorem Std.pos{c:CV}{fl:List Int}(h:Std c fl)(hp:1<=c.pages): ∀n∈fl,n=0\/1<=n:=fun n hn=>by
 by_cases h0:n=0
 ·
  exact .inl h0
 right;have:=(mu.1 (h n hn h0)).1;apply arf;intro bb;have:(n -1)/c.pages<0:=atA (by omega) (by omega);omega
theorem Std.kd{c d:CV}{fl L:List Int}(h:Std c fl)(k:Kd L c d)(hs: ∀n∈fl,n∈L):Std d fl:=fun n hn h0=>(k.nm n (hs n hn) h0 (h n hn h0)).1
def pe(c:CV)(fl:List Int)(i:Nat):az:=if(ak c ((i:Int)+2)).bad=true then aZ else⟨cL c.pages fl i,(ak c ((i:Int)+2)).used,(ak c ((i:Int)+2)).aR,false⟩
theorem yS{c:CV}{fl:List Int}(hp:1<=c.pages)(h:Std c fl):av c fl=(List.range (c.blocks.length -2)).map (pe c fl):=by
 rw[av,iW,jV,atT];refine arT fun i _=>?_;simp only[Function.comp];rw[Hs hp i (h.pos hp),oL,pe,tu];split
 ·
  rfl
 rename_i hb;have:(ak c ((i:Int)+2)).bad=false:=by simpa using hb
 rw[this]
theorem UM{c:CV}{fl:List Int}(hp:1<=c.pages)(h:Std c fl)(i:Nat)(hu:0<=(ak c ((i:Int)+2)).used):(cL c.pages fl i:Int)<=(ak c ((i:Int)+2)).used:=by
 have mN: ∀j,j∈(List.range c.pages.toNat).filter (fun j:Nat=>fl.contains (((i:Int)+2)*c.pages+j+1))->j<(ak c ((i:Int)+2)).used.toNat:=fun j hj=>by
  obtain⟨h1,h2⟩:=ari.1 hj;have iP:=arw.1 h1;have hm:=asb.1 h2;have h0:0<=((i:Int)+2)*c.pages:=asC (by omega) (by omega);have bS:=mu.1 (h _ hm (by omega));have hd:(((i:Int)+2)*c.pages+j+1 -1)/c.pages=(i:Int)+2:=by
   rw[asn,asM,ar8 _ _ (by omega),arR (by omega) (by omega),asQ]
  have uJ:(((i:Int)+2)*c.pages+j+1 -1)%c.pages=j:=by
   rw[asn,asM,atv,atD (by omega) (by omega)]
  rw[hd,uJ]at bS;omega
 have key: ∀(n m:Nat) (P:Nat->Bool),(∀j,j∈(List.range n).filter P->j<m)->((List.range n).filter P).length<=m:=by
  intro n m P
  induction n generalizing m with
  |zero=>intro _;simp
  |succ n ih=>
   intro hs;rw[ar1,ar9,af0]
   by_cases hP:P n=true
   ·
    have hm:n<m:=hs n (ari.2 ⟨List.mem_range.2 (by omega),hP⟩);have:=ih n fun j hj=>arw.1 (ari.1 hj).1;simp only[arG,ata,hP,if_true,aqQ,aqS];omega
   have:=ih m fun j hj=>hs j (by rw[ar1,ar9];exact aro _ hj);simp only[arG,ata,hP];simpa using this
 have:=key c.pages.toNat (ak c ((i:Int)+2)).used.toNat _ mN;rw[cL];omega
theorem ub{c:CV}{fl:List Int}(hp:1<=c.pages)(h:Std c fl)(i:Nat):cL c.pages fl i=0↔kv fl c ((i:Int)+2):=by
 constructor
 ·
  intro h0;rw[←Hs hp i (h.pos hp)]at h0;exact T9 h0
 intro hd;rw[cL,arb,ate];intro j hj hc;have iP:=arw.1 hj;have hm:=asb.1 hc;have h0:0<=((i:Int)+2)*c.pages:=asC (by omega) (by omega);refine hd _ hm (by omega) ?_;rw[asn,asM,ar8 _ _ (by omega),arR (by omega) (by omega),asQ]
theorem Mz{c d:CV}{fl gl:List Int}{i0:Nat}{x:az}(hp:1<=c.pages)(h:Std c fl)(hg:Std d gl)(hk:dK c d)(ho: ∀i:Nat,i≠i0->ak d ((i:Int)+2)=ak c ((i:Int)+2)/\cL c.pages gl i=cL c.pages fl i)(hx:pe d gl i0=x):av d gl=(av c fl).set i0 x:=by
 rw[yS (by rw[hk.pages];exact hp) hg,yS hp h,hk.len];refine arS fun i=>?_;rw[arD]
 by_cases e:i0=i
 ·
  subst e;rw[if_pos rfl,arA,atQ,aq1]
  by_cases hi:i0<c.blocks.length -2
  ·
   rw[asr hi,if_pos hi,arE,hx]
  rw[if_neg hi,aqV (by simpa using hi)];rfl
 rw[if_neg e,aq1,aq1]
 by_cases hi:i<c.blocks.length -2
 ·
  rw[asr hi,arE,arE];obtain⟨o1,o2⟩:=ho i (fun g=>e g.symm);rw[pe,pe,o1,hk.pages,o2]
 rw[aqV (by simpa using hi)];rfl
theorem MA{c d:CV}{fl gl:List Int}(hp:1<=c.pages)(h:Std c fl)(hg:Std d gl)(hk:dK c d)(ho: ∀i:Nat,(ak d ((i:Int)+2)).bad=(ak c ((i:Int)+2)).bad/\(ak d ((i:Int)+2)).used=(ak c ((i:Int)+2)).used/\(ak d ((i:Int)+2)).aR=(ak c ((i:Int)+2)).aR/\((ak c ((i:Int)+2)).bad=false->cL c.pages gl i=cL c.pages fl i)):av d gl=av c fl:=by
 rw[yS (by rw[hk.pages];exact hp) hg,yS hp h,hk.len];refine arT fun i _=>?_;obtain⟨o1,o2,o3,o4⟩:=ho i;rw[pe,pe,o1,o2,o3,hk.pages]
 by_cases hb:(ak c ((i:Int)+2)).bad=true
 ·
  rw[if_pos hb,if_pos hb]
 rw[if_neg hb,if_neg hb,o4 (by simpa using hb)]
theorem vE{c:CV}{fl:List Int}{i:Nat}{x:az}(hp:1<=c.pages)(h:Std c fl)(hx:(av c fl)[i]? =some x):x=pe c fl i/\i<c.blocks.length -2:=by
 rw[yS hp h,aq1]at hx;obtain⟨j,hj,rfl⟩:=asI.1 hx;obtain⟨hl,e⟩:=ad2.1 hj;rw[List.getElem_range]at e;rw[atQ]at hl;exact⟨by rw[e],hl⟩
theorem MB{c:CV}{fl:List Int}{i:Nat}(hb:(ak c ((i:Int)+2)).bad=false):pe c fl i=⟨cL c.pages fl i,(ak c ((i:Int)+2)).used,(ak c ((i:Int)+2)).aR,false⟩:=by rw[pe,if_neg (by rw[hb];simp)]
theorem MC{c:CV}{fl:List Int}(hk:aX c=true)(h:Std c fl)(h2:3<=c.blocks.length):l5 (av c fl) c.pages=true:=by
 have hd:=eQ hk;have dP:=ly c fl;refine sa.2 ⟨by omega,by omega,by omega,by omega,fun x hx=>?_⟩;obtain⟨i,hi⟩:=arc hx;obtain⟨rfl,dD⟩:=vE (by omega) h hi;have qu:cN=1099511627776:=rfl;rw[pe];split
 ·
  exact rf.2 (by simp only[aZ];omega)
 have hb:=fc.1 (sd hk (b:=(i:Int)+2) (by omega) (by omega));have:=UM (by omega) h i hb.2.1;exact rf.2 ⟨by simp only;omega,this,hb.2.2.1,hb.2.2.2.1,hb.2.2.2.2.1⟩
theorem Bh{R:az->Bool}{l:List az}{p:Int}(h:l5 l p=true):l5 (bQ R l) p=true:=by
 obtain⟨h1,h2,h3,h4,h5⟩:=sa.1 h;refine sa.2 ⟨by rw[wE];exact h1,by rw[wE];exact h2,h3,h4,fun x hx=>?_⟩;obtain⟨y,hy,rfl⟩:=ar0.1 hx;rw[hY];split
 ·
  have qu:cN=1099511627776:=rfl;exact rf.2 (by simp only[aZ];omega)
 exact h5 y hy
theorem agi{l:List az}{p:Int}(h:l5 l p=true)(i:Nat):l5 (l.set i aZ) p=true:=by
 obtain⟨h1,h2,h3,h4,h5⟩:=sa.1 h;refine sa.2 ⟨by rw[aru];exact h1,by rw[aru];exact h2,h3,h4,fun x hx=>?_⟩;rcases arq hx with g|rfl
 ·
  exact h5 x g
 have qu:cN=1099511627776:=rfl;exact rf.2 (by simp only[aZ];omega)
theorem Ht{c:CV}{b k:Int}{p:List UInt8}(h:bx c b p=0)(hk:k.toNat≠b.toNat):ak (bA c b p) k=ak c k:=by
 obtain⟨h1,_,_,_,e⟩:=pJ h;obtain⟨_,h3,h4⟩:=gW.1 (jA.1 h1).1;rw[e,iq,tY (by omega),if_neg hk]
theorem DB{c:CV}{b:Int}{p:List UInt8}(h:bx c b p=0):(ak (bA c b p) b).used=(ak c b).used+1/\(ak (bA c b p) b).aR=(ak c b).aR/\(ak (bA c b p) b).bad=false:=by
 obtain⟨h1,_,h3,_,e⟩:=pJ h;rw[e,iq,qt (jA.1 h1).1];exact⟨rfl,rfl,h3⟩
theorem UN{c:CV}{fl gl:List Int}{i0:Nat}{pg:List UInt8}(hk:aX c=true)(h:Std c fl)(hz:bx c ((i0:Int)+2) pg=0)(hm: ∀m,m∈gl↔m∈fl\/m=((i0:Int)+2)*c.pages+(ak c ((i0:Int)+2)).used+1):
  av (bA c ((i0:Int)+2) pg) gl=(av c fl).set i0 ⟨cL c.pages fl i0+1,(ak c ((i0:Int)+2)).used+1,(ak c ((i0:Int)+2)).aR,false⟩/\Std (bA c ((i0:Int)+2) pg) gl:=by
 have hd:=eQ hk;have fk:=iv c ((i0:Int)+2) pg;obtain⟨q1,q2,q3,q4⟩:=Hh (L:=fl) (by omega) hz;have fN:=jA.1 (pJ hz).1;have hb:(((i0:Int)+2)*c.pages+(ak c ((i0:Int)+2)).used+1 -1)/c.pages=(i0:Int)+2:=by
  rw[asn,asM,ar8 _ _ (by omega),arR fN.2.1 fN.2.2.1,asQ]
 have hn:((i0:Int)+2)*c.pages+(ak c ((i0:Int)+2)).used+1∉fl:=fun ic=>by
  have:=h _ ic (by omega);rw[asn,q4]at this;cases this
 have hS:Std (bA c ((i0:Int)+2) pg) gl:=fun m uJ h0=>by
  rcases(hm m).1 uJ with g|g
  ·
   exact h.kd (Ha (L:=fl)) (fun _ k=>k) m g h0
  ·
   rw[g,asn];exact q1
 have hl:=My (by omega) hb hn hm;obtain⟨a1,a2,a3⟩:=DB hz;refine⟨Mz (by omega) h hS fk (fun i hi=>⟨Ht hz (by omega),by rw[hl i,if_neg hi];rfl⟩) ?_,hS⟩;rw[MB a3,fk.pages,hl i0,if_pos rfl,a1,a2];rfl
theorem UO: ∀(n:Nat) {c:CV} {b:Int},(fB n c b).2=0->(∀k:Int,k.toNat≠b.toNat->ak (fB n c b).1 k=ak c k)/\(ak (fB n c b).1 b).used=0/\(ak (fB n c b).1 b).aR=(ak c b).aR+1/\(ak (fB n c b).1 b).bad=false
 |0,c,b,h=>by
  obtain⟨e1,_,e3,e4,e5⟩:=CG h;have hh:=(pF.1 e1).1;obtain⟨_,h3,h4⟩:=gW.1 hh;show(∀k:Int,k.toNat≠b.toNat->ak (dk c b) k=ak c k)/\(ak (dk c b) b).used=0/\(ak (dk c b) b).aR=(ak c b).aR+1/\(ak (dk c b) b).bad=false;rw[e5];refine⟨fun k hk=>by rw[kH,tY (by omega),if_neg hk],?_⟩;rw[kH,qt hh,e4];exact⟨rfl,rfl,e3⟩
 |n+1,c,b,h=>by
  rw[fB]at h⊢
  by_cases h0:bx c b (iu c)≠0
  ·
   rw[if_pos h0]at h;exact absurd h h0
  rw[if_neg h0]at h⊢;have qY:bx c b (iu c)=0:=by simpa using h0
  obtain⟨g1,g2,g3,g4⟩:=UO n h;exact⟨fun k hk=>(g1 k hk).trans (Ht qY hk),g2,by rw[g3,(DB qY).2.1],g4⟩
theorem Hu{c:CV}{fl:List Int}{i0:Nat}(hk:aX c=true)(h:Std c fl)(hd:kv fl c ((i0:Int)+2))(hz:(cz c ((i0:Int)+2)).2=0):av (cz c ((i0:Int)+2)).1 fl=(av c fl).set i0 ⟨0,0,(ak c ((i0:Int)+2)).aR+1,false⟩/\Std (cz c ((i0:Int)+2)).1 fl:=by
 have hdm:=eQ hk;have kp:=yO (L:=fl) (c:=c) (b:=(i0:Int)+2) (by omega) hd;have hS:=h.kd kp.toKd fun _ g=>g;obtain⟨z1,z2,z3,z4⟩:=UO _ hz;change∀k:Int,k.toNat≠((i0:Int)+2).toNat->ak (cz c ((i0:Int)+2)).1 k=ak c k at z1;change(ak (cz c ((i0:Int)+2)).1 ((i0:Int)+2)).used=0 at z2;change(ak (cz c ((i0:Int)+2)).1 ((i0:Int)+2)).aR=_ at z3;change(ak (cz c ((i0:Int)+2)).1 ((i0:Int)+2)).bad=false at z4;refine⟨Mz (by omega) h hS kp.bR (fun i hi=>⟨z1 _ (by omega),rfl⟩) ?_,hS⟩;rw[MB z4,kp.bR.pages,z2,z3,(ub (by omega) h i0).2 hd];rfl
structure Ok(n:Nat)(c:CV):Prop where
 ok:fV c=true
 nb: ∀b:Int,(ak c b).bad=false
 off:c.off=false
 cut: ∀f∈c.aU,f.fail=true->f.cut=true
 ops:c.ops+n<cN
 aR: ∀b:Int,(ak c b).aR+n<cN
theorem Ok.mono{n m:Nat}{c:CV}(h:Ok n c)(hm:m<=n):Ok m c:=⟨h.ok,h.nb,h.off,h.cut,by have:=h.ops;omega,fun b=>by have:=h.aR b;omega⟩
theorem Ok.Dy{n:Nat}{c:CV}(h:Ok n c)(hs:(bq c).2=true):(bq c).1.cut=true:=by
 rw[bq]at hs⊢
 cases hf:c.aU.find? fun f=>decide (f.op=c.ops)with
 |none=>rw[hf]at hs;cases hs
 |some x=>
  rw[hf]at hs;simp only[ar4]at hs;exact hs.elim id fun g=>h.cut x (as0 hf) g
theorem Ok.ae{n:Nat}{c:CV}(h:Ok n c):aX c=true:=(fM.1 h.ok).1
theorem UP{c d:CV}(h:fV c=true)(hk:aX d=true)(hl:dK c d):fV d=true:=by
 obtain⟨h1,h2,h3,h4⟩:=fM.1 h;exact fM.2 ⟨hk,by rw[hl.len];exact h2,by rw[hl.pages];exact h3,by rw[hl.size];exact h4⟩
theorem Ok.prog{n:Nat}{c:CV}{b:Int}{p:List UInt8}(h:Ok (n+1) c)(h0:0<=b)(h1:b<c.blocks.length)(hu:(ak c b).used<c.pages)(hl:(p.length:Int)=c.size):(bx c b p=0/\Ok n (bA c b p))\/bx c b p=7:=by
 have hh:gV c b=true:=gW.2 ⟨h.ae,h0,h1⟩;have n7:=fc.1 (qo hh);have UQ:=h.ops;have fN:nK c b (ak c b).used p=true:=jA.2 ⟨hh,n7.2.1,hu,hl,by omega⟩
 by_cases hs:(bq c).2=true
 ·
  right;rw[bx,kh,if_pos fN,if_neg (by rw[h.off];simp),if_neg (by rw[h.nb b];simp),if_pos hs,lS,if_pos (h.Dy hs)]
 left;have hz:bx c b p=0:=by
  rw[bx,kh,if_pos fN,if_neg (by rw[h.off];simp),if_neg (by rw[h.nb b];simp),if_neg hs]
 refine⟨hz,?_⟩;have e:=(pJ hz).2.2.2.2;have hf:(bA c b p).aU=c.aU:=by rw[e];rfl
 have ho:(bA c b p).ops=c.ops+1:=by rw[e];rfl
 have mF:(bA c b p).off=false:=by rw[e,iq,(show(bq c).2=false by simpa using hs)];rfl
 have lB:=DB hz;have sM: ∀k:Int,(ak (bA c b p) k).bad=false/\(ak (bA c b p) k).aR=(ak c k).aR:=fun k=>by
  by_cases hk:k.toNat=b.toNat
  ·
   have e1:ak (bA c b p) k=ak (bA c b p) b:=by simp only[ak,hk]
   have e2:ak c k=ak c b:=by simp only[ak,hk]
   rw[e1,e2];exact⟨lB.2.2,lB.2.1⟩
  rw[Ht hz hk];exact⟨h.nb k,rfl⟩
 exact⟨UP h.ok (lu h.ae b p) (iv c b p),fun k=>(sM k).1,mF,by rw[hf];exact h.cut,by rw[ho];omega,fun k=>by rw[(sM k).2];have:=h.aR k;omega⟩
theorem Ok.erase{n:Nat}{c:CV}{b:Int}(h:Ok (n+1) c)(h0:0<=b)(h1:b<c.blocks.length):(dV c b=0/\Ok n (dk c b))\/dV c b=7:=by
 have hh:gV c b=true:=gW.2 ⟨h.ae,h0,h1⟩;have UQ:=h.ops;have hwb:=h.aR b;have UR:oD c b=true:=pF.2 ⟨hh,by omega,by omega⟩
 by_cases hs:(bq c).2=true
 ·
  right;rw[dV,if_pos UR,if_neg (by rw[h.off];simp),if_neg (by rw[h.nb b];simp),if_pos hs,lS,if_pos (h.Dy hs)]
 left;have hz:dV c b=0:=by
  rw[dV,if_pos UR,if_neg (by rw[h.off];simp),if_neg (by rw[h.nb b];simp),if_neg hs]
 refine⟨hz,?_⟩;have e:=(CG hz).2.2.2.2;have hf:(dk c b).aU=c.aU:=by rw[e];rfl
 have ho:(dk c b).ops=c.ops+1:=by rw[e];rfl
 have mF:(dk c b).off=false:=by rw[e,kH,(show(bq c).2=false by simpa using hs)];rfl
 obtain⟨_,h3,h4⟩:=gW.1 hh;have sM: ∀k:Int,(ak (dk c b) k).bad=false/\(ak (dk c b) k).aR<=(ak c k).aR+1:=fun k=>by
  rw[e,kH,tY (by omega)];split
  ·
   rename_i hk;have e2:ak c k=ak c b:=by simp only[ak,hk]
   rw[e2];exact⟨h.nb b,by simp only;omega⟩
  exact⟨h.nb k,by omega⟩
 exact⟨UP h.ok (CA h.ae b) (wC c b),fun k=>(sM k).1,mF,by rw[hf];exact h.cut,by rw[ho];omega,fun k=>by have:=(sM k).2;have:=h.aR k;omega⟩
theorem agj{c:CV}(h:fV c=true):((iu c).length:Int)=c.size:=by
 obtain⟨h1,_,_,h4⟩:=fM.1 h;have hd:=eQ h1;have hf:nL c.size=true:=r8.2 ⟨h4,by omega⟩;exact Dq (ra.2 ⟨hf, .inl rfl,by decide,by decide,by show(0:Nat)<_;omega,by rw[dO,if_pos hf];simp only[aqS];omega⟩)
theorem Ok.clear{n:Nat}: ∀(m:Nat) {c:CV} {b:Int},Ok (n+(m+1)) c->0<=b->b<c.blocks.length->(m:Int)<=c.pages -(ak c b).used->((fB m c b).2=0/\Ok n (fB m c b).1)\/(fB m c b).2=7
 |0,c,b,h,h0,h1,hm=>h.erase h0 h1
 |m+1,c,b,h,h0,h1,hm=>by
  rcases h.prog (n:=n+(m+1)) (p:=iu c) h0 h1 (by omega) (agj h.ok)with⟨e,g⟩|e
  ·
   rw[fB,if_neg (by rw[e];simp)];have fk:=iv c b (iu c);exact Ok.clear m g h0 (by rw[fk.len];exact h1) (by rw[fk.pages,(DB e).1];omega)
  right;rw[fB,if_pos (by rw[e];decide)];exact e
theorem Ok.Hv{n:Nat}{c:CV}{b:Int}(h:Ok (n+17) c)(h0:0<=b)(h1:b<c.blocks.length):((cz c b).2=0/\Ok n (cz c b).1)\/(cz c b).2=7:=by
 have hd:=eQ h.ae;have n7:=fc.1 (sd h.ae h0 h1);have hf:dX c b=c.pages -(ak c b).used:=by rw[dX,if_neg (by rw[h.nb b];simp)]
 exact Ok.clear (n:=n) (dX c b).toNat (h.mono (by omega)) h0 h1 (by omega)
theorem Ok.root{n:Nat}{c:CV}{last:Int}(h:Ok (n+1) c)(hl:last=0\/last=1):((aV c last).2.2=0/\Ok n (aV c last).1)\/(aV c last).2.2=7:=by
 have h4:=(fM.1 h.ok).2.1;rw[aV];split
 ·
  exact .inl ⟨rfl,h.mono (by omega)⟩
 split
 ·
  exact .inl ⟨rfl,h.mono (by omega)⟩
 split
 ·
  rename_i hb;rw[h.nb]at hb;cases hb
 exact h.erase (by omega) (by omega)
structure Hw(c:CV)(g:Nat)(a:List Int):Prop where
 gen:g+1<281474976710656
 len:(a.length:Int)<=ki c.size
 num: ∀x∈a,0<=x/\x<=65535
theorem Hw.put{c:CV}{g:Nat}{a:List Int}(h:Hw c g a)(hb:fV c=true):(cS ⟨g+1,a⟩ c.size).2=0/\((cS ⟨g+1,a⟩ c.size).1.length:Int)=c.size:=by
 obtain⟨h1,_,_,h4⟩:=fM.1 hb;have hd:=eQ h1;have hf:nL c.size=true:=r8.2 ⟨h4,by omega⟩;have hm:oJ ⟨g+1,a⟩ c.size=true:=wz.2 ⟨by rw[dO,if_pos hf];omega,h.gen,h.len,fun x hx=>Cu.2 (h.num x hx)⟩;refine⟨?_,TW hm⟩;rw[cS,if_pos hm,dj,if_pos (Me hm)]
theorem agk{c:CV}{last:Int}(hl:last=0\/last=1)(i:Nat):ak (aV c last).1 ((i:Int)+2)=ak c ((i:Int)+2):=by
 rw[aV];split
 ·
  rfl
 split
 ·
  rfl
 split
 ·
  rfl
 show ak (dk c (1 -last)) ((i:Int)+2)=_;rw[dk,iX];split
 ·
  rw[lT];split
  ·
   rename_i hm;have hh:gV (fT c (1 -last)) (1 -last)=true:=by
    cases hq:gV (fT c (1 -last)) (1 -last)with
    |true=>rfl
    |false=>rw[pG,if_neg (by rw[hq];simp)]at hm;cases hm
   obtain⟨_,h3,h4⟩:=gW.1 hh;have:=tY (c:=fT c (1 -last)) (o:=(fT c (1 -last)).ops) (f:=(fT c (1 -last)).off) (B:={ak (fT c (1 -last)) (1 -last)with bad:=true}) (show(1 -last).toNat<(fT c (1 -last)).blocks.length by omega) ((i:Int)+2);rw[if_neg (by omega)]at this;rw[this,Bb (by omega)]
  rw[Bb (by omega)]
 rw[Bb (by omega)]
theorem US{n:Nat}{x:WV}{a:List Int}(hx:cP x)(h:Ok (n+2) x.v.ae)(hr:Hw x.v.ae x.v.gen a):((dY x a).2=0/\Ok n (dY x a).1.v.ae/\(dY x a).1.v.at_=a/\(dY x a).1.v.gen=x.v.gen+1/\(∀i:Nat,ak (dY x a).1.v.ae ((i:Int)+2)=ak x.v.ae ((i:Int)+2))/\(dY x a).1.beyond=x.beyond)\/(dY x a).2=7:=by
 obtain⟨p1,p2⟩:=hr.put h.ok;have UQ:=h.ops;have hl:=hx.last;have h4:=(fM.1 h.ok).2.1;rw[dY,if_neg (by rw[p1];simp)];obtain⟨m,hm⟩: ∃m,(cN -x.v.ae.ops).toNat+1=m+1:=⟨_,rfl⟩;rw[hm,gH];rcases Ok.root (n:=n+1) (last:=x.v.last) h hl with⟨e,g⟩|e
 ·
  rw[if_neg (by rw[e];simp)];have bF:=FO (c:=x.v.ae) (last:=x.v.last) h.ae hl;have nP:=(bF.2.2.2 e).1;have agl:=agm (c:=x.v.ae) (last:=x.v.last) h.ae hl e;rcases g.prog (n:=n) (b:=(aV x.v.ae x.v.last).2.1) (p:=(cS ⟨x.v.gen+1,a⟩ x.v.ae.size).1) (by omega) (by rw[bF.2.1.len];omega) (by
   rw[dX,if_neg (by rw[g.nb];simp)]at agl;omega) (by rw[bF.2.1.size];exact p2)with⟨e2,g2⟩|e2
  ·
   rw[if_pos e2];left;refine⟨rfl,g2,rfl,rfl,fun i=>?_,rfl⟩;show ak (bA (aV x.v.ae x.v.last).1 (aV x.v.ae x.v.last).2.1 _) ((i:Int)+2)=_;rw[Ht e2 (by omega)];exact agk hl i
  right;rw[if_neg (by rw[e2];decide),if_pos (by rw[e2];decide)];exact e2
 right;rw[if_pos (by rw[e];decide)];exact e
where
 agm {c:CV} {last:Int} (hk:aX c=true) (hl:last=0\/last=1) (he:(aV c last).2.2=0):0<dX (aV c last).1 (aV c last).2.1:=by
  rw[aV]at he⊢
  by_cases h1:0<dX c last
  ·
   rw[if_pos h1];exact h1
  rw[if_neg h1]at he⊢
  by_cases h2:0<dX c (1 -last)
  ·
   rw[if_pos h2];exact h2
  rw[if_neg h2]at he⊢
  by_cases h3:(ak c (1 -last)).bad=true
  ·
   rw[if_pos h3]at he;cases he
  rw[if_neg h3]at he⊢;obtain⟨e1,e2,e3,e4,e5⟩:=CG he;have hh:=(pF.1 e1).1;have hd:=eQ hk;show 0<dX (dk c (1 -last)) (1 -last);rw[e5,dX,kH,qt hh,e4,e3];simp only[arv,if_false];omega
def kx(p:Int)(x:az):Nat:=if x.bad=true then 0 else if x.live=0 then(if 0<x.used/\x.used<p then 1 else 0)else(x.used -x.live).toNat
def pf(p:Int)(l:List az):Nat:=(l.map (kx p)).sum
theorem UT{f:az->Nat}: ∀{l:List az} {i:Nat} {x y:az},l[i]? =some y->((l.set i x).map f).sum+f y=(l.map f).sum+f x
 |[],i,x,y,h=>by simp at h
 |z::r,0,x,y,h=>by
  obtain rfl:z=y:=by simpa using h
  simp only[asf,arh,atz];omega
 |z::r,i+1,x,y,h=>by
  have:=UT (f:=f) (l:=r) (i:=i) (x:=x) (y:=y) (by simpa using h);simp only[ath,arh,atz];omega
theorem DC{p:Int}{l:List az}{i:Nat}{x y:az}(h:l[i]? =some y):pf p (l.set i x)+kx p y=pf p l+kx p x:=UT h
theorem UU{f:az->Nat}: ∀{l:List az},(∀x∈l,f x=0)->(l.map f).sum=0
 |[],_=>rfl
 |z::r,h=>by
  rw[arh,atz,h z aqU,UU fun x hx=>h x (aq2 _ hx)]
theorem agn{b:List UInt8}(h:(cD b).2=0)(hk:(cD b).1.kind≠0):lW (cD b).1 b.length=true:=by
 rw[cD]at h hk⊢
 by_cases h1:nL b.length=false
 ·
  rw[if_pos h1]at h;cases h
 rw[if_neg h1]at h hk⊢
 by_cases h2:jT b=true
 ·
  rw[if_pos h2]at hk;exact absurd rfl hk
 rw[if_neg h2]at h hk⊢
 by_cases h3:de (xY b)≠nH (lX b)
 ·
  rw[if_pos h3]at h;cases h
 rw[if_neg h3]at h hk⊢
 by_cases h4:oI b=false
 ·
  rw[if_pos h4]at h;cases h
 rw[if_neg h4]at h hk⊢
 by_cases h5:wy (nM b)=false
 ·
  rw[if_pos h5]at h;cases h
 rw[if_neg h5];have hf:oI b=true:=by simpa using h4
 rw[oI,alM,decide_eq_true_eq]at hf;obtain⟨m1,m2,m3,m4,m5,m6⟩:=ra.1 hf.2;exact ra.2 ⟨m1,m2,m3,m4,m5,by
  have:((b.drop 10).take (10+hU b -10)).length<=hU b:=by rw[aqT];omega
  show(((b.drop 10).take (10+hU b -10)).length:Int)<=_;omega⟩
theorem Ok.tell{n:Nat}{c:CV}{fl:List Int}(h:Ok n c)(i:Nat):pe c fl i=⟨cL c.pages fl i,(ak c ((i:Int)+2)).used,(ak c ((i:Int)+2)).aR,false⟩:=MB (h.nb _)
theorem Ok.get{n:Nat}{c:CV}{fl:List Int}(h:Ok n c)(hs:Std c fl){i:Nat}(hi:i<c.blocks.length -2):(av c fl)[i]? =some ⟨cL c.pages fl i,(ak c ((i:Int)+2)).used,(ak c ((i:Int)+2)).aR,false⟩:=by
 have hd:=eQ h.ae;rw[yS (by omega) hs,aq1,asr hi,arE,h.tell]
theorem Ok.getD{n:Nat}{c:CV}{fl:List Int}(h:Ok n c)(hs:Std c fl){i:Nat}(hi:i<c.blocks.length -2):(av c fl).getD i dW=⟨cL c.pages fl i,(ak c ((i:Int)+2)).used,(ak c ((i:Int)+2)).aR,false⟩:=by
 have:=h.get hs hi;simp only[List.getD,this,as3]
theorem Ok.Bi{n:Nat}{c:CV}(h:Ok n c){i:Nat}(hi:i<c.blocks.length -2):0<=(ak c ((i:Int)+2)).used/\(ak c ((i:Int)+2)).used<=c.pages:=by
 have hb:=fc.1 (sd h.ae (b:=(i:Int)+2) (by omega) (by omega));exact⟨hb.2.1,hb.2.2.1⟩
theorem Ok.UW{n:Nat}{c:CV}{fl:List Int}(h:Ok n c)(hs:Std c fl){i:Nat}(hi:i<c.blocks.length -2):(cL c.pages fl i:Int)<=(ak c ((i:Int)+2)).used:=by
 have hd:=eQ h.ae;exact UM (by omega) hs i (h.Bi hi).1
theorem UX(l:List az): ∀k,0<(gk l k).2->(gk l k).1.toNat<k/\(l.getD (gk l k).1.toNat dW).bad=false/\(l.getD (gk l k).1.toNat dW).live≠0/\(gk l k).2=(l.getD (gk l k).1.toNat dW).used -(l.getD (gk l k).1.toNat dW).live
 |0,h=>by simp[gk]at h
 |k+1,h=>by
  have ih:=UX l k;rw[gk,wH]at h⊢
  by_cases h1:(l.getD k dW).bad=true\/(l.getD k dW).live=0\/cN<=(l.getD k dW).aR
  ·
   rw[if_pos h1]at h⊢;obtain⟨i1,i2⟩:=ih h;exact⟨by omega,i2⟩
  rw[if_neg h1]at h⊢
  by_cases h2:(gk l k).2<(l.getD k dW).used -(l.getD k dW).live
  ·
   rw[if_pos h2];simp only[arN];exact⟨by omega,by
    cases hb:(l.getD k dW).bad with
    |false=>rfl
    |true=>exact absurd (.inl hb) h1,fun g=>h1 (.inr (.inl g)),trivial⟩
  rw[if_neg h2]at h⊢;obtain⟨i1,i2⟩:=ih h;exact⟨by omega,i2⟩
theorem UY(l:List az){j:Nat}(h1:(l.getD j dW).bad=false)(h2:(l.getD j dW).live≠0)(h3:(l.getD j dW).aR<cN): ∀k,j<k->(l.getD j dW).used -(l.getD j dW).live<=(gk l k).2
 |0,h=>by omega
 |k+1,h=>by
  rw[gk,wH]
  by_cases e:j=k
  ·
   subst e;rw[if_neg (by rintro(g|g|g);rw[h1]at g;cases g;exact h2 g;omega)];split
   ·
    exact arU _
   omega
  have ih:=UY l h1 h2 h3 k (by omega);split
  ·
   exact ih
  split
  ·
   simp only;omega
  exact ih
theorem ago{n:Nat}{c:CV}{fl:List Int}(h:Ok n c)(hs:Std c fl)(hv:(iz (av c fl) c.pages).2=true):
  ∃i:Nat,(iz (av c fl) c.pages).1=i/\i<c.blocks.length -2/\0<cL c.pages fl i/\(cL c.pages fl i:Int)<(ak c ((i:Int)+2)).used:=by
 have hd:=eQ h.ae;have Hn:=J8 hv;rw[ly]at Hn;refine⟨(iz (av c fl) c.pages).1.toNat,by omega,by omega,?_⟩;have mL:=h.getD hs (i:=(iz (av c fl) c.pages).1.toNat) (by omega);rw[iz]at hv mL⊢
 by_cases h1:(u5 (av c fl) c.pages).2=true
 ·
  rw[if_pos h1]at mL⊢;obtain⟨f1,f2,f3,f4⟩:=Aq h1;simp only at mL⊢;change yc c.pages ((av c fl).getD (u5 (av c fl) c.pages).1.toNat dW)=true at f4;rw[mL,yc]at f4;simp only[arv,if_false,alM,decide_eq_true_eq]at f4;omega
 ·
  rw[if_neg h1]at hv mL⊢;simp only[decide_eq_true_eq]at hv mL⊢;obtain⟨_,s1,s2,s3⟩:=UX _ _ hv;rw[mL]at s2 s3;simp only at s2 s3;omega
theorem agp{n:Nat}{c:CV}{fl:List Int}(h:Ok n c)(hs:Std c fl){j:Nat}(hj:j<c.blocks.length -2)(h1:0<cL c.pages fl j)(h2:(cL c.pages fl j:Int)<(ak c ((j:Int)+2)).used):(iz (av c fl) c.pages).2=true:=by
 rw[iz];split
 ·
  rfl
 have mL:=h.getD hs hj;have:=UY (av c fl) (j:=j) (by rw[mL]) (by rw[mL];simp only;omega) (by rw[mL];have:=h.aR ((j:Int)+2);simp only;omega) (av c fl).length (by rw[ly];exact hj);rw[mL]at this;simp only[decide_eq_true_eq]at this⊢;omega
theorem Bj{R:az->Bool}{x:az}(h:x.bad=false)(hR:R x=true):hY R x=x:=by
 rw[hY,if_neg];rintro(g|g)
 ·
  rw[h]at g;cases g
 rw[hR]at g;cases g
theorem Hx{α:Type}{l:List α}{i:Nat}{x:α}(h:l[i]? =some x):l.set i x=l:=wx h
theorem agq{n:Nat}{c:CV}{fl:List Int}{i j:Nat}(h:Ok (n+17) c)(hs:Std c fl)(hj:j<c.blocks.length -2)(cw:j≠i)(hd0:cL c.pages fl j=0):
  (∃(t:Nat) (w:Int),t≠i/\t<c.blocks.length -2/\cL c.pages fl t=0/\(bU c ((av c fl).set i aZ)).2=((t:Int)+2,0)/\Ok n (bU c ((av c fl).set i aZ)).1/\av (bU c ((av c fl).set i aZ)).1 fl=(av c fl).set t ⟨0,0,w,false⟩/\Kp fl c (bU c ((av c fl).set i aZ)).1)\/(bU c ((av c fl).set i aZ)).2.2=7:=by
 have hd:=eQ h.ae;have LV:=MC h.ae hs (by omega);have hw:=agi LV i;have hgj:=h.get hs hj;have kg:(⟨cL c.pages fl j,(ak c ((j:Int)+2)).used,(ak c ((j:Int)+2)).aR,false⟩:az)∈(av c fl).set i aZ:=by
  refine anc (i:=j) ?_;rw[arj (fun e=>cw e.symm)];exact hgj
 have MD:=h.Bi hj;have hwo:=h.aR ((j:Int)+2);have UZ: ∀{k:Nat} {x:az},((av c fl).set i aZ)[k]? =some x->x.bad=false->k≠i/\k<c.blocks.length -2/\x=⟨cL c.pages fl k,(ak c ((k:Int)+2)).used,(ak c ((k:Int)+2)).aR,false⟩:=fun{k x} hx hb=>by
  have hk:k≠i:=fun e=>by
   rw[e,arD]at hx;rw[if_pos rfl]at hx;split at hx
   ·
    obtain rfl:=aqP hx;cases hb
   ·
    cases hx
  rw[arj (fun e=>hk e.symm)]at hx;obtain⟨rfl,hl⟩:=vE (by omega) hs hx;exact⟨hk,hl,h.tell k⟩
 have U0: ∀{d:Int×Bool},(∃x,((av c fl).set i aZ)[d.1.toNat]? =some x/\x.bad=false/\x.live=0)->0<=d.1->
   ((∃(t:Nat) (w:Int),t≠i/\t<c.blocks.length -2/\cL c.pages fl t=0/\(d.1+2,(cz c (d.1+2)).2)=((t:Int)+2,0)/\Ok n (cz c (d.1+2)).1/\av (cz c (d.1+2)).1 fl=(av c fl).set t ⟨0,0,w,false⟩/\Kp fl c (cz c (d.1+2)).1)\/(cz c (d.1+2)).2=7):=fun{d} hx h0=>by
  obtain⟨x,hx,hb,hl⟩:=hx;obtain⟨k1,k2,k3⟩:=UZ hx hb;rw[k3]at hl;simp only at hl;have e:d.1=((d.1.toNat:Nat):Int):=by omega
  rw[e];have my:=(ub (by omega) hs d.1.toNat).1 (by omega);rcases h.Hv (b:=((d.1.toNat:Nat):Int)+2) (by omega) (by omega)with⟨z,g⟩|z
  ·
   left;exact⟨d.1.toNat,_,k1,k2,by omega,by rw[z],g,(Hu h.ae hs my z).1,yO (by omega) my⟩
  ·
   exact .inr z
 rw[bU]
 by_cases hA:(l8 c ((av c fl).set i aZ)).2=true
 ·
  rw[if_pos hA];left;obtain⟨x,hx,a1,a2,a3,a4,a5⟩:=oN (fun x h=>(se h).1) hA;have qi:((av c fl).set i aZ)[(l8 c ((av c fl).set i aZ)).1.toNat]? =some x:=hx;change 0<=(l8 c ((av c fl).set i aZ)).1 at a4;generalize l8 c ((av c fl).set i aZ)=T at*;obtain⟨k1,k2,k3⟩:=UZ qi a1;simp only[rk,decide_eq_true_eq]at a2;rw[k3]at a2;simp only at a2;have Te:=h.UW hs k2;have mr:cL c.pages fl T.1.toNat=0:=by omega
  refine⟨T.1.toNat,(ak c ((T.1.toNat:Int)+2)).aR,k1,k2,mr,by simp only;rw[arY a4],h.mono (by omega),?_, .c8 _ _⟩;refine(Hx ?_).symm;have:=h.get hs k2;rw[mr,a2]at this;exact this
 ·
  rw[if_neg hA];have ME:=tw (Bh (R:=rk) hw) (show(fo (bQ rk ((av c fl).set i aZ)) c.pages (mw c.pages) [An,r9]).2=false by simpa[l8,fq]using hA);have C4:(ak c ((j:Int)+2)).used≠0:=fun e=>by
   have:=ME _ (ard (f:=hY rk) kg);rw[Bj rfl (by simp[rk,e]),mw]at this;simp only[asR,arH,decide_eq_false_iff_not]at this;omega
  have Hy:lZ ⟨cL c.pages fl j,(ak c ((j:Int)+2)).used,(ak c ((j:Int)+2)).aR,false⟩=true:=by
   simp only[lZ,hd0,asR,arH,alM,decide_eq_true_eq];exact⟨rfl,by omega⟩
  by_cases hB:(jC c ((av c fl).set i aZ)).2=true
  ·
   rw[if_pos hB];obtain⟨x,hx,a1,a2,a3,a4,a5⟩:=oN (fun x h=>(lA h).1) hB;exact U0 (d:=jC c ((av c fl).set i aZ)) ⟨x,hx,a1,(lA a3).2.1⟩ a4
  ·
   rw[if_neg hB];have MF:=tw (Bh (R:=si c.pages) hw) (show(fo (bQ (si c.pages) ((av c fl).set i aZ)) c.pages lZ [r9]).2=false by simpa[jC,fA]using hB);have hup:(ak c ((j:Int)+2)).used≠c.pages:=fun e=>by
    have:=MF _ (ard (f:=hY (si c.pages)) kg);rw[Bj rfl (by simp[si,e]),Hy]at this
    cases this
   by_cases hD:(jD c ((av c fl).set i aZ)).2=true
   ·
    rw[if_pos hD];obtain⟨x,hx,a1,a2,a3,a4,a5⟩:=oN (fun x h=>(lA h).1) hD;exact U0 (d:=jD c ((av c fl).set i aZ)) ⟨x,hx,a1,(lA a3).2.1⟩ a4
   ·
    exfalso;have mU:=tw (Bh (R:=sj) hw) (show(fo (bQ sj ((av c fl).set i aZ)) c.pages lZ [r9]).2=false by simpa[jD,fA]using hD);have:=mU _ (ard (f:=hY sj) kg);rw[Bj rfl (by simp only[sj,decide_eq_true_eq];omega),Hy]at this
    cases this
def Hz(p:Int)(b:Int)(n:Int):Bool:=decide (0<n)&&decide ((n -1)/p=b)
def uc(p:Int)(b:Int)(l:List Int):Nat:=(l.filter (Hz p b)).length
theorem agr(P:Int->Bool): ∀(l:List Int),((List.range l.length).filter fun j=>P (l.getD j 0)).length=(l.filter P).length:=by
 intro l;have key: ∀k,k<=l.length->((List.range k).filter fun j=>P (l.getD j 0)).length=((l.take k).filter P).length:=by
  intro k
  induction k with
  |zero=>intro _;simp
  |succ k ih=>
   intro hk;have hy:=aqR (show k<l.length by omega);rw[ar1,ar9,af0,ih (by omega),aq0,hy,ar9,af0,pI hy|>fun e=>(show(List.filter (fun j=>P (l.getD j 0)) [k]).length=(List.filter P [l[k]]).length by
    have:l.getD k 0=l[k]:=e;simp only[arG,ata,this];split<;>rfl)]
   rfl
 have:=key l.length (aqY _);rwa [ark]at this
theorem ags{v:VV}(h:ft v)(i:Nat):uc v.ae.pages ((i:Int)+2) v.at_=cL v.ae.pages v.at_ i:=by
 have hp:1<=v.ae.pages:=by have:=(fM.1 h.bears).2.2.1;omega
 rw[←Hs hp i (h.pl.mK.pos hp),abu (Bc.2 h) i,Kn,uc];exact(agr (Hz v.ae.pages ((i:Int)+2)) v.at_).symm
theorem U1{c:CV}{fl:List Int}(hk:aX c=true)(h:Std c fl): ∀x∈fl,0<=x/\x<=65535:=fun x hx=>by
 have hd:=eQ hk;rcases h.pos (by omega) x hx with h0|h1
 ·
  omega
 have hp:=mu.1 (h x hx (by omega));have:=JZ (n:=x) hd.2.2.1 hd.2.2.2.1 hd.2.1 hp.2.1;omega
theorem agt{c:CV}(hb:fV c=true){i n:Int}(h:nN c i n=true):lW (cD (bK c (n -1))).1 c.size=true/\(cD (bK c (n -1))).1.id=i/\iV c n=(cD (bK c (n -1))).1.body:=by
 obtain⟨h1,h2,h3,h4⟩:=Dt h;obtain⟨p1,p2,p3⟩:=mu.1 h1;obtain⟨k1,_,k3,_⟩:=fM.1 hb;have n7:=fc.1 (sd k1 (b:=(n -1)/c.pages) (by omega) p2);have h0:0<=(n -1)%c.pages:=asZ _ (by omega);have hj:((n -1)%c.pages).toNat<(ak c ((n -1)/c.pages)).pages.length:=by omega
 have hl:((bK c (n -1)).length:Int)=c.size:=by
  rw[bK];simp only[List.getD];rw[aqR hj];exact n7.2.2.2.2.2 _ (asG hj)
 refine⟨?_,h4,by rw[iV,if_pos h2]⟩;have:=agn h2 (by rw[h3];decide);rwa [hl]at this
theorem MG{v:VV}{src:Int}{t:Nat}(zX:(t:Int)+2≠src)(hg:v.gen+1<281474976710656): ∀(l:List Int) (id:Nat) {n:Nat} {c:CV} {a:List Int} {m:Nat} {w:Int},Ok (n+l.length) c->dK v.ae c->t<c.blocks.length -2->Pl c v.at_->Std c a->a.length=v.at_.length->v.at_.drop id=l->(∀j,id<=j->a[j]? =v.at_[j]?)->(∀(j:Nat) (y:Int),v.at_[j]? =some y->(y=0\/(y -1)/v.ae.pages≠src)->a[j]? =some y)->
  cL c.pages (v.at_++a) t=m->(ak c ((t:Int)+2)).used=m->(m:Int)+uc c.pages src l<=c.pages->
  ((bX v src ((t:Int)+2) l id c a).e=none/\Ok n (bX v src ((t:Int)+2) l id c a).c/\Std (bX v src ((t:Int)+2) l id c a).c (bX v src ((t:Int)+2) l id c a).a/\
   (∃m' w':Int,av (bX v src ((t:Int)+2) l id c a).c (v.at_++(bX v src ((t:Int)+2) l id c a).a)=(av c (v.at_++a)).set t ⟨m',m',w',false⟩)/\
   (∀(j:Nat) (y:Int),v.at_[j]? =some y->(y=0\/(y -1)/v.ae.pages≠src)->(bX v src ((t:Int)+2) l id c a).a[j]? =some y))\/(bX v src ((t:Int)+2) l id c a).e=some 7
 |[],id,n,c,a,m,w,h,fk,ht,hv,ha,dS,hl,jn,eA,pN,AR,MH=>by
  left;refine⟨rfl,h,ha,⟨m,(ak c ((t:Int)+2)).aR,?_⟩,eA⟩;have:=h.get (fl:=v.at_++a) (hv.mK.append ha) ht;rw[pN,AR]at this;exact(Hx this).symm
 |y::r,id,n,c,a,m,w,h,fk,ht,hv,ha,dS,hl,jn,eA,pN,AR,MH=>by
  have hy:v.at_[id]? =some y:=by
   have:=congrArg (fun l:List Int=>l[0]?) hl;simpa using this
  have hr:v.at_.drop (id+1)=r:=by rw[←asS,hl];rfl
  have hp:=fk.pages;have hd:=eQ h.ae;rw[bX]
  by_cases h1:y=0\/(y -1)/v.ae.pages≠src
  ·
   rw[if_pos h1];refine MG zX hg r (id+1) (n:=n) (w:=w) (h.mono (by simp only[aqQ];omega)) fk ht hv ha dS hr (fun j hj=>jn j (by omega)) eA pN AR ?_;have:uc c.pages src (y::r)=uc c.pages src r:=by
    rw[uc,List.filter_cons_of_neg];rfl;simp only[Hz,alM,decide_eq_true_eq];rintro⟨g1,g2⟩;rcases h1 with g|g
    ·
     omega
    ·
     rw[←hp]at g;exact g g2
   rw[←this];exact MH
  ·
   rw[if_neg h1];have nr:y≠0:=fun e=>h1 (.inl e);have hys:(y -1)/c.pages=src:=by rw[hp];exact Classical.not_not.1 fun e=>h1 (.inr e)
   have Gn:1<=y:=(hv.mK.pos (by omega) y (anc hy)).resolve_left nr;have hb:cm c v.at_ a src ((t:Int)+2)=((t:Int)+2,true):=by rw[cm,if_neg (by omega)]
   rw[hb,if_neg (by simp)];have vo:=hv.1 id y hy nr;obtain⟨y1,y2,y3⟩:=agt h.ok vo;obtain⟨z1,z2,z3,z4,z5,z6⟩:=ra.1 y1;rw[y2]at z3 z4;have Bd:lW ⟨1,id,((v.gen:Int)+1).toNat,iV c y⟩ c.size=true:=ra.2 ⟨z1, .inl rfl,z3,z4,by simp only;omega,by rw[y3];exact z6⟩;have MI:dZ c ((v.gen:Int)+1) id y=((dZ c ((v.gen:Int)+1) id y).1,0):=by
    rw[dZ,dj,if_pos Bd]
   have bS:((dZ c ((v.gen:Int)+1) id y).1.length:Int)=c.size:=Dq Bd;rw[if_neg (by rw[MI];simp)];have agu:uc c.pages src (y::r)=uc c.pages src r+1:=by
    rw[uc,List.filter_cons_of_pos];rfl;simp only[Hz,alM,decide_eq_true_eq];exact⟨by omega,hys⟩
   rw[agu]at MH;rcases h.prog (n:=n+r.length) (b:=(t:Int)+2) (p:=(dZ c ((v.gen:Int)+1) id y).1) (by omega) (by omega) (by omega) bS with⟨z,g⟩|z
   ·
    rw[if_neg (by rw[z];simp)];have e2:(t:Int)+2=((t:Nat):Int)+2:=rfl;generalize hN:((t:Int)+2)*v.ae.pages+(ak c ((t:Int)+2)).used+1=N;have kg: ∀k,k∈v.at_++a.set id N↔k∈v.at_++a\/k=((t:Int)+2)*c.pages+(ak c ((t:Int)+2)).used+1:=fun k=>by
     rw[hp,hN,aqZ,aqZ];have hid:id<a.length:=by rw[dS];exact(ad2.1 hy).1
     constructor
     ·
      rintro(q|q)
      ·
       exact .inl (.inl q)
      ·
       rcases arq q with q|q
       ·
        exact .inl (.inr q)
       ·
        exact .inr q
     ·
      rintro((q|q)|q)
      ·
       exact .inl q
      ·
       obtain⟨j,hj⟩:=arc q
       by_cases e:j=id
       ·
        rw[e,jn id (aqY _)]at hj;exact .inl (anc hj)
       ·
        right;exact anc (i:=j) (by rw[arj (fun g=>e g.symm)];exact hj)
      ·
       right;rw[q];exact anc (i:=id) (by rw[aq7 hid])
    obtain⟨b1,b2⟩:=UN h.ae (hv.mK.append ha) z kg;have vD:=Ha (L:=v.at_) (c:=c) (b:=(t:Int)+2) (p:=(dZ c ((v.gen:Int)+1) id y).1);have pd:=iv c ((t:Int)+2) (dZ c ((v.gen:Int)+1) id y).1;have fN:=jA.1 (pJ z).1;have lB:=DB z;have fj:(((t:Int)+2)*c.pages+(ak c ((t:Int)+2)).used+1 -1)/c.pages=(t:Int)+2:=by
     rw[asn,asM,ar8 _ _ (by omega),arR fN.2.1 fN.2.2.1,asQ]
    have agv:((t:Int)+2)*c.pages+(ak c ((t:Int)+2)).used+1∉v.at_++a:=fun ic=>by
     have Aw:0<=((t:Int)+2)*c.pages:=asC (by omega) (by omega);have:=hv.mK.append ha _ ic (by have:=fN.2.1;omega);rw[asn,(Hh (L:=[]) (by omega) z).2.2.2]at this;cases this
    have U2:=My (by omega) fj agv kg t;rw[if_pos rfl,pN]at U2;have ih:=MG zX hg r (id+1) (n:=n) (w:=w) (m:=m+1) (a:=a.set id N) g (fk.trans pd) (by rw[pd.len];exact ht) (hv.kd vD fun _ q=>q) (fun k hk=>b2 k (asg _ hk)) (by rw[aru,dS]) hr (fun j hj=>by rw[arj (by omega)];exact jn j (by omega)) (fun j q hq Hm=>by
     by_cases e:j=id
     ·
      rw[e,hy]at hq;obtain rfl:=aqP hq;exact absurd Hm h1
     ·
      rw[arj (fun g=>e g.symm)];exact eA j q hq Hm) (by rw[pd.pages];exact U2) (by rw[lB.1,AR];rfl) (by rw[pd.pages];omega)
    rcases ih with⟨i1,i2,i3,⟨m',w',i4⟩,i5⟩|i1
    ·
     left;refine⟨i1,i2,i3,⟨m',w',?_⟩,i5⟩;rw[i4,b1,atI]
    ·
     exact .inr i1
   ·
    right;rw[if_pos (by rw[z];decide)];show some (jW (bx c ((t:Int)+2) (dZ c ((v.gen:Int)+1) id y).1))=some 7;rw[z];rfl
structure Lv(n:Nat)(x:WV):Prop where
 ok:Ok n x.v.ae
 wr:cP x
 rt:ft x.v
 pl:iE x.v.ae
 jY:(x.v.at_.length:Int)<=ki x.v.ae.size
 half:2*(x.v.at_.length:Int)<=((x.v.ae.blocks.length:Int) -4)*x.v.ae.pages
 idle: ∃j,j<x.v.ae.blocks.length -2/\cL x.v.ae.pages x.v.at_ j=0
theorem Lv.mono{n m:Nat}{x:WV}(h:Lv n x)(hm:m<=n):Lv m x:=⟨h.ok.mono hm,h.wr,h.rt,h.pl,h.jY,h.half,h.idle⟩
def mM(x:WV):Nat:=pf x.v.ae.pages (av x.v.ae x.v.at_)
theorem Lv.next{n m:Nat}{x y:WV}(h:Lv m x)(s:Sf x (cq x.v) y 0)(o:cP y)(k:Ok n y.v.ae)(hi: ∃j,j<y.v.ae.blocks.length -2/\cL y.v.ae.pages y.v.at_ j=0):Lv n y:=
 ⟨k,o,(s.cF rfl).1,h.pl.kd s.kd,by rw[s.len,s.kd.bR.size];exact h.jY,by rw[s.len,s.kd.bR.len,s.kd.bR.pages];exact h.half,hi⟩
theorem agw{n:Nat}{x:WV}{i:Nat}(h:Lv (n+100) x)(hg:x.v.gen+2<281474976710656)(hi:i<x.v.ae.blocks.length -2)(h0:0<cL x.v.ae.pages x.v.at_ i)(h1:(cL x.v.ae.pages x.v.at_ i:Int)<(ak x.v.ae ((i:Int)+2)).used):
  ((fC x (c0 x) i).2=0/\Lv n (fC x (c0 x) i).1/\mM (fC x (c0 x) i).1<mM x/\(fC x (c0 x) i).1.v.gen=x.v.gen+1)\/(fC x (c0 x) i).2=7:=by
 obtain⟨j,hj,Hr⟩:=h.idle;have cw:j≠i:=fun e=>by rw[e]at Hr;omega
 have hd:=eQ h.ok.ae;have jc:=h.rt.pl.mK;have eO:x.v.at_.length<=64:=h.wr.jY;have mg:=Ut (l:=c0 x) (i:=(i:Int)) h.wr h.rt h.pl (yf _ _) (Hf _ _) (by omega) (by rw[show(c0 x).length=_ from ly _ _];omega);have mP:=Kh (l:=c0 x) (i:=(i:Int)) h.wr (yf _ _);have rC:=mg.1;have U3:=h.ok.get (fl:=x.v.at_) jc hi;have mL:(c0 x).getD i dW=_:=h.ok.getD (fl:=x.v.at_) jc hi;rcases agq (n:=n+83) (i:=i) h.ok jc hj cw Hr with⟨t,w,t1,t2,t3,t4,t5,t6,t7⟩|tz
 ·
  have dS:qv x.v.ae (c0 x) i=false:=by
   rw[qv,show(bU x.v.ae ((c0 x).set (i:Int).toNat aZ)).2.2=0 from congrArg Prod.snd t4];rfl
  have pc:cJ x.v.ae (c0 x) i=((t:Int)+2,0):=by
   rw[cJ,if_neg (by rw[dS];simp)];exact t4
  rw[fC,pc]at rC mP⊢;rw[if_neg (by simp)]at rC mP⊢;have aH:(i:Int).toNat=i:=rfl;rw[aH]at rC mP⊢;change Ok (n+83) (bU x.v.ae ((c0 x).set i aZ)).1 at t5;change av (bU x.v.ae ((c0 x).set i aZ)).1 x.v.at_=(c0 x).set t ⟨0,0,w,false⟩at t6;change Kp x.v.at_ x.v.ae (bU x.v.ae ((c0 x).set i aZ)).1 at t7;generalize(bU x.v.ae ((c0 x).set i aZ)).1=c1 at*;have DD:=h.rt.kp t7;have fk:=t7.bR;have qb:uc c1.pages ((i:Int)+2) x.v.at_=cL x.v.ae.pages x.v.at_ i:=by rw[fk.pages];exact ags h.rt i
  have MD:=h.ok.Bi hi;have Bm:Std c1 x.v.at_:=DD.pl.mK;have tU:av c1 (x.v.at_++x.v.at_)=(c0 x).set t ⟨0,0,w,false⟩:=by
   rw[←t6];exact MA (by rw[fk.pages];omega) Bm (Bm.append Bm) (.c8 _) fun k=>⟨rfl,rfl,rfl,fun _=>xp (fun m _=>by rw[aqZ];exact or_self_iff) (by rw[fk.pages];omega)⟩
  have K2:t<c1.blocks.length -2:=by rw[fk.len];exact t2
  have zt:=t5.get (fl:=x.v.at_++x.v.at_) (Bm.append Bm) K2;rw[tU,aq7 (by rw[show(c0 x).length=_ from ly _ _];exact t2)]at zt;have U4:=aqP zt;have w8:(ak c1 ((t:Int)+2)).used=0:=(congrArg az.used U4).symm;have qP:cL c1.pages (x.v.at_++x.v.at_) t=0:=by have:=congrArg az.live U4;simp only at this;omega
  have U5:=MG (v:=x.v) (src:=(i:Int)+2) (t:=t) (by omega) (by omega) x.v.at_ 0 (n:=n+19) (c:=c1) (a:=x.v.at_) (m:=0) (w:=w) (t5.mono (by omega)) fk K2 DD.pl Bm rfl rfl (fun _ _=>rfl) (fun _ _ q _=>q) qP w8 (by rw[qb,fk.pages];omega);have hmk:=Hj (v:=(x.on c1).v) (src:=(i:Int)+2) (tgt:=(t:Int)+2) (by omega) (fun _=>by omega) (by show 1<=c1.pages;rw[fk.pages];omega) (x.on c1).v.at_ 0 (c:=(x.on c1).v.ae) (a:=(x.on c1).v.at_) (t7.ok h.ok.ae) DD.pl (.c8 _ _) DD.pl rfl (fun _=>⟨by omega,by show(t:Int)+2<c1.blocks.length;omega,t5.nb _⟩) rfl (fun _ _=>rfl) (fun j n hj=>by omega) rfl;have jP:bX x.v ((i:Int)+2) ((t:Int)+2) x.v.at_ 0 c1 x.v.at_=bX (x.on c1).v ((i:Int)+2) ((t:Int)+2) (x.on c1).v.at_ 0 (x.on c1).v.ae (x.on c1).v.at_:=by
   exact agx (v:=x.v) (u:=(x.on c1).v) fk.pages.symm rfl rfl _ _ _ _
  rw[jP]at U5;rcases U5 with⟨e1,e2,e3,⟨m',w',e4⟩,e5⟩|e1
  ·
   obtain⟨k1,k2,_,_⟩:=hmk;obtain⟨k3,k4,k5,k6⟩:=k2 e1;have HA:cZ (x.on c1) ((i:Int)+2) ((t:Int)+2)=((dY ((x.on c1).on (bX (x.on c1).v ((i:Int)+2) ((t:Int)+2) (x.on c1).v.at_ 0 (x.on c1).v.ae (x.on c1).v.at_).c) (bX (x.on c1).v ((i:Int)+2) ((t:Int)+2) (x.on c1).v.at_ 0 (x.on c1).v.ae (x.on c1).v.at_).a).1,decide ((dY ((x.on c1).on (bX (x.on c1).v ((i:Int)+2) ((t:Int)+2) (x.on c1).v.at_ 0 (x.on c1).v.ae (x.on c1).v.at_).c) (bX (x.on c1).v ((i:Int)+2) ((t:Int)+2) (x.on c1).v.at_ 0 (x.on c1).v.ae (x.on c1).v.at_).a).2=0),(dY ((x.on c1).on (bX (x.on c1).v ((i:Int)+2) ((t:Int)+2) (x.on c1).v.at_ 0 (x.on c1).v.ae (x.on c1).v.at_).c) (bX (x.on c1).v ((i:Int)+2) ((t:Int)+2) (x.on c1).v.at_ 0 (x.on c1).v.ae (x.on c1).v.at_).a).2):=by
    rw[cZ,e1]
   generalize hM:bX (x.on c1).v ((i:Int)+2) ((t:Int)+2) (x.on c1).v.at_ 0 (x.on c1).v.ae (x.on c1).v.at_=M at*;have pd:=fk.trans k1.bR;have fJ:cP ((x.on c1).on M.c):=(h.wr.on (t7.ok h.ok.ae) fk).on e2.ae k1.bR;have agy:Hw ((x.on c1).on M.c).v.ae ((x.on c1).on M.c).v.gen M.a:=⟨by show x.v.gen+1<_;omega,by rw[show M.a.length=x.v.at_.length from k5,show((x.on c1).on M.c).v.ae.size=x.v.ae.size from pd.size];exact h.jY,U1 e2.ae e3⟩;rcases US (n:=n+17) fJ (e2.mono (by omega)) agy with⟨w1,w2,w3,w4,w5,w6⟩|w1
   ·
    have DE:=Mn (a:=M.a) fJ (by
     have:=DD.kp k1;exact this) ((h.pl.kd t7.toKd).kd k1.toKd) k3 k5
    have hRW:=(DE.1.cF w1).1;have ud:dK x.v.ae (dY ((x.on c1).on M.c) M.a).1.v.ae:=pd.trans DE.1.kd.bR;rw[HA]at rC mP⊢;simp only[w1,decide_true]at rC mP⊢;generalize hW:(dY ((x.on c1).on M.c) M.a).1=W at*;have DF:Std W.v.ae M.a:=by have:=hRW.pl.mK;rwa [w3]at this
    have U6:av W.v.ae M.a=((c0 x).set t ⟨m',m',w',false⟩).set i ⟨0,(ak x.v.ae ((i:Int)+2)).used,(ak x.v.ae ((i:Int)+2)).aR,false⟩:=by
     have U7:av M.c (x.v.at_++M.a)=(c0 x).set t ⟨m',m',w',false⟩:=by
      rw[e4,tU,atI]
     have DG:Std M.c (x.v.at_++M.a):=(h.rt.pl.mK.kd t7.toKd (fun _ q=>q)|>.kd k1.toKd fun _ q=>q).append e3;have U8:=e2.get (fl:=x.v.at_++M.a) DG (i:=i) (by rw[pd.len];exact hi);rw[U7,arj t1,show(c0 x)[i]? =_ from U3]at U8;have U9:=aqP U8;have pP:1<=M.c.pages:=by rw[pd.pages];omega
     rw[←U7];refine Mz pP DG DF (by have:=DE.1.kd.bR;exact this) (fun k hk=>⟨w5 k,xp (fun q hq=>?_) pP⟩) ?_
     ·
      rw[aqZ];refine⟨.inr,fun g=>g.elim (fun g=>?_) id⟩;obtain⟨z,hz⟩:=arc g;have:=e5 z q hz (.inr (by rw[←pd.pages,hq];omega));exact anc this
     ·
      have my:kv M.a W.v.ae ((i:Int)+2):=by
       have:kv M.a c1 ((i:Int)+2):=k6;exact this.bR (k1.bR.trans DE.1.kd.bR)
      have:=(ub (by rw[ud.pages];omega) DF i).2 my;rw[w2.tell,this,w5 i];have u1:=congrArg az.used U9;have u2:=congrArg az.aR U9;simp only at u1 u2;rw[show(ak ((x.on c1).on M.c).v.ae ((i:Int)+2)).used=_ from u1.symm,show(ak ((x.on c1).on M.c).v.ae ((i:Int)+2)).aR=_ from u2.symm];rfl
    have hgt:(c0 x)[t]? =_:=h.ok.get (fl:=x.v.at_) jc t2;have gL:=DC (p:=x.v.ae.pages) (x:=⟨m',m',w',false⟩) hgt;have aqA:kx x.v.ae.pages ⟨m',m',w',false⟩=0:=by
     rw[kx];simp only[arv,if_false];split
     ·
      rename_i e;rw[if_neg (by omega)]
     ·
      omega
    have Va:((c0 x).set t ⟨m',m',w',false⟩)[i]? =_:=(arj t1).trans U3;have K0:1<=kx x.v.ae.pages ⟨cL x.v.ae.pages x.v.at_ i,(ak x.v.ae ((i:Int)+2)).used,(ak x.v.ae ((i:Int)+2)).aR,false⟩:=by
     rw[kx];simp only[arv,if_false];rw[if_neg (by omega)];omega
    have MJ:cL W.v.ae.pages W.v.at_ i=0:=by
     have my:kv M.a W.v.ae ((i:Int)+2):=by
      have:kv M.a c1 ((i:Int)+2):=k6;exact this.bR (k1.bR.trans DE.1.kd.bR)
     rw[w3];exact(ub (by rw[ud.pages];omega) DF i).2 my
    have Vb:i<W.v.ae.blocks.length -2:=by rw[ud.len];exact hi
    by_cases Vc:(ak x.v.ae ((i:Int)+2)).used=x.v.ae.pages
    ·
     rw[mL]at rC mP⊢;rw[if_pos (.inr Vc)]at rC mP⊢;left;refine⟨rfl,h.next rC mP.1.ok (w2.mono (by omega)) ⟨i,Vb,MJ⟩,?_,w4⟩;rw[mM,mM,ud.pages,w3,U6];have gZ:=DC (p:=x.v.ae.pages) (x:=⟨0,(ak x.v.ae ((i:Int)+2)).used,(ak x.v.ae ((i:Int)+2)).aR,false⟩) Va;have Vd:kx x.v.ae.pages ⟨0,(ak x.v.ae ((i:Int)+2)).used,(ak x.v.ae ((i:Int)+2)).aR,false⟩=0:=by
      rw[kx];simp only[arv,if_false,if_true];rw[if_neg (by omega)]
     change _<pf x.v.ae.pages (c0 x);omega
    ·
     rw[mL]at rC mP⊢;rw[if_neg (by rintro(g|g);cases g;exact Vc g)]at rC mP⊢;rcases w2.Hv (n:=n) (b:=(i:Int)+2) (by omega) (by omega)with⟨q1,q2⟩|q1
     ·
      simp only[q1]at rC mP⊢;left;have my:kv M.a W.v.ae ((i:Int)+2):=(ub (by rw[ud.pages];omega) DF i).1 (by rw[←w3];exact MJ);obtain⟨b1,b2⟩:=Hu w2.ae DF my q1;have kc:=(wD ((i:Int)+2) w2.ae).2;refine⟨rfl,h.next rC mP.1.ok q2 ⟨i,by show i<(cz W.v.ae _).1.blocks.length -2;rw[kc.len];exact Vb,by show cL (cz W.v.ae ((i:Int)+2)).1.pages W.v.at_ i=0;rw[kc.pages];exact MJ⟩,?_,w4⟩;show pf (cz W.v.ae ((i:Int)+2)).1.pages (av (cz W.v.ae ((i:Int)+2)).1 W.v.at_)<_;rw[w3,b1,U6,kc.pages,ud.pages,atI];have gZ:=DC (p:=x.v.ae.pages) (x:=⟨0,0,(ak W.v.ae ((i:Int)+2)).aR+1,false⟩) Va;have Vd:kx x.v.ae.pages ⟨0,0,(ak W.v.ae ((i:Int)+2)).aR+1,false⟩=0:=by
       rw[kx];simp
      change _<pf x.v.ae.pages (c0 x);omega
     ·
      right;simp only[q1];rfl
   ·
    right;rw[HA];have hnz: ¬(dY ((x.on c1).on M.c) M.a).2=0:=by rw[w1];decide
    rw[if_pos (.inl (decide_eq_false hnz))];exact w1
  ·
   right;have HA:cZ (x.on c1) ((i:Int)+2) ((t:Int)+2)=((x.on c1).on (bX (x.on c1).v ((i:Int)+2) ((t:Int)+2) (x.on c1).v.at_ 0 (x.on c1).v.ae (x.on c1).v.at_).c,false,7):=by
    rw[cZ,e1]
   rw[HA,if_pos (.inl rfl)]
 ·
  right;have Ve:(bU x.v.ae ((c0 x).set (i:Int).toNat aZ)).2.2=7:=tz;have dS:qv x.v.ae (c0 x) i=false:=by rw[qv,Ve];rfl
  have pc:(cJ x.v.ae (c0 x) i).2=7:=by rw[cJ,if_neg (by rw[dS];simp)];exact Ve
  rw[fC,if_pos (by rw[pc];decide),pc];rfl
where
 agx {v u:VV} {src tgt:Int} (h1:v.ae.pages=u.ae.pages) (h2:v.at_=u.at_) (h3:v.gen=u.gen) (l:List Int): ∀(id:Nat) (c:CV) (a:List Int),bX v src tgt l id c a=bX u src tgt l id c a:=by
  induction l with
  |nil=>intro id c a;rfl
  |cons n r ih=>
   intro id c a;rw[bX,bX,h1,h2,h3,ih,ih]
theorem agz{n:Nat}{x:WV}{j:Nat}(h:Lv (n+17) x)(hj:j<x.v.ae.blocks.length -2)(h0:cL x.v.ae.pages x.v.at_ j=0)(h1:0<(ak x.v.ae ((j:Int)+2)).used)(h2:(ak x.v.ae ((j:Int)+2)).used<x.v.ae.pages):
  ((kl x (c0 x)).2=0/\Lv n (kl x (c0 x)).1/\mM (kl x (c0 x)).1<mM x/\(kl x (c0 x)).1.v.gen=x.v.gen)\/(kl x (c0 x)).2=7:=by
 have hd:=eQ h.ok.ae;have jc:=h.rt.pl.mK;have hw:=MC h.ok.ae jc (by omega);have hg:=h.ok.get (fl:=x.v.at_) jc hj;have hwo:=h.ok.aR ((j:Int)+2);have mg:=Mr (l:=c0 x) h.rt (Hf _ _);have pc:=Ki (l:=c0 x) h.wr (yf _ _);have hD:(nQ x.v.ae (c0 x)).2=true:=by
  cases hq:(nQ x.v.ae (c0 x)).2 with
  |true=>rfl
  |false=>
   have:=tw (Bh (R:=nf x.v.ae.pages) hw) hq _ (ard (f:=hY (nf x.v.ae.pages)) (anc hg));rw[Bj rfl (by simp only[nf,alM,decide_eq_true_eq];omega)]at this;have Hy:lZ ⟨cL x.v.ae.pages x.v.at_ j,(ak x.v.ae ((j:Int)+2)).used,(ak x.v.ae ((j:Int)+2)).aR,false⟩=true:=by
    simp only[lZ,h0,asR,arH,alM,decide_eq_true_eq];exact⟨rfl,h1⟩
   rw[Hy]at this;cases this
 obtain⟨z,hz,a1,a2,a3,a4,a5⟩:=oN (fun x h=>(lA h).1) (show(fo (bQ (nf x.v.ae.pages) (c0 x)) x.v.ae.pages lZ [r9]).2=true from hD);have pU:(c0 x)[(nQ x.v.ae (c0 x)).1.toNat]? =some z:=hz;change 0<=(nQ x.v.ae (c0 x)).1 at a4;rw[kl,if_neg (by rw[hD];simp)]at mg pc⊢;generalize nQ x.v.ae (c0 x)=T at*;obtain⟨e1,e2⟩:=vE (by omega) jc pU;rw[h.ok.tell]at e1;have mr:=(lA a3).2.1;have C4:=(lA a3).2.2;rw[nf,alM,decide_eq_true_eq]at a2;have w8:=a2.1;rw[e1]at mr C4 w8;simp only at mr C4 w8;have eT:T.1=((T.1.toNat:Nat):Int):=by omega
 rw[eT]at mg pc⊢;have my:=(ub (by omega) jc T.1.toNat).1 (by omega);rcases h.ok.Hv (n:=n) (b:=((T.1.toNat:Nat):Int)+2) (by omega) (by omega)with⟨q1,q2⟩|q1
 ·
  left;simp only[q1]at mg pc⊢;obtain⟨b1,b2⟩:=Hu h.ok.ae jc my q1;have kc:=(wD (((T.1.toNat:Nat):Int)+2) h.ok.ae).2;refine⟨rfl,h.next mg pc.1.ok q2 ⟨T.1.toNat,by show _<(cz x.v.ae _).1.blocks.length -2;rw[kc.len];exact e2,by show cL (cz x.v.ae _).1.pages x.v.at_ _=0;rw[kc.pages];omega⟩,?_,rfl⟩;show pf (cz x.v.ae (((T.1.toNat:Nat):Int)+2)).1.pages (av (cz x.v.ae (((T.1.toNat:Nat):Int)+2)).1 x.v.at_)<pf x.v.ae.pages (av x.v.ae x.v.at_);rw[b1,kc.pages];have gZ:=DC (p:=x.v.ae.pages) (x:=⟨0,0,(ak x.v.ae (((T.1.toNat:Nat):Int)+2)).aR+1,false⟩) pU;have Vd:kx x.v.ae.pages ⟨0,0,(ak x.v.ae (((T.1.toNat:Nat):Int)+2)).aR+1,false⟩=0:=by
   rw[kx];simp
  have kU:kx x.v.ae.pages z=1:=by
   rw[e1,kx];simp only[arv,if_false];rw[if_pos mr,if_pos ⟨C4,w8⟩]
  change pf x.v.ae.pages ((c0 x).set _ _)<pf x.v.ae.pages (c0 x);omega
 ·
  right;simp only[q1];rfl
theorem agA{p:Int}{l:List az}(h:0<pf p l): ∃(i:Nat) (x:az),l[i]? =some x/\kx p x≠0:=by
 apply arf;intro hn;have:pf p l=0:=UU fun x hx=>by
  obtain⟨i,hi⟩:=arc hx;apply arf;intro bM;exact hn ⟨i,x,hi,bM⟩
 omega
theorem agB{n:Nat}{x:WV}(h:Lv (n+100) x)(hg:x.v.gen+2<281474976710656)(hP:0<mM x):
  ((eR x).2=0/\Lv n (eR x).1/\mM (eR x).1<mM x/\(eR x).1.v.gen<=x.v.gen+1)\/(eR x).2=7:=by
 have hd:=eQ h.ok.ae;have jc:=h.rt.pl.mK;have AV:As x.v.gen=false:=decide_eq_false (by omega);rw[eR]
 by_cases hv:(sk x).2=true
 ·
  rw[if_pos ⟨hv,AV⟩];obtain⟨i,v1,v2,v3,v4⟩:=ago h.ok jc hv;have v1':(sk x).1=i:=v1;rw[v1'];rcases agw h hg v2 v3 v4 with⟨r1,r2,r3,r4⟩|r1
  ·
   rw[if_pos (by rw[r1];decide)];exact .inl ⟨r1,r2,r3,by omega⟩
  ·
   rw[if_pos (by rw[r1];decide)];exact .inr r1
 ·
  rw[if_neg (fun g=>hv g.1)];obtain⟨i,z,hz,bM⟩:=agA hP;obtain⟨e1,e2⟩:=vE (by omega) jc hz;rw[h.ok.tell]at e1;have hu:=h.ok.Bi e2;rw[e1,kx]at bM;simp only[arv,if_false]at bM
  by_cases hl:cL x.v.ae.pages x.v.at_ i=0
  ·
   rw[if_pos (by omega)]at bM;have hb:0<(ak x.v.ae ((i:Int)+2)).used/\(ak x.v.ae ((i:Int)+2)).used<x.v.ae.pages:=by
    apply arf;intro hn;rw[if_neg hn]at bM;exact bM rfl
   rcases agz (h.mono (by omega:n+17<=n+100)) e2 hl hb.1 hb.2 with⟨r1,r2,r3,r4⟩|r1
   ·
    exact .inl ⟨r1,r2,r3,by omega⟩
   ·
    exact .inr r1
  ·
   rw[if_neg (by omega)]at bM;exact absurd (agp h.ok jc e2 (by omega) (by omega)) hv
def jd(p:Int)(x:az):Int:=if x.bad=true then 0 else kK p x
def lK(p:Int)(x:az):Int:=if x.bad=true then 0 else if x.live=0 then kK p x else 0
def ph(l:List Int):Int:=l.foldl max 0
theorem HB{M:Int}(l:List Int): ∀s:Int,l.foldl max s<=M↔s<=M/\ ∀x∈l,x<=M:=by
 induction l with
 |nil=>intro s;simp
 |cons y r ih=>
  intro s;rw[asw,ih,Int.max_le];simp only[aqW,forall_eq_or_imp];exact and_assoc
theorem agC{p:Int}(l:List az)(h: ∀x∈l,0<=kK p x): ∀s:Int×Int,0<=s.2->l.foldl (sg p) s=(s.1+fH (l.map (jd p)),(l.map (lK p)).foldl max s.2):=by
 induction l with
 |nil=>intro s _;simp[fH]
 |cons y r ih=>
  intro s hs;have ih':=ih fun x hx=>h x (aq2 _ hx);have hy:=h y aqU;rw[asw];have bu:0<=(sg p s y).2:=by
   rw[sg];split
   ·
    exact hs
   simp only;split<;>omega
  rw[ih' _ bu,arh,arh,asw,fH];rw[sg,jd,lK]
  by_cases hb:y.bad=true
  ·
   rw[if_pos hb,if_pos hb,if_pos hb];rw[asQ,Int.max_eq_left hs]
  rw[if_neg hb,if_neg hb,if_neg hb]
  by_cases hl:y.live=0
  ·
   rw[if_pos hl,if_pos hl,Int.add_assoc]
  rw[if_neg hl,if_neg hl,Int.max_eq_left hs,Int.add_assoc]
theorem Vf{c:CV}{fl:List Int}(hk:aX c=true):kL c fl=(fH ((av c fl).map (jd c.pages)) -ph ((av c fl).map (lK c.pages)),fH ((av c fl).map (jd c.pages))):=by
 have:=agC (p:=c.pages) (av c fl) (fun x hx=>(FM (tD hk hx) hk).1) (0,0) (arU _);rw[kL,fI,this,ph];simp only[asQ]
theorem Vg{f:az->Int}: ∀{l:List az} {i:Nat} {x y:az},l[i]? =some y->fH ((l.set i x).map f)=fH (l.map f) -f y+f x
 |[],i,x,y,h=>by simp at h
 |z::r,0,x,y,h=>by
  obtain rfl:z=y:=by simpa using h
  simp only[asf,arh,fH];omega
 |z::r,i+1,x,y,h=>by
  have:=Vg (f:=f) (l:=r) (i:=i) (x:=x) (y:=y) (by simpa using h);simp only[ath,arh,fH];omega
theorem agD{pages:Int}{l:List Int}: ∀(D k:Nat),((List.range D).map fun i=>jU pages l k i).sum<=k:=by
 have step: ∀(D:Nat) (P:Bool) (b:Int),((List.range D).map fun i:Nat=>if P&&decide (b=(i:Int)+2)then 1 else 0).sum<=(if 2<=b/\b<(D:Int)+2 then 1 else 0):=by
  intro D P b
  induction D with
  |zero=>simp
  |succ D ih=>
   rw[ar1,art,atO];simp only[arh,arZ,atz,List.sum_nil,arP]
   by_cases e:b=(D:Int)+2
   ·
    have hc:(if 2<=b/\b<(D:Int)+2 then 1 else 0)=0:=if_neg (by omega);have w9:(if 2<=b/\b<((D+1:Nat):Int)+2 then 1 else 0)=1:=if_pos (by omega);have A0:(if P&&decide (b=(D:Int)+2)then 1 else 0)<=1:=by split<;>omega
    rw[hc]at ih;rw[w9];omega
   have A0:(if P&&decide (b=(D:Int)+2)then 1 else 0)=0:=if_neg (by simp[e]);have hc4:(if 2<=b/\b<(D:Int)+2 then 1 else 0)<=(if 2<=b/\b<((D+1:Nat):Int)+2 then 1 else 0):=by
    by_cases g:2<=b/\b<(D:Int)+2
    ·
     rw[if_pos g,if_pos (by omega)];exact aqY _
    rw[if_neg g];exact arn _
   rw[A0];omega
 intro D k
 induction k with
 |zero=>
  have: ∀i∈List.range D,jU pages l 0 i=0:=fun i _=>by simp[jU]
  rw[arT this];have: ∀n:Nat,((List.range n).map fun _:Nat=>(0:Nat)).sum=0:=fun n=>by
   induction n with
   |zero=>rfl
   |succ n ih=>rw[ar1,art,atO,ih];rfl
  rw[this];exact aqY _
 |succ k ih=>
  have: ∀i∈List.range D,jU pages l (k+1) i=jU pages l k i+(if mX l k&&decide ((l.getD k 0 -1)/pages=(i:Int)+2)then 1 else 0):=fun i _=>Cz pages l k i;rw[arT this];have Ij: ∀(f g:Nat->Nat) (n:Nat),((List.range n).map fun i=>f i+g i).sum=((List.range n).map f).sum+((List.range n).map g).sum:=fun f g n=>by
   induction n with
   |zero=>rfl
   |succ n ih=>
    rw[ar1,art,art,art,atO,atO,atO,ih];simp only[arh,arZ,atz,List.sum_nil];omega
  have e:=Ij (fun i=>jU pages l k i) (fun i=>if mX l k&&decide ((l.getD k 0 -1)/pages=(i:Int)+2)then 1 else 0) D;have h2:=step D (mX l k) ((l.getD k 0 -1)/pages);have h1:(if 2<=(l.getD k 0 -1)/pages/\(l.getD k 0 -1)/pages<(D:Int)+2 then 1 else 0)<=1:=by split<;>omega
  refine atu (Nat.le_of_eq e) ?_;exact Nat.add_le_add ih (atu h2 h1)
theorem agE{c:CV}{fl:List Int}{f:az->Int}{g:Nat->Int}(hp:1<=c.pages)(hs:Std c fl)(h: ∀i,i<c.blocks.length -2->f (pe c fl i)=g i):fH ((av c fl).map f)=fH ((List.range (c.blocks.length -2)).map g):=by
 rw[yS hp hs,atT];congr 1;refine arT fun i hi=>?_;exact h i (arw.1 hi)
theorem Vh(p:Int)(f:Nat->Nat): ∀D:Nat,fH ((List.range D).map fun i=>p -(f i:Int))=(D:Int)*p -(((List.range D).map f).sum:Nat)
 |0=>by simp[fH]
 |D+1=>by
  have ih:=Vh p f D;rw[ar1,art,art,QO,atO,ih];simp only[arh,arZ,fH,atz,List.sum_nil];rw[show((D+1:Nat):Int)*p=(D:Int)*p+p by rw[Int.natCast_add,Int.add_mul];omega];omega
theorem agF{n:Nat}{x:WV}(h:Lv n x)(hP:mM x=0){need:Int}(hn:need<=x.v.at_.length):need<=(kL x.v.ae x.v.at_).1:=by
 have hd:=eQ h.ok.ae;have hp:1<=x.v.ae.pages:=by omega
 have jc:=h.rt.pl.mK;have hz: ∀i,i<x.v.ae.blocks.length -2->kx x.v.ae.pages (pe x.v.ae x.v.at_ i)=0:=fun i hi=>by
  apply arf;intro bM;have hg:=h.ok.get (fl:=x.v.at_) jc hi;rw[←h.ok.tell]at hg;have:=DC (p:=x.v.ae.pages) (x:=aZ) hg;have hb:kx x.v.ae.pages aZ=0:=rfl;change pf x.v.ae.pages (av x.v.ae x.v.at_)=0 at hP;omega
 have zt: ∀i,i<x.v.ae.blocks.length -2->kK x.v.ae.pages (pe x.v.ae x.v.at_ i)=x.v.ae.pages -(cL x.v.ae.pages x.v.at_ i:Nat):=fun i hi=>by
  have h0:=hz i hi;have hu:=h.ok.Bi hi;have hl:=h.ok.UW jc hi;rw[h.ok.tell,kx]at h0;rw[h.ok.tell,kK];simp only[arv,if_false]at h0⊢
  by_cases mr:(cL x.v.ae.pages x.v.at_ i:Int)=0
  ·
   rw[if_pos mr]at h0;have hb: ¬(0<(ak x.v.ae ((i:Int)+2)).used/\(ak x.v.ae ((i:Int)+2)).used<x.v.ae.pages):=fun g=>by rw[if_pos g]at h0;cases h0
   split
   ·
    omega
   omega
  rw[if_neg mr]at h0;rw[if_neg (fun g=>mr g.1)];omega
 rw[Vf h.ok.ae];simp only;have agG:fH ((av x.v.ae x.v.at_).map (jd x.v.ae.pages))=((x.v.ae.blocks.length -2:Nat):Int)*x.v.ae.pages -(((List.range (x.v.ae.blocks.length -2)).map fun i=>cL x.v.ae.pages x.v.at_ i).sum:Nat):=by
  rw[agE hp jc (g:=fun i=>x.v.ae.pages -(cL x.v.ae.pages x.v.at_ i:Nat)) fun i hi=>by
   rw[jd,if_neg (by rw[h.ok.tell];simp)];exact zt i hi]
  exact Vh _ _ _
 have A4:((List.range (x.v.ae.blocks.length -2)).map fun i=>cL x.v.ae.pages x.v.at_ i).sum<=x.v.at_.length:=by
  have:=agD (pages:=x.v.ae.pages) (l:=x.v.at_) (x.v.ae.blocks.length -2) x.v.at_.length;rwa [arT fun i _=>Hs hp i (jc.pos hp)]at this
 have aqB:ph ((av x.v.ae x.v.at_).map (lK x.v.ae.pages))<=x.v.ae.pages:=by
  refine(HB _ 0).2 ⟨by omega,fun z hz=>?_⟩;obtain⟨y,hy,rfl⟩:=ar0.1 hz;have:=FM (tD h.ok.ae hy) h.ok.ae;rw[lK];split
  ·
   omega
  split<;>omega
 have aqC:=h.half;have hB:=h.wr.len;generalize x.v.ae.pages=p at*;generalize((List.range (x.v.ae.blocks.length -2)).map fun i=>cL p x.v.at_ i).sum=S at*;have e:((x.v.ae.blocks.length -2:Nat):Int)*p=((x.v.ae.blocks.length:Int) -4)*p+2*p:=by
  rw[←Int.add_mul];congr 1;omega
 rw[agG,e];omega
theorem Vi: ∀(k:Nat) {n:Nat} {x:WV} {need:Int},mM x<k->Lv (n+100*(mM x+1)) x->x.v.gen+mM x+2<281474976710656->need<=x.v.at_.length->
  ((ng k x need).2=0/\Lv n (ng k x need).1/\need<=(kL (ng k x need).1.v.ae (ng k x need).1.v.at_).1/\(ng k x need).1.v.gen<=x.v.gen+mM x)\/(ng k x need).2=7
 |0,n,x,need,hk,h,hg,hn=>by omega
 |k+1,n,x,need,hk,h,hg,hn=>by
  rw[ng]
  by_cases h1:need<=(kL x.v.ae x.v.at_).1
  ·
   rw[if_pos h1];exact .inl ⟨rfl,h.mono (by omega),h1,by simp only;omega⟩
  ·
   rw[if_neg h1];have bS:u6 x.v.ae x.v.last=x.v.ae.pages:=by
    rw[u6,if_neg (by rw[h.ok.nb];simp),if_neg (by rw[h.ok.nb];simp)]
   rw[if_neg (fun g=>by have:=h.wr.pages;omega)];have hP:0<mM x:=by
    apply arf;intro h0;exact h1 (agF h (by omega) hn)
   rcases agB (n:=n+100*mM x) (h.mono (by omega)) (by omega) hP with⟨c1,c2,c3,c4⟩|c1
   ·
    rw[if_pos c1];have lB:=(FW h.wr).1.ye;rcases Vi k (n:=n) (need:=need) (x:=(eR x).1) (by omega) (c2.mono (by omega)) (by omega) (by rw[lB];exact hn)with⟨s1,s2,s3,s4⟩|s1
    ·
     exact .inl ⟨s1,s2,s3,by omega⟩
    ·
     exact .inr s1
   ·
    rw[if_neg (by rw[c1];decide),if_pos (by rw[c1];decide)];exact .inr c1
theorem agH{p:Int}(hp:p<=16){l:List az}(h: ∀x∈l,x.used<=p/\0<=x.live):pf p l<=16*l.length:=by
 unfold pf
 induction l with
 |nil=>simp
 |cons z r ih=>
  have:=ih fun x hx=>h x (aq2 _ hx);have hz:=h z aqU;rw[arh,atz,aqQ];have:kx p z<=16:=by
   rw[kx];split
   ·
    omega
   split
   ·
    split<;>omega
   omega
  omega
theorem agI{x:WV}(h:cP x):mM x<=480:=by
 have hd:=eQ h.ae;have:=agH hd.2.2.2.1 (l:=av x.v.ae x.v.at_) fun z hz=>by
  have t:=tD h.ae hz;exact⟨t.Av,t.Q2⟩
 rw[ly]at this;unfold mM;omega
theorem agJ{n:Nat}{x:WV}{need:Int}(h:Lv (n+50000) x)(hg:x.v.gen+500<281474976710656)(hn:need<=x.v.at_.length):
  ((km x need).2=0/\Lv n (km x need).1/\need<=(kL (km x need).1.v.ae (km x need).1.v.at_).1/\(km x need).1.v.gen<=x.v.gen+480)\/(km x need).2=7:=by
 have hP:=agI h.wr;have ho:=h.ok.ops;rcases Vi ((cN -x.v.ae.ops).toNat+1) (n:=n) (x:=x) (need:=need) (by omega) (h.mono (by omega)) (by omega) hn with⟨s1,s2,s3,s4⟩|s1
 ·
  exact .inl ⟨s1,s2,s3,by rw[km];omega⟩
 ·
  exact .inr s1
def rD(c:CV)(fl:List Int):Int:=(kL c fl).1
theorem DH{c:CV}{fl:List Int}(hk:aX c=true):rD c fl=fH ((av c fl).map (jd c.pages)) -ph ((av c fl).map (lK c.pages)):=by
 rw[rD,Vf hk]
theorem MK{l:List Int}{x:Int}(h:x∈l):x<=ph l:=((HB (M:=ph l) l 0).1 (arU _)).2 x h
theorem Vj(l:List Int):0<=ph l:=((HB (M:=ph l) l 0).1 (arU _)).1
theorem agK{p:Int}{l:List az}{i:Nat}{x y:az}(h:l[i]? =some y)(hn:jd p x=jd p y -1)(hm:lK p x<=lK p y):fH (l.map (jd p)) -ph (l.map (lK p)) -1<=fH ((l.set i x).map (jd p)) -ph ((l.set i x).map (lK p)):=by
 have hs:=Vg (f:=jd p) (x:=x) h;have:ph ((l.set i x).map (lK p))<=ph (l.map (lK p)):=by
  refine(HB _ 0).2 ⟨Vj _,fun z hz=>?_⟩;obtain⟨w,hw,rfl⟩:=ar0.1 hz;rcases arq hw with g|rfl
  ·
   exact MK (ard g)
  exact Int.le_trans hm (MK (ard (anc h)))
 omega
theorem agL{l:List az}{j:Nat}{x:az}(h:l[j]? =some x)(hb:x.bad=false)(hl:x.live=0):1<=dL l:=by
 rw[dL];refine List.length_pos_of_mem (a:=x) (ari.2 ⟨List.mem_of_getElem? h,?_⟩);rw[hb,hl];rfl
theorem agM{l:List az}(h:1<=dL l): ∃(j:Nat) (x:az),l[j]? =some x/\x.bad=false/\x.live=0:=by
 obtain⟨x,hx⟩:=List.exists_mem_of_length_pos (show 0<_ from h);obtain⟨h1,h2⟩:=ari.1 hx;simp only[alM,arX,decide_eq_true_eq]at h2;obtain⟨j,hj⟩:=arc h1;exact⟨j,x,hj,h2.1,h2.2⟩
theorem Vk{x y:az}(hx:x.live≠0): ∀{l:List az} {i:Nat},l[i]? =some y->dL l<=dL (l.set i x)+1
 |[],i,h=>by simp at h
 |z::r,0,h=>by
  simp only[asf,dL,arG];split<;>split<;>simp<;>omega
 |z::r,i+1,h=>by
  have:=Vk hx (l:=r) (i:=i) (by simpa using h);simp only[dL]at this;simp only[ath,dL,arG];split
  ·
   simp only[aqQ];omega
  exact this
theorem Vl{x y:az}(hx:x.live≠0)(hy:y.live≠0): ∀{l:List az} {i:Nat},l[i]? =some y->dL (l.set i x)=dL l
 |[],i,h=>by simp at h
 |z::r,0,h=>by
  obtain rfl:z=y:=by simpa using h
  simp only[asf,dL,arG,hx,hy,decide_false,Bool.and_false];rfl
 |z::r,i+1,h=>by
  have:=Vl hx hy (l:=r) (i:=i) (by simpa using h);simp only[dL]at this;simp only[ath,dL,arG];split
  ·
   simp only[aqQ];omega
  exact this
theorem Vm{p M:Int}: ∀{l:List az},(∀x∈l,x.bad=false/\(x.live≠0->jd p x<=0)/\(x.live=0->jd p x<=M))->fH (l.map (jd p))<=(dL l:Int)*M
 |[],_=>by simp[fH,dL]
 |z::r,h=>by
  have ih:=Vm (l:=r) fun x hx=>h x (aq2 _ hx);obtain⟨z1,z2,z3⟩:=h z aqU;simp only[dL]at ih;simp only[arh,fH,dL,arG,z1,asR,arH]
  by_cases hl:z.live=0
  ·
   rw[decide_eq_true hl,if_pos rfl,aqQ,Int.natCast_add,Int.add_mul];have:=z3 hl;omega
  rw[decide_eq_false hl];have:=z2 hl;simp only[arv,if_false];omega
theorem agN{n:Nat}{c:CV}{fl:List Int}{aF:Bool}{p:PV}(h:Ok (n+18) c)(hs:Std c fl)(h3:3<=c.blocks.length)(hc:1<=rD c fl)(hm:lW p c.size=true):
  ((cY c fl aF p).2.2=0/\Ok n (cY c fl aF p).1/\ ∀gl:List Int,(∀k,k∈gl↔k∈fl\/k=(cY c fl aF p).2.1)->(1<=dL (av c fl)->1<=dL (av (cY c fl aF p).1 gl))/\rD c fl -1<=rD (cY c fl aF p).1 gl/\Std (cY c fl aF p).1 gl)\/(cY c fl aF p).2.2=7:=by
 have hd:=eQ h.ae;have MI:(dj p c.size).2=0:=by rw[dj,if_pos hm]
 have bS:((dj p c.size).1.length:Int)=c.size:=Dq hm;rw[cY,if_neg (by rw[MI];simp)];generalize(dj p c.size).1=b at*;rw[DH h.ae]at hc;have key: ∀{i:Nat} {d:CV} (y:az),Ok (n+1) d->dK c d->Std d fl->i<c.blocks.length -2->av d fl=(av c fl).set i y->y.bad=false->y.used<c.pages->(∀z,(av c fl)[i]? =some z->z.bad=false/\jd c.pages y=jd c.pages z/\(y.live=0->z.live=0)/\(y.live≠0->y.live=z.live))->
   (dL (av c fl)≥1->y.live=0->2<=dL (av c fl))->
   ((bx d ((i:Int)+2) b=0/\Ok n (bA d ((i:Int)+2) b)/\ ∀gl:List Int,(∀k,k∈gl↔k∈fl\/k=((i:Int)+2)*c.pages+(ak d ((i:Int)+2)).used+1)->(1<=dL (av c fl)->1<=dL (av (bA d ((i:Int)+2) b) gl))/\rD c fl -1<=rD (bA d ((i:Int)+2) b) gl/\Std (bA d ((i:Int)+2) b) gl)\/bx d ((i:Int)+2) b=7):=by
  intro i d y bF fk Vn hi hb hyb hyu hz hid;have mL:=bF.get Vn (i:=i) (by rw[fk.len];exact hi);have dD:i<(av c fl).length:=by rw[ly];exact hi
  rw[hb,aq7 dD]at mL;have ey:=aqP mL;have hu:(ak d ((i:Int)+2)).used=y.used:=by rw[ey]
  have A4:(cL d.pages fl i:Int)=y.live:=by rw[ey]
  obtain⟨z,pM⟩: ∃z,(av c fl)[i]? =some z:=⟨_,aqR dD⟩;obtain⟨z1,z2,z3,z4⟩:=hz z pM;rcases bF.prog (n:=n) (b:=(i:Int)+2) (p:=b) (by omega) (by rw[fk.len];omega) (by rw[hu,fk.pages];exact hyu) (by rw[fk.size];exact bS)with⟨e,g⟩|e
  ·
   left;refine⟨e,g,fun gl yw=>?_⟩;obtain⟨b1,b2⟩:=UN (gl:=gl) bF.ae Vn e (by rw[fk.pages];exact yw);rw[hb,atI]at b1;have pd:=fk.trans (iv d ((i:Int)+2) b);have sF:((cL d.pages fl i:Int)+1)≠0:=by omega
   refine⟨fun h1=>?_,?_,b2⟩
   ·
    rw[b1]
    by_cases nr:y.live=0
    ·
     have:=hid h1 nr;have:=Vk (x:=⟨(cL d.pages fl i:Int)+1,(ak d ((i:Int)+2)).used+1,(ak d ((i:Int)+2)).aR,false⟩) sF pM;omega
    ·
     rw[Vl (x:=⟨(cL d.pages fl i:Int)+1,(ak d ((i:Int)+2)).used+1,(ak d ((i:Int)+2)).aR,false⟩) sF (by rw[←z4 nr];exact nr) pM];exact h1
   ·
    rw[DH h.ae,DH g.ae,b1,pd.pages];refine agK pM ?_ ?_
    ·
     rw[←z2,jd,jd,if_neg (by simp),if_neg (by rw[hyb];simp),kK,kK];simp only;rw[if_neg (fun g=>sF g.1)]
     by_cases nr:y.live=0/\c.pages -y.used=0
     ·
      omega
     ·
      rw[if_neg nr];omega
    ·
     rw[lK,if_neg (by simp),if_neg sF,lK,if_neg (by rw[z1];simp)];split
     ·
      have:=FM (tD h.ae (anc pM)) h.ae;exact this.1
     ·
      exact arU _
  ·
   exact .inr e
 obtain⟨m,Jv⟩: ∃m,(cN -c.ops).toNat+1=m+1:=⟨_,rfl⟩;rw[Jv,iL]
 suffices main:(∃(i:Nat) (d:CV),bf c fl aF=(d,(i:Int)+2,0)/\((bx d ((i:Int)+2) b=0/\Ok n (bA d ((i:Int)+2) b)/\ ∀gl:List Int,(∀k,k∈gl↔k∈fl\/k=((i:Int)+2)*c.pages+(ak d ((i:Int)+2)).used+1)->(1<=dL (av c fl)->1<=dL (av (bA d ((i:Int)+2) b) gl))/\rD c fl -1<=rD (bA d ((i:Int)+2) b) gl/\Std (bA d ((i:Int)+2) b) gl)\/bx d ((i:Int)+2) b=7))\/ ∃(d:CV) (b0:Int),bf c fl aF=(d,b0,7) by
  rcases main with⟨i,d,he,agO⟩|⟨d,b0,he⟩
  ·
   rw[he];simp only[if_true];rcases agO with⟨r1,r2,r3⟩|r1
   ·
    rw[if_pos r1];exact .inl ⟨rfl,r2,r3⟩
   ·
    rw[if_neg (by rw[r1];decide),if_pos (by rw[r1];decide)];exact .inr r1
  ·
   rw[he,if_neg (show ¬(7:Int)=0 by decide),if_pos (show(7:Int)≠9 by decide)];exact .inr rfl
 have hw:=MC h.ae hs h3
 by_cases hA:(l6 c fl).2=true
 ·
  obtain⟨z,hz,a1,a2,a3,a4,a5⟩:=oN (fun x h=>(se h).1) hA;have pU:(av c fl)[(l6 c fl).1.toNat]? =some z:=hz;change 0<=(l6 c fl).1 at a4;obtain⟨e1,e2⟩:=vE (by omega) hs pU;have qg:bf c fl aF=(c,(((l6 c fl).1.toNat:Nat):Int)+2,0):=by rw[bf,if_pos hA,arY a4]
  simp only[rh,decide_eq_true_eq]at a2;refine .inl ⟨_,_,qg,key z (h.mono (by omega)) (.c8 _) hs e2 (Hx pU).symm a1 (se a3).2 (fun w hw=>?_) (fun _ g=>absurd g (by omega))⟩;obtain rfl:=aqP (pU.symm.trans hw);exact⟨a1,rfl,id,fun _=>rfl⟩
 ·
  have ME:=tw (Bh (R:=rh) hw) (show(fo (bQ rh (av c fl)) c.pages (mw c.pages) [An,r9]).2=false by simpa[l6,fq]using hA);have iG: ∀x∈av c fl,x.bad=false/\(x.live≠0->jd c.pages x<=0)/\(x.live=0->jd c.pages x<=ph ((av c fl).map (lK c.pages))):=fun x hx=>by
   obtain⟨j,hj⟩:=arc hx;obtain⟨e1,e2⟩:=vE (by omega) hs hj;rw[h.tell]at e1;have eo:x.bad=false:=by rw[e1]
   have Fv:0<=x.live:=by rw[e1];simp only;omega
   refine⟨eo,fun hl=>?_,fun hl=>?_⟩
   ·
    have:=ME _ (ard (f:=hY rh) hx);rw[Bj eo (by simp only[rh,decide_eq_true_eq];omega),mw,eo]at this;simp only[asR,arH,decide_eq_false_iff_not]at this;rw[jd,if_neg (by rw[eo];simp),kK,if_neg (fun g=>hl g.1)];omega
   ·
    have:lK c.pages x=jd c.pages x:=by
     have G4: ¬x.bad=true:=by rw[eo];simp
     rw[lK,jd,if_neg G4,if_neg G4,if_pos hl]
    rw[←this];exact MK (ard hx)
  have Vo:2<=dL (av c fl):=by
   have hr:=Vm iG;have h0:=Vj ((av c fl).map (lK c.pages));apply arf;intro hn;have hle:(dL (av c fl):Int)*ph ((av c fl).map (lK c.pages))<=1*ph ((av c fl).map (lK c.pages)):=Int.mul_le_mul_of_nonneg_right (by omega) h0;omega
  have bM: ¬(dL (av c fl)=0\/(dL (av c fl)=1/\aF=false)):=by rintro(g|g)<;>omega
  by_cases hB:(jX c fl).2=true
  ·
   obtain⟨z,hz,a1,a2,a3,a4,a5⟩:=oN (fun x h=>(se h).1) hB;have pU:(av c fl)[(jX c fl).1.toNat]? =some z:=hz;change 0<=(jX c fl).1 at a4;obtain⟨e1,e2⟩:=vE (by omega) hs pU;have qg:bf c fl aF=(c,(((jX c fl).1.toNat:Nat):Int)+2,0):=by rw[bf,if_neg hA,if_neg bM,if_pos hB,arY a4]
   refine .inl ⟨_,_,qg,key z (h.mono (by omega)) (.c8 _) hs e2 (Hx pU).symm a1 (se a3).2 (fun w hw=>?_) (fun _ _=>Vo)⟩;obtain rfl:=aqP (pU.symm.trans hw);exact⟨a1,rfl,id,fun _=>rfl⟩
  ·
   have hfd:=Ua h.ae h3 (by omega) hB;have MF:=tw (Bh (R:=gh) hw) (show(fo (bQ gh (av c fl)) c.pages (mw c.pages) [An,r9]).2=false by simpa[jX,fq]using hB);obtain⟨z,hz,a1,a2,a3,a4,a5⟩:=oN (fun x h=>(lA h).1) hfd;have pU:(av c fl)[(jj c fl).toNat]? =some z:=hz;change 0<=jj c fl at a4;obtain⟨e1,e2⟩:=vE (by omega) hs pU;have qA:=(lA a3).2.1;have hzu:c.pages<=z.used:=by
    have:=MF _ (ard (f:=hY gh) (anc pU));rw[Bj a1 a2,mw,a1]at this;simp only[asR,arH,decide_eq_false_iff_not]at this;omega
   have MD:=h.Bi e2;rw[h.tell]at e1;have my:=(ub (by omega) hs (jj c fl).toNat).1 (by rw[e1]at qA;simp only at qA;omega);have eD:jj c fl+2=(((jj c fl).toNat:Nat):Int)+2:=by rw[arY a4]
   rcases h.Hv (n:=n+1) (b:=(((jj c fl).toNat:Nat):Int)+2) (by omega) (by omega)with⟨q1,q2⟩|q1
   ·
    have qg:bf c fl aF=((cz c ((((jj c fl).toNat:Nat):Int)+2)).1,(((jj c fl).toNat:Nat):Int)+2,0):=by rw[bf,if_neg hA,if_neg bM,if_neg hB,eD,q1]
    obtain⟨b1,b2⟩:=Hu h.ae hs my q1;refine .inl ⟨_,_,qg,key _ q2 (wD _ h.ae).2 b2 e2 b1 rfl (by simp only;omega) (fun w hw=>?_) (fun _ _=>Vo)⟩;obtain rfl:=aqP (pU.symm.trans hw);refine⟨a1,?_,fun _=>qA,fun g=>absurd rfl g⟩;have aqD:z.used<=c.pages:=by rw[e1];exact MD.2
    rw[jd,if_neg (by simp),jd,if_neg (by rw[a1];simp),kK,kK,if_neg (show ¬((0:Int)=0/\c.pages -0=0) by omega),if_pos ⟨qA,by omega⟩];simp only;omega
   ·
    right;have qg:bf c fl aF=((cz c ((((jj c fl).toNat:Nat):Int)+2)).1,(((jj c fl).toNat:Nat):Int)+2,7):=by rw[bf,if_neg hA,if_neg bM,if_neg hB,eD,q1]
    exact⟨_,_,qg⟩
theorem Vp{c:CV}{fl gl:List Int}(hk:aX c=true)(h:av c gl=av c fl):rD c gl=rD c fl:=by rw[DH hk,DH hk,h]
theorem ML{v:VV}{aF:Bool}(hg:v.gen+1<281474976710656)(Vq:v.at_.length≤64): ∀(l:List (Int×List UInt8)) {n:Nat} {c:CV} {a:List Int},Ok (n+18*l.length) c→3≤c.blocks.length→Pl c v.at_→Std c a→a.length=v.at_.length→l.Pairwise (fun p q=>p.1≠q.1)→
    (∀x∈l,0<=x.1/\x.1<v.at_.length/\(x.2.length:Int)<=dO c.size)->(∀x∈l,a[x.1.toNat]? =v.at_[x.1.toNat]?)->(mc l:Int)<=rD c (v.at_++a)->1<=dL (av c (v.at_++a))->
    ((gB v aF l c a).2.2=0/\Ok n (gB v aF l c a).1/\Std (gB v aF l c a).1 (gB v aF l c a).2.1/\1<=dL (av (gB v aF l c a).1 (v.at_++(gB v aF l c a).2.1)))\/(gB v aF l c a).2.2=7
  |[],n,c,a,h,h3,hv,ha,dS,hp,hi,hs,hc,hid=> .inl ⟨rfl,h,ha,hid⟩
  |x::r,n,c,a,h,h3,hv,ha,dS,hp,hi,hs,hc,hid=>by
   obtain⟨gL,gZ⟩:=arl.1 hp;obtain⟨x0,x1,x2⟩:=hi x aqU;have hd:=eQ h.ae;have Vr:x.1.toNat<v.at_.length:=by omega
   obtain⟨y,hy⟩: ∃y,v.at_[x.1.toNat]? =some y:=⟨_,aqR Vr⟩;have KX:a[x.1.toNat]? =some y:=(hs x aqU).trans hy
   have Dw: ∀{k N:Int},k∈a->k∈v.at_\/k∈a.set x.1.toNat N:=fun{k N} hk=>by
      obtain⟨j,hj⟩:=arc hk
      by_cases e:j=x.1.toNat
      ·rw[e,KX]at hj
       obtain rfl:=aqP hj;exact .inl (anc hy)
      ·right
       exact anc (i:=j) (by rw[arj (fun g=>e g.symm)];exact hj)
   have Vs: ∀{N:Int},∀q∈r,(a.set x.1.toNat N)[q.1.toNat]? =v.at_[q.1.toNat]? :=fun{N} q hq=>by
      have h0:=(hi q (aq2 _ hq)).1;have bM:=gL q hq;rw[arj (by omega)];exact hs q (aq2 _ hq)
   rw[gB]
   by_cases h0:x.2.length=0
   ·rw[if_pos h0]
    have MM:mc (x::r)=mc r:=by
        rw[mc,List.filter_cons_of_neg (by simp[h0])];rfl
    have bu:Std c (a.set x.1.toNat 0):=fun k hk nG=>by
        rcases arq hk with g|g
        ·exact ha k g nG
        ·exact absurd g nG
    have yQ:av c (v.at_++a.set x.1.toNat 0)=av c (v.at_++a):=by
        refine MA (by omega) (hv.mK.append ha) (hv.mK.append bu) (.c8 _) fun i=>⟨rfl,rfl,rfl,fun _=>xp (fun k hk=>?_) (by omega)⟩;have nG:k≠0:=fun e=>by
          rw[e]at hk;have:((0:Int) -1)/c.pages<0:=atA (by decide) (by omega);omega
        rw[aqZ,aqZ];constructor
        ·rintro(g|g)
         ·exact .inl g
         ·rcases arq g with g|g
          ·exact .inr g
          ·exact absurd g nG
        ·rintro(g|g)
         ·exact .inl g
         ·exact Dw g
    exact ML hg Vq r (h.mono (by simp only[aqQ];omega)) h3 hv bu (by rw[aru,dS]) gZ (fun q hq=>hi q (aq2 _ hq)) Vs (by rw[Vp h.ae yQ,←MM];exact hc) (by rw[yQ];exact hid)
   ·rw[if_neg h0]
    have MM:mc (x::r)=mc r+1:=by
        rw[mc,List.filter_cons_of_pos (by rw[decide_eq_true_eq];omega)];rfl
    rw[MM]at hc;obtain⟨k1,_,_,k4⟩:=fM.1 h.ok;have Bd:lW (iA v x) c.size=true:=ra.2 ⟨r8.2 ⟨k4,by omega⟩, .inl rfl,x0,by show x.1<64;omega,hg,x2⟩;have nC:=(Ub (c:=c) (fl:=v.at_++a) (aF:=aF) (p:=iA v x) h.ae h3).1;rcases agN (n:=n+18*r.length) (c:=c) (fl:=v.at_++a) (aF:=aF) (p:=iA v x) (h.mono (by simp only[aqQ];omega)) (hv.mK.append ha) h3 (by omega) Bd with⟨p1,p2,p3⟩|p1
    ·rw[if_neg (by rw[p1];simp)]
     generalize cY c (v.at_++a) aF (iA v x)=P at*
     obtain⟨q1,q2,q3⟩:=p3 (v.at_++a.set x.1.toNat P.2.1) (fun k=>by
          rw[aqZ,aqZ];constructor
          ·rintro(g|g)
           ·exact .inl (.inl g)
           ·rcases arq g with g|g
            ·exact .inl (.inr g)
            ·exact .inr g
          ·rintro((g|g)|g)
           ·exact .inl g
           ·exact Dw g
           ·right
            rw[g];exact anc (i:=x.1.toNat) (by rw[aq7 (by rw[dS];exact Vr)]))
     exact ML hg Vq r p2 (by rw[nC.bR.len];exact h3) (hv.kd nC.toKd fun _ g=>aro _ g) (fun k hk=>q3 k (asg _ hk)) (by rw[aru,dS]) gZ (fun q hq=>by
          obtain⟨z0,z1,z2⟩:=hi q (aq2 _ hq);exact⟨z0,z1,by rw[nC.bR.size];exact z2⟩) Vs (by omega) (q1 hid)
    ·right
     rw[if_pos (by rw[p1];decide)];exact p1
structure Items(v:VV)(l:List (Int×List UInt8)):Prop where
  ne:l.Pairwise fun p q=>p.1≠q.1
  it: ∀x∈l,0<=x.1/\x.1<v.at_.length/\(x.2.length:Int)<=dO v.ae.size
  len:l.length<=v.at_.length
theorem agP(l:List (Int×List UInt8)):mc l<=l.length:=atk _ _
theorem Lv.by{n:Nat}{x:WV}(h:Lv n x)(b:Bool):Lv n {x with beyond:=b}:=⟨h.ok,h.wr.by b,h.rt,h.pl,h.jY,h.half,h.idle⟩
theorem agQ{n:Nat}{x:WV}{l:List (Int×List UInt8)}(h:Lv (n+60000) x)(hg:x.v.gen+600<281474976710656)(hl:Items x.v l):
    ((hG x l).2=0/\Lv n (hG x l).1/\(hG x l).1.v.gen<=x.v.gen+481)\/(hG x l).2=7:=by
  have hf:=h.wr.jY;have oE:=hl.len;have sF:=agP l;have mg:=Ux (l:=l) h.wr h.rt h.pl fun y hy=>(hl.it y hy).1;have n7:=Kk (l:=l) h.wr;have yK:Sf x (cq x.v) (cG x l).1 (cG x l).2:=(Uw (x:={x with beyond:=false}) (need:=mc l) (h.wr.by false) h.rt h.pl).cE
  have iB:=FX (l:=l) h.wr;rw[hG]at mg n7⊢;rcases agJ (n:=n+2000) (x:={x with beyond:=false}) (need:=mc l) (h.by false|>.mono (by omega)) (by show x.v.gen+500<_;omega) (by show(mc l:Int)<=x.v.at_.length;omega)with⟨s1,s2,s3,s4⟩|s1
  ·change(cG x l).2=0 at s1
   change Lv (n+2000) (cG x l).1 at s2;change(mc l:Int)<=(kL (cG x l).1.v.ae (cG x l).1.v.at_).1 at s3;change(cG x l).1.v.gen<=x.v.gen+480 at s4;rw[if_neg (by rw[s1];simp)]at mg n7⊢;have hlen:=yK.len;have eZ:=yK.kd.bR;have hd:=eQ s2.ok.ae;have h3:3<=(cG x l).1.v.ae.blocks.length:=by have:=s2.wr.sh;omega
   have jc:=s2.rt.pl.mK
   have yQ:av (cG x l).1.v.ae ((cG x l).1.v.at_++(cG x l).1.v.at_)=av (cG x l).1.v.ae (cG x l).1.v.at_:=
      MA (by omega) jc (jc.append jc) (.c8 _) fun i=>⟨rfl,rfl,rfl,fun _=>xp (fun k _=>by rw[aqZ];exact or_self_iff) (by omega)⟩
   have agR:1<=dL (av (cG x l).1.v.ae (cG x l).1.v.at_):=by
      obtain⟨j,j1,j2⟩:=s2.idle;exact agL (s2.ok.get jc j1) rfl (by simp only;omega)
   have hit:=ML (v:=(cG x l).1.v) (aF:=(cG x l).1.beyond) (by omega) (by omega) l (n:=n+2) (c:=(cG x l).1.v.ae) (a:=(cG x l).1.v.at_) (s2.ok.mono (by omega)) h3 s2.rt.pl jc rfl hl.ne (fun y hy=>by
      obtain⟨z0,z1,z2⟩:=hl.it y hy;exact⟨z0,by rw[hlen];exact z1,by rw[eZ.size];exact z2⟩) (fun _ _=>rfl) (by rw[Vp s2.ok.ae yQ];exact s3) (by rw[yQ];exact agR)
   have nB:=Hi (v:=(cG x l).1.v) (aF:=(cG x l).1.beyond) l (c:=(cG x l).1.v.ae) (a:=(cG x l).1.v.at_) s2.ok.ae h3 s2.rt.pl s2.rt.pl (fun y hy=>(hl.it y hy).1);change _\/(fW x l).2.2=7 at hit;rcases hit with⟨i1,i2,i3,i4⟩|i1
   ·change(fW x l).2.2=0 at i1
    change Ok (n+2) (fW x l).1 at i2;change Std (fW x l).1 (fW x l).2.1 at i3;change 1<=dL (av (fW x l).1 ((cG x l).1.v.at_++(fW x l).2.1))at i4;rw[if_neg (by rw[i1];simp)]at mg n7⊢;obtain⟨t1,t2,t3⟩:=nB;obtain⟨t4,t5,t6⟩:=t2 i1;change Kp (cG x l).1.v.at_ (cG x l).1.v.ae (fW x l).1 at t1;change(fW x l).2.1.length=(cG x l).1.v.at_.length at t6;have fJ:cP ((cG x l).1.on (fW x l).1):=s2.wr.on i2.ae t1.bR;rcases US (n:=n) fJ i2 ⟨by show(cG x l).1.v.gen+1<_;omega,by rw[t6,show((cG x l).1.on (fW x l).1).v.ae.size=(cG x l).1.v.ae.size from t1.bR.size];exact s2.jY,U1 i2.ae i3⟩with⟨w1,w2,w3,w4,w5,w6⟩|w1
    ·left
     rw[w1]at mg;refine⟨w1,⟨w2,n7.ok,(mg.cF rfl).1,h.pl.kd mg.kd,by rw[mg.len,mg.kd.bR.size];exact h.jY,by rw[mg.len,mg.kd.bR.len,mg.kd.bR.pages];exact h.half,?_⟩,by rw[w4];show(cG x l).1.v.gen+1<=_;omega⟩;obtain⟨j,z,hz,z1,z2⟩:=agM i4;have DG:Std (fW x l).1 ((cG x l).1.v.at_++(fW x l).2.1):=(jc.kd t1.toKd fun _ g=>g).append i3;obtain⟨e1,e2⟩:=vE (by rw[t1.bR.pages];omega) DG hz;have ud:dK (fW x l).1 (dY ((cG x l).1.on (fW x l).1) (fW x l).2.1).1.v.ae:=(J6 fJ (agS i3 (by show 1<=(fW x l).1.pages;rw[t1.bR.pages];omega)) t6).1.bR;refine⟨j,by rw[ud.len];exact e2,?_⟩;rw[i2.tell]at e1;rw[e1]at z2;simp only at z2;have my:=(ub (by rw[t1.bR.pages];omega) DG j).1 (by omega);have hS:=(mg.cF rfl).1.pl.mK;refine(ub (by rw[ud.pages,t1.bR.pages];omega) hS j).2 ?_;rw[w3];intro k hk nG;rw[ud.pages];exact my k (asg _ hk) nG
    ·exact .inr w1
   ·right
    rw[if_pos (by rw[i1];decide)];exact i1
  ·right
   change(cG x l).2=7 at s1;rw[if_pos (by rw[s1];decide)];exact s1
where
  agS {c:CV} {a:List Int} (h:Std c a) (hp:1<=c.pages):iw c a:=fun k hk=>by
    by_cases h0:k=0
    ·exact .inl h0
    ·obtain⟨q1,q2,_⟩:=mu.1 (h k hk h0)
     exact .inr ⟨(h.pos hp k hk).resolve_left h0,q1,q2⟩
theorem agT{v:VV}{l:List (Int×List UInt8)}(h:Items v l):sq v l=true:=by
  refine CI.2 fun i hi=>?_;have hx:=aqR hi;obtain⟨z0,z1,z2⟩:=h.it l[i] (asG hi);rw[tF,show l.getD i (0,[])=l[i] by simp[List.getD,hi],alM,tE,alM,alM,decide_eq_true_eq,decide_eq_true_eq,decide_eq_true_eq];refine⟨⟨⟨z0,z1⟩,z2⟩,?_⟩;rw[arX]
  cases hc:((l.take i).map Prod.fst).contains l[i].1 with
  |false=>rfl
  |true=>
   exfalso;obtain⟨p,hp,e⟩:=ar0.1 (asb.1 hc);obtain⟨j,hj,e2⟩:=List.mem_take_iff_getElem.1 hp;have:=ar3.1 h.ne j i (by omega) hi (by omega);rw[e2]at this;exact this e
theorem agU{n:Nat}{v:VV}{l:List (Int×List UInt8)}(h:Lv (n+60000) ⟨v,false⟩)(hg:v.gen+600<281474976710656)(hl:Items v l):
    ((fO v l).2=0/\Lv n ⟨(fO v l).1,false⟩/\(fO v l).1.gen<=v.gen+481)\/(fO v l).2=7:=by
  have hb:=agQ (l:=l) h hg hl;have e:oQ (v.ae.blocks.length+1) ⟨v,false⟩ l=hG ⟨v,false⟩ l:=by
    rw[oQ,if_neg];rintro⟨g,_⟩;rcases hb with⟨b1,_⟩|b1
    ·rw[b1]at g;cases g
    ·rw[b1]at g;cases g
  rw[fO,if_neg (fun g=>g ⟨Bc.2 h.rt,by omega,agT hl⟩),if_neg (by have:=h.ok.off;rw[show(⟨v,false⟩:WV).v.ae=v.ae from rfl]at this;rw[this];simp),e];rcases hb with⟨b1,b2,b3⟩|b1
  ·exact .inl ⟨b1,b2.by false,b3⟩
  ·exact .inr b1
theorem agV{n:Nat}{f:FV}(h:jt f)(k:Ok n f.aq.ae)(hp:iE f.aq.ae)(hi: ∃j,j<f.aq.ae.blocks.length -2/\cL f.aq.ae.pages f.aq.at_ j=0):Lv n ⟨f.aq,false⟩:=by
  have hid:=h.ids;have hc:ez f.aq.ae<=ki f.aq.ae.size/\ez f.aq.ae<=tH f.aq.ae.blocks.length f.aq.ae.pages/2:=by rw[ez,yo];omega
  have hl:tH f.aq.ae.blocks.length f.aq.ae.pages<=((f.aq.ae.blocks.length:Int) -4)*f.aq.ae.pages:=by
    have h4:=(fM.1 h.rt.bears).2.1;have hd:=eQ k.ae;rw[tH];split
    ·exact asC (by omega) (by omega)
    ·exact arU _
  exact⟨k,FY (Bc.2 h.rt),h.rt,hp,by show(f.aq.at_.length:Int)<=ki f.aq.ae.size;omega,by show 2*(f.aq.at_.length:Int)<=((f.aq.ae.blocks.length:Int) -4)*f.aq.ae.pages;omega,hi⟩
theorem agW(t:List Rt){room:Int}(hr:0<=room)(id:Nat):((rl t (room/20).toNat id).length:Int)<=room:=by
  have:=Ko t (room/20).toNat id;omega
theorem agX{n:Nat}{f:FV}{l:List Ch}(h:jt f)(k:Lv (n+60000) ⟨f.aq,false⟩)(hg:f.aq.gen+600<281474976710656)(he:dm f.table l=0)(hm: ¬ei f.aq.ae<(cf f.table l).length):
    ((cA f l).2=0/\Lv n ⟨(cA f l).1.aq,false⟩/\(cA f l).1.aq.gen<=f.aq.gen+481)\/(cA f l).2=7:=by
  have hE:=Bg (l:=l) h;rw[if_neg hm]at hE
  by_cases hc:eW (eL f) (dz f l)=[]
  ·rw[(Hq h he hm hc).1]
   exact .inl ⟨rfl,k.mono (by omega),by simp only;omega⟩
  ·have hlen:(eL f).length=(dz f l).length:=by
      have:=(Dl hE).1;have h2:=h.ids;rw[sP h,AG];have:((dz f l).length:Int)=ez f.aq.ae:=this;omega
   have AJ:(eL f).length=f.aq.at_.length:=by rw[sP h,AG]
   have agY:Items f.aq (eW (eL f) (dz f l)):=by
      refine⟨(GW (eL f) (dz f l) _).imp fun g=>by omega,fun x hx=>?_,?_⟩
      ·obtain⟨i,i1,rfl,i3⟩:=LN hx
       refine⟨Int.natCast_nonneg _,by simp only;omega,?_⟩;obtain⟨_,_,_,e⟩:=LM hE;have hi:i<(dz f l).length:=by omega
       have kg:(dz f l).getD i []∈dz f l:=by
          simp only[List.getD,aqR hi,as3];exact asG hi
       rw[show dz f l=lC (cf f.table l) (ez f.aq.ae).toNat (dO f.aq.ae.size/20).toNat from e]at kg⊢;rw[lC]at kg⊢;obtain⟨j,_,hj⟩:=ar0.1 kg;simp only;rw[←hj]
       exact agW _ (by rw[dO];split;·rename_i hf;have:=r8.1 hf;omega
                       ·exact arU _) j
      ·have:=F3 (eL f) (dz f l) (max (eL f).length (dz f l).length)
       rw[eW];omega
   rw[Gm (xo.2 h) he hE hc];exact agU k hg agY
def yT(n p:Nat):CV×Int:=pE ((n:Int)+5) ((p:Int)+2) 64
def qH(n p:Nat):FV×Int:=pK (yT n p).1
def MN(f:FV):Bool:=jm f&&decide (f.table=[])&&f.aq.ae.blocks.all (fun b=> !b.bad&&decide (b.aR=0))&&decide (f.aq.ae.ops<=10)&& !f.aq.ae.off&&decide (f.aq.ae.aU=[])&&decide (f.aq.gen<=10)&&f.aq.at_.all (fun n=>decide (n=0))&&decide (eW (eL f) (dz f [])=[])
def Vt(n p:Nat):Bool:=decide ((yT n p).2=0)&&decide ((qH n p).2=0)&&MN (qH n p).1&&aX (yT n p).1&&decide ((qH n p).1.aq.ae.blocks.length=n+5)&&decide ((qH n p).1.aq.ae.pages=(p:Int)+2)&&decide ((qH n p).1.aq.ae.size=64)
theorem agZ: ∀n,n<8-> ∀p,p<7->Vt n p=true:=by decide+kernel
structure Rm(k:Nat)(f:FV):Prop where
 fb:jt f
 lv:Lv k ⟨f.aq,false⟩
 n5:f.aq.ae.aU=[]
 off:f.aq.ae.off=false
 gen:f.aq.gen+k<281474976710656
 can:eW (eL f) (dz f [])=[]
 jY:(f.table.length:Int)<=ei f.aq.ae
theorem Rm.mono{k m:Nat}{f:FV}(h:Rm k f)(hm:m<=k):Rm m f:=⟨h.fb,h.lv.mono hm,h.n5,h.off,asE (Nat.add_le_add_left hm _) h.gen,h.can,h.jY⟩
theorem ag0{f:FV}(h:MN f=true):Rm 1000000000 f/\f.table=[]:=by
 simp only[MN,alM,decide_eq_true_eq,aq8,arX]at h;obtain⟨⟨⟨⟨⟨⟨⟨⟨h1,h2⟩,h3⟩,h4⟩,h5⟩,h6⟩,h7⟩,h8⟩,h9⟩:=h;have yU:=xo.1 h1;have qu:cN=1099511627776:=rfl;have fj: ∀b:Int,(ak f.aq.ae b).bad=false/\(ak f.aq.ae b).aR=0:=fun b=>by
  rcases aqX b.toNat f.aq.ae.blocks.length with hl|hl
  ·
   have hm:ak f.aq.ae b∈f.aq.ae.blocks:=by
    simp only[ak,List.getD,aqR hl,as3];exact asG hl
   exact h3 _ hm
  simp only[ak,List.getD,aqV hl,Option.getD_none];exact⟨rfl,rfl⟩
 have h4l:4<=(f.aq.ae.blocks.length:Int):=(fM.1 yU.rt.bears).2.1;have hp:2<=f.aq.ae.pages:=(fM.1 yU.rt.bears).2.2.1;have bF:Ok 1000000000 f.aq.ae:=⟨yU.rt.bears,fun b=>(fj b).1,h5,(by rw[h6];exact fun x hx=>absurd hx atf),by omega,fun b=>by rw[(fj b).2];omega⟩;refine⟨⟨yU,agV yU bF (.nil h6) ⟨0,by omega,?_⟩,h6,h5,asE (Nat.add_le_add_right h7 _) (by decide),h9,?_⟩,h2⟩
 ·
  refine(ub (by omega) yU.rt.pl.mK 0).2 fun k hk nG=>?_;exact absurd (h8 k hk) nG
 rw[h2];have hm:=yU.jl;have:0<=ei f.aq.ae:=by
  rw[ei,AE,jl];split
  ·
   omega
  rename_i g;have hi:=KD f.aq.ae;have h0:0<=dO f.aq.ae.size/20:=by omega
  have h1:0<=yo f.aq.ae.blocks.length f.aq.ae.pages f.aq.ae.size*(dO f.aq.ae.size/20):=asC (by omega) h0;omega
 simpa using this
theorem Vu{n p:Nat}(hn:n<8)(hp:p<7):(yT n p).2=0/\aX (yT n p).1=true/\(qH n p).2=0/\Rm 1000000000 (qH n p).1/\(qH n p).1.table=[]/\ei (qH n p).1.aq.ae=AE ((n:Int)+5) ((p:Int)+2) 64:=by
 have h:=agZ n hn p hp;simp only[Vt,alM,decide_eq_true_eq]at h;obtain⟨⟨⟨⟨⟨⟨h1,h2⟩,h3⟩,h4⟩,h5⟩,h6⟩,h7⟩:=h;obtain⟨g1,g2⟩:=ag0 h3;refine⟨h1,h4,h2,g1,g2,?_⟩;rw[ei,h5,h6,h7];rfl
theorem ag1{g k:Nat}(h:g+(k+60000)<281474976710656):g+600<281474976710656:=asE (Nat.add_le_add_left (atu (by decide:600<=60000) (Nat.le_add_left _ _)) g) h
theorem ag2{g g2 k:Nat}(h:g+(k+60000)<281474976710656)(h2:g2<=g+481):g2+k<281474976710656:=asE (by omega:g2+k<=g+(k+60000)) h
theorem Rm.step{k:Nat}{f:FV}{l:List Ch}(h:Rm (k+60000) f)(he:dm f.table l=0)(hm: ¬ei f.aq.ae<(cf f.table l).length):(cA f l).2=0/\Rm k (cA f l).1/\(cA f l).1.table=cf f.table l/\ei (cA f l).1.aq.ae=ei f.aq.ae:=by
 obtain⟨q1,q2,q3,q4,q5,q6,q7⟩:=agf h.fb h.n5 h.off l;have hg:=h.gen;have A4:=h.lv;have hg2:f.aq.gen+600<281474976710656:=ag1 h.gen;have dS:=agX (n:=k) h.fb A4 hg2 he hm;have a1:(cA f l).2=0:=by
  rcases dS with g|g
  ·
   exact g.1
  exact absurd g q6
 have a23:Lv k ⟨(cA f l).1.aq,false⟩/\(cA f l).1.aq.gen<=f.aq.gen+481:=by
  rcases dS with g|g
  ·
   exact g.2
  exact absurd g q6
 obtain⟨a2,a3⟩:=a23;have Vv:=UI h.fb (.nil h.n5) he hm;have hc:=Mu Vv.kd.bR;have ht:=(q4 a1).2;refine⟨a1,⟨q1,a2,q2,q3,ag2 h.gen a3,?_,by rw[ht,hc.1];omega⟩,ht,hc.1⟩;have hE:=Bg (l:=l) h.fb;rw[if_neg hm]at hE;have GP:=Bg (l:=[]) q1;have HC:cf (cA f l).1.table []=(cA f l).1.table:=by rw[cf];split<;>rfl
 rw[HC,ht,hc.1,if_neg hm]at GP;have A1:dz (cA f l).1 []=dz f l:=by
  rw[dz,dz,HC,ht,hc.2,Vv.kd.bR.size]
 by_cases Vw:eW (eL f) (dz f l)=[]
 ·
  obtain⟨e1,e2⟩:=Hq h.fb he hm Vw;rw[e1];exact h.can
 have hold:eL (cA f l).1=dz f l:=by
  rw[sP q1];have hlen:(eL f).length=(dz f l).length:=by
   have:=(Dl hE).1;have h2:=h.fb.ids;rw[sP h.fb,AG];have:((dz f l).length:Int)=ez f.aq.ae:=this;omega
  have hs:=Uz (l:=eW (eL f) (dz f l)) h.fb.rt (.nil h.n5);rw[←sP h.fb,UH hlen]at hs;have ew:=Gm (xo.2 h.fb) he hE Vw;rw[ew]at a1⊢;exact(hs.cF a1).2
 rw[hold,A1];exact TD _
theorem Rm.same{k:Nat}{f:FV}(h:Rm k f){l:List Ch}(he:dm f.table l=0)(hl:cf f.table l=f.table):cA f l=(f,0):=by
 have HC:cf f.table []=f.table:=by rw[cf];split<;>rfl
 have hn:dz f l=dz f []:=by rw[dz,dz,hl,HC]
 have hf:=h.jY;exact(Hq h.fb he (by rw[hl];omega) (by rw[hn];exact h.can)).1
theorem Rm.stays{k:Nat}{f:FV}(h:Rm (k+60000) f)(l:List Ch):Rm k (cA f l).1/\((cA f l).2=0->dm f.table l=0/\(cA f l).1.table=cf f.table l)/\((cA f l).2≠0->(cA f l).1=f):=by
 by_cases he:dm f.table l=0
 ·
  by_cases hm:ei f.aq.ae<(cf f.table l).length
  ·
   rw[Mw h.fb he hm];exact⟨h.mono (by omega),fun g=>absurd (show(5:Int)=0 from g) (by decide),fun _=>rfl⟩
  obtain⟨a1,a2,a3,a4⟩:=h.step he hm;exact⟨a2,fun _=>⟨he,a3⟩,fun g=>absurd a1 g⟩
 rw[Mv h.fb he];exact⟨h.mono (by omega),fun g=>absurd g he,fun _=>rfl⟩
def MO(t:List Rt)(l:List Ch)(m:Int):Int:=if dm t l=0/\m<(cf t l).length then 5 else dm t l
theorem Rm.done{k:Nat}{f:FV}(h:Rm (k+60000) f)(l:List Ch):(cA f l).2=MO f.table l (ei f.aq.ae)/\Rm k (cA f l).1/\((cA f l).2=0->(cA f l).1.table=cf f.table l)/\((cA f l).2≠0->(cA f l).1=f)/\ei (cA f l).1.aq.ae=ei f.aq.ae:=by
 rw[MO]
 by_cases he:dm f.table l=0
 ·
  by_cases hm:ei f.aq.ae<(cf f.table l).length
  ·
   rw[Mw h.fb he hm,if_pos ⟨he,hm⟩];exact⟨rfl,h.mono (by omega),fun g=>absurd (show(5:Int)=0 from g) (by decide),fun _=>rfl,rfl⟩
  obtain⟨a1,a2,a3,a4⟩:=h.step he hm;rw[if_neg (fun g=>hm g.2),he];exact⟨a1,a2,fun _=>a3,fun g=>absurd a1 g,a4⟩
 rw[Mv h.fb he,if_neg (fun g=>he g.1)];exact⟨rfl,h.mono (by omega),fun g=>absurd g he,fun _=>rfl,rfl⟩
section
variable {α:Type} (f:α->Nat)
def HD(l:List α):Prop:=l.Pairwise fun a b=>f a<=f b
structure qI(l l':List α):Prop where
 HE:HD f l'
 same: ∀k,l'.filter (fun x=>decide (f x=k))=l.filter (fun x=>decide (f x=k))
variable {f}
theorem qI.refl{l:List α}(h:HD f l):qI f l l:=⟨h,fun _=>rfl⟩
theorem qI.trans{a b c:List α}(h: ∀k,b.filter (fun x=>decide (f x=k))=a.filter (fun x=>decide (f x=k)))(h':qI f b c):qI f a c:=⟨h'.HE,fun k=>(h'.same k).trans (h k)⟩
theorem qI.mem{l l':List α}(h:qI f l l'){x:α}:x∈l'↔x∈l:=by
 have h1:=h.same (f x);have e: ∀m:List α,x∈m↔x∈m.filter fun y=>decide (f y=f x):=fun m=>by simp[ari]
 rw[e l',h1,←e l]
theorem qI.length{l l':List α}(h:qI f l l'):l'.length=l.length:=by
 have key: ∀(n:Nat) (a b:List α),a.length=n->(∀k,b.filter (fun x=>decide (f x=k))=a.filter (fun x=>decide (f x=k)))->b.length=a.length:=by
  intro n
  induction n using Nat.strongRecOn with
  |_ n ih=>
   intro a b hn hs
   cases a with
   |nil=>
    cases b with
    |nil=>rfl
    |cons y b=>have:=hs (f y);simp at this
   |cons x a=>
    have e1: ∀m:List α,m.length=(m.filter fun y=>decide (f y=f x)).length+(m.filter fun y=> !decide (f y=f x)).length:=fun m=>by
     rw[←List.countP_eq_length_filter,←List.countP_eq_length_filter]
     induction m with
     |nil=>rfl
     |cons z m ihm=>by_cases hz:f z=f x<;>simp[List.countP_cons,hz]at ihm⊢ <;>omega
    have hx:((x::a).filter fun y=> !decide (f y=f x)).length<n:=by
     have:=e1 (x::a);have h2:0<((x::a).filter fun y=>decide (f y=f x)).length:=List.length_pos_of_mem (by simp:x∈_);omega
    have y8: ∀k,(b.filter fun y=> !decide (f y=f x)).filter (fun y=>decide (f y=k))=((x::a).filter fun y=> !decide (f y=f x)).filter (fun y=>decide (f y=k)):=fun k=>by
     have sw: ∀m:List α,(m.filter fun y=> !decide (f y=f x)).filter (fun y=>decide (f y=k))=(m.filter (fun y=>decide (f y=k))).filter fun y=> !decide (f y=f x):=fun m=>by
      rw[List.filter_filter,List.filter_filter];congr 1;funext y;rw[Bool.and_comm]
     rw[sw,sw,hs k]
    have:=ih _ hx _ _ rfl y8;rw[e1 b,e1 (x::a),hs,this]
 exact key _ l l' rfl h.same
theorem Vx: ∀{a b:List α},HD f a->HD f b->(∀k,a.filter (fun x=>decide (f x=k))=b.filter (fun x=>decide (f x=k)))->a=b
 |[],[],_,_,_=>rfl
 |[],y::b,_,_,h=>by have:=h (f y);simp at this
 |x::a,[],_,_,h=>by have:=h (f x);simp at this
 |x::a,y::b,ha,hb,h=>by
  have Eb:=arl.1 ha;have cU:=arl.1 hb;have hx:x∈y::b:=by
   have:=(show x∈(x::a).filter (fun z=>decide (f z=f x)) by simp);rw[h]at this;exact(ari.1 this).1
  have hy:y∈x::a:=by
   have:=(show y∈(y::b).filter (fun z=>decide (f z=f y)) by simp);rw[←h]at this;exact(ari.1 this).1
  have aqE:f x<=f y:=by
   rcases aqW.1 hy with e|e
   ·
    rw[e];exact aqY _
   exact Eb.1 y e
  have aqF:f y<=f x:=by
   rcases aqW.1 hx with e|e
   ·
    rw[e];exact aqY _
   exact cU.1 x e
  have hf:f x=f y:=by omega
  have h0:=h (f x);rw[arG,arG,if_pos (by simp),if_pos (by simp[hf])]at h0;have exy:=(atX h0).1;subst exy;congr 1;refine Vx Eb.2 cU.2 fun k=>?_;have hk:=h k;rw[arG,arG]at hk
  by_cases e:f x=k
  ·
   rw[if_pos (by simp[e]),if_pos (by simp[e])]at hk;exact(atX hk).2
  rw[if_neg (by simp[e]),if_neg (by simp[e])]at hk;exact hk
theorem qI.uniq{l a b:List α}(ha:qI f l a)(hb:qI f l b):a=b:=Vx ha.HE hb.HE fun k=>(ha.same k).trans (hb.same k).symm
def ins(f:α->Nat)(x:α):List α->List α
 |[]=>[x]
 |y::r=>if f y<f x then y::ins f x r else x::y::r
def HE(f:α->Nat)(l:List α):List α:=l.foldr (ins f) []
end
section
variable {α:Type} {f:α->Nat} {xs ys zs:List α} {a b m i j k s e:Nat}
def HF(xs:List α)(i j:Nat):List α:=(xs.drop i).take (j -i)
theorem parts(h1:a<=b)(h2:b<=xs.length):xs=xs.take a++HF xs a b++xs.drop b:=by
 rw[HF,aq6]
 conv=>lhs;rw[←arC a xs,←arC (b -a) (xs.drop a),asS,show a+(b -a)=b by omega]
end
end Go.Kb
namespace Go.ax
open Go.RowKit Go.Kb
section
variable {P:Program} {w0 w:World} {L:List aj} {α:Type} {enc:α->Array Value} {c:Nat} {s:Sv} {xs:List α}
end
section
variable {P:Program} {N:ct} {w0:World} {env:Env} {L:List aj} {l:List Oper} {Q:Exit->Act->World->Prop} {rest:List Oper} {d:Option Tmp} {ty:TypeId} {ps:String} {af:Array Edge} {gd:Option (Nat×Bool)}
end
section
variable {α:Type} {f:α->Nat} {xs ys zs ts:List α} {a b m i j k n:Nat}
theorem four{P U W V S:List α}(t:Nat):(P++(U++(W++(V++S))))[t]? =if t<P.length then P[t]?else if t<P.length+U.length then U[t -P.length]?else if t<P.length+U.length+W.length then W[t -P.length -U.length]?else if t<P.length+U.length+W.length+V.length then V[t -P.length -U.length -W.length]?else S[t -P.length -U.length -W.length -V.length]? :=by
 simp only[List.getElem?_append]
 by_cases c1:t<P.length
 ·
  rw[if_pos c1,if_pos c1]
 rw[if_neg c1,if_neg c1]
 by_cases c2:t<P.length+U.length
 ·
  rw[if_pos c2,if_pos (show t -P.length<U.length by omega)]
 rw[if_neg c2,if_neg (show ¬t -P.length<U.length by omega)]
 by_cases c3:t<P.length+U.length+W.length
 ·
  rw[if_pos c3,if_pos (show t -P.length -U.length<W.length by omega)]
 rw[if_neg c3,if_neg (show ¬t -P.length -U.length<W.length by omega)]
 by_cases c4:t<P.length+U.length+W.length+V.length
 ·
  rw[if_pos c4,if_pos (show t -P.length -U.length -W.length<V.length by omega)]
 rw[if_neg c4,if_neg (show ¬t -P.length -U.length -W.length<V.length by omega)]
end
section
variable {α:Type} {f:α->Nat} {xs ys zs ts:List α} {a b c m i j k n s e:Nat}
def Bk(f:α->Nat)(xs ys:List α)(c lo hi:Nat):Prop:= ∀s,lo<=s->s<hi->s%c=0->qI f (HF xs s (min (s+c) xs.length)) (HF ys s (min (s+c) xs.length))
end
variable {t ts:List Rt} {k:Key} {bits:Int} {p:bo}
def Kl(ts:List Rt):List Rt:=ts.filter fun r=>decide (r.p.bits=32)
variable {t ts:List Rt} {k:Key} {bits:Int} {p:bo}
theorem ag3(h:bJ t=true):vb t p=rB t p/\yn t p=yR t p:=by
 have ho:=kr h
 cases hp:bj p with
 |false=>
  obtain⟨e1,e2⟩:=af6 (t:=t) hp;have bF:wL t p=false:=by rw[wL,hp,Bool.and_false]
  rw[e1,e2,vb,yn,if_neg (by rw[bF];simp),if_neg (by rw[bF];simp)];exact⟨rfl,rfl⟩
 |true=>
  have bF:wL t p=true:=by rw[wL,h,hp];rfl
  by_cases hx: ∃r∈t,r.p=p
  ·
   obtain⟨r,hr,rfl⟩:=hx;obtain⟨i,hi⟩:=ash.1 hr;obtain⟨e1,e2⟩:=af7 (t:=t) hp (i:=i) (e:=r) (fun x hx=>by
    obtain⟨j,hj,hv⟩:=List.mem_take_iff_getElem.1 hx;have n9:t[j]? =some x:=by rw[aqR (by omega),hv]
    exact Hp (ho.may x (anc n9)) (ho.at n9 hi (by omega))) hi rfl
   obtain⟨e3,e4⟩:=RQ h hr;rw[e1,e2,e3,e4];exact⟨rfl,rfl⟩
  obtain⟨e1,e2⟩:=UD (t:=t) hp fun x qi e=>hx ⟨x,qi,e⟩;rw[e1,e2]
  cases hf:ym t p with
  |some r=>
   have:vb t p=0:=by rw[vb,if_pos bF,hf];rfl
   obtain⟨r',h1,h2,_⟩:=abV h this;exact absurd ⟨r',h1,h2⟩ hx
  |none=>rw[vb,yn,if_pos bF,if_pos bF,hf];exact⟨rfl,rfl⟩
theorem ag4{t:List Rt}(h:bJ t=true): ∀l:List Ch,bJ (gK t l).1=true:=by
 intro l
 induction l generalizing t with
 |nil=>exact h
 |cons c l ih=>
  rw[gK];split
  ·
   exact ih (DA h c)
  exact h
theorem Vy{t:List Rt}(h:bJ t=true)(l:List Ch):bJ (cf t l)=true:=by
 unfold cf;split
 ·
  exact ag4 h l
 exact h
variable {t ts:List Rt} {k:Key} {bits:Int} {p:bo} {r:Rt}
theorem ag5(h:bJ t=true){c:Ch}(he:dU t c=0):dm t [c]=0/\cf t [c]=gJ t c:=by
 have e:dm t [c]=0:=by rw[dm,if_pos h,gK,if_pos he];rfl
 exact⟨e,by rw[cf,if_pos e,gK,if_pos he];rfl⟩
variable {t ts:List Rt} {p:bo}
def jK(l:List Ch)(p:bo):Option Ch:=(l.filter fun c=>decide (c.r.p=p)).getLast?
theorem MP{l:List Ch}{p:bo}{x:Ch}(h:jK l p=some x):x∈l/\x.r.p=p:=by
 have:=ari.1 (List.mem_of_getLast? h);exact⟨this.1,by simpa using this.2⟩
theorem yV(c:Ch)(l:List Ch)(p:bo):jK (c::l) p=(jK l p).or (if c.r.p=p then some c else none):=by
 unfold jK;rw[arG]
 by_cases h:c.r.p=p
 ·
  rw[if_pos (by simpa using h),if_pos h,List.getLast?_cons]
  cases hl:(l.filter fun c=>decide (c.r.p=p)).getLast?<;>simp
 rw[if_neg (by simpa using h),if_neg h];simp
theorem ag6{l:List Ch}(h: ∀c∈l,c.r.p≠p):jK l p=none:=by
 unfold jK;rw[ate.2 fun c hc=>by simpa using h c hc];rfl
theorem ag7(h:bJ t=true){c:Ch}(he:dU t c=0)(x:Rt):x∈gJ t c↔if c.r.p=x.p then c.gone=false/\x=c.r else x∈t:=by
 obtain⟨r,g⟩:=c
 cases g with
 |false=>
  rw[afZ h he]
  by_cases hp:r.p=x.p
  ·
   rw[if_pos hp];constructor
   ·
    rintro(h1|⟨_,h1⟩)
    ·
     exact⟨rfl,h1⟩
    exact absurd hp.symm h1
   exact fun h1=> .inl h1.2
  rw[if_neg hp];constructor
  ·
   rintro(h1|h1)
   ·
    exact absurd (by rw[h1]) hp
   exact h1.1
  exact fun h1=> .inr ⟨h1,fun e=>hp e.symm⟩
 |true=>
  rw[af8 h he,ari]
  by_cases hp:r.p=x.p
  ·
   rw[if_pos hp];simp[hp]
  rw[if_neg hp];exact⟨fun h1=>h1.1,fun h1=>⟨h1,by simpa using fun e=>hp e.symm⟩⟩
theorem Vz: ∀{l:List Ch} {t:List Rt},bJ t=true->(gK t l).2=0-> ∀x,x∈(gK t l).1↔match jK l x.p with
  |some c=>c.gone=false/\x=c.r
  |none=>x∈t
 |[],t,_,_,x=>by simp[jK,gK]
 |c::l,t,h,he,x=>by
  rw[gK]at he⊢
  by_cases hc:dU t c=0
  ·
   rw[if_pos hc]at he⊢;rw[Vz (DA h c) he x,yV]
   cases hl:jK l x.p with
   |some d=>rfl
   |none=>
    simp only[Option.none_or];rw[ag7 h hc]
    by_cases hp:c.r.p=x.p
    ·
     rw[if_pos hp,if_pos hp]
    ·
     rw[if_neg hp,if_neg hp]
  ·
   rw[if_neg hc]at he;exact absurd he hc
theorem ag8(h:bJ t=true){l:List Ch}(he:dm t l=0)(x:Rt):x∈cf t l↔match jK l x.p with
  |some c=>c.gone=false/\x=c.r
  |none=>x∈t:=by
 rw[cf,if_pos he];rw[dm,if_pos h]at he;exact Vz h he x
variable {t u:List Ch} {p:bo} {r:Ch}
structure pV(t:List Ch):Prop where
 may: ∀r∈t,bj r.r.p=true
 less:t.Pairwise fun a b=>dt a.r.p b.r.p=true
theorem pV.sub{s t:List Ch}(h:pV t)(hs:s.Sublist t):pV s:=⟨fun r hr=>h.may r (hs.subset hr),h.less.sublist hs⟩
theorem pV.uniq{t:List Ch}(h:pV t){a b:Ch}(ha:a∈t)(hb:b∈t)(e:a.r.p=b.r.p):a=b:=by
 obtain⟨i,hi,rfl⟩:=asq ha;obtain⟨j,hj,rfl⟩:=asq hb;have hp:=ar3.1 h.less;have hm:=h.may _ hb;rcases atC i j with h1|h1|h1
 ·
  have:=hp i j hi hj h1;rw[e,oU hm]at this;cases this
 ·
  subst h1;rfl
 have:=hp j i hj hi h1;rw[e,oU hm]at this;cases this
theorem pV.ext: ∀{s t:List Ch},pV s->pV t->(∀x,x∈s↔x∈t)->s=t
 |[],[],_,_,_=>rfl
 |[],b::t,_,_,h=>by have:=(h b).2 (aqU);cases this
 |a::s,[],_,_,h=>by have:=(h a).1 (aqU);cases this
 |a::s,b::t,hs,ht,h=>by
  have ha:=(arl.1 hs.less);have hb:=(arl.1 ht.less);have ma:=hs.may a aqU;have mb:=ht.may b aqU;have e:a=b:=by
   apply arf;intro hn;rcases aqW.1 ((h a).1 aqU)with h1|h1
   ·
    exact hn h1
   rcases aqW.1 ((h b).2 aqU)with h2|h2
   ·
    exact hn h2.symm
   have h3:=hb.1 a h1;have h4:=ha.1 b h2;rw[Ms mb ma h3]at h4;cases h4
  subst e;have bM: ∀x,(∀y∈s,dt a.r.p y.r.p=true)->x∈s->x≠a:=fun x hy hx e=>by
   subst e;have:=hy x hx;rw[oU ma]at this;cases this
  rw[pV.ext (hs.sub (arQ _ _)) (ht.sub (arQ _ _)) fun x=>⟨fun hx=>?_,fun hx=>?_⟩]
  ·
   rcases aqW.1 ((h x).1 (aq2 _ hx))with h1|h1
   ·
    exact absurd h1 (bM x ha.1 hx)
   exact h1
  rcases aqW.1 ((h x).2 (aq2 _ hx))with h1|h1
  ·
   subst h1;have:=hb.1 x hx;rw[oU ma]at this;cases this
  exact h1
variable {t u v:List Rt} {p:bo} {l:List Ch}
def gD(t:List Rt)(p:bo):Option Rt:=t.find? fun x=>decide (x.p=p)
theorem yW(ho:Ord t){x:Rt}:gD t p=some x↔x∈t/\x.p=p:=by
 unfold gD;constructor
 ·
  intro h;exact⟨List.mem_of_find?_eq_some h,by simpa using List.find?_some h⟩
 rintro⟨h1,h2⟩
 cases h:t.find? fun x=>decide (x.p=p)with
 |some y=>
  have h3:=as0 h;have h4:y.p=p:=by simpa using List.find?_some h
  rw[ho.uniq h1 h3 (h2.trans h4.symm)]
 |none=>
  have:=atj.1 h x h1;simp[h2]at this
theorem Bn:gD t p=none↔ ∀x∈t,x.p≠p:=by
 unfold gD;rw[atj];exact⟨fun h x hx=>by simpa using h x hx,fun h x hx=>by simpa using h x hx⟩
theorem VA{x:Rt}(h:gD t p=some x):x.p=p:=by
 unfold gD at h;simpa using List.find?_some h
theorem MQ{x:Rt}(h:gD t p=some x):x∈t:=by
 unfold gD at h;exact as0 h
theorem VB(h1:Ord t)(h2:Ord u)(h: ∀p,gD t p=gD u p):t=u:=
 Go.Kb.Ord.ext h1 h2 fun x=>by
  have:=h x.p;constructor
  ·
   intro hx;exact MQ (this▸(yW h1).2 ⟨hx,rfl⟩)
  intro hx;exact MQ (this.symm▸(yW h2).2 ⟨hx,rfl⟩)
def qJ(l:List Ch):Prop:=l.Pairwise fun a b=>a.r.p≠b.r.p
theorem qJ.uniq(h:qJ l){a b:Ch}(ha:a∈l)(hb:b∈l)(e:a.r.p=b.r.p):a=b:=by
 obtain⟨i,hi,rfl⟩:=asq ha;obtain⟨j,hj,rfl⟩:=asq hb;have hp:=ar3.1 h;rcases atC i j with h1|h1|h1
 ·
  exact absurd e (hp i j hi hj h1)
 ·
  subst h1;rfl
 exact absurd e.symm (hp j i hj hi h1)
theorem pV.dst(h:pV l):qJ l:=h.less.imp_of_mem fun{a b} ha _ ue=>Hp (h.may a ha) ue
theorem MR(h:qJ l){c:Ch}:jK l p=some c↔c∈l/\c.r.p=p:=by
 constructor
 ·
  exact MP
 rintro⟨h1,h2⟩
 cases hl:jK l p with
 |some d=>
  obtain⟨h3,h4⟩:=MP hl;rw[h.uniq h1 h3 (h2.trans h4.symm)]
 |none=>
  have:(l.filter fun c=>decide (c.r.p=p))=[]:=List.getLast?_eq_none_iff.1 hl;have:=ate.1 this c h1;simp[h2]at this
theorem VC:jK l p=none↔ ∀c∈l,c.r.p≠p:=by
 constructor
 ·
  intro hl c hc;have:(l.filter fun c=>decide (c.r.p=p))=[]:=List.getLast?_eq_none_iff.1 hl;have:=ate.1 this c hc;simpa using this
 exact ag6
theorem ag9{m:List Ch}(hl:qJ l)(hm:qJ m)(h: ∀c,c∈l↔c∈m)(p:bo):jK l p=jK m p:=by
 cases h1:jK m p with
 |some c=>
  obtain⟨h2,h3⟩:=(MR hm).1 h1;exact(MR hl).2 ⟨(h c).2 h2,h3⟩
 |none=>
  rw[VC]at h1⊢;exact fun c hc=>h1 c ((h c).1 hc)
def aC:Option Ch->Option Rt->Option Rt
 |some c,_=>if c.gone=true then none else some c.r
 |none,o=>o
theorem MS(h:bJ t=true)(he:dm t l=0)(p:bo):gD (cf t l) p=aC (jK l p) (gD t p):=by
 have hu:=kr (Vy h l);have key: ∀x:Rt,x.p=p->(x∈cf t l↔aC (jK l p) (gD t p)=some x):=fun x hx=>by
  rw[ag8 h he,hx]
  cases hl:jK l p with
  |none=>simp only[aC];rw[yW (kr h)];exact⟨fun h=>⟨h,hx⟩,fun h=>h.1⟩
  |some c=>
   simp only[aC]
   cases c.gone<;>simp[eq_comm]
 cases ha:aC (jK l p) (gD t p)with
 |some x=>
  have hx:x.p=p:=by
   cases hl:jK l p with
   |none=>rw[hl]at ha;exact VA ha
   |some c=>
    rw[hl]at ha;simp only[aC]at ha;split at ha
    ·
     cases ha
    rw[←aqP ha];exact(MP hl).2
  exact(yW hu).2 ⟨(key x hx).2 ha,hx⟩
 |none=>
  rw[Bn];intro x hx e;have:=(key x e).1 hx;rw[ha]at this;cases this
theorem aha(h:bJ t=true){c:Ch}(hm:bj c.r.p=true)(hg:c.gone=true->gD t c.r.p≠none)(hl:c.gone=false->t.length<256):dU t c=0:=by
 rw[af5 h]
 cases hh:gD t c.r.p with
 |some x=>
  have h2:=RQ h (MQ hh);rw[VA hh,(ag3 h).1]at h2;rw[h2.1,if_neg (by simp),if_neg (by simp)]
 |none=>
  have h2:=UD hm (Bn.1 hh);have tV:c.gone=false:=by
   cases tV:c.gone with
   |false=>rfl
   |true=>exact absurd hh (hg tV)
  have:=hl tV;rw[h2.1,if_neg (by simp[tV]),if_neg (by omega)]
theorem ahb(h:bJ t=true)(c:Ch):(gJ t c).length<=t.length+(if c.gone=true then 0 else 1):=by
 unfold gJ;split
 ·
  split
  ·
   simp only[af0,aqT,aq9];omega
  split
  ·
   simp
  have:=Kx t c.r.p;simp only[af0,aqT,aqQ,aq9];omega
 omega
theorem ahc(h:bJ t=true){c:Ch}(he:dU t c=0)(p:bo):gD (gJ t c) p=if c.r.p=p then(if c.gone=true then none else some c.r)else gD t p:=by
 obtain⟨e1,e2⟩:=ag5 h he;have:=MS h e1 p;rw[e2]at this;rw[this];unfold jK
 by_cases hp:c.r.p=p
 ·
  rw[if_pos hp];simp[hp,aC]
 rw[if_neg hp];simp[hp,aC]
def pW(l:List Ch):Nat:=l.countP fun c=> !c.gone
theorem DI(c:Ch)(l:List Ch):pW (c::l)=pW l+(if c.gone=true then 0 else 1):=by
 unfold pW;rw[List.countP_cons]
 cases c.gone<;>simp
theorem VD: ∀{l:List Ch} {t:List Rt},bJ t=true->qJ l->(∀c∈l,bj c.r.p=true/\(c.gone=true->gD t c.r.p≠none))->t.length+pW l<=256->(gK t l).2=0
 |[],_,_,_,_,_=>rfl
 |c::l,t,h,hd,hc,hn=>by
  rw[DI]at hn;obtain⟨h1,h2⟩:=arl.1 hd;obtain⟨h3,h4⟩:=hc c aqU;have he:dU t c=0:=aha h h3 h4 fun hg=>by rw[hg]at hn;simp at hn;omega
  rw[gK,if_pos he];have qb:=ahb h c;refine VD (DA h c) h2 (fun d yD=>?_) (by omega);obtain⟨h5,h6⟩:=hc d (aq2 _ yD);refine⟨h5,fun hg=>?_⟩;rw[ahc h he,if_neg (h1 d yD)];exact h6 hg
theorem VE(h:bJ t=true)(hd:qJ l)(hc: ∀c∈l,bj c.r.p=true/\(c.gone=true->gD t c.r.p≠none))(hn:t.length+pW l<=256):dm t l=0:=by
 rw[dm,if_pos h];exact VD h hd hc hn
theorem ahd(a b:List Ch):pW (a++b)=pW a+pW b:=by unfold pW;exact List.countP_append
def eM:List Rt->List Rt->List Ch
 |[],[]=>[]
 |a::t,[]=>⟨a,true⟩::eM t []
 |[],b::u=>⟨b,false⟩::eM [] u
 |a::t,b::u=>if dt a.p b.p=true then⟨a,true⟩::eM t (b::u)else if a.p=b.p then(if a.cx≠b.cx then[⟨b,false⟩]else[])++eM t u else⟨b,false⟩::eM (a::t) u
termination_by t u=>t.length+u.length
theorem HG:eM [] []=[]:=by rw[eM]
theorem Bp: ∀{t u:List Rt} {c:Ch},c∈eM t u->(c.gone=true/\c.r∈t)\/(c.gone=false/\c.r∈u):=by
 intro t u
 induction t,u using eM.induct with
 |case1=>intro c hc;rw[HG]at hc;cases hc
 |case2 a t ih=>
  intro c hc;rw[eM]at hc;rcases aqW.1 hc with rfl|hc
  ·
   exact .inl ⟨rfl,aqU⟩
  rcases ih hc with⟨h1,h2⟩|⟨h1,h2⟩
  ·
   exact .inl ⟨h1,aq2 _ h2⟩
  exact .inr ⟨h1,h2⟩
 |case3 b u ih=>
  intro c hc;rw[eM]at hc;rcases aqW.1 hc with rfl|hc
  ·
   exact .inr ⟨rfl,aqU⟩
  rcases ih hc with⟨h1,h2⟩|⟨h1,h2⟩
  ·
   exact .inl ⟨h1,h2⟩
  exact .inr ⟨h1,aq2 _ h2⟩
 |case4 a t b u h ih=>
  intro c hc;rw[eM,if_pos h]at hc;rcases aqW.1 hc with rfl|hc
  ·
   exact .inl ⟨rfl,aqU⟩
  rcases ih hc with⟨h1,h2⟩|⟨h1,h2⟩
  ·
   exact .inl ⟨h1,aq2 _ h2⟩
  exact .inr ⟨h1,h2⟩
 |case5 a t b u h h' ih=>
  intro c hc;rw[eM,if_neg h,if_pos h']at hc;rcases aqZ.1 hc with hc|hc
  ·
   split at hc
   ·
    obtain rfl:c=⟨b,false⟩:=by simpa using hc
    exact .inr ⟨rfl,aqU⟩
   cases hc
  rcases ih hc with⟨h1,h2⟩|⟨h1,h2⟩
  ·
   exact .inl ⟨h1,aq2 _ h2⟩
  exact .inr ⟨h1,aq2 _ h2⟩
 |case6 a t b u h h' ih=>
  intro c hc;rw[eM,if_neg h,if_neg h']at hc;rcases aqW.1 hc with rfl|hc
  ·
   exact .inr ⟨rfl,aqU⟩
  rcases ih hc with⟨h1,h2⟩|⟨h1,h2⟩
  ·
   exact .inl ⟨h1,h2⟩
  exact .inr ⟨h1,aq2 _ h2⟩
theorem ahe: ∀{t u:List Rt},(eM t u).length<=t.length+u.length/\pW (eM t u)<=u.length:=by
 intro t u
 induction t,u using eM.induct with
 |case1=>rw[HG];exact⟨Nat.le_refl _,aqY _⟩
 |case2 a t ih=>rw[eM,DI];simp only[aqQ,if_true]at ih⊢;omega
 |case3 b u ih=>rw[eM,DI];simp only[aqQ,arv,if_false]at ih⊢;omega
 |case4 a t b u h ih=>rw[eM,if_pos h,DI];simp only[aqQ,if_true]at ih⊢;omega
 |case5 a t b u h h' ih=>
  rw[eM,if_neg h,if_pos h',ahd,af0];have:(if a.cx≠b.cx then[(⟨b,false⟩:Ch)]else[]).length<=1/\pW (if a.cx≠b.cx then[(⟨b,false⟩:Ch)]else[])<=1:=by
   split
   ·
    exact⟨Nat.le_refl _,aqY _⟩
   exact⟨Nat.zero_le _,arn _⟩
  simp only[aqQ]at ih⊢;omega
 |case6 a t b u h h' ih=>rw[eM,if_neg h,if_neg h',DI];simp only[aqQ,arv,if_false]at ih⊢;omega
theorem n8{a:Rt}(h:Ord (a::t)):Ord t/\ ∀x∈t,dt a.p x.p=true:=⟨h.sub (arQ _ _),(arl.1 h.less).1⟩
theorem MT: ∀{t u:List Rt},Ord t->Ord u->pV (eM t u):=by
 intro t u;have cons: ∀{c:Ch} {m:List Ch},bj c.r.p=true->pV m->(∀d∈m,dt c.r.p d.r.p=true)->pV (c::m):=fun hc hm hl=>
  ⟨fun x hx=>by
   rcases aqW.1 hx with rfl|hx
   ·
    exact hc
   exact hm.may x hx,arl.2 ⟨hl,hm.less⟩⟩
 induction t,u using eM.induct with
 |case1=>intro _ _;rw[HG];exact⟨fun _ h=>(by cases h),List.Pairwise.nil⟩
 |case2 a t ih=>
  intro h1 h2;obtain⟨g1,g2⟩:=n8 h1;rw[eM];refine cons (h1.may a aqU) (ih g1 h2) fun d hd=>?_;rcases Bp hd with⟨_,h⟩|⟨_,h⟩
  ·
   exact g2 _ h
  cases h
 |case3 b u ih=>
  intro h1 h2;obtain⟨g1,g2⟩:=n8 h2;rw[eM];refine cons (h2.may b aqU) (ih h1 g1) fun d hd=>?_;rcases Bp hd with⟨_,h⟩|⟨_,h⟩
  ·
   cases h
  exact g2 _ h
 |case4 a t b u h ih=>
  intro h1 h2;obtain⟨g1,g2⟩:=n8 h1;obtain⟨_,k2⟩:=n8 h2;have ma:=h1.may a aqU;have mb:=h2.may b aqU;rw[eM,if_pos h];refine cons ma (ih g1 h2) fun d hd=>?_;rcases Bp hd with⟨_,h3⟩|⟨_,h3⟩
  ·
   exact g2 _ h3
  rcases aqW.1 h3 with h4|h4
  ·
   rw[h4];exact h
  exact Bf ma mb (h2.may _ h3) h (k2 _ h4)
 |case5 a t b u h h' ih=>
  intro h1 h2;obtain⟨g1,g2⟩:=n8 h1;obtain⟨k1,k2⟩:=n8 h2;rw[eM,if_neg h,if_pos h'];split
  ·
   rw[aty];refine cons (h2.may b aqU) (ih g1 k1) fun d hd=>?_;rcases Bp hd with⟨_,h3⟩|⟨_,h3⟩
   ·
    show dt b.p _=true;rw[←h'];exact g2 _ h3
   exact k2 _ h3
  rw[arJ];exact ih g1 k1
 |case6 a t b u h h' ih=>
  intro h1 h2;obtain⟨_,g2⟩:=n8 h1;obtain⟨k1,k2⟩:=n8 h2;have ma:=h1.may a aqU;have mb:=h2.may b aqU;rw[eM,if_neg h,if_neg h'];have DJ:dt b.p a.p=true:=Ho ma mb (by simpa using h) h';refine cons mb (ih h1 k1) fun d hd=>?_;rcases Bp hd with⟨_,h3⟩|⟨_,h3⟩
  ·
   rcases aqW.1 h3 with h4|h4
   ·
    rw[h4];exact DJ
   exact Bf mb ma (h1.may _ h3) DJ (g2 _ h4)
  exact k2 _ h3
def dC:Option Rt->Option Rt->Option Ch
 |none,none=>none
 |some x,none=>some ⟨x,true⟩
 |none,some y=>some ⟨y,false⟩
 |some x,some y=>if x=y then none else some ⟨y,false⟩
theorem Bq(a:Rt)(t:List Rt):gD (a::t) p=if a.p=p then some a else gD t p:=by
 unfold gD;rw[List.find?_cons]
 by_cases h:a.p=p<;>simp[h]
theorem VF:gD [] p=none:=rfl
theorem q9{a:bo}(ha:bj a=true)(h: ∀x∈t,dt a x.p=true):gD t a=none:=Bn.2 fun x hx e=>by
 have:=h x hx;rw[e,oU ha]at this;cases this
theorem ahf: ∀{t u:List Rt},Ord t->Ord u-> ∀p,jK (eM t u) p=dC (gD t p) (gD u p):=by
 intro t u
 induction t,u using eM.induct with
 |case1=>intro _ _ p;rw[HG];rfl
 |case2 a t ih=>
  intro h1 h2 p;obtain⟨g1,g2⟩:=n8 h1;rw[eM,yV,ih g1 h2,Bq,VF]
  by_cases hp:a.p=p
  ·
   subst hp;rw[if_pos rfl,if_pos rfl,q9 (h1.may a aqU) g2];rfl
  rw[if_neg hp,if_neg hp,Option.or_none]
 |case3 b u ih=>
  intro h1 h2 p;obtain⟨g1,g2⟩:=n8 h2;rw[eM,yV,ih h1 g1,Bq,VF]
  by_cases hp:b.p=p
  ·
   subst hp;rw[if_pos rfl,if_pos rfl,q9 (h2.may b aqU) g2];rfl
  rw[if_neg hp,if_neg hp,Option.or_none]
 |case4 a t b u h ih=>
  intro h1 h2 p;obtain⟨g1,g2⟩:=n8 h1;obtain⟨_,k2⟩:=n8 h2;have ma:=h1.may a aqU;have mb:=h2.may b aqU;rw[eM,if_pos h,yV,ih g1 h2,Bq a]
  by_cases hp:a.p=p
  ·
   subst hp;have hz:gD (b::u) a.p=none:=q9 ma fun x hx=>by
    rcases aqW.1 hx with rfl|qi
    ·
     exact h
    exact Bf ma mb (h2.may _ hx) h (k2 _ qi)
   rw[if_pos rfl,if_pos rfl,q9 ma g2,hz];rfl
  rw[if_neg hp,if_neg hp,Option.or_none]
 |case5 a t b u h h' ih=>
  intro h1 h2 p;obtain⟨g1,g2⟩:=n8 h1;obtain⟨k1,k2⟩:=n8 h2;have ma:=h1.may a aqU;have mb:=h2.may b aqU;rw[eM,if_neg h,if_pos h',Bq,Bq]
  by_cases hp:b.p=p
  ·
   subst hp;rw[if_pos h',if_pos rfl];have e1:=ih g1 k1 b.p;rw[q9 mb k2,q9 mb (by rw[←h'];exact g2)]at e1
   by_cases hh:a.cx=b.cx
   ·
    rw[if_neg (by simpa using hh),arJ,e1];have:a=b:=by obtain⟨ap,ah⟩:=a;obtain⟨bp,bh⟩:=b;simp only at h' hh;rw[h',hh]
    simp[dC,this]
   rw[if_pos hh,aty,yV,e1];have:a≠b:=fun e=>hh (by rw[e]);simp[dC,this]
  have ha: ¬a.p=p:=by rw[h'];exact hp
  rw[if_neg ha,if_neg hp,←ih g1 k1 p]
  by_cases hh:a.cx=b.cx
  ·
   rw[if_neg (by simpa using hh),arJ]
  rw[if_pos hh,aty,yV,if_neg hp,Option.or_none]
 |case6 a t b u h h' ih=>
  intro h1 h2 p;obtain⟨_,g2⟩:=n8 h1;obtain⟨k1,k2⟩:=n8 h2;have ma:=h1.may a aqU;have mb:=h2.may b aqU;have DJ:dt b.p a.p=true:=Ho ma mb (by simpa using h) h';rw[eM,if_neg h,if_neg h',yV,ih h1 k1,Bq b]
  by_cases hp:b.p=p
  ·
   subst hp;have hz:gD (a::t) b.p=none:=q9 mb fun x hx=>by
    rcases aqW.1 hx with rfl|qi
    ·
     exact DJ
    exact Bf mb ma (h1.may _ hx) DJ (g2 _ qi)
   rw[if_pos rfl,if_pos rfl,q9 mb k2,hz];rfl
  rw[if_neg hp,if_neg hp,Option.or_none]
theorem ahg{x y:Option Rt}:aC (dC x y) x=y:=by
 cases x<;>cases y
 ·
  rfl
 ·
  rfl
 ·
  rfl
 simp only[dC];split
 ·
  rename_i h;rw[h];rfl
 rfl
theorem ahh(h1:bJ t=true)(h2:Ord u){m:List Ch}(hd:qJ m)(hm: ∀c,c∈m↔c∈eM t u)(he:dm t m=0):cf t m=u:=by
 refine VB (kr (Vy h1 m)) h2 fun p=>?_;rw[MS h1 he,ag9 hd (MT (kr h1) h2).dst hm,ahf (kr h1) h2,ahg]
theorem ahi(h1:Ord t)(h2:Ord u){c:Ch}(hc:c∈eM t u):bj c.r.p=true/\(c.gone=true->gD t c.r.p≠none):=by
 refine⟨(MT h1 h2).may c hc,fun hg hn=>?_⟩;rcases Bp hc with⟨_,h⟩|⟨h,_⟩
 ·
  exact Bn.1 hn c.r h rfl
 rw[hg]at h;cases h
variable {t u v ts us ys zs a b:List Rt} {p:bo} {l ls:List Ch} {i k:Nat}
def fo(l:List Ch):List Ch:=l.filter fun c=>c.gone
def MU(l:List Ch):List Ch:=l.filter fun c=> !c.gone
theorem qJ.perm{m:List Ch}(h:qJ l)(hp:m.Perm l):qJ m:=(hp.pairwise_iff fun h=>fun e=>h e.symm).2 h
theorem ahj(l:List Ch):(fo l++MU l).Perm l:=List.filter_append_perm _ _
theorem ahk{m:List Ch}(h:m.Perm l):pW m=pW l:=h.countP_eq _
theorem makes(h1:bJ t=true)(h2:bJ u=true)(hl:t.length<=100)(hu:u.length<=100):dm t (fo (eM t u)++MU (eM t u))=0/\cf t (fo (eM t u)++MU (eM t u))=u:=by
 have o1:=kr h1;have o2:=kr h2;have hp:=ahj (eM t u);have hd:=(MT o1 o2).dst.perm hp;have hn:=ahk hp;have yx:=(ahe (t:=t) (u:=u)).2;have he:=VE h1 hd (fun c hc=>ahi o1 o2 (hp.mem_iff.1 hc)) (by omega);exact⟨he,ahh h1 o2 hd (fun c=>hp.mem_iff) he⟩
end Go.ax
namespace Go.Kb
open Go.ax
def VG(n p:Nat):Int:=AE ((n:Int)+5) ((p:Int)+2) 64
end Go.Kb
namespace Go.ax
open Go.Kb Go.RowKit
variable {t u v ts us y:List Rt} {p:bo} {l ls:List Ch} {i k:Nat} {h:Int}
variable {t a b:List Rt} {p:bo}
end Go.ax
namespace Go.Kb
open Go.ax
variable {t a b:List Rt} {p:bo}
variable {s:bD} {k:Key} {n:Int} {a b r:Rt} {p:bo}
theorem VH(r:Rt):(ot r).length<=42:=by
 unfold ot;split
 ·
  rename_i h;have hp:=OL r.p;rw[uE,if_pos h]at hp;have hd:=uA 5 r.cx.toNat (Nat.lt_trans (UInt16.toNat_lt _) (by decide)) (by decide);simp only[zN,af0,aqQ];omega
 simp
theorem ahl(h:bj r.p=true):mJ (ot r)=r/\sK (ot r)=0:=by
 have hl:=VH r;refine TL (by omega) (XE.2 ⟨h,?_⟩);rw[ot,if_pos h]
end Go.Kb
namespace Go.ax
open Go.Kb Go.RowKit
def rR(k:Key):List UInt8:=(List.range 16).map fun i=>b8 (aW k i)
def ahm(g:Ch):List UInt8:=(if g.gone=true then 1 else 0)::eV g.r
def ahn(l:List Ch)(i:Nat):List UInt8:=be l.length 2++((l.take i).map ahm).flatten
def aho(l:List Ch):Int:=if 200<l.length then 1 else if(l.all fun g=>bj g.r.p)=true then 0 else 1
def VI(l:List Ch):List UInt8:=if aho l=0 then Zh (ahn l l.length)else[]
def frame(l:List Ch):List UInt8:=be (VI l).length 2++VI l
theorem ahp{t:List Rt}(h:bJ t=true): ∀l:List Ch,bJ (gK t l).1=true:=by
 intro l
 induction l generalizing t with
 |nil=>exact h
 |cons c l ih=>
  rw[gK];split
  ·
   exact ih (DA h c)
  exact h
theorem ahq{t:List Rt}(h:bJ t=true)(l:List Ch):bJ (cf t l)=true:=by
 unfold cf;split
 ·
  exact ahp h l
 exact h
def lc(a:Sl (Sl Ch)):List (List Ch):=a.xs.map Sl.xs
end Go.ax
namespace Go.Kb
open Go.ax
theorem VJ{T:List Rt}(h:bJ T=true)(i:Nat):bJ (T.take i)=true:=RP ((kr h).sub (List.take_sublist i T)) (by rw[aqT];have:=xS h;omega)
theorem ahr{T:List Rt}(h:bJ T=true){i:Nat}{r:Rt}(hr:T[i]? =some r):dm (T.take i) [⟨r,false⟩]=0/\cf (T.take i) [⟨r,false⟩]=T.take (i+1):=by
 have h1:=VJ h i;have h2:=VJ h (i+1);have ho:=kr h;have dD:=(ad2.1 hr).1;have iY:=xS h;have hm:bj r.p=true:=ho.may r (anc hr);have hd:qJ [(⟨r,false⟩:Ch)]:=List.pairwise_singleton _ _;have he:dm (T.take i) [⟨r,false⟩]=0:=VE h1 hd (fun c hc=>by
  obtain rfl:=arp.1 hc;exact⟨hm,fun g=>by cases g⟩) (by
  rw[aqT];have:pW [(⟨r,false⟩:Ch)]=1:=rfl;omega)
 refine⟨he,VB (kr (ahq h1 _)) (kr h2) fun p=>?_⟩;rw[MS h1 he p];have Tb:jK [(⟨r,false⟩:Ch)] p=if r.p=p then some ⟨r,false⟩else none:=by
  by_cases e:r.p=p
  ·
   rw[if_pos e];exact(MR hd).2 ⟨List.mem_singleton.2 rfl,e⟩
  rw[if_neg e];exact VC.2 fun c hc=>by rw[arp.1 hc];exact e
 have tL:T.take (i+1)=T.take i++[r]:=by rw[aq0,hr];rfl
 rw[Tb]
 by_cases e:r.p=p
 ·
  rw[if_pos e];show some r=_;exact((yW (kr h2)).2 ⟨by rw[tL];simp,e⟩).symm
 rw[if_neg e];show gD (T.take i) p=_
 cases hh:gD (T.take i) p with
 |some x=>
  obtain⟨g1,g2⟩:=(yW (kr h1)).1 hh;exact((yW (kr h2)).2 ⟨by rw[tL];exact aro _ g1,g2⟩).symm
 |none=>
  have g:=Bn.1 hh;refine(Bn.2 fun x hx=>?_).symm;rw[tL]at hx;rcases aqZ.1 hx with hx|hx
  ·
   exact g x hx
  rw[arp.1 hx];exact e
theorem ahs{k:Nat}{f:FV}{T:List Rt}{i:Nat}{r:Rt}(h:Rm (k+60000) f)(ht:bJ T=true)(hf:f.table=T.take i)(hr:T[i]? =some r):
  ((cA f [⟨r,false⟩]).2=5/\(i:Int)=ei f.aq.ae)\/((cA f [⟨r,false⟩]).2=0/\Rm k (cA f [⟨r,false⟩]).1/\(cA f [⟨r,false⟩]).1.table=T.take (i+1)/\ei (cA f [⟨r,false⟩]).1.aq.ae=ei f.aq.ae):=by
 obtain⟨e1,e2⟩:=ahr ht hr;have dD:=(ad2.1 hr).1;obtain⟨q0,q1,q2,_,q5⟩:=Rm.done h [⟨r,false⟩];rw[MO,hf,e1,e2]at q0;have aht:=h.jY;rw[hf,aqT,atb (by omega)]at aht
 by_cases hm:ei f.aq.ae<((T.take (i+1)).length:Nat)
 ·
  rw[if_pos ⟨rfl,hm⟩]at q0;rw[aqT,atb (by omega)]at hm;exact .inl ⟨q0,by omega⟩
 ·
  rw[if_neg (fun g=>hm g.2)]at q0;refine .inr ⟨q0,q1,?_,q5⟩;rw[q2 q0,hf,e2]
end Go.Kb
namespace Go.Proofs.YtkggjjnhnjjokaaGreatDoor
open Go.ax Go.Kb Go.RowKit
theorem ahu(w:World)[tb:qV w](b:UInt8)(p:UInt8)(o:UInt8)(l:Sv)(ls:List Ch)(hl:eJ ia 20 (hp w) l ls):Calls Tryz.prog 10 #[.int .u8 (b.toNat:Nat), .int .u8 (p.toNat:Nat), .int .u8 (o.toNat:Nat),l.val] w fun e w'=>e= .returned (.bool true)/\Mem w [] w':=by
 have qC:Gv w l ia 20 ls:=⟨hl⟩;have dP:=hl.bd;obtain⟨na1,na2,na3,na4,na5,na6⟩:=Vu (n:=(b.toNat%7)) (p:=(p.toNat%7)) oM oM;obtain⟨nb1,nb2,nb3,nb4,nb5,nb6⟩:=Vu (n:=(o.toNat%7)) (p:=(p.toNat%7)) oM oM;refine Je Tryz.func10 rfl Tryz.ntmps10 rfl ?_;refine aY ?_;refine je rfl (fun h0=>?_) (fun h0=>?_)
 ·
  exfalso;simp at h0
 replace h0:=bz h0;refine aO ?_;refine Gb (fun h1=>?_) fun h1=>?_
 ·
  refine al ?_;refine Gr fun w1 hw=>?_;exact⟨rfl,ai.mem hw⟩
 refine ay ?_;refine ag (zx (p:=p.toNat) (q:=7) rfl rfl rfl rfl oM) (ag (kZ rfl (by simp only[nb];omega)) (au ?_));refine ag (zx (p:=b.toNat) (q:=7) rfl rfl rfl rfl oM) (ag (kZ rfl (by simp only[nb];omega)) (ay ?_));refine bg rfl trivial fun gC C1=>?_;have Dp:cv gC=(yT (b.toNat%7) (p.toNat%7)).1:=C1;have jr:(pE ((((b.toNat%7):Nat):Int)+5) ((((p.toNat%7):Nat):Int)+2) 64).2=0:=na1;have ahv:gg gC:=qp (by rw[Dp];exact na2);refine Gs ?_;refine ag (aK (v:= .agg (aS gC)) rfl rfl) (ag (aK (v:= .int .i64 ((pE ((((b.toNat%7:Nat)):Int)+5) ((((p.toNat%7:Nat)):Int)+2) 64).2)) rfl rfl) (bt fun yB=>au ?_));refine ag (zx (p:=o.toNat) (q:=7) rfl rfl rfl rfl oM) (ag (kZ rfl (by simp only[nb];omega)) (ay ?_));refine bg rfl trivial fun lG vg=>?_;have GY:cv lG=(yT (o.toNat%7) (p.toNat%7)).1:=vg;have z50:(pE ((((o.toNat%7):Nat):Int)+5) ((((p.toNat%7):Nat):Int)+2) 64).2=0:=nb1;have ahw:gg lG:=qp (by rw[GY];exact nb2);refine Gs ?_;refine ag (aK (v:= .agg (aS lG)) rfl rfl) (ag (aK (v:= .int .i64 ((pE ((((o.toNat%7:Nat)):Int)+5) ((((p.toNat%7:Nat)):Int)+2) 64).2)) rfl rfl) (bt fun vh=>au ?_));refine bg rfl ahv fun lJ GX=>?_;have VK:ck lJ=(qH (b.toNat%7) (p.toNat%7)).1:=by rw[GX,Dp];rfl
 have z55:(pK (cv gC)).2=0:=by rw[Dp];exact na3
 have VL:Rm 1000000000 (ck lJ):=by rw[VK];exact na4
 have t55:lJ.table.xs=[]:=by rw[show lJ.table.xs=(qH (b.toNat%7) (p.toNat%7)).1.table from congrArg FV.table VK,na5]
 refine Gs ?_;refine ag (aK (v:= .agg (dv lJ)) rfl rfl) (ag (aK (v:= .int .i64 ((pK (cv gC)).2)) rfl rfl) (bt fun yu=>au ?_));refine bg rfl ahw fun sI LP=>?_;have MW:ck sI=(qH (o.toNat%7) (p.toNat%7)).1:=by rw[LP,GY];rfl
 have z60:(pK (cv lG)).2=0:=by rw[GY];exact nb3
 have w60:Rm 1000000000 (ck sI):=by rw[MW];exact nb4
 have t60:sI.table.xs=[]:=by rw[show sI.table.xs=(qH (o.toNat%7) (p.toNat%7)).1.table from congrArg FV.table MW,nb5]
 refine Gs ?_;refine ag (aK (v:= .agg (dv sI)) rfl rfl) (ag (aK (v:= .int .i64 ((pK (cv lG)).2)) rfl rfl) (bt fun xd=>rW ?_));refine je rfl (fun h2=>?_) (fun h2=>?_)
 ·
  exfalso;rw[z55,z60]at h2;simp at h2
 replace h2:=bz h2;refine al ?_;refine bg rfl VL.fb.small fun pX ahx=>?_;obtain⟨u1,u2,u3⟩:=Rm.stays (k:=900000000) (VL.mono (by decide)) ls;rw[←ahx]at u1 u2 u3;have u4:=u1.fb.small;have oZ:bJ pX.table.xs=true:=acj u1.fb.UJ;refine Gs ?_;refine ag (aK (v:= .agg (dv pX)) rfl rfl) (ag (aK (v:= .int .i64 ((cA (ck lJ) ls).2)) rfl rfl) (aY ?_));refine Gb (fun h3=>?_) fun h3=>?_
 ·
  have e72:pX.table.xs=[]:=by rw[show pX.table.xs=lJ.table.xs from congrArg FV.table (u3 h3)];exact t55
  refine c6 ?_;refine Gr fun w1 hw=>?_;exact Ge ((by rw[e72];rfl)) hw
 refine al ?_;refine bT (X:=Nat×dr) (fun zz=>[(19, .int .i64 (zz.1:Nat)),(16, .pointer (some ⟨xd,0,none⟩)),(2, .int .u8 (o.toNat:Nat)),(9, .int .i64 (((p.toNat%7)+2):Nat)),(14, .pointer (some ⟨yu,0,none⟩))]) (fun zz=>[ar xd (dv zz.2) 65,fz zz.2,ar yu (dv pX) 65,fz pX]) (fun zz=>zz.1<=pX.table.xs.length/\Rm (60000*(pX.table.xs.length -zz.1)) (ck zz.2)/\(ck zz.2).table=pX.table.xs.take zz.1/\ei (ck zz.2).aq.ae=VG (o.toNat%7) (p.toNat%7)) (fun zz=>pX.table.xs.length -zz.1) (0,sI) ⟨Nat.zero_le _,w60.mono (by have:=xS oZ;simp only;omega),t60,by rw[MW];exact nb6⟩ sb (fun w hw=>ai.mem hw) ?_;rintro⟨i,s⟩ ⟨bc,aH,bB,cT⟩;dsimp only;simp only at bc aH bB cT;refine c6 ?_;refine Gb (fun h4=>?_) fun h4=>?_
 ·
  obtain⟨r,hr⟩:=get_some (xs:=pX.table.xs) (i:=i) oM;have wU:bj r.p=true:=(kr oZ).may r (anc hr);obtain⟨VM,lb2⟩:=ahl wU;have lF:=aH.fb.small;refine au ?_;refine ag (ba rfl rfl i rfl oM) (ag (iK rfl i hr rfl) (ay ?_));refine ag (aK (v:= .string ⟨(ot r).toArray⟩) rfl rfl) (ag (aK (v:= .int .i64 (tj (bj r.p))) rfl rfl) (au ?_));refine dR (cj rfl (by have:=VH r;omega)) (Gs ?_);refine ag (aK (v:= .agg (aA (mJ (ot r)))) rfl rfl) (ag (aK (v:= .int .i64 (sK (ot r))) rfl rfl) (bt fun AK=>al ?_));refine gO oK oK (c6 ?_);refine fL rfl rfl rfl (fun hg=>(Ry.yl (jO rfl))) (al ?_);refine fL rfl rfl rfl (fun hg=>(Ry.yl (ba (aE hg rfl) (aE hg rfl) i rfl (by simp only[Z0,Z1,Z2,Z3,Z4,Z5,Z6,Z7,Z8,Z9]at hg;omega)))) (fL rfl rfl rfl (fun hg=>(Ry.yl (iK (aE hg rfl) i hr rfl))) (fL rfl rfl rfl (fun hg=>(Ry.yl (D4 (aE hg rfl) (aE hg rfl)))) (ay ?_)));refine je rfl (fun h5=>?_) (fun h5=>?_)
  ·
   exfalso;rw[VM,lb2,wU]at h5;simp[tj]at h5
  replace h5:=bz h5;refine al ?_;refine ag (iQ rfl) ?_;refine lO (enc:=ia) (vals:=[_]) [(⟨mJ (ot r),false⟩:Ch)] rfl rfl rfl (by decide) (by decide) fun aqG=>?_;refine bg rfl lF fun Da yG=>?_;have bu:=ahs (k:=60000*(pX.table.xs.length -(i+1))) (aH.mono oM) oZ bB hr;have hc9:[(⟨mJ (ot r),false⟩:Ch)]=[⟨r,false⟩]:=by rw[VM]
  rw[←hc9,←yG]at bu;refine Gs ?_;refine ag (aK (v:= .agg (dv Da)) rfl rfl) (ag (aK (v:= .int .i64 ((cA (ck s) [(⟨mJ (ot r),false⟩:Ch)]).2)) rfl rfl) (bt fun b24=>aY ?_));refine Gb (fun h6=>?_) fun h6=>?_
  ·
   have VN:(cA (ck s) [(⟨mJ (ot r),false⟩:Ch)]).2=5/\(i:Int)=ei (ck s).aq.ae:=by
    rcases bu with h|h
    ·
     exact h
    exact absurd h.1 (by simpa using h6)
   refine aY ?_;refine gE rfl rfl rfl (fun hg=>(Ry.yl (zx (p:=o.toNat) (q:=7) (aE hg rfl) rfl rfl rfl (by simp only[Z0,Z1,Z2,Z3,Z4,Z5,Z6,Z7,Z8,Z9]at hg;omega)))) (gE rfl rfl rfl (fun hg=>(Ry.yl (kZ (aE hg rfl) (by simp only[nb];omega)))) (gE rfl rfl rfl (fun hg=>(Ry.yl (zj (aE hg rfl) rfl (by simp only[Z0,Z1,Z2,Z3,Z4,Z5,Z6,Z7,Z8,Z9]at hg;omega)))) (Gg ?_)));refine gE rfl rfl rfl (fun hg=>cj (eC (aE hg rfl) (eC (aE hg rfl) (eC rfl iI))) trivial) (au ?_);refine Gr fun w1 hw=>?_;exact Ge ((by rw[VN.1];have h9:=VN.2;rw[cT]at h9;unfold VG at h9;simp only[decide_true,arH,decide_eq_true_eq];exact h9)) hw
  obtain⟨s1,s2,s3,s4⟩:=bu.resolve_left (fun g=>by rw[g.1]at h6;simp at h6);refine c6 ?_;refine Gi ?_;exact bn (x:=(i,s)) (i+1,Da) ⟨oF,s2,s3,s4.trans cT⟩ (by simp only;omega) sb (fun w hw=>ai.mem hw)
 obtain rfl:i=pX.table.xs.length:=by omega
 refine aO ?_;refine dR (cj rfl oM) (Gs ?_);refine gE rfl rfl rfl (fun hg=>(Ry.yl (jO rfl))) (gE rfl rfl rfl (fun hg=>cj (eC (aE hg rfl) iI) trivial) (al ?_));refine Gr fun w1 hw=>?_;exact Ge ((by rw[show s.table.xs=pX.table.xs from bB.trans ark,aH.fb.UJ];simp)) hw
end Go.Proofs.YtkggjjnhnjjokaaGreatDoor

/- The law FibTwice holds: a batch that changes nothing writes nothing; the same batch of routes twice is once; what is found, and mounted, writes nothing; formatted anew a fib has no routes. It holds of all arguments that can be read; its arguments read behind the call as they did. -/
import Derived.Test.YtaipiecplldinaaGreatE6
import Derived.Test.YtaipiecplldinaaGreatE1
import Derived.ProofKit
import Derived.Deep.Slices
import Derived.HandedShaped
import Derived.Test.YtaipiecplldinaaGreatE3
import Derived.Test.YtaipiecplldinaaGreatE2
import Derived.Test.YtaipiecplldinaaGreatE5
import Derived.Test.YtaipiecplldinaaGreatRows
set_option maxRecDepth 20000
set_option linter.unusedSimpArgs false
set_option linter.unusedVariables false
namespace Go.Kb
open Go.aA
def ie(c:CV):Prop:= ∀f∈c.aQ,f.mask=0∨f.mask=255
theorem ie.kd{L:List Int}{c d:CV}(h:ie c)(k:Kd L c d):ie d:=by unfold ie;rw[k.ln];exact h
theorem ie.AQ{c:CV}(h:ie c)(hs:(br c).2=true):(br c).1.mask=0∨(br c).1.mask=255:=by
 rw[br]at hs⊢
 cases hf:c.aQ.find? fun f=>decide (f.op=c.ops)with
 |none=>rw[hf]at hs;cases hs
 |some x=>exact h x (List.mem_of_find?_eq_some hf)
theorem ON(p:List UInt8):cX 0 p=p:=by
 rw[cX]
 conv=>rhs;rw[←List.map_id p]
 exact List.map_congr_left fun x _=>by simp
theorem OO(p:List UInt8):jo (cX 255 p)=true:=by
 refine zD.2 fun x hx=> ?_
 obtain⟨y,_,rfl⟩:=List.mem_map.1 hx
 apply UInt8.eq_of_toBitVec_eq
 show y.toBitVec|||255#8=255#8
 exact BitVec.or_allOnes
theorem DN{p:List UInt8}(h:jo p=true):(bE p).2≠0:=by
 rw[bE]
 by_cases h1:l5 p.length=false
 ·
  rw[if_pos (by rw[cy,if_pos h1];decide)];rw[cy,if_pos h1];decide
 ·
  have e:cy p=(jI,0):=by rw[cy,if_neg h1,if_pos h]
  rw[e,if_neg (by decide),if_pos (show(jI,(0:Int)).1.kind=0 from rfl)];decide
theorem OP(n:Int):jo (gu n)=true:=zD.2 fun _ hx=>List.eq_of_mem_replicate hx
theorem rY{c:CV}(hb:fF c=true){k:Nat}(hk:(k:Int)<2*c.pages):((aj c 0).pages++(aj c 1).pages).getD k []=bF c k:=by
 obtain⟨l0,l1⟩:=yq hb
 have hp:2≤c.pages:=(ft.1 hb).2.2.1
 rw[bF]
 by_cases h:(k:Int)<c.pages
 ·
  rw[Int.ediv_eq_zero_of_lt (by omega) h,Int.emod_eq_of_lt (by omega) h,Int.toNat_natCast]
  simp only[List.getD]
  rw[List.getElem?_append_left (by omega)]
 ·
  have e1:(k:Int)/c.pages=1:=by
   have:(k:Int)=(k -c.pages)+1*c.pages:=by omega
   rw[this,Int.add_mul_ediv_right _ _ (by omega),Int.ediv_eq_zero_of_lt (by omega) (by omega)];rfl
  have e2:(k:Int)%c.pages=k -c.pages:=by
   have:(k:Int)=(k -c.pages)+1*c.pages:=by omega
   rw[this,Int.add_mul_emod_self_right,Int.emod_eq_of_lt (by omega) (by omega)];omega
  rw[e1,e2]
  simp only[List.getD]
  rw[List.getElem?_append_right (by omega)]
  congr 2
  omega
theorem H8{c:CV}(hb:fF c=true){i:Int}(h0:0≤i)(h1:i<2*c.pages)(hi:(bE (bF c i)).2=0)(ij: ∀k,0≤k→k<2*c.pages→(bE (bF c k)).2=0→ ¬((bE (bF c i)).1.gen<(bE (bF c k)).1.gen∨((bE (bF c k)).1.gen=(bE (bF c i)).1.gen∧i<k))):
  bL c=(i,(bE (bF c i)).1,0):=by
 obtain⟨l0,l1⟩:=yq hb
 obtain⟨n,rfl⟩: ∃n:Nat,i=n:=⟨i.toNat,by omega⟩
 have hl:((aj c 0).pages++(aj c 1).pages).length=(aj c 0).pages.length+(aj c 1).pages.length:=List.length_append
 have hn:n<((aj c 0).pages++(aj c 1).pages).length:=by omega
 have:=L8 hn (CO.2 ⟨by rw[rY hb h1];exact hi,fun k hk hv=>by
  rw[rY hb h1,rY hb (by omega)]
  rw[rY hb (by omega)]at hv
  have:=ij k (by omega) (by omega) hv
  omega⟩)
 rw[bL,this,rY hb h1]
theorem OQ{c:CV}(hb:fF c=true)(h:(bL c).2.2=0):bE (bF c (bL c).1)=((bL c).2.1,0)∧ ∀k,0≤k→k<2*c.pages→(bE (bF c k)).2=0→ ¬((bL c).2.1.gen<(bE (bF c k)).1.gen∨((bE (bF c k)).1.gen=(bL c).2.1.gen∧(bL c).1<k)):=by
 obtain⟨l0,l1⟩:=yq hb
 have hl:((aj c 0).pages++(aj c 1).pages).length=(aj c 0).pages.length+(aj c 1).pages.length:=List.length_append
 by_cases hex: ∃i,i<((aj c 0).pages++(aj c 1).pages).length∧vE ((aj c 0).pages++(aj c 1).pages) i=true
 ·
  obtain⟨i,hi,OR⟩:=hex
  have e:=L8 hi OR
  obtain⟨g1,g2⟩:=CO.1 OR
  rw[rY hb (by omega)]at e g1
  rw[bL,e]
  refine⟨by rw[←g1],fun k k0 k1 hv=> ?_⟩
  obtain⟨n,rfl⟩: ∃n:Nat,k=n:=⟨k.toNat,by omega⟩
  have:=g2 n (by omega) (by rw[rY hb k1];exact hv)
  rw[rY hb k1,rY hb (by omega)]at this
  simp only;omega
 ·
  have:=Ut (l:=(aj c 0).pages++(aj c 1).pages) fun i hi=>by
   cases hq:vE ((aj c 0).pages++(aj c 1).pages) i with
   |false=>rfl
   |true=>exact absurd ⟨i,hi,hq⟩ hex
  rw[bL,this]at h
  simp only at h
  split at h<;>cases h
structure Wv(g:Nat)(at_:List Int)(last:Int)(a:List Int)(c:CV):Prop where
 bears:fF c=true
 xN: ∃i:Int,0≤i∧i<2*c.pages∧bE (bF c i)=(⟨g,at_⟩,0)∧i/c.pages=last∧i%c.pages<(aj c last).used∧
  ∀k,0≤k→k<2*c.pages→(bE (bF c k)).2=0→(bE (bF c k)).1.gen<g∨((bE (bF c k)).1.gen=g∧k≤i)∨(bE (bF c k)=(⟨g+1,a⟩,0)∧k%c.pages<(aj c (k/c.pages)).used)
theorem eU.wv{x:VV}(h:eU x)(a:List Int):Wv x.gen x.at_ x.last a x.ae:=by
 obtain⟨h1,h2⟩:=OQ h.bears h.roots
 have hr:=OF h.bears
 refine⟨h.bears,(bL x.ae).1,hr.1,hr.2,?_,h.last,by rw[←h.last];exact h.used,fun k k0 k1 hv=> ?_⟩
 ·
  rw[h1,←h.at_,←h.gen]
 ·
  have:=h2 k k0 k1 hv
  rw[h.gen]at this
  omega
theorem Wv.step{g:Nat}{at_ a:List Int}{last:Int}{c d:CV}(h:Wv g at_ last a c)(hb:fF d=true)(hP:d.pages=c.pages)
  (hl: ∀i,0≤i→i/c.pages=last→i%c.pages<(aj c last).used→bF d i=bF c i∧i%c.pages<(aj d last).used)
  (hk: ∀k,0≤k→k<2*c.pages→(bE (bF d k)).2=0→(bF d k=bF c k∧(k%c.pages<(aj c (k/c.pages)).used→k%c.pages<(aj d (k/c.pages)).used))∨(bE (bF d k)=(⟨g+1,a⟩,0)∧k%c.pages<(aj d (k/c.pages)).used)):Wv g at_ last a d:=by
 obtain⟨i,i0,i1,i2,i3,i4,i5⟩:=h.xN
 obtain⟨e1,e2⟩:=hl i i0 i3 i4
 refine⟨hb,i,i0,by rw[hP];exact i1,by rw[e1];exact i2,by rw[hP];exact i3,by rw[hP];exact e2,fun k k0 k1 hv=> ?_⟩
 rw[hP]at k1⊢
 rcases hk k k0 k1 hv with⟨q1,q2⟩|q
 ·
  rw[q1]at hv⊢
  rcases i5 k k0 k1 hv with r|r|r
  ·
   exact .inl r
  ·
   exact .inr (.inl r)
  ·
   exact .inr (.inr ⟨r.1,q2 r.2⟩)
 ·
  exact .inr (.inr q)
theorem Wv.OS{g:Nat}{at_ a:List Int}{last:Int}{c:CV}(h:Wv g at_ last a c)(hp:Pl c at_)(iF: ∀k,0≤k→k<2*c.pages→bE (bF c k)≠(⟨g+1,a⟩,0)):eU ⟨c,at_,g,last⟩:=by
 obtain⟨i,i0,i1,i2,i3,i4,i5⟩:=h.xN
 have e:=H8 h.bears i0 i1 (by rw[i2]) (fun k k0 k1 hv=>by
  rw[i2]
  rcases i5 k k0 k1 hv with r|r|r
  ·
   simp only;omega
  ·
   simp only;omega
  ·
   exact absurd r.1 (iF k k0 k1))
 rw[i2]at e
 exact⟨h.bears,by show(bL c).2.2=0;rw[e],by show(bL c).1%c.pages<(aj c ((bL c).1/c.pages)).used;rw[e];simp only;rw[i3];exact i4,hp,by show(bL c).2.1.at_=at_;rw[e],by show(bL c).2.1.gen=g;rw[e],by show(bL c).1/c.pages=last;rw[e];exact i3⟩
theorem OT{P:Int→Prop}{m:Int}: ∀(n:Nat),(∃k,0≤k∧k<m∧P k∧m -k≤n)→ ∃i,0≤i∧i<m∧P i∧ ∀k,k<m→P k→k≤i
 |0,⟨k,_,h1,_,h3⟩=>by omega
 |n+1,⟨k,h0,h1,h2,h3⟩=>by
  by_cases h: ∃j,0≤j∧j<m∧P j∧m -j≤n
  ·
   exact OT n h
  ·
   refine⟨k,h0,h1,h2,fun j hj hP=> ?_⟩
   apply Classical.byContradiction
   intro bu
   exact h ⟨j,by omega,hj,hP,by omega⟩
theorem Wv.OU{g:Nat}{at_ a:List Int}{last:Int}{c:CV}(h:Wv g at_ last a c)(hp:Pl c a){k0:Int}(q0:0≤k0)(q1:k0<2*c.pages)(q2:bE (bF c k0)=(⟨g+1,a⟩,0)):
  ∃i,eU ⟨c,a,g+1,i/c.pages⟩∧0≤i∧i<2*c.pages∧bE (bF c i)=(⟨g+1,a⟩,0)∧ ∀k,k<2*c.pages→bE (bF c k)=(⟨g+1,a⟩,0)→k≤i:=by
 obtain⟨i,i0,i1,i2,i3⟩:=OT (P:=fun k=>bE (bF c k)=(⟨g+1,a⟩,0)) (m:=2*c.pages) (2*c.pages -k0).toNat ⟨k0,q0,q1,q2,by omega⟩
 obtain⟨j,j0,j1,j2,j3,j4,j5⟩:=h.xN
 have e:=H8 h.bears i0 i1 (by rw[i2]) (fun k k0 k1 hv=>by
  rw[i2]
  rcases j5 k k0 k1 hv with r|r|r
  ·
   simp only;omega
  ·
   simp only;omega
  ·
   have:=i3 k k1 r.1
   rw[r.1];simp only;omega)
 rw[i2]at e
 have hu:i%c.pages<(aj c (i/c.pages)).used:=by
  rcases j5 i i0 i1 (by rw[i2])with r|r|r
  ·
   rw[i2]at r;simp only at r;omega
  ·
   rw[i2]at r;simp only at r;omega
  ·
   exact r.2
 exact⟨i,⟨h.bears,by show(bL c).2.2=0;rw[e],by show(bL c).1%c.pages<(aj c ((bL c).1/c.pages)).used;rw[e];exact hu,hp,by show(bL c).2.1.at_=a;rw[e],by show(bL c).2.1.gen=g+1;rw[e],by show(bL c).1/c.pages=_;rw[e]⟩,i0,i1,i2,i3⟩
theorem Wv.some{g:Nat}{at_ a:List Int}{last:Int}{c:CV}(h:Wv g at_ last a c)(h1:Pl c at_)(h2:Pl c a): ∃u,eU u∧u.ae=c∧(u=⟨c,at_,g,last⟩∨(u.at_=a∧u.gen=g+1)):=by
 by_cases hex: ∃k,0≤k∧k<2*c.pages∧bE (bF c k)=(⟨g+1,a⟩,0)
 ·
  obtain⟨k,k0,k1,k2⟩:=hex
  obtain⟨i,hi,_⟩:=h.OU h2 k0 k1 k2
  exact⟨_,hi,rfl, .inr ⟨rfl,rfl⟩⟩
 ·
  exact⟨_,h.OS h1 fun k k0 k1 e=>hex ⟨k,k0,k1,e⟩,rfl, .inl rfl⟩
theorem tc{c:CV}{b e k:Int}:(aj (iV c b e) k).pages=(aj c k).pages∧(aj (iV c b e) k).used=(aj c k).used:=by
 rw[iV];split
 ·
  exact Ox
 ·
  exact⟨rfl,rfl⟩
theorem DO{c:CV}{b e k:Int}:bF (iV c b e) k=bF c k:=by
 rw[bF,bF,(Cv c b e).pages,tc.1]
theorem OV{c:CV}{b k:Int}(bX:ie c)(hk:0≤k)(hp:1≤c.pages)(rW:k/c.pages=b)(hv:(bE (bF (cY c b) k)).2=0):bF (cY c b) k=bF c k∧(k%c.pages<(aj c b).used→k%c.pages<(aj (cY c b) b).used):=by
 rw[cY,DO]at hv⊢
 rw[tc.2]
 by_cases h:nn c b=true∧c.off=false∧(aj c b).bad=false
 ·
  have hh:=(np.1 h.1).1
  have e:fE c b=jH c b:=if_pos h
  have eb:aj (jH c b) b={aj c b with used:=if(br c).2=true then c.pages else 0,aT:=(aj c b).aT+1,pages:=pD c (aj c b).pages}:=mK hh
  have mg:0≤k%c.pages:=Int.emod_nonneg _ (by omega)
  have nE:k%c.pages<c.pages:=Int.emod_lt_of_pos _ (by omega)
  have vN:=(dV.1 (n8 hh)).1
  have AR:bF (jH c b) k=(pD c (aj c b).pages).getD (k%c.pages).toNat []:=by
   show(aj (jH c b) (k/c.pages)).pages.getD _ []=_
   rw[rW,eb];rfl
  obtain⟨x,hx⟩: ∃x,(aj c b).pages[(k%c.pages).toNat]? =some x:=⟨_,List.getElem?_eq_getElem (by omega)⟩
  have ec:bF c k=x:=by rw[bF,rW];simp[List.getD,hx]
  rw[e]at hv⊢
  rw[AR,pD]at hv⊢
  by_cases hs:(br c).2=true
  ·
   rw[if_pos hs]at hv⊢
   have eg:((aj c b).pages.map (cX (br c).1.mask)).getD (k%c.pages).toNat []=cX (br c).1.mask x:=by simp[List.getD,hx]
   rw[eg]at hv⊢
   rcases bX.AQ hs with m|m
   ·
    rw[m,ON,ec,eb]
    exact⟨rfl,fun _=>by simp only;rw[if_pos hs];exact nE⟩
   ·
    rw[m]at hv;exact absurd hv (DN (OO x))
  ·
   rw[if_neg hs]at hv
   have eg:((aj c b).pages.map fun _=>gu c.size).getD (k%c.pages).toNat []=gu c.size:=by simp[List.getD,hx]
   rw[eg]at hv
   exact absurd hv (DN (OP _))
 ·
  rw[fE,if_neg h];exact⟨rfl,id⟩
theorem Wv.erase{g:Nat}{at_ a:List Int}{last:Int}{c:CV}(h:Wv g at_ last a c)(bX:ie c){b:Int}(hb:b≠last)(oZ:0≤b)(ly:0≤last):Wv g at_ last a (cY c b):=by
 have hP:=(sJ c b).pages
 have hp:2≤c.pages:=(ft.1 h.bears).2.2.1
 have mh:fF (cY c b)=true:=by
  obtain⟨h1,h2,h3,h4⟩:=ft.1 h.bears
  exact ft.2 ⟨zK h1 b,by rw[(sJ c b).len];exact h2,by rw[hP];exact h3,by rw[(sJ c b).size];exact h4⟩
 have pa: ∀k,0≤k→k≠b→(aj (cY c b) k).pages=(aj c k).pages∧(aj (cY c b) k).used=(aj c k).used:=fun k k0 hk=>by
  rw[cY,tc.1,tc.2,yo (by omega)];exact⟨rfl,rfl⟩
 refine h.step mh hP (fun i i0 i1 i2=> ?_) fun k k0 k1 hv=> .inl ?_
 ·
  obtain⟨e1,e2⟩:=pa last ly (fun e=>hb e.symm)
  exact⟨by rw[bF,bF,hP,i1,e1],by rw[e2];exact i2⟩
 ·
  by_cases e:k/c.pages=b
  ·
   have:=OV bX k0 (by omega) e hv
   rw[e];exact this
  ·
   obtain⟨e1,e2⟩:=pa (k/c.pages) (Int.ediv_nonneg k0 (by omega)) e
   exact⟨by rw[bF,bF,hP,e1],by rw[e2];exact id⟩
theorem abb{c:CV}{b k:Int}{p:List UInt8}(bX:ie c)(hk:0≤k)(hp:1≤c.pages)(rW:k/c.pages=b)(hv:(bE (bF (bn c b p) k)).2=0):
  (bF (bn c b p) k=bF c k∧(k%c.pages<(aj c b).used→k%c.pages<(aj (bn c b p) b).used))∨(bF (bn c b p) k=p∧k%c.pages<(aj (bn c b p) b).used):=by
 rw[bn,DO]at hv⊢
 rw[tc.2]
 by_cases h:mF c b (aj c b).used p=true∧c.off=false∧(aj c b).bad=false∧(aj c b).used=(aj c b).used
 ·
  obtain⟨hh,u0,u1,_,_⟩:=iS.1 h.1
  have e:fR c b (aj c b).used p=gG c b (aj c b).used p:=if_pos h
  have eb:aj (gG c b (aj c b).used p) b={aj c b with used:=(aj c b).used+1,pages:=(aj c b).pages.set (aj c b).used.toNat (mG c p)}:=mK hh
  have mg:0≤k%c.pages:=Int.emod_nonneg _ (by omega)
  have nE:k%c.pages<c.pages:=Int.emod_lt_of_pos _ (by omega)
  have vN:=(dV.1 (n8 hh)).1
  have AR:bF (gG c b (aj c b).used p) k=((aj c b).pages.set (aj c b).used.toNat (mG c p)).getD (k%c.pages).toNat []:=by
   show(aj (gG c b (aj c b).used p) (k/c.pages)).pages.getD _ []=_
   rw[rW,eb];rfl
  rw[e]at hv⊢
  rw[AR]at hv⊢
  by_cases hj:k%c.pages=(aj c b).used
  ·
   have eg:((aj c b).pages.set (aj c b).used.toNat (mG c p)).getD (k%c.pages).toNat []=mG c p:=by
    rw[hj];simp only[List.getD];rw[List.getElem?_set_self (by omega)];rfl
   rw[eg]at hv⊢
   right
   refine⟨?_,by rw[eb];simp only;omega⟩
   rw[mG]at hv⊢
   split
   ·
    rename_i hs
    rw[if_pos hs]at hv
    rcases bX.AQ hs with m|m
    ·
     rw[m]at hv;exact absurd hv (DN (OO p))
    ·
     rw[m];exact ON p
   ·
    rfl
  ·
   left
   refine⟨?_,fun bu=>by rw[eb];simp only;omega⟩
   simp only[List.getD]
   rw[List.getElem?_set_ne (by omega),bF,rW];rfl
 ·
  left;rw[fR,if_neg h];exact⟨rfl,id⟩
theorem abc{c:CV}{b k:Int}{p:List UInt8}(hp:1≤c.pages)(rW:k/c.pages=b)(hu:k%c.pages<(aj c b).used):bF (bn c b p) k=bF c k∧k%c.pages<(aj (bn c b p) b).used:=by
 rw[bn,DO,tc.2]
 by_cases h:mF c b (aj c b).used p=true∧c.off=false∧(aj c b).bad=false∧(aj c b).used=(aj c b).used
 ·
  obtain⟨hh,u0,u1,_,_⟩:=iS.1 h.1
  have e:fR c b (aj c b).used p=gG c b (aj c b).used p:=if_pos h
  have eb:aj (gG c b (aj c b).used p) b={aj c b with used:=(aj c b).used+1,pages:=(aj c b).pages.set (aj c b).used.toNat (mG c p)}:=mK hh
  have mg:0≤k%c.pages:=Int.emod_nonneg _ (by omega)
  have AR:bF (gG c b (aj c b).used p) k=((aj c b).pages.set (aj c b).used.toNat (mG c p)).getD (k%c.pages).toNat []:=by
   show(aj (gG c b (aj c b).used p) (k/c.pages)).pages.getD _ []=_
   rw[rW,eb];rfl
  rw[e,AR,eb]
  refine⟨?_,by simp only;omega⟩
  simp only[List.getD]
  rw[List.getElem?_set_ne (by omega),bF,rW];rfl
 ·
  rw[fR,if_neg h];exact⟨rfl,hu⟩
theorem Wv.prog{g:Nat}{at_ a:List Int}{last:Int}{c:CV}{p:List UInt8}(h:Wv g at_ last a c)(bX:ie c){b:Int}(oZ:0≤b)(ly:0≤last)(hr:bE p=(⟨g+1,a⟩,0)):Wv g at_ last a (bn c b p):=by
 have hP:=(gU c b p).pages
 have hp:2≤c.pages:=(ft.1 h.bears).2.2.1
 have mh:fF (bn c b p)=true:=by
  obtain⟨h1,h2,h3,h4⟩:=ft.1 h.bears
  exact ft.2 ⟨kK h1 b p,by rw[(gU c b p).len];exact h2,by rw[hP];exact h3,by rw[(gU c b p).size];exact h4⟩
 have pa: ∀k,0≤k→k≠b→(aj (bn c b p) k).pages=(aj c k).pages∧(aj (bn c b p) k).used=(aj c k).used:=fun k k0 hk=>by
  rw[bn,tc.1,tc.2,Oy (by omega)];exact⟨rfl,rfl⟩
 refine h.step mh hP (fun i i0 i1 i2=> ?_) fun k k0 k1 hv=> ?_
 ·
  by_cases e:last=b
  ·
   have:=abc (p:=p) (show 1≤c.pages by omega) (i1.trans e) (by rw[←e];exact i2)
   rw[e];exact this
  ·
   obtain⟨e1,e2⟩:=pa last ly e
   exact⟨by rw[bF,bF,hP,i1,e1],by rw[e2];exact i2⟩
 ·
  by_cases e:k/c.pages=b
  ·
   rcases abb bX k0 (by omega) e hv with q|q
   ·
    left;rw[e];exact q
   ·
    right;rw[q.1,e];exact⟨hr,q.2⟩
  ·
   obtain⟨e1,e2⟩:=pa (k/c.pages) (Int.ediv_nonneg k0 (by omega)) e
   exact .inl ⟨by rw[bF,bF,hP,e1],by rw[e2];exact id⟩
open Go.aA
def DP(c:CV):Prop:=cP≤c.ops∨ ∃b,cP≤(aj c b).aT
def qV(g:Nat)(a:List Int)(c:CV):Prop:= ∀k,0≤k→k<2*c.pages→bE (bF c k)≠(⟨g+1,a⟩,0)
theorem abd{c:CV}(h:c.aQ=[]):(br c).2=false:=by rw[br,h];rfl
theorem OW{c:CV}{b:Int}{p:List UInt8}(h:c.aQ=[])(he:bC c b p≠0):fR c b (aj c b).used p=c:=by
 rw[fR,if_neg]
 rintro⟨h1,h2,h3,h4⟩
 apply he
 rw[bC,jG,if_pos h1,if_neg (by rw[h2];simp),if_neg (by rw[h3];simp),if_neg (by rw[abd h];simp)]
theorem qV.erase{g:Nat}{a:List Int}{c:CV}(h:qV g a c)(hb:fF c=true)(bX:ie c){b:Int}(oZ:0≤b):qV g a (cY c b):=by
 have hP:=(sJ c b).pages
 have hp:2≤c.pages:=(ft.1 hb).2.2.1
 intro k k0 k1 he
 rw[hP]at k1
 by_cases e:k/c.pages=b
 ·
  have:=(OV bX k0 (by omega) e (by rw[he])).1
  rw[this]at he;exact h k k0 k1 he
 ·
  have:bF (cY c b) k=bF c k:=by
   have hk:=Int.ediv_nonneg k0 (show 0≤c.pages by omega)
   rw[bF,bF,hP,cY,tc.1,yo (by omega)]
  rw[this]at he;exact h k k0 k1 he
theorem abe{c:CV}{b:Int}(q:dG c b=1):nn c b=false:=by
 cases ho:nn c b with
 |false=>rfl
 |true=>
  exfalso
  rw[dG,if_pos ho]at q
  by_cases h1:c.off=true
  ·
   rw[if_pos h1]at q;cases q
  ·
   rw[if_neg h1]at q
   by_cases h2:(aj c b).bad=true
   ·
    rw[if_pos h2]at q;cases q
   ·
    rw[if_neg h2]at q
    by_cases h3:(br c).2=true
    ·
     rw[if_pos h3,kF]at q;split at q<;>cases q
    ·
     rw[if_neg h3]at q;cases q
theorem abf{g:Nat}{at_ a:List Int}{last:Int}{c:CV}(h:Wv g at_ last a c)(bX:ie c)(hl:last=0∨last=1):
  (∀L,Kd L c (aX c last).1)∧Wv g at_ last a (aX c last).1∧(qV g a c→qV g a (aX c last).1)∧((aX c last).2.2=7→(aX c last).1.off=true)∧
   ((aX c last).2.2=0→((aX c last).2.1=0∨(aX c last).2.1=1)∧0<dD (aX c last).1 (aX c last).2.1)∧((aX c last).2.2≠0→(aX c last).2.2=7∨(aX c last).2.2=9∨((aX c last).2.2=1∧DP (aX c last).1)):=by
 have hk:=(ft.1 h.bears).1
 have h4:=(ft.1 h.bears).2.1
 have z7: ∀{P:Prop},(0:Int)=7→P:=fun h=>absurd h (by decide)
 rw[aX]
 by_cases h1:0<dD c last
 ·
  rw[if_pos h1];exact⟨fun L=> .cZ _ _,h,id,fun h=>z7 h,fun _=>⟨hl,h1⟩,fun h=>absurd rfl h⟩
 ·
  rw[if_neg h1]
  by_cases h2:0<dD c (1 -last)
  ·
   rw[if_pos h2];exact⟨fun L=> .cZ _ _,h,id,fun h=>z7 h,fun _=>⟨by simp only;omega,h2⟩,fun h=>absurd rfl h⟩
  ·
   rw[if_neg h2]
   by_cases h3:(aj c (1 -last)).bad=true
   ·
    rw[if_pos h3];exact⟨fun L=> .cZ _ _,h,id,fun h=>absurd (show(9:Int)=7 from h) (by decide),fun h=>absurd (show(9:Int)=0 from h) (by decide),fun _=> .inr (.inl rfl)⟩
   ·
    rw[if_neg h3]
    refine⟨fun L=>aa1 (by omega),h.erase bX (by omega) (by omega) (by omega),fun g=>g.erase h.bears bX (by omega),H2,fun he=>⟨by simp only;omega,?_⟩,fun he=> ?_⟩
    ·
     obtain⟨e1,e2,e3,e4,e5⟩:=xw he
     have hh:=(np.1 e1).1
     have hd:=eE hk
     show 0<dD (cY c (1 -last)) (1 -last)
     rw[e5,dD,jH,mK hh,e4,e3]
     simp only[Bool.false_eq_true,if_false];omega
    ·
     simp only at he
     rcases Gb c (1 -last)with q|q|q|q
     ·
      exact absurd q he
     ·
      refine .inr (.inr ⟨q,?_⟩)
      simp only
      have iF:=abe q
      have abg:cY c (1 -last)=c:=by rw[cY,q,iV,if_neg (by decide),fE,if_neg (by rw[iF];simp)]
      rw[abg]
      have hh:gp c (1 -last)=true:=gq.2 ⟨hk,by omega,by omega⟩
      by_cases ho:c.ops<cP
      ·
       right
       refine⟨1 -last,?_⟩
       apply Classical.byContradiction
       intro hw
       rw[np.2 ⟨hh,ho,by omega⟩]at iF;cases iF
      ·
       exact .inl (by omega)
     ·
      exact .inl q
     ·
      exact .inr (.inl q)
theorem abh{c:CV}{b:Int}{p:List UInt8}(hh:gp c b=true)(hf:0<dD c b)(hl:(p.length:Int)=c.size)(h:bC c b p=1):cP≤c.ops∧fR c b (aj c b).used p=c:=by
 have iF:mF c b (aj c b).used p=false:=by
  cases ho:mF c b (aj c b).used p with
  |false=>rfl
  |true=>
   rw[bC,jG,if_pos ho]at h
   split at h
   ·
    cases h
   ·
    split at h
    ·
     cases h
    ·
     split at h
     ·
      rw[kF]at h;split at h<;>cases h
     ·
      cases h
 have hu:=(dV.1 (n8 hh)).2.1
 have hb:=CC hf
 rw[dD,if_neg (by rw[hb];simp)]at hf
 refine⟨?_,by rw[fR,if_neg (by rw[iF];simp)]⟩
 apply Classical.byContradiction
 intro hw
 rw[iS.2 ⟨hh,hu,by omega,hl,by omega⟩]at iF;cases iF
theorem qV.prog{g:Nat}{a:List Int}{c:CV}{b:Int}{p:List UInt8}(h:qV g a c)(hf:c.aQ=[])(he:bC c b p≠0):qV g a (bn c b p):=by
 intro k k0 k1 e
 rw[bn,DO,OW hf he]at e
 rw[bn,(Cv _ _ _).pages,OW hf he]at k1
 exact h k k0 k1 e
theorem H9{p:List UInt8}: ∀(l:List (List UInt8)) (m:Nat),m≤l.foldl (fun m p=>max m (iW p)) m∧(p∈l→iW p≤l.foldl (fun m p=>max m (iW p)) m)
 |[],m=>⟨Nat.le_refl _,fun h=>by cases h⟩
 |q::r,m=>by
  obtain⟨h1,h2⟩:=H9 (p:=p) r (max m (iW q))
  refine⟨by rw[List.foldl_cons];omega,fun h=> ?_⟩
  rw[List.foldl_cons]
  rcases List.mem_cons.1 h with rfl|h
  ·
   omega
  ·
   exact h2 h
theorem DQ{M:Nat}: ∀(l:List (List UInt8)) (m:Nat),m≤M→(∀p∈l,iW p≤M)→l.foldl (fun m p=>max m (iW p)) m≤M
 |[],m,h,_=>h
 |q::r,m,h,hp=>by
  rw[List.foldl_cons]
  exact DQ r _ (by have:=hp q List.mem_cons_self;omega) fun p hH=>hp p (List.mem_cons_of_mem _ hH)
theorem Wv.last{g:Nat}{at_ a:List Int}{last:Int}{c:CV}(h:Wv g at_ last a c)(hp:Pl c a){b:Int}(hb:b=0∨b=1){k0:Int}(q0:0≤k0)(q1:k0/c.pages=b)(q2:bE (bF c k0)=(⟨g+1,a⟩,0)):
  eU ⟨c,a,g+1,if gW c 1=g+1 then 1 else b⟩:=by
 have je:2≤c.pages:=(ft.1 h.bears).2.2.1
 obtain⟨l0,l1⟩:=yq h.bears
 have bu: ∀k:Int,k/c.pages<2→k<2*c.pages:=fun k hk=>by
  apply Classical.byContradiction
  intro hn
  have:2≤k/c.pages:=by
   have:=Int.ediv_le_ediv (show 0<c.pages by omega) (show 2*c.pages≤k by omega)
   rwa [Int.mul_ediv_cancel _ (by omega)]at this
  omega
 obtain⟨i,hR,i0,i1,i2,i3⟩:=h.OU hp q0 (bu k0 (by omega)) q2
 have Ho:i/c.pages=0∨i/c.pages=1:=by
  have h1:=Int.ediv_nonneg i0 (show 0≤c.pages by omega)
  have h2:i/c.pages<2:=Int.ediv_lt_of_lt_mul (by omega) i1
  omega
 have hle: ∀k,0≤k→k<2*c.pages→iW (bF c k)≤g+1:=fun k k0 k1=>by
  rw[iW]
  split
  ·
   rename_i hv
   obtain⟨j,_,_,_,_,_,j5⟩:=h.xN
   rcases j5 k k0 k1 hv with r|r|r
   ·
    omega
   ·
    omega
   ·
    rw[r.1];exact Nat.le_refl _
  ·
   omega
 have OX: ∀p∈(aj c 1).pages,∃k,c.pages≤k∧k<2*c.pages∧bF c k=p:=fun p uC=>by
  obtain⟨j,hj⟩:=List.getElem?_of_mem uC
  have jA:=(List.getElem?_eq_some_iff.1 hj).1
  refine⟨c.pages+j,by omega,by omega,?_⟩
  have:=rY h.bears (k:=(aj c 0).pages.length+j) (by omega)
  rw[show(((aj c 0).pages.length+j:Nat):Int)=c.pages+j by omega]at this
  rw[←this]
  simp only[List.getD]
  rw[List.getElem?_append_right (by omega),Nat.add_sub_cancel_left,hj];rfl
 have Ia:i/c.pages=(if gW c 1=g+1 then 1 else b):=by
  rcases Ho with e|e
  ·
   have eX:i<c.pages:=by
    apply Classical.byContradiction
    intro hn
    have:=Int.ediv_le_ediv (show 0<c.pages by omega) (show c.pages≤i by omega)
    rw[Int.ediv_self (by omega)]at this;omega
   have hg:gW c 1≤g:=by
    refine DQ _ 0 (Nat.zero_le _) fun p uC=> ?_
    obtain⟨k,GS,oC,rfl⟩:=OX p uC
    rw[iW]
    split
    ·
     rename_i hv
     obtain⟨j,_,_,_,_,_,j5⟩:=h.xN
     rcases j5 k (by omega) oC hv with r|r|r
     ·
      omega
     ·
      omega
     ·
      have:=i3 k oC r.1;omega
    ·
     omega
   rw[if_neg (by omega),e]
   have akq:=i3 k0 (bu k0 (by omega)) q2
   have:k0/c.pages=0:=Int.ediv_eq_zero_of_lt q0 (by omega)
   omega
  ·
   have eX:c.pages≤i:=by
    apply Classical.byContradiction
    intro hn
    have:i/c.pages=0:=Int.ediv_eq_zero_of_lt i0 (by omega)
    omega
   have hg:gW c 1=g+1:=by
    have h1:gW c 1≤g+1:=DQ _ 0 (Nat.zero_le _) fun p uC=>by
     obtain⟨k,GS,oC,rfl⟩:=OX p uC
     exact hle k (by omega) oC
    have h2:bF c i∈(aj c 1).pages:=by
     rw[bF,e]
     have mg:0≤i%c.pages:=Int.emod_nonneg _ (by omega)
     have nE:i%c.pages<c.pages:=Int.emod_lt_of_pos _ (by omega)
     have hj:(i%c.pages).toNat<(aj c 1).pages.length:=by omega
     simp only[List.getD]
     rw[List.getElem?_eq_getElem hj];exact List.getElem_mem hj
    have h3:=(H9 (p:=bF c i) (aj c 1).pages 0).2 h2
    have h4:iW (bF c i)=g+1:=by rw[iW,if_pos (by rw[i2]),i2]
    have h5:gW c 1=(aj c 1).pages.foldl (fun m p=>max m (iW p)) 0:=rfl
    omega
   rw[if_pos hg,e]
 rw[←Ia];exact hR
theorem OY: ∀(n:Nat) {x:WV} {a:List Int} {b:List UInt8},cV x→Wv x.v.gen x.v.at_ x.v.last a x.v.ae→Pl x.v.ae a→ie x.v.ae→bE b=(⟨x.v.gen+1,a⟩,0)→(b.length:Int)=x.v.ae.size→(cP -x.v.ae.ops).toNat<n→
  (∀L,Kd L x.v.ae (gw n x a b).1.v.ae)∧((gw n x a b).2=0→eU (gw n x a b).1.v∧(gw n x a b).1.v.at_=a)∧
  ((gw n x a b).2≠0→(gw n x a b).1=x.on (gw n x a b).1.v.ae∧Wv x.v.gen x.v.at_ x.v.last a (gw n x a b).1.v.ae∧(x.v.ae.aQ=[]→qV x.v.gen a x.v.ae→qV x.v.gen a (gw n x a b).1.v.ae)∧
   ((gw n x a b).2=7∨(gw n x a b).2=9∨((gw n x a b).2=1∧DP (gw n x a b).1.v.ae)))∧((gw n x a b).2=7→(gw n x a b).1.v.ae.off=true)
 |0,x,a,b,_,_,_,_,_,_,hn=>by omega
 |n+1,x,a,b,hx,hw,ha,bX,hr,dz,hn=>by
  have hl:=hx.last
  obtain⟨k1,k2,k3,k4,k5,k6⟩:=abf hw bX hl
  obtain⟨o1,o2,o3,o4⟩:=CD (last:=x.v.last) hx.ae hl
  have ly:0≤x.v.last:=by omega
  rw[gw]
  by_cases h0:(aX x.v.ae x.v.last).2.2≠0
  ·
   rw[if_pos h0]
   exact⟨k1,fun h=>absurd h h0,fun _=>⟨rfl,k2,fun _ g=>k3 g,k6 h0⟩,k4⟩
  ·
   rw[if_neg h0]
   obtain⟨g1,g2⟩:=k5 (by simpa using h0)
   have abi:ie (aX x.v.ae x.v.last).1:=bX.kd (k1 [])
   have hh:gp (aX x.v.ae x.v.last).1 (aX x.v.ae x.v.last).2.1=true:=by
    have:=(ft.1 k2.bears).2.1
    exact gq.2 ⟨o1,by omega,by omega⟩
   have oZ:0≤(aX x.v.ae x.v.last).2.1:=by omega
   have eR:=k2.prog abi oZ ly hr
   have td: ∀L,Kd L x.v.ae (bn (aX x.v.ae x.v.last).1 (aX x.v.ae x.v.last).2.1 b):=fun L=>(k1 L).trans AJ
   by_cases h1:bC (aX x.v.ae x.v.last).1 (aX x.v.ae x.v.last).2.1 b=0
   ·
    rw[if_pos h1]
    refine⟨td,fun _=>⟨?_,rfl⟩,fun h=>absurd rfl h,fun h=>absurd (show(0:Int)=7 from h) (by decide)⟩
    have hz:=nv h1
    obtain⟨j1,j2,j3,j4,j5⟩:=iS.1 hz.1
    have hP:=(gU (aX x.v.ae x.v.last).1 (aX x.v.ae x.v.last).2.1 b).pages
    generalize(aX x.v.ae x.v.last).1=c at*
    generalize(aX x.v.ae x.v.last).2.1=B at*
    have hd:(B*c.pages+(aj c B).used)/c.pages=B:=by
     rw[Int.add_comm,Int.add_mul_ediv_right _ _ (by omega),Int.ediv_eq_zero_of_lt j2 j3,Int.zero_add]
    have hm:(B*c.pages+(aj c B).used)%c.pages=(aj c B).used:=by
     rw[Int.add_comm,Int.add_mul_emod_self_right,Int.emod_eq_of_lt j2 j3]
    have vN:=(dV.1 (n8 j1)).1
    have oo:bF (bn c B b) (B*c.pages+(aj c B).used)=b:=by
     rw[hz.2.2.2.2]
     show(aj _ ((B*c.pages+(aj c B).used)/c.pages)).pages.getD ((B*c.pages+(aj c B).used)%c.pages).toNat []=b
     rw[hd,hm,gG,mK j1]
     simp only[List.getD]
     rw[List.getElem?_set_self (by omega),mG,hz.2.2.2.1];rfl
    have:0≤B*c.pages:=Int.mul_nonneg oZ (by omega)
    exact eR.last (k0:=B*c.pages+(aj c B).used) (ha.kd (td a) fun _ g=>g) g1 (by omega) (by rw[hP,hd]) (by rw[oo];exact hr)
   ·
    rw[if_neg h1]
    by_cases h9:bC (aX x.v.ae x.v.last).1 (aX x.v.ae x.v.last).2.1 b≠9
    ·
     rw[if_pos h9]
     refine⟨td,fun h=>absurd h h1,fun _=>⟨rfl,eR,fun hf iF=>(k3 iF).prog (by rw[(k1 []).ln];exact hf) h1,?_⟩,AK⟩
     rcases zP (aX x.v.ae x.v.last).1 (aX x.v.ae x.v.last).2.1 (aj (aX x.v.ae x.v.last).1 (aX x.v.ae x.v.last).2.1).used b with q|q|q|q
     ·
      exact absurd q h1
     ·
      obtain⟨t1,t2⟩:=abh hh g2 (by rw[dz,o2.size]) q
      refine .inr (.inr ⟨q, .inl ?_⟩)
      simp only[WV.on]
      rw[bn,zL,t2];exact t1
     ·
      exact .inl q
     ·
      exact absurd q h9
    ·
     rw[if_neg h9]
     have e9:bC (aX x.v.ae x.v.last).1 (aX x.v.ae x.v.last).2.1 b=9:=by simpa using h9
     have ho:=rB (CC g2) (p:=b) (.inl e9)
     have bR:=kK o1 (aX x.v.ae x.v.last).2.1 b
     have dM:=o2.trans (gU (aX x.v.ae x.v.last).1 (aX x.v.ae x.v.last).2.1 b)
     have hle:=qC bR
     have fA:=hx.on bR dM
     obtain⟨t1,t2,t3,t4⟩:=OY n (x:=x.on (bn (aX x.v.ae x.v.last).1 (aX x.v.ae x.v.last).2.1 b)) (a:=a) (b:=b) fA eR (ha.kd (td a) fun _ g=>g) (bX.kd (td [])) hr (by rw[dz];exact dM.size.symm) (by simp only[WV.on];omega)
     refine⟨fun L=>(td L).trans (t1 L),t2,fun h=> ?_,t4⟩
     obtain⟨s1,s2,s3,s4⟩:=t3 h
     refine⟨by rw[s1,LS];rfl,s2,fun hf iF=>s3 (by rw[←hf];exact(td []).ln) ((k3 iF).prog (by rw[(k1 []).ln];exact hf) h1),s4⟩
structure Sf(x:WV)(bs:List (List UInt8))(y:WV)(e:Int):Prop where
 kd:Kd [] x.v.ae y.v.ae
 len:y.v.at_.length=x.v.at_.length
 bb:e=0→eU y.v∧cd y.v=bs
 err:e≠0→(e=7∨e=9∨(e=1∧DP y.v.ae))∨(eU y.v∧cd y.v=cd x.v)
 wg:e≠0→x.v.ae.aQ=[]→eU y.v∧cd y.v=cd x.v
 any: ∃u:VV,eU u∧u.ae=y.v.ae∧u.at_.length=x.v.at_.length∧(cd u=cd x.v∨cd u=bs)
 off:e=7→y.v.ae.off=true
theorem OZ{v:VV}{c:CV}(hp:Pl v.ae v.at_)(k:Kd v.at_ v.ae c):cd {v with ae:=c}=cd v:=DH hp k fun _ h=>h
theorem Sf.data{x:WV}(h:eU x.v){c:CV}(k:Kp x.v.at_ x.v.ae c){e:Int}{bs:List (List UInt8)}(ta:e=0→bs=cd x.v)(ho:e=7→c.off=true):Sf x bs (x.on c) e:=by
 have h2:eU (x.on c).v∧cd (x.on c).v=cd x.v:=⟨h.kp k,OZ h.pl k.toKd⟩
 exact⟨k.toKd.sub fun _ h=>absurd h List.not_mem_nil,rfl,fun g=>⟨h2.1,by rw[ta g];exact h2.2⟩,fun _=> .inr h2,fun _ _=>h2,⟨_,h2.1,rfl,rfl, .inl h2.2⟩,ho⟩
theorem Sf.trans{x y z:WV}{bs:List (List UInt8)}{e:Int}(h:Sf x (cd x.v) y 0)(g:Sf y bs z e):Sf x bs z e:=by
 have hb:=(h.bb rfl).2
 refine⟨h.kd.trans g.kd,g.len.trans h.len,g.bb,fun he=> ?_,fun he hf=> ?_,?_,g.off⟩
 ·
  rw[←hb];exact g.err he
 ·
  rw[←hb];exact g.wg he (by rw[h.kd.ln];exact hf)
 ·
  rw[←hb,←h.len];exact g.any
theorem Ib{x:WV}{a:List Int}(hx:cV x)(h:eU x.v)(bX:ie x.v.ae)(ha:Pl x.v.ae a)(dJ:a.length=x.v.at_.length):Sf x (a.map (eo x.v.ae)) (dP x a).1 (dP x a).2∧((dP x a).2=0→(dP x a).1.v.at_=a):=by
 rw[dP]
 by_cases h0:(cO ⟨x.v.gen+1,a⟩ x.v.ae.size).2≠0
 ·
  rw[if_pos h0]
  refine⟨?_,fun g=>absurd g h0⟩
  have:=Sf.data (x:=x) h (.cZ _ _) (e:=(cO ⟨x.v.gen+1,a⟩ x.v.ae.size).2) (bs:=a.map (eo x.v.ae)) (fun g=>absurd g h0) (fun g=>by
   rw[cO]at g
   split at g
   ·
    rcases xx ⟨2,max 0 ((a.length:Int) -1),x.v.gen+1,gv a⟩ x.v.ae.size with q|q
    ·
     rw[q]at g;cases g
    ·
     rw[q]at g;cases g
   ·
    cases g)
  rw[LR]at this;exact this
 ·
  rw[if_neg h0]
  have hm:=Ou (by simpa using h0)
  obtain⟨t1,t2,t3,t4⟩:=OY ((cP -x.v.ae.ops).toNat+1) (b:=(cO ⟨x.v.gen+1,a⟩ x.v.ae.size).1) hx (h.wv a) ha bX (Oq hm) (Ot hm) (by omega)
  generalize gw ((cP -x.v.ae.ops).toNat+1) x a (cO ⟨x.v.gen+1,a⟩ x.v.ae.size).1=W at*
  have rU:cd ⟨W.1.v.ae,a,x.v.gen+1,0⟩=a.map (eo x.v.ae):=DH ha (t1 a) fun _ g=>g
  have mW:cd ⟨W.1.v.ae,x.v.at_,x.v.gen,x.v.last⟩=cd x.v:=OZ h.pl (t1 x.v.at_)
  have fC:=h.pl.kd (t1 x.v.at_) fun _ g=>g
  have oS:=ha.kd (t1 a) fun _ g=>g
  have abj:qV x.v.gen a x.v.ae:=fun k k0 k1 e=>by
   have:=(OQ h.bears h.roots).2 k k0 k1 (by rw[e])
   rw[e,h.gen]at this
   simp only at this;omega
  refine⟨⟨t1 [],?_,fun g=> ?_,fun g=> ?_,fun g hf=> ?_,?_,t4⟩,fun g=>(t2 g).2⟩
  ·
   by_cases g:W.2=0
   ·
    rw[(t2 g).2,dJ]
   ·
    rw[(t3 g).1];rfl
  ·
   obtain⟨q1,q2⟩:=t2 g
   refine⟨q1,?_⟩
   show W.1.v.at_.map (eo W.1.v.ae)=_
   rw[q2];exact rU
  ·
   exact .inl (t3 g).2.2.2
  ·
   obtain⟨q1,q2,q3,_⟩:=t3 g
   have:=q2.OS fC (q3 hf abj)
   rw[q1]
   exact⟨this,mW⟩
  ·
   by_cases g:W.2=0
   ·
    obtain⟨q1,q2⟩:=t2 g
    refine⟨W.1.v,q1,rfl,by rw[q2,dJ], .inr ?_⟩
    show W.1.v.at_.map (eo W.1.v.ae)=_
    rw[q2];exact rU
   ·
    obtain⟨q1,q2,_⟩:=t3 g
    obtain⟨u,hu,hc,DR⟩:=q2.some fC oS
    rcases DR with rfl|⟨e1,e2⟩
    ·
     exact⟨_,hu,rfl,rfl, .inl mW⟩
    ·
     refine⟨u,hu,hc,by rw[e1,dJ], .inr ?_⟩
     show u.at_.map (eo u.ae)=_
     rw[e1,hc];exact rU
open Go.aA
theorem Sf.by{x y:WV}{bs:List (List UInt8)}{e:Int}(h:Sf x bs y e)(b:Bool):Sf x bs {y with beyond:=b} e:=⟨h.kd,h.len,h.bb,h.err,h.wg,h.any,h.off⟩
theorem Sf.cL{x y:WV}{bs:List (List UInt8)}{e:Int}{b:Bool}(h:Sf {x with beyond:=b} bs y e):Sf x bs y e:=⟨h.kd,h.len,h.bb,h.err,h.wg,h.any,h.off⟩
theorem Sf.ne{x y:WV}{bs:List (List UInt8)}{e:Int}(h:Sf x (cd x.v) y e)(he:e≠0):Sf x bs y e:=
 ⟨h.kd,h.len,fun g=>absurd g he,h.err,h.wg,by
  obtain⟨u,h1,h2,h3,h4⟩:=h.any
  exact⟨u,h1,h2,h3, .inl (h4.elim id id)⟩,h.off⟩
theorem Sf.stay{x:WV}(h:eU x.v){e:Int}(he:e≠7):Sf x (cd x.v) x e:=by
 have:=Sf.data (x:=x) h (.cZ _ _) (e:=e) (bs:=cd x.v) (fun _=>rfl) (fun g=>absurd g he)
 rw[LR]at this;exact this
theorem Sf.zero{x y:WV}{bs:List (List UInt8)}{e:Int}(h:Sf x bs y e)(h0:e≠0)(h7:e≠7)(h9:e≠9)(h1:e≠1):Sf x (cd x.v) y 0:=by
 have hr:eU y.v∧cd y.v=cd x.v:=(h.err h0).resolve_left fun g=>by
  rcases g with g|g|g
  ·
   exact h7 g
  ·
   exact h9 g
  ·
   exact h1 g.1
 exact⟨h.kd,h.len,fun _=>hr,fun g=>absurd rfl g,fun g=>absurd rfl g,⟨y.v,hr.1,rfl,h.len, .inl hr.2⟩,fun g=>absurd g (by decide)⟩
theorem abk{x:WV}{src to:Int}(hx:cV x)(h:eU x.v)(bX:ie x.v.ae)(lQ:2≤src)(nK:0≤to→to≠src)(ht:0≤to→2≤to∧to<x.v.ae.blocks.length∧(aj x.v.ae to).bad=false):
  Sf x (cd x.v) (c5 x src to).1 (c5 x src to).2.2∧((c5 x src to).2.1=true→(c5 x src to).2.2=0∧kg (c5 x src to).1.v.at_ x.v.ae src)∧((c5 x src to).2.2=6→(c5 x src to).1=x.on (c5 x src to).1.v.ae):=by
 have hp:1≤x.v.ae.pages:=by have:=hx.pages;omega
 obtain⟨t1,t2,t3,t4⟩:=DM lQ nK hp x.v.at_ 0 (c:=x.v.ae) (a:=x.v.at_) hx.ae h.pl (.cZ _ _) h.pl rfl ht rfl (fun _ _=>rfl) (fun j n hj=>by omega) rfl
 rw[c5]
 split
 ·
  rename_i e he
  exact⟨Sf.data h t1 (fun _=>rfl) (fun g=>t3 (by rw[he];exact congrArg some g)),fun g=>absurd (show false=true from g) (by simp),fun _=>rfl⟩
 ·
  rename_i he
  obtain⟨g1,g2,g3,g4⟩:=t2 he
  have fA:=hx.on (t1.ok hx.ae) t1.bT
  have hw:=Ib fA (h.kp t1) (bX.kd t1.toKd) g1 g3
  have hs:=Sf.data h t1 (e:=0) (bs:=cd x.v) (fun _=>rfl) (fun g=>absurd g (by decide))
  have mq:=hw.1
  rw[show List.map (eo (x.on (bZ x.v src to x.v.at_ 0 x.v.ae x.v.at_).c).v.ae) (bZ x.v src to x.v.at_ 0 x.v.ae x.v.at_).a=cd x.v from g2]at mq
  refine⟨hs.trans mq,fun g=> ?_,fun g=>absurd g (Gd _ _)⟩
  simp only[decide_eq_true_eq]at g
  refine⟨g,?_⟩
  rw[hw.2 g];exact g4
theorem abl{c:CV}{l:List ay}{fl:List Int}(hd:qb c fl l):Kp fl c (bV c l).1∧((bV c l).2.2=7→(bV c l).1.off=true)∧((bV c l).2.2=0→ ∃(j:Nat) (x:ay),(bV c l).2.1=(j:Int)+2∧l[j]? =some x∧x.bad=false):=by
 rw[bV]
 by_cases h1:(lf c l).2=true
 ·
  rw[if_pos h1]
  obtain⟨x,hx,k1,_,_,k4,_⟩:=nx (fun x h=>(qA h).1) h1
  exact⟨.cZ _ _,fun h=>absurd (show(0:Int)=7 from h) (by decide),fun _=>⟨_,x,by show(lf c l).1+2=(((lf c l).1.toNat:Nat):Int)+2;rw[Int.toNat_of_nonneg (show 0≤(lf c l).1 from k4)],hx,k1⟩⟩
 ·
  rw[if_neg h1]
  by_cases h2:(jt c l).2=true
  ·
   rw[if_pos h2]
   obtain⟨x,hx,k1,_,_,k4,_⟩:=nx (fun x h=>(kM h).1) h2
   obtain⟨d1,d2⟩:=DJ hd h2
   exact⟨we (by show 2≤(jt c l).1+2;change 0≤(jt c l).1 at d2;omega) d1,AL,fun _=>⟨_,x,by show(jt c l).1+2=(((jt c l).1.toNat:Nat):Int)+2;rw[Int.toNat_of_nonneg (show 0≤(jt c l).1 from k4)],hx,k1⟩⟩
  ·
   rw[if_neg h2]
   by_cases h3:(ju c l).2=true
   ·
    rw[if_pos h3]
    obtain⟨x,hx,k1,_,_,k4,_⟩:=nx (fun x h=>(kM h).1) h3
    obtain⟨d1,d2⟩:=DJ hd h3
    exact⟨we (by show 2≤(ju c l).1+2;change 0≤(ju c l).1 at d2;omega) d1,AL,fun _=>⟨_,x,by show(ju c l).1+2=(((ju c l).1.toNat:Nat):Int)+2;rw[Int.toNat_of_nonneg (show 0≤(ju c l).1 from k4)],hx,k1⟩⟩
   ·
    rw[if_neg h3]
    exact⟨.cZ _ _,fun h=>absurd (show(6:Int)=7 from h) (by decide),fun h=>absurd (show(6:Int)=0 from h) (by decide)⟩
theorem Ic{e:Int}(h:jr e=7):e=7:=by rw[jr]at h;split at h<;>omega
theorem O0{x:WV}{l:List ay}{i:Int}(hx:cV x)(h:eU x.v)(bX:ie x.v.ae)(ht:kt x.v.ae l)(hd:qb x.v.ae x.v.at_ l)(h0:0≤i)(hi:i<l.length):
  Sf x (cd x.v) (ff x l i).1 (ff x l i).2∧((ff x l i).2=6→(ff x l i).1=x.on (ff x l i).1.v.ae):=by
 obtain⟨k1,k2,k3⟩:=abl (hd.set i.toNat)
 have fW: ∀{e:Int},(e=7→(bV x.v.ae (l.set i.toNat bl)).1.off=true)→Sf x (cd x.v) (x.on (bV x.v.ae (l.set i.toNat bl)).1) e:=fun ho=>Sf.data h k1 (fun _=>rfl) ho
 rw[ff]
 by_cases ov:(cQ x.v.ae l i).2≠0
 ·
  rw[if_pos ov]
  refine⟨fW fun g=>k2 ?_,fun _=>rfl⟩
  have g:=Ic g
  rw[cQ]at g
  split at g
  ·
   cases g
  ·
   exact g
 ·
  rw[if_neg ov]
  have Ie:(cQ x.v.ae l i).2=0:=by simpa using ov
  have kV:=CI (i:=i) hx.ae ht Ie
  have fA:=hx.on (k1.ok hx.ae) k1.bT
  have bW:0≤(cQ x.v.ae l i).1→(cQ x.v.ae l i).1≠i+2:=fun hn e=>by
   have ea:oQ x.v.ae l i=false:=by
    cases hq:oQ x.v.ae l i with
    |false=>rfl
    |true=>rw[cQ,if_pos hq]at hn;exact absurd (show(0:Int)≤ -1 from hn) (by decide)
   rw[cQ,if_neg (by rw[ea];simp)]at e Ie
   obtain⟨j,z,e1,e2,e3⟩:=k3 Ie
   have:j=i.toNat:=by omega
   rw[this,List.getElem?_set_self (by omega)]at e2
   obtain rfl:=Option.some.inj e2;cases e3
  obtain⟨m1,m2,m3⟩:=abk (x:=x.on (bV x.v.ae (l.set i.toNat bl)).1) (src:=i+2) (to:=(cQ x.v.ae l i).1) fA (h.kp k1) (bX.kd k1.toKd) (by omega) bW (fun hn=>by
   have:=kV hn
   exact⟨this.1,by simp only[WV.on];rw[k1.bT.len];exact this.2.1,this.2.2⟩)
  have mok:=CG (x:=x.on (bV x.v.ae (l.set i.toNat bl)).1) (src:=i+2) (to:=(cQ x.v.ae l i).1) fA (fun hn=>by
   have:=kV hn
   exact⟨this.1,by simp only[WV.on];rw[k1.bT.len];exact this.2.1,this.2.2⟩)
  have Ig:Sf x (cd x.v) (x.on (bV x.v.ae (l.set i.toNat bl)).1) 0:=fW fun g=>absurd g (by decide)
  rw[(Ig.bb rfl).2]at m1
  generalize c5 (x.on (bV x.v.ae (l.set i.toNat bl)).1) (i+2) (cQ x.v.ae l i).1=M at*
  by_cases h1:M.2.1=false∨(l.getD i.toNat dO).used=x.v.ae.pages
  ·
   rw[if_pos h1]
   exact⟨Ig.trans m1,fun g=>by rw[m3 g,LS];rfl⟩
  ·
   rw[if_neg h1]
   have hdn:M.2.1=true:=by
    cases hq:M.2.1 with
    |true=>rfl
    |false=>exact absurd (.inl hq) h1
   obtain⟨e0,hdd⟩:=m2 hdn
   rw[e0]at m1
   have hR:=m1.bb rfl
   have abm:kg M.1.v.at_ M.1.v.ae (i+2):=hdd.bT m1.kd.bT
   have hc:=we (c:=M.1.v.ae) (by omega) abm
   have O1:=Sf.data (x:=M.1) hR.1 hc (e:=jr (cA M.1.v.ae (i+2)).2) (bs:=cd M.1.v) (fun _=>rfl) (fun g=>AL (Ic g))
   have abn:=Ig.trans m1
   rw[hR.2]at O1
   exact⟨abn.trans O1,fun g=>absurd (CH g) (LY _ _)⟩
theorem Ih{x:WV}{l:List ay}(h:eU x.v)(hd:qb x.v.ae x.v.at_ l):Sf x (cd x.v) (j7 x l).1 (j7 x l).2:=by
 rw[j7];split
 ·
  exact Sf.stay h (e:=6) (by decide)
 ·
  rename_i hq
  obtain⟨d1,d2⟩:=DJ hd (show(mL x.v.ae l).2=true by simpa using hq)
  exact Sf.data h (we (by show 2≤(mL x.v.ae l).1+2;change 0≤(mL x.v.ae l).1 at d2;omega) d1) (fun _=>rfl) (fun g=>AL (Ic g))
theorem qb.bT{c d:CV}{fl:List Int}{l:List ay}(h:qb c fl l)(g:dx c d):qb d fl l:=fun i x hx hb hl=>(h i x hx hb hl).bT g
theorem abo{x:WV}(hx:cV x)(h:eU x.v)(bX:ie x.v.ae):Sf x (cd x.v) (eF x).1 (eF x).2:=by
 have ht:kt x.v.ae (c6 x):=vD _ _
 have hd:qb x.v.ae x.v.at_ (c6 x):=DI _ _
 rw[eF];split
 ·
  rename_i hv
  have DS:=F6 (l:=c6 x) hv.1
  obtain⟨r1,r2⟩:=O0 (i:=(qH x).1) hx h bX ht hd DS.1 DS.2
  split
  ·
   exact r1
  ·
   rename_i h6
   have xA:(ff x (c6 x) (qH x).1).2=6:=by simpa using h6
   have hz:=r1.zero (by omega) (by omega) (by omega) (by omega)
   have e:=r2 xA
   have hR:=hz.bb rfl
   have j9:(ff x (c6 x) (qH x).1).1.v.at_=x.v.at_:=by rw[e];rfl
   have:=Ih hR.1 (l:=c6 x) (by rw[j9];exact hd.bT hz.kd.bT)
   rw[hR.2]at this
   exact hz.trans this
 ·
  exact Ih h hd
theorem O2: ∀(n:Nat) {x:WV} {need:Int},cV x→eU x.v→ie x.v.ae→Sf x (cd x.v) (me n x need).1 (me n x need).2
 |0,x,need,hx,h,bX=>Sf.stay h (e:=0) (by decide)
 |n+1,x,need,hx,h,bX=>by
  have hc:=abo hx h bX
  have hco:=CJ hx
  rw[me]
  split
  ·
   exact Sf.stay h (e:=0) (by decide)
  ·
   split
   ·
    exact(Sf.stay h (e:=0) (by decide)).by true
   ·
    split
    ·
     rename_i h0
     rw[h0]at hc
     have hR:=hc.bb rfl
     have:=O2 n (need:=need) hco.1.ok hR.1 (bX.kd hc.kd)
     rw[hR.2]at this
     exact hc.trans this
    ·
     split
     ·
      exact hc
     ·
      rename_i h6
      have xA:(eF x).2=6:=by simpa using h6
      have hz:=hc.zero (by omega) (by omega) (by omega) (by omega)
      have hR:=hz.bb rfl
      split
      ·
       exact hz.by true
      ·
       have:=Sf.stay (x:=(eF x).1) hR.1 (e:=5) (by decide)
       rw[hR.2]at this
       exact hz.trans this
theorem O3{x:WV}{need:Int}(hx:cV x)(h:eU x.v)(bX:ie x.v.ae):Sf x (cd x.v) (j8 x need).1 (j8 x need).2:=O2 _ hx h bX
theorem O4{x:WV}{l:List (Int×List UInt8)}(hx:cV x)(h:eU x.v)(bX:ie x.v.ae)(iB: ∀y∈l,0≤y.1):Sf x (rX (cd x.v) l) (gJ x l).1 (gJ x l).2:=by
 have hs:Sf x (cd x.v) (cH x l).1 (cH x l).2:=(O3 (x:={x with beyond:=false}) (need:=lg l) (hx.by false) h bX).cL
 have ho:=CK (l:=l) hx
 rw[gJ]
 by_cases h0:(cH x l).2≠0
 ·
  rw[if_pos h0];exact hs.ne h0
 ·
  rw[if_neg h0]
  rw[show(cH x l).2=0 by simpa using h0]at hs
  have hR:=hs.bb rfl
  obtain⟨t1,t2,t3⟩:=DL (v:=(cH x l).1.v) (aF:=(cH x l).1.beyond) l (c:=(cH x l).1.v.ae) (a:=(cH x l).1.v.at_) ho.ok.ae (by have:=ho.ok.qE;omega) hR.1.pl hR.1.pl iB
  by_cases h1:(fM x l).2.2≠0
  ·
   rw[if_pos h1]
   exact hs.trans (Sf.data hR.1 t1 (fun g=>absurd g h1) t3)
  ·
   rw[if_neg h1]
   obtain⟨g1,g2,g3⟩:=t2 (Classical.not_not.1 h1)
   have fA:=ho.ok.on (t1.ok ho.ok.ae) t1.bT
   have hw:=(Ib fA (hR.1.kp t1) ((bX.kd hs.kd).kd t1.toKd) g1 g3).1
   have e:List.map (eo (fM x l).1) (fM x l).2.1=rX (cd x.v) l:=by rw[←hR.2];exact g2
   have hd:=Sf.data (x:=(cH x l).1) hR.1 t1 (e:=0) (bs:=cd (cH x l).1.v) (fun _=>rfl) (fun g=>absurd g (by decide))
   have eR:Sf ((cH x l).1.on (fM x l).1) (rX (cd x.v) l) (dP ((cH x l).1.on (fM x l).1) (fM x l).2.1).1 (dP ((cH x l).1.on (fM x l).1) (fM x l).2.1).2:=by rw[←e];exact hw
   exact hs.trans (Sf.trans hd eR)
theorem O5{l:List (Int×List UInt8)}(iB: ∀y∈l,0≤y.1): ∀(n:Nat) {x:WV},cV x→eU x.v→ie x.v.ae→x.v.ae.blocks.length<n+lC x.v.ae→Sf x (rX (cd x.v) l) (nA n x l).1 (nA n x l).2
 |0,x,hx,h,bX,hn=>by have:=L4 x.v.ae;omega
 |n+1,x,hx,h,bX,hn=>by
  have hb:=O4 (l:=l) hx h bX iB
  have ho:=Gk (l:=l) hx
  rw[nA]
  split
  ·
   rename_i h5
   rw[h5.1]at hb
   have hz:=hb.zero (by decide) (by decide) (by decide) (by decide)
   have hR:=hz.bb rfl
   have:=O5 iB n ho.ok hR.1 (bX.kd hz.kd) (by have:=ho.bT.len;omega)
   rw[hR.2]at this
   exact hz.trans this
  ·
   exact hb
theorem O6{v:VV}{l:List (Int×List UInt8)}(h:eU v)(bX:ie v.ae):Sf ⟨v,false⟩ (rX (cd v) l) ⟨(fy v l).1,false⟩ (fy v l).2:=by
 rw[fy]
 split
 ·
  exact(Sf.stay (x:=⟨v,false⟩) h (e:=1) (by decide)).ne (by decide)
 ·
  rename_i h1
  have O7:=Classical.not_not.1 h1
  split
  ·
   rename_i ho
   have:=Sf.data (x:=⟨v,false⟩) h (.cZ _ _) (e:=7) (bs:=rX (cd v) l) (fun g=>absurd g (by decide)) (fun _=>ho)
   exact this
  ·
   have iB: ∀y∈l,0≤y.1:=fun y hy=>by
    obtain⟨j,hj⟩:=List.getElem?_of_mem hy
    have:=zQ.1 O7.2.2 j (List.getElem?_eq_some_iff.1 hj).1
    rw[rI,show l.getD j (0,[])=y by simp[List.getD,hj],Bool.and_eq_true,rH,Bool.and_eq_true,Bool.and_eq_true,decide_eq_true_eq]at this
    exact this.1.1.1
   have:=O5 iB (v.ae.blocks.length+1) (x:=⟨v,false⟩) (CL O7.1) h bX (by show v.ae.blocks.length<_;omega)
   exact this.by false
open Go.aA
theorem abp{t:List Rt}(h:cr t=true): ∀l:List Ch,cr (gK t l).1=true:=by
 intro l
 induction l generalizing t with
 |nil=>exact h
 |cons c r ih=>
  rw[gK]
  split
  ·
   exact ih (AF h c)
  ·
   exact h
theorem Ii{t:List Rt}(h:cr t=true)(l:List Ch):cr (cj t l)=true:=by
 rw[cj];split
 ·
  exact abp h l
 ·
  exact h
def powC(c:CV):CV:={c with off:=false}
theorem eU.on{v:VV}(h:eU v)(b:Bool):eU {v with ae:={v.ae with off:=b}}:=by
 obtain⟨h1,h2,h3,h4,h5,h6,h7⟩:=h
 exact⟨h1,h2,h3,h4,h5,h6,h7⟩
theorem O8{v:VV}(h:eU v):bx (powC v.ae)=(⟨powC v.ae,v.at_,v.gen,v.last⟩,0):=by
 have h2:=yp.2 (h.on false)
 rw[kI]at h2
 simp only[Bool.and_eq_true,decide_eq_true_eq]at h2
 obtain⟨⟨⟨g1,g2⟩,g3⟩,g4⟩:=h2
 have hc:=MQ g1
 change(bx (powC v.ae)).2=0 at g1
 change(bx (powC v.ae)).1.gen=v.gen at g2
 change(bx (powC v.ae)).1.last=v.last at g3
 change(bx (powC v.ae)).1.at_=v.at_ at g4
 change(bx (powC v.ae)).1.ae=powC v.ae at hc
 generalize bx (powC v.ae)=F at*
 obtain⟨⟨f1,f2,f3,f4⟩,f5⟩:=F
 simp only at g1 g2 g3 g4 hc
 subst g1 g2 g3 g4 hc;rfl
structure gM(f:FV):Prop where
 rt:eU f.ak
 iC:fa f.ak.ae≠0
 ids:(f.ak.at_.length:Int)=dh f.ak.ae
 Ij:jh (cd f.ak)=0
 eq:f.table=iD (cd f.ak)
theorem O9{v:VV}(h:eU v)(hm:fa v.ae≠0)(hi:(v.at_.length:Int)=dh v.ae)(ht:jh (cd v)=0):c8 (powC v.ae)=(⟨⟨powC v.ae,v.at_,v.gen,v.last⟩,iD (cd v)⟩,0)∧jP (powC v.ae)=cd v:=by
 have hf:=O8 h
 have:=CY (c:=powC v.ae) hm (by rw[hf]) (by rw[hf];exact hi) (by rw[hf];exact ht)
 rw[hf]at this
 exact this
theorem gM.load{f:FV}(h:gM f):c8 (powC f.ak.ae)=(⟨⟨powC f.ak.ae,f.ak.at_,f.ak.gen,f.ak.last⟩,f.table⟩,0)∧jP (powC f.ak.ae)=cd f.ak:=by
 rw[h.eq];exact O9 h.rt h.iC h.ids h.Ij
theorem uD{f:FV}:gx f=true↔gM f:=by
 constructor
 ·
  intro h
  rw[Vf]at h
  simp only[Bool.and_eq_true,decide_eq_true_eq]at h
  obtain⟨⟨h1,h2⟩,h3⟩:=h
  obtain⟨g0,g1,g2,g3⟩:=CZ h1
  have hr:=yp.1 h2
  have hf:=O8 hr
  change(bx (powC f.ak.ae)).2=0 at g1
  change(((bx (powC f.ak.ae)).1.at_.length:Nat):Int)=_ at g2
  change jh (cd (bx (powC f.ak.ae)).1)=0 at g3
  rw[hf]at g2 g3
  refine⟨hr,g0,g2,g3,?_⟩
  rw[←h3]
  exact congrArg (fun z:FV×Int=>z.1.table) (O9 hr g0 g2 g3).1
 ·
  intro h
  rw[GJ]
  change(c8 (powC f.ak.ae)).2=0∧f.ak.gen=(c8 (powC f.ak.ae)).1.ak.gen∧f.ak.last=(c8 (powC f.ak.ae)).1.ak.last∧f.ak.at_=(c8 (powC f.ak.ae)).1.ak.at_∧f.table=(c8 (powC f.ak.ae)).1.table
  rw[h.load.1]
  exact⟨rfl,rfl,rfl,rfl,rfl⟩
theorem gM.right{f:FV}(h:gM f):cr f.table=true:=by rw[h.eq];exact Vg h.Ij
theorem DT{c d:CV}(h:dx c d):fa d=fa c∧dh d=dh c:=by
 rw[fa,fa,dh,dh,h.len,h.pages,h.size];exact⟨rfl,rfl⟩
theorem Pa: ∀(l:List (Int×List UInt8)) (bs:List (List UInt8)) (i:Nat),l.Pairwise (fun p q=>p.1≠q.1)→(∀p∈l,0≤p.1)→(rX bs l)[i]? =match l.find? fun p=>decide (p.1=(i:Int))with
  |some p=>if i<bs.length then some p.2 else none
  |none=>bs[i]?
 |[],bs,i,_,_=>rfl
 |p::r,bs,i,hw,h0=>by
  obtain⟨mq,eR⟩:=List.pairwise_cons.1 hw
  have ih:=Pa r (bs.set p.1.toNat p.2) i eR fun q hq=>h0 q (List.mem_cons_of_mem _ hq)
  have hp0:=h0 p List.mem_cons_self
  show(rX (bs.set p.1.toNat p.2) r)[i]? =_
  rw[ih,List.find?_cons]
  by_cases e:p.1=(i:Int)
  ·
   have hn:(r.find? fun q=>decide (q.1=(i:Int)))=none:=List.find?_eq_none.2 fun q hq=>by
    rw[decide_eq_true_eq];intro e2;exact mq q hq (by rw[e,e2])
   rw[hn,decide_eq_true e]
   simp only
   rw[List.getElem?_set,if_pos (by omega)]
   by_cases hl:i<bs.length
   ·
    rw[if_pos (by omega),if_pos hl]
   ·
    rw[if_neg (by omega),if_neg hl]
  ·
   rw[decide_eq_false e]
   simp only
   cases hf:r.find? fun q=>decide (q.1=(i:Int))with
   |some q=>simp only;rw[List.length_set]
   |none=>simp only;rw[List.getElem?_set_ne (by omega)]
theorem Pb{a b:List (List UInt8)}(hl:a.length=b.length):rX a (eG a b)=b:=by
 have hs:=Dy a b (max a.length b.length)
 have hpw:(eG a b).Pairwise fun p q=>p.1≠q.1:=hs.imp fun h=>by omega
 have hm: ∀p∈eG a b,∃i:Nat,i<max a.length b.length∧p=((i:Int),b.getD i [])∧ ¬a.getD i []=b.getD i []:=fun p hp=>HQ hp
 refine List.ext_getElem? fun i=> ?_
 rw[Pa (eG a b) a i hpw fun p hp=>by obtain⟨j,_,rfl,_⟩:=hm p hp;exact Int.natCast_nonneg _]
 cases hf:(eG a b).find? fun p=>decide (p.1=(i:Int))with
 |some p=>
  obtain⟨j,h1,h2,h3⟩:=hm p (List.mem_of_find?_eq_some hf)
  have e:=List.find?_some hf
  rw[decide_eq_true_eq,h2]at e
  simp only at e
  have e':j=i:=by omega
  subst e'
  simp only
  by_cases hi:j<a.length
  ·
   rw[if_pos hi,h2,List.getElem?_eq_getElem (by omega)]
   simp[List.getD,show j<b.length by omega]
  ·
   rw[if_neg hi,List.getElem?_eq_none (by omega)]
 |none=>
  simp only
  rcases Nat.lt_or_ge i a.length with hi|hi
  ·
   have iF:=List.find?_eq_none.1 hf
   have hq:a.getD i []=b.getD i []:=by
    apply Classical.byContradiction
    intro bW
    have jD:((i:Int),b.getD i [])∈eG a b:=by
     rw[eG,mM]
     exact List.mem_filterMap.2 ⟨i,List.mem_range.2 (by omega),by rw[rK,if_neg bW]⟩
    have:=iF _ jD
    simp at this
   simp only[List.getD,List.getElem?_eq_getElem hi,List.getElem?_eq_getElem (show i<b.length by omega),Option.getD_some]at hq
   rw[List.getElem?_eq_getElem hi,List.getElem?_eq_getElem (show i<b.length by omega),hq]
  ·
   rw[List.getElem?_eq_none hi,List.getElem?_eq_none (by omega)]
structure Af(f:FV)(t:List Rt)(o:FV)(e:Int):Prop where
 kd:Kd [] f.ak.ae o.ak.ae
 bb:e=0→gM o∧o.table=t
 bad:e≠0→o.table=f.table
 err:e≠0→(e=7∨e=9∨(e=1∧DP o.ak.ae))∨gM o
 wg:e≠0→f.ak.ae.aQ=[]→gM o
 any: ∃g:FV,gM g∧g.ak.ae=o.ak.ae∧(g.table=f.table∨g.table=t)
 off:e=7→o.ak.ae.off=true
theorem yt{f:FV}{l:List Ch}(h:gM f):tZ f l=if fa f.ak.ae<(cj f.table l).length then 5 else 0:=by
 have hr:=Ii h.right l
 have hm:iC (dh f.ak.ae) (dC f.ak.ae.size)=fa f.ak.ae:=rfl
 rw[tZ,jv,if_neg,hm]
 rintro(g|g)
 ·
  rw[hr]at g;cases g
 ·
  exact h.iC g
theorem Pc{f:FV}{l:List Ch}(h:gM f)(he:dA f.table l≠0):cC f l=(f,dA f.table l):=MR (uD.2 h) he
theorem Pd{f:FV}{l:List Ch}(h:gM f)(he:dA f.table l=0)(hm:fa f.ak.ae<(cj f.table l).length):cC f l=(f,5):=by
 have:=yt (l:=l) h
 rw[if_pos hm]at this
 rw[MS (uD.2 h) he (by rw[this];decide),this]
theorem qW{f:FV}(h:gM f):ez f=cd f.ak:=h.load.2
theorem DU{f:FV}{l:List Ch}(h:gM f)(he:dA f.table l=0)(hm: ¬fa f.ak.ae<(cj f.table l).length)(hc:eG (ez f) (du f l)=[]):cC f l=(f,0)∧cj f.table l=f.table:=by
 have hE:=yt (l:=l) h
 rw[if_neg hm]at hE
 have hlen:(ez f).length=(du f l).length:=by
  have:=(AD hE).1
  have h2:=h.ids
  rw[qW h,xE]
  have:((du f l).length:Int)=dh f.ak.ae:=this
  omega
 have heq:=(ZU hlen).1 hc
 have ht:iD (du f l)=cj f.table l:=(N4 hE).1
 have e:cj f.table l=f.table:=by
  rw[←ht,←heq,qW h];exact h.eq.symm
 rw[MT (uD.2 h) he hE hc,e]
 exact⟨rfl,rfl⟩
theorem Pe{f:FV}{l:List Ch}(h:gM f)(bX:ie f.ak.ae)(he:dA f.table l=0)(hm: ¬fa f.ak.ae<(cj f.table l).length):Af f (cj f.table l) (cC f l).1 (cC f l).2:=by
 have hE:=yt (l:=l) h
 rw[if_neg hm]at hE
 by_cases hc:eG (ez f) (du f l)=[]
 ·
  obtain⟨e1,e2⟩:=DU h he hm hc
  rw[e1,e2]
  exact⟨.cZ _ _,fun _=>⟨h,rfl⟩,fun g=>absurd rfl g,fun g=>absurd rfl g,fun g=>absurd rfl g,⟨f,h,rfl, .inl rfl⟩,fun g=>absurd (show(0:Int)=7 from g) (by decide)⟩
 ·
  have hlen:(ez f).length=(du f l).length:=by
   have:=(AD hE).1
   have h2:=h.ids
   rw[qW h,xE]
   have:((du f l).length:Int)=dh f.ak.ae:=this
   omega
  have hs:=O6 (l:=eG (ez f) (du f l)) h.rt bX
  rw[←qW h,Pb hlen]at hs
  have ht:=N4 hE
  rw[C3 (uD.2 h) he hE hc]
  generalize fy f.ak (eG (ez f) (du f l))=W at*
  have dM:=DT hs.kd.bT
  change fa W.1.ae=fa f.ak.ae∧dh W.1.ae=dh f.ak.ae at dM
  have Ik:W.1.at_.length=f.ak.at_.length:=hs.len
  have mW:cd (⟨f.ak,false⟩:WV).v=ez f:=(qW h).symm
  have mk: ∀{u:VV} {t:List Rt},eU u→dx f.ak.ae u.ae→u.at_.length=f.ak.at_.length→jh (cd u)=0→t=iD (cd u)→gM ⟨u,t⟩:=fun hu hk hl hte abq=>by
   have:=DT hk
   exact⟨hu,by show fa _≠0;rw[this.1];exact h.iC,by show(_:Int)=dh _;rw[this.2,hl];exact h.ids,hte,abq⟩
  have hold:jh (ez f)=0∧f.table=iD (ez f):=by rw[qW h];exact⟨h.Ij,h.eq⟩
  refine⟨hs.kd,fun g=> ?_,fun g=> ?_,fun g=> ?_,fun g hf=> ?_,?_,hs.off⟩
  ·
   obtain⟨q1,q2⟩:=hs.bb g
   change eU W.1 at q1
   change cd W.1=du f l at q2
   simp only at g
   refine⟨mk q1 hs.kd.bT Ik (by rw[q2];exact ht.2) (by rw[if_neg (fun k=>k g),q2];exact ht.1.symm),by rw[if_neg (fun k=>k g)]⟩
  ·
   simp only at g⊢;rw[if_pos g]
  ·
   simp only at g
   refine(hs.err g).imp id fun q=> ?_
   rw[mW]at q
   exact mk q.1 hs.kd.bT Ik (by rw[show cd W.1=ez f from q.2];exact hold.1) (by rw[if_pos g,show cd W.1=ez f from q.2];exact hold.2)
  ·
   simp only at g
   have q:=hs.wg g hf
   rw[mW]at q
   exact mk q.1 hs.kd.bT Ik (by rw[show cd W.1=ez f from q.2];exact hold.1) (by rw[if_pos g,show cd W.1=ez f from q.2];exact hold.2)
  ·
   obtain⟨u,q1,q2,q3,q4⟩:=hs.any
   change u.ae=W.1.ae at q2
   have nL:dx f.ak.ae u.ae:=by rw[q2];exact hs.kd.bT
   rw[mW]at q4
   rcases q4 with q4|q4
   ·
    exact⟨⟨u,f.table⟩,mk q1 nL q3 (by rw[q4];exact hold.1) (by rw[q4];exact hold.2),q2, .inl rfl⟩
   ·
    exact⟨⟨u,cj f.table l⟩,mk q1 nL q3 (by rw[q4];exact ht.2) (by rw[q4];exact ht.1.symm),q2, .inr rfl⟩
open Go.aA
theorem ie.nil{c:CV}(h:c.aQ=[]):ie c:=fun f hf=>by rw[h]at hf;cases hf
theorem gM.abr{f:FV}(h:gM f)(ho:f.ak.ae.off=false):c8 f.ak.ae=(f,0):=by
 have e:powC f.ak.ae=f.ak.ae:=by rw[powC,←ho]
 have:=h.load.1
 rw[e]at this
 exact this
theorem gM.small{f:cB}(h:gM (bg f)):dW f.ak.ae∧f.ak.at_.xs.length≤1000000∧f.table.xs.length≤1000000:=by
 have hk:=(ft.1 h.rt.bears).1
 have hw:=(CL (b:=false) (yp.2 h.rt)).j6
 have ht:=B9 h.right
 change f.ak.at_.xs.length≤64 at hw
 change f.table.xs.length≤256 at ht
 exact⟨pE hk,by omega,by omega⟩
theorem gM.AS{f:FV}(h:gM f):gx f=true:=uD.2 h
theorem gM.DV{f:FV}(h:gM f)(k:Key)(bits:Int):nC f k bits=lh f.table k bits∧nD f k bits=mO f.table k bits:=by
 rw[nC,nD,if_pos h.AS,if_pos h.AS];exact⟨rfl,rfl⟩
theorem abt(t:List Rt)(c:List Ch):(gK t c).2=0∨(gK t c).2=1∨(gK t c).2=5∨(gK t c).2=6:=by
 induction c generalizing t with
 |nil=>exact .inl rfl
 |cons x r ih=>
  rw[gK]
  split
  ·
   exact ih _
  ·
   show ei t x=0∨ei t x=1∨ei t x=5∨ei t x=6
   rw[ei];repeat' split
   all_goals decide
theorem abu(t:List Rt)(l:List Ch):dA t l=0∨dA t l=1∨dA t l=5∨dA t l=6:=by
 rw[dA];split
 ·
  exact abt t l
 ·
  exact .inr (.inl rfl)
theorem abv(t:List Rt)(l:List Ch):dA t l≠7:=by have:=abu t l;omega
theorem abw{f:FV}(h:gM f)(hf:f.ak.ae.aQ=[])(ho:f.ak.ae.off=false)(l:List Ch):
  gM (cC f l).1∧(cC f l).1.ak.ae.aQ=[]∧(cC f l).1.ak.ae.off=false∧((cC f l).2=0→dA f.table l=0∧(cC f l).1.table=cj f.table l)∧((cC f l).2≠0→(cC f l).1.table=f.table)∧
   ((cC f l).2≠7)∧(dA f.table l≠0→cC f l=(f,dA f.table l)):=by
 have hE7:=abv f.table l
 by_cases he:dA f.table l=0
 ·
  by_cases hm:fa f.ak.ae<(cj f.table l).length
  ·
   rw[Pd h he hm]
   exact⟨h,hf,ho,fun g=>absurd (show(5:Int)=0 from g) (by decide),fun _=>rfl,show(5:Int)≠7 by decide,fun g=>absurd he g⟩
  ·
   have ha:=Pe h (.nil hf) he hm
   have lJ:=ha.kd.on ho (by rw[hf];intro x hx;cases hx)
   refine⟨?_,ha.kd.ln.trans hf,lJ,fun g=>⟨he,(ha.bb g).2⟩,ha.bad,fun g=> ?_,fun g=>absurd he g⟩
   ·
    by_cases g:(cC f l).2=0
    ·
     exact(ha.bb g).1
    ·
     exact ha.wg g hf
   ·
    have:=ha.off g;rw[lJ]at this;cases this
 ·
  rw[Pc h he]
  exact⟨h,hf,ho,fun g=>absurd g he,fun _=>rfl,hE7,fun _=>rfl⟩
end Go.Kb
namespace Go.Proofs.YtaipiecplldinaaGreat
open Go.aA Go.Kb
open Go.RowKit
end Go.Proofs.YtaipiecplldinaaGreat
namespace Go.Kb
open Go.aA
theorem Pf{P Q:Nat→Bool}{j0:Nat}(hp:P j0=false)(hq: ∀j,Q j=(P j||decide (j=j0))): ∀n,((List.range n).filter Q).length=((List.range n).filter P).length+(if j0<n then 1 else 0)
 |0=>by simp
 |n+1=>by
  have ih:=Pf hp hq n
  rw[List.range_succ,List.filter_append,List.filter_append,List.length_append,List.length_append,ih]
  by_cases e:n=j0
  ·
   have h1:Q n=true:=by rw[hq n,decide_eq_true e,Bool.or_true]
   have h2:P n=false:=by rw[e];exact hp
   rw[List.filter_cons_of_pos h1,List.filter_cons_of_neg (by rw[h2];simp),if_neg (by omega),if_pos (by omega)];simp
  ·
   have h1:Q n=P n:=by rw[hq n,decide_eq_false e,Bool.or_false]
   have h2:([n].filter Q).length=([n].filter P).length:=by simp[List.filter_cons,h1]
   rw[h2]
   by_cases h:j0<n
   ·
    rw[if_pos h,if_pos (by omega)];omega
   ·
    rw[if_neg h,if_neg (by omega)];omega
def cR(pages:Int)(fl:List Int)(i:Nat):Nat:=((List.range pages.toNat).filter fun j:Nat=>fl.contains (((i:Int)+2)*pages+j+1)).length
theorem uE{pages:Int}{fl gl:List Int}{i:Nat}(h: ∀n:Int,(n -1)/pages=(i:Int)+2→(n∈fl↔n∈gl))(hp:1≤pages):cR pages fl i=cR pages gl i:=by
 rw[cR,cR]
 congr 1
 refine List.filter_congr fun j hj=> ?_
 have iQ:=List.mem_range.1 hj
 have hd:(((i:Int)+2)*pages+j+1 -1)/pages=(i:Int)+2:=by
  rw[Int.add_sub_cancel,Int.add_comm,Int.add_mul_ediv_right _ _ (by omega),Int.ediv_eq_zero_of_lt (by omega) (by omega),Int.zero_add]
 rw[Bool.eq_iff_iff,List.contains_iff_mem,List.contains_iff_mem]
 exact h _ hd
theorem abx{pages n:Int}(hp:1≤pages){i:Nat}(hb:(n -1)/pages=(i:Int)+2): ∃j:Nat,j<pages.toNat∧n=((i:Int)+2)*pages+j+1∧(n -1)%pages=j:=by
 have h0:0≤(n -1)%pages:=Int.emod_nonneg _ (by omega)
 have h1:(n -1)%pages<pages:=Int.emod_lt_of_pos _ (by omega)
 have h2:=Int.mul_ediv_add_emod (n -1) pages
 rw[hb,Int.mul_comm]at h2
 exact⟨((n -1)%pages).toNat,by omega,by omega,by omega⟩
theorem Il{pages n:Int}{fl gl:List Int}{i0:Nat}(hp:1≤pages)(hb:(n -1)/pages=(i0:Int)+2)(hn:n∉fl)(h: ∀m,m∈gl↔m∈fl∨m=n)(i:Nat):cR pages gl i=cR pages fl i+(if i=i0 then 1 else 0):=by
 by_cases e:i=i0
 ·
  subst e
  obtain⟨j0,DW,en,_⟩:=abx hp hb
  rw[if_pos rfl,cR,cR]
  have:=Pf (P:=fun j:Nat=>fl.contains (((i:Int)+2)*pages+j+1)) (Q:=fun j:Nat=>gl.contains (((i:Int)+2)*pages+j+1)) (j0:=j0) (by
   rw[←en]
   cases hc:fl.contains n with
   |false=>rfl
   |true=>exact absurd (List.contains_iff_mem.1 hc) hn) (fun j=>by
   rw[Bool.eq_iff_iff,Bool.or_eq_true,List.contains_iff_mem,List.contains_iff_mem,decide_eq_true_eq,h,en]
   constructor
   ·
    rintro(g|g)
    ·
     exact .inl g
    ·
     exact .inr (by omega)
   ·
    rintro(g|g)
    ·
     exact .inl g
    ·
     exact .inr (by rw[g])) pages.toNat
  rw[if_pos DW]at this;exact this
 ·
  rw[if_neg e,Nat.add_zero]
  refine uE (fun m hm=> ?_) hp
  rw[h]
  constructor
  ·
   rintro(g|g)
   ·
    exact g
   ·
    rw[g,hb]at hm;omega
  ·
   exact .inl
theorem Pg{pages:Int}{l:List Int}(hp:1≤pages)(i:Nat)(h: ∀n∈l,n=0∨1≤n): ∀k,k≤l.length→jJ pages l k i=cR pages (l.take k) i
 |0,_=>by
  rw[cR,List.filter_eq_nil_iff.2 (fun j _=>by simp)];simp[jJ]
 |k+1,hk=>by
  have ih:=Pg hp i h k (by omega)
  obtain⟨y,hy⟩: ∃y,l[k]? =some y:=⟨_,List.getElem?_eq_getElem (by omega)⟩
  have jD: ∀m,m∈l.take (k+1)↔m∈l.take k∨m=y:=fun m=>by
   rw[List.take_add_one,hy,List.mem_append];simp
  rw[zI,ih,ob hy]
  have pV:l8 l k=(decide (y≠0)&& !(l.take k).contains y):=by rw[l8,ob hy]
  by_cases h0:y=0
  ·
   rw[pV,decide_eq_false (fun g=>g h0),Bool.false_and,Bool.false_and,if_neg (by simp),Nat.add_zero]
   refine uE (fun m hm=> ?_) hp
   rw[jD]
   refine⟨.inl,fun g=>g.elim id fun g=> ?_⟩
   exfalso
   rw[g,h0]at hm
   have:((0:Int) -1)/pages<0:=Int.ediv_neg_of_neg_of_pos (by decide) (by omega)
   omega
  ·
   by_cases hc:(l.take k).contains y=true
   ·
    rw[pV,hc,Bool.not_true,Bool.and_false,Bool.false_and,if_neg (by simp),Nat.add_zero]
    refine uE (fun m _=> ?_) hp
    rw[jD]
    exact⟨.inl,fun g=>g.elim id fun g=>by rw[g];exact List.contains_iff_mem.1 hc⟩
   ·
    have hn:y∉l.take k:=fun g=>hc (List.contains_iff_mem.2 g)
    have hcf:(l.take k).contains y=false:=by simpa using hc
    rw[pV,hcf,decide_eq_true h0,Bool.not_false,Bool.and_self,Bool.true_and]
    by_cases hb:(y -1)/pages=(i:Int)+2
    ·
     rw[decide_eq_true hb,if_pos rfl,Il hp hb hn jD i,if_pos rfl]
    ·
     rw[decide_eq_false hb,if_neg (by simp),Nat.add_zero]
     refine uE (fun m hm=> ?_) hp
     rw[jD]
     exact⟨.inl,fun g=>g.elim id fun g=>by rw[g]at hm;exact absurd hm hb⟩
theorem DX{pages:Int}{l:List Int}(hp:1≤pages)(i:Nat)(h: ∀n∈l,n=0∨1≤n):jJ pages l l.length i=cR pages l i:=by
 have:=Pg hp i h l.length (Nat.le_refl _)
 rwa [List.take_length]at this
def Std(c:CV)(fl:List Int):Prop:= ∀n∈fl,n≠0→jX c (n -1)=true
theorem Pl.lM{c:CV}{a:List Int}(h:Pl c a):Std c a:=fun _ hn h0=>h.place hn h0
theorem Std.append{c:CV}{a b:List Int}(h:Std c a)(g:Std c b):Std c (a++b):=fun n hn=>(List.mem_append.1 hn).elim (h n) (g n)
theorem Std.pos{c:CV}{fl:List Int}(h:Std c fl)(hp:1≤c.pages): ∀n∈fl,n=0∨1≤n:=fun n hn=>by
 by_cases h0:n=0
 ·
  exact .inl h0
 ·
  right
  have:=(lz.1 (h n hn h0)).1
  apply Classical.byContradiction
  intro bu
  have:(n -1)/c.pages<0:=Int.ediv_neg_of_neg_of_pos (by omega) (by omega)
  omega
theorem Std.kd{c d:CV}{fl L:List Int}(h:Std c fl)(k:Kd L c d)(hs: ∀n∈fl,n∈L):Std d fl:=fun n hn h0=>(k.nm n (hs n hn) h0 (h n hn h0)).1
def nM(c:CV)(fl:List Int)(i:Nat):ay:=if(aj c ((i:Int)+2)).bad=true then bl else⟨cR c.pages fl i,(aj c ((i:Int)+2)).used,(aj c ((i:Int)+2)).aT,false⟩
theorem wh{c:CV}{fl:List Int}(hp:1≤c.pages)(h:Std c fl):av c fl=(List.range (c.blocks.length -2)).map (nM c fl):=by
 rw[av,iU,jK,List.map_map]
 refine List.map_congr_left fun i _=> ?_
 simp only[Function.comp]
 rw[DX hp i (h.pos hp),nw,nM,rz]
 split
 ·
  rfl
 ·
  rename_i hb
  have:(aj c ((i:Int)+2)).bad=false:=by simpa using hb
  rw[this]
theorem Ph{c:CV}{fl:List Int}(hp:1≤c.pages)(h:Std c fl)(i:Nat)(hu:0≤(aj c ((i:Int)+2)).used):(cR c.pages fl i:Int)≤(aj c ((i:Int)+2)).used:=by
 have lP: ∀j,j∈(List.range c.pages.toNat).filter (fun j:Nat=>fl.contains (((i:Int)+2)*c.pages+j+1))→j<(aj c ((i:Int)+2)).used.toNat:=fun j hj=>by
  obtain⟨h1,h2⟩:=List.mem_filter.1 hj
  have iQ:=List.mem_range.1 h1
  have hm:=List.contains_iff_mem.1 h2
  have h0:0≤((i:Int)+2)*c.pages:=Int.mul_nonneg (by omega) (by omega)
  have bX:=lz.1 (h _ hm (by omega))
  have hd:(((i:Int)+2)*c.pages+j+1 -1)/c.pages=(i:Int)+2:=by
   rw[Int.add_sub_cancel,Int.add_comm,Int.add_mul_ediv_right _ _ (by omega),Int.ediv_eq_zero_of_lt (by omega) (by omega),Int.zero_add]
  have sB:(((i:Int)+2)*c.pages+j+1 -1)%c.pages=j:=by
   rw[Int.add_sub_cancel,Int.add_comm,Int.add_mul_emod_self_right,Int.emod_eq_of_lt (by omega) (by omega)]
  rw[hd,sB]at bX
  omega
 have key: ∀(n m:Nat) (P:Nat→Bool),(∀j,j∈(List.range n).filter P→j<m)→((List.range n).filter P).length≤m:=by
  intro n m P
  induction n generalizing m with
  |zero=>intro _;simp
  |succ n ih=>
   intro hs
   rw[List.range_succ,List.filter_append,List.length_append]
   by_cases hP:P n=true
   ·
    have hm:n<m:=hs n (List.mem_filter.2 ⟨List.mem_range.2 (by omega),hP⟩)
    have:=ih n fun j hj=>List.mem_range.1 (List.mem_filter.1 hj).1
    simp only[List.filter_cons,List.filter_nil,hP,if_true,List.length_cons,List.length_nil]
    omega
   ·
    have:=ih m fun j hj=>hs j (by rw[List.range_succ,List.filter_append];exact List.mem_append_left _ hj)
    simp only[List.filter_cons,List.filter_nil,hP]
    simpa using this
 have:=key c.pages.toNat (aj c ((i:Int)+2)).used.toNat _ lP
 rw[cR];omega
theorem rZ{c:CV}{fl:List Int}(hp:1≤c.pages)(h:Std c fl)(i:Nat):cR c.pages fl i=0↔kg fl c ((i:Int)+2):=by
 constructor
 ·
  intro h0
  rw[←DX hp i (h.pos hp)]at h0
  exact OH h0
 ·
  intro hd
  rw[cR,List.length_eq_zero_iff,List.filter_eq_nil_iff]
  intro j hj hc
  have iQ:=List.mem_range.1 hj
  have hm:=List.contains_iff_mem.1 hc
  have h0:0≤((i:Int)+2)*c.pages:=Int.mul_nonneg (by omega) (by omega)
  refine hd _ hm (by omega) ?_
  rw[Int.add_sub_cancel,Int.add_comm,Int.add_mul_ediv_right _ _ (by omega),Int.ediv_eq_zero_of_lt (by omega) (by omega),Int.zero_add]
theorem Im{c d:CV}{fl gl:List Int}{i0:Nat}{x:ay}(hp:1≤c.pages)(h:Std c fl)(hg:Std d gl)(hk:dx c d)(ho: ∀i:Nat,i≠i0→aj d ((i:Int)+2)=aj c ((i:Int)+2)∧cR c.pages gl i=cR c.pages fl i)(hx:nM d gl i0=x):av d gl=(av c fl).set i0 x:=by
 rw[wh (by rw[hk.pages];exact hp) hg,wh hp h,hk.len]
 refine List.ext_getElem? fun i=> ?_
 rw[List.getElem?_set]
 by_cases e:i0=i
 ·
  subst e
  rw[if_pos rfl,List.length_map,List.length_range,List.getElem?_map]
  by_cases hi:i0<c.blocks.length -2
  ·
   rw[List.getElem?_range hi,if_pos hi,Option.map_some,hx]
  ·
   rw[if_neg hi,List.getElem?_eq_none (by simpa using hi)];rfl
 ·
  rw[if_neg e,List.getElem?_map,List.getElem?_map]
  by_cases hi:i<c.blocks.length -2
  ·
   rw[List.getElem?_range hi,Option.map_some,Option.map_some]
   obtain⟨o1,o2⟩:=ho i (fun g=>e g.symm)
   rw[nM,nM,o1,hk.pages,o2]
  ·
   rw[List.getElem?_eq_none (by simpa using hi)];rfl
theorem Io{c d:CV}{fl gl:List Int}(hp:1≤c.pages)(h:Std c fl)(hg:Std d gl)(hk:dx c d)(ho: ∀i:Nat,(aj d ((i:Int)+2)).bad=(aj c ((i:Int)+2)).bad∧(aj d ((i:Int)+2)).used=(aj c ((i:Int)+2)).used∧(aj d ((i:Int)+2)).aT=(aj c ((i:Int)+2)).aT∧((aj c ((i:Int)+2)).bad=false→cR c.pages gl i=cR c.pages fl i)):av d gl=av c fl:=by
 rw[wh (by rw[hk.pages];exact hp) hg,wh hp h,hk.len]
 refine List.map_congr_left fun i _=> ?_
 obtain⟨o1,o2,o3,o4⟩:=ho i
 rw[nM,nM,o1,o2,o3,hk.pages]
 by_cases hb:(aj c ((i:Int)+2)).bad=true
 ·
  rw[if_pos hb,if_pos hb]
 ·
  rw[if_neg hb,if_neg hb,o4 (by simpa using hb)]
theorem te{c:CV}{fl:List Int}{i:Nat}{x:ay}(hp:1≤c.pages)(h:Std c fl)(hx:(av c fl)[i]? =some x):x=nM c fl i∧i<c.blocks.length -2:=by
 rw[wh hp h,List.getElem?_map]at hx
 obtain⟨j,hj,rfl⟩:=Option.map_eq_some_iff.1 hx
 obtain⟨hl,e⟩:=List.getElem?_eq_some_iff.1 hj
 rw[List.getElem_range]at e
 rw[List.length_range]at hl
 exact⟨by rw[e],hl⟩
theorem Ip{c:CV}{fl:List Int}{i:Nat}(hb:(aj c ((i:Int)+2)).bad=false):nM c fl i=⟨cR c.pages fl i,(aj c ((i:Int)+2)).used,(aj c ((i:Int)+2)).aT,false⟩:=by rw[nM,if_neg (by rw[hb];simp)]
theorem Iq{c:CV}{fl:List Int}(hk:aV c=true)(h:Std c fl)(h2:3≤c.blocks.length):kJ (av c fl) c.pages=true:=by
 have hd:=eE hk
 have dz:=kL c fl
 refine qx.2 ⟨by omega,by omega,by omega,by omega,fun x hx=> ?_⟩
 obtain⟨i,hi⟩:=List.getElem?_of_mem hx
 obtain⟨rfl,eX⟩:=te (by omega) h hi
 have oO:cP=1099511627776:=rfl
 rw[nM]
 split
 ·
  exact pI.2 (by simp only[bl];omega)
 ·
  have hb:=dV.1 (pL hk (b:=(i:Int)+2) (by omega) (by omega))
  have:=Ph (by omega) h i hb.2.1
  exact pI.2 ⟨by simp only;omega,this,hb.2.2.1,hb.2.2.2.1,hb.2.2.2.2.1⟩
theorem yu{R:ay→Bool}{l:List ay}{p:Int}(h:kJ l p=true):kJ (bS R l) p=true:=by
 obtain⟨h1,h2,h3,h4,h5⟩:=qx.1 h
 refine qx.2 ⟨by rw[tU];exact h1,by rw[tU];exact h2,h3,h4,fun x hx=> ?_⟩
 obtain⟨y,hy,rfl⟩:=List.mem_map.1 hx
 rw[gV]
 split
 ·
  have oO:cP=1099511627776:=rfl
  exact pI.2 (by simp only[bl];omega)
 ·
  exact h5 y hy
theorem aby{l:List ay}{p:Int}(h:kJ l p=true)(i:Nat):kJ (l.set i bl) p=true:=by
 obtain⟨h1,h2,h3,h4,h5⟩:=qx.1 h
 refine qx.2 ⟨by rw[List.length_set];exact h1,by rw[List.length_set];exact h2,h3,h4,fun x hx=> ?_⟩
 rcases List.mem_or_eq_of_mem_set hx with g|rfl
 ·
  exact h5 x g
 ·
  have oO:cP=1099511627776:=rfl
  exact pI.2 (by simp only[bl];omega)
theorem AT{c:CV}{b k:Int}{p:List UInt8}(h:bC c b p=0)(hk:k.toNat≠b.toNat):aj (bn c b p) k=aj c k:=by
 obtain⟨h1,_,_,_,e⟩:=nv h
 obtain⟨_,h3,h4⟩:=gq.1 (iS.1 h1).1
 rw[e,gG,qU (by omega),if_neg hk]
theorem yw{c:CV}{b:Int}{p:List UInt8}(h:bC c b p=0):(aj (bn c b p) b).used=(aj c b).used+1∧(aj (bn c b p) b).aT=(aj c b).aT∧(aj (bn c b p) b).bad=false:=by
 obtain⟨h1,_,h3,_,e⟩:=nv h
 rw[e,gG,mK (iS.1 h1).1]
 exact⟨rfl,rfl,h3⟩
theorem Pj{c:CV}{fl gl:List Int}{i0:Nat}{pg:List UInt8}(hk:aV c=true)(h:Std c fl)(hz:bC c ((i0:Int)+2) pg=0)(hm: ∀m,m∈gl↔m∈fl∨m=((i0:Int)+2)*c.pages+(aj c ((i0:Int)+2)).used+1):
  av (bn c ((i0:Int)+2) pg) gl=(av c fl).set i0 ⟨cR c.pages fl i0+1,(aj c ((i0:Int)+2)).used+1,(aj c ((i0:Int)+2)).aT,false⟩∧Std (bn c ((i0:Int)+2) pg) gl:=by
 have hd:=eE hk
 have dM:=gU c ((i0:Int)+2) pg
 obtain⟨q1,q2,q3,q4⟩:=DK (L:=fl) (by omega) hz
 have fC:=iS.1 (nv hz).1
 have hb:(((i0:Int)+2)*c.pages+(aj c ((i0:Int)+2)).used+1 -1)/c.pages=(i0:Int)+2:=by
  rw[Int.add_sub_cancel,Int.add_comm,Int.add_mul_ediv_right _ _ (by omega),Int.ediv_eq_zero_of_lt fC.2.1 fC.2.2.1,Int.zero_add]
 have hn:((i0:Int)+2)*c.pages+(aj c ((i0:Int)+2)).used+1∉fl:=fun gZ=>by
  have:=h _ gZ (by omega)
  rw[Int.add_sub_cancel,q4]at this;cases this
 have hS:Std (bn c ((i0:Int)+2) pg) gl:=fun m sB h0=>by
  rcases(hm m).1 sB with g|g
  ·
   exact h.kd (AJ (L:=fl)) (fun _ k=>k) m g h0
  ·
   rw[g,Int.add_sub_cancel];exact q1
 have hl:=Il (by omega) hb hn hm
 obtain⟨a1,a2,a3⟩:=yw hz
 refine⟨Im (by omega) h hS dM (fun i hi=>⟨AT hz (by omega),by rw[hl i,if_neg hi];rfl⟩) ?_,hS⟩
 rw[Ip a3,dM.pages,hl i0,if_pos rfl,a1,a2];rfl
theorem Pk: ∀(n:Nat) {c:CV} {b:Int},(fe n c b).2=0→(∀k:Int,k.toNat≠b.toNat→aj (fe n c b).1 k=aj c k)∧(aj (fe n c b).1 b).used=0∧(aj (fe n c b).1 b).aT=(aj c b).aT+1∧(aj (fe n c b).1 b).bad=false
 |0,c,b,h=>by
  obtain⟨e1,_,e3,e4,e5⟩:=xw h
  have hh:=(np.1 e1).1
  obtain⟨_,h3,h4⟩:=gq.1 hh
  show(∀k:Int,k.toNat≠b.toNat→aj (cY c b) k=aj c k)∧(aj (cY c b) b).used=0∧(aj (cY c b) b).aT=(aj c b).aT+1∧(aj (cY c b) b).bad=false
  rw[e5]
  refine⟨fun k hk=>by rw[jH,qU (by omega),if_neg hk],?_⟩
  rw[jH,mK hh,e4]
  exact⟨rfl,rfl,e3⟩
 |n+1,c,b,h=>by
  rw[fe]at h⊢
  by_cases h0:bC c b (hQ c)≠0
  ·
   rw[if_pos h0]at h;exact absurd h h0
  ·
   rw[if_neg h0]at h⊢
   have pB:bC c b (hQ c)=0:=by simpa using h0
   obtain⟨g1,g2,g3,g4⟩:=Pk n h
   exact⟨fun k hk=>(g1 k hk).trans (AT pB hk),g2,by rw[g3,(yw pB).2.1],g4⟩
theorem DY{c:CV}{fl:List Int}{i0:Nat}(hk:aV c=true)(h:Std c fl)(hd:kg fl c ((i0:Int)+2))(hz:(cA c ((i0:Int)+2)).2=0):av (cA c ((i0:Int)+2)).1 fl=(av c fl).set i0 ⟨0,0,(aj c ((i0:Int)+2)).aT+1,false⟩∧Std (cA c ((i0:Int)+2)).1 fl:=by
 have Ir:=eE hk
 have kp:=we (L:=fl) (c:=c) (b:=(i0:Int)+2) (by omega) hd
 have hS:=h.kd kp.toKd fun _ g=>g
 obtain⟨z1,z2,z3,z4⟩:=Pk _ hz
 change∀k:Int,k.toNat≠((i0:Int)+2).toNat→aj (cA c ((i0:Int)+2)).1 k=aj c k at z1
 change(aj (cA c ((i0:Int)+2)).1 ((i0:Int)+2)).used=0 at z2
 change(aj (cA c ((i0:Int)+2)).1 ((i0:Int)+2)).aT=_ at z3
 change(aj (cA c ((i0:Int)+2)).1 ((i0:Int)+2)).bad=false at z4
 refine⟨Im (by omega) h hS kp.bT (fun i hi=>⟨z1 _ (by omega),rfl⟩) ?_,hS⟩
 rw[Ip z4,kp.bT.pages,z2,z3,(rZ (by omega) h i0).2 hd];rfl
open Go.aA
structure Ok(n:Nat)(c:CV):Prop where
 ok:fF c=true
 nb: ∀b:Int,(aj c b).bad=false
 off:c.off=false
 cut: ∀f∈c.aQ,f.fail=true→f.cut=true
 ops:c.ops+n<cP
 aT: ∀b:Int,(aj c b).aT+n<cP
theorem Ok.mono{n m:Nat}{c:CV}(h:Ok n c)(hm:m≤n):Ok m c:=⟨h.ok,h.nb,h.off,h.cut,by have:=h.ops;omega,fun b=>by have:=h.aT b;omega⟩
theorem Ok.AQ{n:Nat}{c:CV}(h:Ok n c)(hs:(br c).2=true):(br c).1.cut=true:=by
 rw[br]at hs⊢
 cases hf:c.aQ.find? fun f=>decide (f.op=c.ops)with
 |none=>rw[hf]at hs;cases hs
 |some x=>
  rw[hf]at hs
  simp only[Bool.or_eq_true]at hs
  exact hs.elim id fun g=>h.cut x (List.mem_of_find?_eq_some hf) g
theorem Ok.ae{n:Nat}{c:CV}(h:Ok n c):aV c=true:=(ft.1 h.ok).1
theorem Pm{c d:CV}(h:fF c=true)(hk:aV d=true)(hl:dx c d):fF d=true:=by
 obtain⟨h1,h2,h3,h4⟩:=ft.1 h
 exact ft.2 ⟨hk,by rw[hl.len];exact h2,by rw[hl.pages];exact h3,by rw[hl.size];exact h4⟩
theorem Ok.prog{n:Nat}{c:CV}{b:Int}{p:List UInt8}(h:Ok (n+1) c)(h0:0≤b)(h1:b<c.blocks.length)(hu:(aj c b).used<c.pages)(hl:(p.length:Int)=c.size):(bC c b p=0∧Ok n (bn c b p))∨bC c b p=7:=by
 have hh:gp c b=true:=gq.2 ⟨h.ae,h0,h1⟩
 have mW:=dV.1 (n8 hh)
 have Pn:=h.ops
 have fC:mF c b (aj c b).used p=true:=iS.2 ⟨hh,mW.2.1,hu,hl,by omega⟩
 by_cases hs:(br c).2=true
 ·
  right
  rw[bC,jG,if_pos fC,if_neg (by rw[h.off];simp),if_neg (by rw[h.nb b];simp),if_pos hs,kF,if_pos (h.AQ hs)]
 ·
  left
  have hz:bC c b p=0:=by
   rw[bC,jG,if_pos fC,if_neg (by rw[h.off];simp),if_neg (by rw[h.nb b];simp),if_neg hs]
  refine⟨hz,?_⟩
  have e:=(nv hz).2.2.2.2
  have hf:(bn c b p).aQ=c.aQ:=by rw[e];rfl
  have ho:(bn c b p).ops=c.ops+1:=by rw[e];rfl
  have lJ:(bn c b p).off=false:=by rw[e,gG,(show(br c).2=false by simpa using hs)];rfl
  have j9:=yw hz
  have pa: ∀k:Int,(aj (bn c b p) k).bad=false∧(aj (bn c b p) k).aT=(aj c k).aT:=fun k=>by
   by_cases hk:k.toNat=b.toNat
   ·
    have e1:aj (bn c b p) k=aj (bn c b p) b:=by simp only[aj,hk]
    have e2:aj c k=aj c b:=by simp only[aj,hk]
    rw[e1,e2];exact⟨j9.2.2,j9.2.1⟩
   ·
    rw[AT hz hk];exact⟨h.nb k,rfl⟩
  exact⟨Pm h.ok (kK h.ae b p) (gU c b p),fun k=>(pa k).1,lJ,by rw[hf];exact h.cut,by rw[ho];omega,fun k=>by rw[(pa k).2];have:=h.aT k;omega⟩
theorem Ok.erase{n:Nat}{c:CV}{b:Int}(h:Ok (n+1) c)(h0:0≤b)(h1:b<c.blocks.length):(dG c b=0∧Ok n (cY c b))∨dG c b=7:=by
 have hh:gp c b=true:=gq.2 ⟨h.ae,h0,h1⟩
 have Pn:=h.ops
 have hwb:=h.aT b
 have Po:nn c b=true:=np.2 ⟨hh,by omega,by omega⟩
 by_cases hs:(br c).2=true
 ·
  right
  rw[dG,if_pos Po,if_neg (by rw[h.off];simp),if_neg (by rw[h.nb b];simp),if_pos hs,kF,if_pos (h.AQ hs)]
 ·
  left
  have hz:dG c b=0:=by
   rw[dG,if_pos Po,if_neg (by rw[h.off];simp),if_neg (by rw[h.nb b];simp),if_neg hs]
  refine⟨hz,?_⟩
  have e:=(xw hz).2.2.2.2
  have hf:(cY c b).aQ=c.aQ:=by rw[e];rfl
  have ho:(cY c b).ops=c.ops+1:=by rw[e];rfl
  have lJ:(cY c b).off=false:=by rw[e,jH,(show(br c).2=false by simpa using hs)];rfl
  obtain⟨_,h3,h4⟩:=gq.1 hh
  have pa: ∀k:Int,(aj (cY c b) k).bad=false∧(aj (cY c b) k).aT≤(aj c k).aT+1:=fun k=>by
   rw[e,jH,qU (by omega)]
   split
   ·
    rename_i hk
    have e2:aj c k=aj c b:=by simp only[aj,hk]
    rw[e2];exact⟨h.nb b,by simp only;omega⟩
   ·
    exact⟨h.nb k,by omega⟩
  exact⟨Pm h.ok (zK h.ae b) (sJ c b),fun k=>(pa k).1,lJ,by rw[hf];exact h.cut,by rw[ho];omega,fun k=>by have:=(pa k).2;have:=h.aT k;omega⟩
theorem abz{c:CV}(h:fF c=true):((hQ c).length:Int)=c.size:=by
 obtain⟨h1,_,_,h4⟩:=ft.1 h
 have hd:=eE h1
 have hf:l5 c.size=true:=qu.2 ⟨h4,by omega⟩
 exact AH (pF.2 ⟨hf, .inl rfl,by decide,by decide,by show(0:Nat)<_;omega,by rw[dC,if_pos hf];simp only[List.length_nil];omega⟩)
theorem Ok.clear{n:Nat}: ∀(m:Nat) {c:CV} {b:Int},Ok (n+(m+1)) c→0≤b→b<c.blocks.length→(m:Int)≤c.pages -(aj c b).used→((fe m c b).2=0∧Ok n (fe m c b).1)∨(fe m c b).2=7
 |0,c,b,h,h0,h1,hm=>h.erase h0 h1
 |m+1,c,b,h,h0,h1,hm=>by
  rcases h.prog (n:=n+(m+1)) (p:=hQ c) h0 h1 (by omega) (abz h.ok)with⟨e,g⟩|e
  ·
   rw[fe,if_neg (by rw[e];simp)]
   have dM:=gU c b (hQ c)
   exact Ok.clear m g h0 (by rw[dM.len];exact h1) (by rw[dM.pages,(yw e).1];omega)
  ·
   right;rw[fe,if_pos (by rw[e];decide)];exact e
theorem Ok.DZ{n:Nat}{c:CV}{b:Int}(h:Ok (n+17) c)(h0:0≤b)(h1:b<c.blocks.length):((cA c b).2=0∧Ok n (cA c b).1)∨(cA c b).2=7:=by
 have hd:=eE h.ae
 have mW:=dV.1 (pL h.ae h0 h1)
 have hf:dD c b=c.pages -(aj c b).used:=by rw[dD,if_neg (by rw[h.nb b];simp)]
 exact Ok.clear (n:=n) (dD c b).toNat (h.mono (by omega)) h0 h1 (by omega)
theorem Ok.root{n:Nat}{c:CV}{last:Int}(h:Ok (n+1) c)(hl:last=0∨last=1):((aX c last).2.2=0∧Ok n (aX c last).1)∨(aX c last).2.2=7:=by
 have h4:=(ft.1 h.ok).2.1
 rw[aX]
 split
 ·
  exact .inl ⟨rfl,h.mono (by omega)⟩
 ·
  split
  ·
   exact .inl ⟨rfl,h.mono (by omega)⟩
  ·
   split
   ·
    rename_i hb;rw[h.nb]at hb;cases hb
   ·
    exact h.erase (by omega) (by omega)
structure AU(c:CV)(g:Nat)(a:List Int):Prop where
 gen:g+1<281474976710656
 len:(a.length:Int)≤jd c.size
 num: ∀x∈a,0≤x∧x≤65535
theorem AU.put{c:CV}{g:Nat}{a:List Int}(h:AU c g a)(hb:fF c=true):(cO ⟨g+1,a⟩ c.size).2=0∧((cO ⟨g+1,a⟩ c.size).1.length:Int)=c.size:=by
 obtain⟨h1,_,_,h4⟩:=ft.1 hb
 have hd:=eE h1
 have hf:l5 c.size=true:=qu.2 ⟨h4,by omega⟩
 have hm:mI ⟨g+1,a⟩ c.size=true:=tN.2 ⟨by rw[dC,if_pos hf];omega,h.gen,h.len,fun x hx=>zE.2 (h.num x hx)⟩
 refine⟨?_,Ot hm⟩
 rw[cO,if_pos hm,dg,if_pos (HY hm)]
theorem Pp{n:Nat}{x:WV}{a:List Int}(hx:cV x)(h:Ok (n+2) x.v.ae)(hr:AU x.v.ae x.v.gen a):((dP x a).2=0∧Ok n (dP x a).1.v.ae∧(dP x a).1.v.at_=a∧(dP x a).1.v.gen=x.v.gen+1∧(∀i:Nat,aj (dP x a).1.v.ae ((i:Int)+2)=aj x.v.ae ((i:Int)+2))∧(dP x a).1.beyond=x.beyond)∨(dP x a).2=7:=by
 obtain⟨p1,p2⟩:=hr.put h.ok
 have Pn:=h.ops
 have hl:=hx.last
 have h4:=(ft.1 h.ok).2.1
 rw[dP,if_neg (by rw[p1];simp)]
 obtain⟨m,hm⟩: ∃m,(cP -x.v.ae.ops).toNat+1=m+1:=⟨_,rfl⟩
 rw[hm,gw]
 rcases Ok.root (n:=n+1) (last:=x.v.last) h hl with⟨e,g⟩|e
 ·
  rw[if_neg (by rw[e];simp)]
  have bR:=CD (c:=x.v.ae) (last:=x.v.last) h.ae hl
  have qB:=(bR.2.2.2 e).1
  have abA:=abB (c:=x.v.ae) (last:=x.v.last) h.ae hl e
  rcases g.prog (n:=n) (b:=(aX x.v.ae x.v.last).2.1) (p:=(cO ⟨x.v.gen+1,a⟩ x.v.ae.size).1) (by omega) (by rw[bR.2.1.len];omega) (by
   rw[dD,if_neg (by rw[g.nb];simp)]at abA;omega) (by rw[bR.2.1.size];exact p2)with⟨e2,g2⟩|e2
  ·
   rw[if_pos e2]
   left
   refine⟨rfl,g2,rfl,rfl,fun i=> ?_,rfl⟩
   show aj (bn (aX x.v.ae x.v.last).1 (aX x.v.ae x.v.last).2.1 _) ((i:Int)+2)=_
   rw[AT e2 (by omega)]
   exact abC hl i
  ·
   right
   rw[if_neg (by rw[e2];decide),if_pos (by rw[e2];decide)];exact e2
 ·
  right
  rw[if_pos (by rw[e];decide)];exact e
where
 abB {c:CV} {last:Int} (hk:aV c=true) (hl:last=0∨last=1) (he:(aX c last).2.2=0):0<dD (aX c last).1 (aX c last).2.1:=by
  rw[aX]at he⊢
  by_cases h1:0<dD c last
  ·
   rw[if_pos h1];exact h1
  ·
   rw[if_neg h1]at he⊢
   by_cases h2:0<dD c (1 -last)
   ·
    rw[if_pos h2];exact h2
   ·
    rw[if_neg h2]at he⊢
    by_cases h3:(aj c (1 -last)).bad=true
    ·
     rw[if_pos h3]at he;cases he
    ·
     rw[if_neg h3]at he⊢
     obtain⟨e1,e2,e3,e4,e5⟩:=xw he
     have hh:=(np.1 e1).1
     have hd:=eE hk
     show 0<dD (cY c (1 -last)) (1 -last)
     rw[e5,dD,jH,mK hh,e4,e3]
     simp only[Bool.false_eq_true,if_false];omega
 abC {c:CV} {last:Int} (hl:last=0∨last=1) (i:Nat):aj (aX c last).1 ((i:Int)+2)=aj c ((i:Int)+2):=by
  rw[aX]
  split
  ·
   rfl
  ·
   split
   ·
    rfl
   ·
    split
    ·
     rfl
    ·
     show aj (cY c (1 -last)) ((i:Int)+2)=_
     rw[cY,iV]
     split
     ·
      rw[kG]
      split
      ·
       rename_i hm
       have hh:gp (fE c (1 -last)) (1 -last)=true:=by
        cases hq:gp (fE c (1 -last)) (1 -last)with
        |true=>rfl
        |false=>rw[nq,if_neg (by rw[hq];simp)]at hm;cases hm
       obtain⟨_,h3,h4⟩:=gq.1 hh
       have:=qU (c:=fE c (1 -last)) (o:=(fE c (1 -last)).ops) (f:=(fE c (1 -last)).off) (B:={aj (fE c (1 -last)) (1 -last)with bad:=true}) (show(1 -last).toNat<(fE c (1 -last)).blocks.length by omega) ((i:Int)+2)
       rw[if_neg (by omega)]at this
       rw[this,yo (by omega)]
      ·
       rw[yo (by omega)]
     ·
      rw[yo (by omega)]
open Go.aA
def kh(p:Int)(x:ay):Nat:=if x.bad=true then 0 else if x.live=0 then(if 0<x.used∧x.used<p then 1 else 0)else(x.used -x.live).toNat
def nN(p:Int)(l:List ay):Nat:=(l.map (kh p)).sum
theorem Pq{f:ay→Nat}: ∀{l:List ay} {i:Nat} {x y:ay},l[i]? =some y→((l.set i x).map f).sum+f y=(l.map f).sum+f x
 |[],i,x,y,h=>by simp at h
 |z::r,0,x,y,h=>by
  obtain rfl:z=y:=by simpa using h
  simp only[List.set_cons_zero,List.map_cons,List.sum_cons];omega
 |z::r,i+1,x,y,h=>by
  have:=Pq (f:=f) (l:=r) (i:=i) (x:=x) (y:=y) (by simpa using h)
  simp only[List.set_cons_succ,List.map_cons,List.sum_cons];omega
theorem AV{p:Int}{l:List ay}{i:Nat}{x y:ay}(h:l[i]? =some y):nN p (l.set i x)+kh p y=nN p l+kh p x:=Pq h
theorem Pr{f:ay→Nat}: ∀{l:List ay},(∀x∈l,f x=0)→(l.map f).sum=0
 |[],_=>rfl
 |z::r,h=>by
  rw[List.map_cons,List.sum_cons,h z List.mem_cons_self,Pr fun x hx=>h x (List.mem_cons_of_mem _ hx)]
theorem abD{b:List UInt8}(h:(cy b).2=0)(hk:(cy b).1.kind≠0):kH (cy b).1 b.length=true:=by
 rw[cy]at h hk⊢
 by_cases h1:l5 b.length=false
 ·
  rw[if_pos h1]at h;cases h
 ·
  rw[if_neg h1]at h hk⊢
  by_cases h2:jo b=true
  ·
   rw[if_pos h2]at hk;exact absurd rfl hk
  ·
   rw[if_neg h2]at h hk⊢
   by_cases h3:de (vt b)≠lY (la b)
   ·
    rw[if_pos h3]at h;cases h
   ·
    rw[if_neg h3]at h hk⊢
    by_cases h4:nu b=false
    ·
     rw[if_pos h4]at h;cases h
    ·
     rw[if_neg h4]at h hk⊢
     by_cases h5:tM (mH b)=false
     ·
      rw[if_pos h5]at h;cases h
     ·
      rw[if_neg h5]
      have hf:nu b=true:=by simpa using h4
      rw[nu,Bool.and_eq_true,decide_eq_true_eq]at hf
      obtain⟨m1,m2,m3,m4,m5,m6⟩:=pF.1 hf.2
      exact pF.2 ⟨m1,m2,m3,m4,m5,by
       have:((b.drop 10).take (10+gT b -10)).length≤gT b:=by rw[List.length_take];omega
       show(((b.drop 10).take (10+gT b -10)).length:Int)≤_;omega⟩
theorem Ok.tell{n:Nat}{c:CV}{fl:List Int}(h:Ok n c)(i:Nat):nM c fl i=⟨cR c.pages fl i,(aj c ((i:Int)+2)).used,(aj c ((i:Int)+2)).aT,false⟩:=Ip (h.nb _)
theorem Ok.get{n:Nat}{c:CV}{fl:List Int}(h:Ok n c)(hs:Std c fl){i:Nat}(hi:i<c.blocks.length -2):(av c fl)[i]? =some ⟨cR c.pages fl i,(aj c ((i:Int)+2)).used,(aj c ((i:Int)+2)).aT,false⟩:=by
 have hd:=eE h.ae
 rw[wh (by omega) hs,List.getElem?_map,List.getElem?_range hi,Option.map_some,h.tell]
theorem Ok.getD{n:Nat}{c:CV}{fl:List Int}(h:Ok n c)(hs:Std c fl){i:Nat}(hi:i<c.blocks.length -2):(av c fl).getD i dO=⟨cR c.pages fl i,(aj c ((i:Int)+2)).used,(aj c ((i:Int)+2)).aT,false⟩:=by
 have:=h.get hs hi
 simp only[List.getD,this,Option.getD_some]
theorem Ok.yx{n:Nat}{c:CV}(h:Ok n c){i:Nat}(hi:i<c.blocks.length -2):0≤(aj c ((i:Int)+2)).used∧(aj c ((i:Int)+2)).used≤c.pages:=by
 have hb:=dV.1 (pL h.ae (b:=(i:Int)+2) (by omega) (by omega))
 exact⟨hb.2.1,hb.2.2.1⟩
theorem Ok.Ps{n:Nat}{c:CV}{fl:List Int}(h:Ok n c)(hs:Std c fl){i:Nat}(hi:i<c.blocks.length -2):(cR c.pages fl i:Int)≤(aj c ((i:Int)+2)).used:=by
 have hd:=eE h.ae
 exact Ph (by omega) hs i (h.yx hi).1
theorem Pt(l:List ay): ∀k,0<(fT l k).2→(fT l k).1.toNat<k∧(l.getD (fT l k).1.toNat dO).bad=false∧(l.getD (fT l k).1.toNat dO).live≠0∧(fT l k).2=(l.getD (fT l k).1.toNat dO).used -(l.getD (fT l k).1.toNat dO).live
 |0,h=>by simp[fT]at h
 |k+1,h=>by
  have ih:=Pt l k
  rw[fT,tV]at h⊢
  by_cases h1:(l.getD k dO).bad=true∨(l.getD k dO).live=0∨cP≤(l.getD k dO).aT
  ·
   rw[if_pos h1]at h⊢
   obtain⟨i1,i2⟩:=ih h
   exact⟨by omega,i2⟩
  ·
   rw[if_neg h1]at h⊢
   by_cases h2:(fT l k).2<(l.getD k dO).used -(l.getD k dO).live
   ·
    rw[if_pos h2]
    simp only[Int.toNat_natCast]
    exact⟨by omega,by
     cases hb:(l.getD k dO).bad with
     |false=>rfl
     |true=>exact absurd (.inl hb) h1,fun g=>h1 (.inr (.inl g)),trivial⟩
   ·
    rw[if_neg h2]at h⊢
    obtain⟨i1,i2⟩:=ih h
    exact⟨by omega,i2⟩
theorem Pu(l:List ay){j:Nat}(h1:(l.getD j dO).bad=false)(h2:(l.getD j dO).live≠0)(h3:(l.getD j dO).aT<cP): ∀k,j<k→(l.getD j dO).used -(l.getD j dO).live≤(fT l k).2
 |0,h=>by omega
 |k+1,h=>by
  rw[fT,tV]
  by_cases e:j=k
  ·
   subst e
   rw[if_neg (by rintro(g|g|g);rw[h1]at g;cases g;exact h2 g;omega)]
   split
   ·
    exact Int.le_refl _
   ·
    omega
  ·
   have ih:=Pu l h1 h2 h3 k (by omega)
   split
   ·
    exact ih
   ·
    split
    ·
     simp only;omega
    ·
     exact ih
theorem abE{n:Nat}{c:CV}{fl:List Int}(h:Ok n c)(hs:Std c fl)(hv:(gI (av c fl) c.pages).2=true):
  ∃i:Nat,(gI (av c fl) c.pages).1=i∧i<c.blocks.length -2∧0<cR c.pages fl i∧(cR c.pages fl i:Int)<(aj c ((i:Int)+2)).used:=by
 have hd:=eE h.ae
 have DS:=F6 hv
 rw[kL]at DS
 refine⟨(gI (av c fl) c.pages).1.toNat,by omega,by omega,?_⟩
 have lN:=h.getD hs (i:=(gI (av c fl) c.pages).1.toNat) (by omega)
 rw[gI]at hv lN⊢
 by_cases h1:(qz (av c fl) c.pages).2=true
 ·
  rw[if_pos h1]at lN⊢
  obtain⟨f1,f2,f3,f4⟩:=xq h1
  simp only at lN⊢
  change vz c.pages ((av c fl).getD (qz (av c fl) c.pages).1.toNat dO)=true at f4
  rw[lN,vz]at f4
  simp only[Bool.false_eq_true,if_false,Bool.and_eq_true,decide_eq_true_eq]at f4
  omega
 ·
  rw[if_neg h1]at hv lN⊢
  simp only[decide_eq_true_eq]at hv lN⊢
  obtain⟨_,s1,s2,s3⟩:=Pt _ _ hv
  rw[lN]at s2 s3
  simp only at s2 s3
  omega
theorem abF{n:Nat}{c:CV}{fl:List Int}(h:Ok n c)(hs:Std c fl){j:Nat}(hj:j<c.blocks.length -2)(h1:0<cR c.pages fl j)(h2:(cR c.pages fl j:Int)<(aj c ((j:Int)+2)).used):(gI (av c fl) c.pages).2=true:=by
 rw[gI]
 split
 ·
  rfl
 ·
  have lN:=h.getD hs hj
  have:=Pu (av c fl) (j:=j) (by rw[lN]) (by rw[lN];simp only;omega) (by rw[lN];have:=h.aT ((j:Int)+2);simp only;omega) (av c fl).length (by rw[kL];exact hj)
  rw[lN]at this
  simp only[decide_eq_true_eq]at this⊢
  omega
theorem yy{R:ay→Bool}{x:ay}(h:x.bad=false)(hR:R x=true):gV R x=x:=by
 rw[gV,if_neg]
 rintro(g|g)
 ·
  rw[h]at g;cases g
 ·
  rw[hR]at g;cases g
theorem D0{α:Type}{l:List α}{i:Nat}{x:α}(h:l[i]? =some x):l.set i x=l:=tL h
theorem abG{n:Nat}{c:CV}{fl:List Int}{i j:Nat}(h:Ok (n+17) c)(hs:Std c fl)(hj:j<c.blocks.length -2)(ct:j≠i)(Pv:cR c.pages fl j=0):
  (∃(t:Nat) (w:Int),t≠i∧t<c.blocks.length -2∧cR c.pages fl t=0∧(bV c ((av c fl).set i bl)).2=((t:Int)+2,0)∧Ok n (bV c ((av c fl).set i bl)).1∧av (bV c ((av c fl).set i bl)).1 fl=(av c fl).set t ⟨0,0,w,false⟩∧Kp fl c (bV c ((av c fl).set i bl)).1)∨(bV c ((av c fl).set i bl)).2.2=7:=by
 have hd:=eE h.ae
 have hw0:=Iq h.ae hs (by omega)
 have hw:=aby hw0 i
 have hgj:=h.get hs hj
 have jD:(⟨cR c.pages fl j,(aj c ((j:Int)+2)).used,(aj c ((j:Int)+2)).aT,false⟩:ay)∈(av c fl).set i bl:=by
  refine List.mem_of_getElem? (i:=j) ?_
  rw[List.getElem?_set_ne (fun e=>ct e.symm)];exact hgj
 have D1:=h.yx hj
 have hwo:=h.aT ((j:Int)+2)
 have Pw: ∀{k:Nat} {x:ay},((av c fl).set i bl)[k]? =some x→x.bad=false→k≠i∧k<c.blocks.length -2∧x=⟨cR c.pages fl k,(aj c ((k:Int)+2)).used,(aj c ((k:Int)+2)).aT,false⟩:=fun{k x} hx hb=>by
  have hk:k≠i:=fun e=>by
   rw[e,List.getElem?_set]at hx
   rw[if_pos rfl]at hx
   split at hx
   ·
    obtain rfl:=Option.some.inj hx;cases hb
   ·
    cases hx
  rw[List.getElem?_set_ne (fun e=>hk e.symm)]at hx
  obtain⟨rfl,hl⟩:=te (by omega) hs hx
  exact⟨hk,hl,h.tell k⟩
 have Px: ∀{d:Int×Bool},(∃x,((av c fl).set i bl)[d.1.toNat]? =some x∧x.bad=false∧x.live=0)→0≤d.1→
   ((∃(t:Nat) (w:Int),t≠i∧t<c.blocks.length -2∧cR c.pages fl t=0∧(d.1+2,(cA c (d.1+2)).2)=((t:Int)+2,0)∧Ok n (cA c (d.1+2)).1∧av (cA c (d.1+2)).1 fl=(av c fl).set t ⟨0,0,w,false⟩∧Kp fl c (cA c (d.1+2)).1)∨(cA c (d.1+2)).2=7):=fun{d} hx h0=>by
  obtain⟨x,hx,hb,hl⟩:=hx
  obtain⟨k1,k2,k3⟩:=Pw hx hb
  rw[k3]at hl
  simp only at hl
  have e:d.1=((d.1.toNat:Nat):Int):=by omega
  rw[e]
  have lD:=(rZ (by omega) hs d.1.toNat).1 (by omega)
  rcases h.DZ (b:=((d.1.toNat:Nat):Int)+2) (by omega) (by omega)with⟨z,g⟩|z
  ·
   left
   exact⟨d.1.toNat,_,k1,k2,by omega,by rw[z],g,(DY h.ae hs lD z).1,we (by omega) lD⟩
  ·
   exact .inr z
 rw[bV]
 by_cases hA:(lf c ((av c fl).set i bl)).2=true
 ·
  rw[if_pos hA]
  left
  obtain⟨x,hx,a1,a2,a3,a4,a5⟩:=nx (fun x h=>(qA h).1) hA
  have zn:((av c fl).set i bl)[(lf c ((av c fl).set i bl)).1.toNat]? =some x:=hx
  change 0≤(lf c ((av c fl).set i bl)).1 at a4
  generalize lf c ((av c fl).set i bl)=T at*
  obtain⟨k1,k2,k3⟩:=Pw zn a1
  simp only[pO,decide_eq_true_eq]at a2
  rw[k3]at a2
  simp only at a2
  have NI:=h.Ps hs k2
  have ly:cR c.pages fl T.1.toNat=0:=by omega
  refine⟨T.1.toNat,(aj c ((T.1.toNat:Int)+2)).aT,k1,k2,ly,by simp only;rw[Int.toNat_of_nonneg a4],h.mono (by omega),?_, .cZ _ _⟩
  refine(D0 ?_).symm
  have:=h.get hs k2
  rw[ly,a2]at this
  exact this
 ·
  rw[if_neg hA]
  have Is:=rA (yu (R:=pO) hw) (show(fu (bS pO ((av c fl).set i bl)) c.pages (lB c.pages) [xn,qw]).2=false by simpa[lf,eM]using hA)
  have Ai:(aj c ((j:Int)+2)).used≠0:=fun e=>by
   have:=Is _ (List.mem_map_of_mem (f:=gV pO) jD)
   rw[yy rfl (by simp[pO,e]),lB]at this
   simp only[Bool.not_false,Bool.true_and,decide_eq_false_iff_not]at this
   omega
  have D2:lb ⟨cR c.pages fl j,(aj c ((j:Int)+2)).used,(aj c ((j:Int)+2)).aT,false⟩=true:=by
   simp only[lb,Pv,Bool.not_false,Bool.true_and,Bool.and_eq_true,decide_eq_true_eq]
   exact⟨rfl,by omega⟩
  by_cases hB:(jt c ((av c fl).set i bl)).2=true
  ·
   rw[if_pos hB]
   obtain⟨x,hx,a1,a2,a3,a4,a5⟩:=nx (fun x h=>(kM h).1) hB
   exact Px (d:=jt c ((av c fl).set i bl)) ⟨x,hx,a1,(kM a3).2.1⟩ a4
  ·
   rw[if_neg hB]
   have Iu:=rA (yu (R:=qF c.pages) hw) (show(fu (bS (qF c.pages) ((av c fl).set i bl)) c.pages lb [qw]).2=false by simpa[jt,eQ]using hB)
   have hup:(aj c ((j:Int)+2)).used≠c.pages:=fun e=>by
    have:=Iu _ (List.mem_map_of_mem (f:=gV (qF c.pages)) jD)
    rw[yy rfl (by simp[qF,e]),D2]at this
    cases this
   by_cases hD:(ju c ((av c fl).set i bl)).2=true
   ·
    rw[if_pos hD]
    obtain⟨x,hx,a1,a2,a3,a4,a5⟩:=nx (fun x h=>(kM h).1) hD
    exact Px (d:=ju c ((av c fl).set i bl)) ⟨x,hx,a1,(kM a3).2.1⟩ a4
   ·
    exfalso
    have lX:=rA (yu (R:=qG) hw) (show(fu (bS qG ((av c fl).set i bl)) c.pages lb [qw]).2=false by simpa[ju,eQ]using hD)
    have:=lX _ (List.mem_map_of_mem (f:=gV qG) jD)
    rw[yy rfl (by simp only[qG,decide_eq_true_eq];omega),D2]at this
    cases this
open Go.aA
def D3(p:Int)(b:Int)(n:Int):Bool:=decide (0<n)&&decide ((n -1)/p=b)
def r8(p:Int)(b:Int)(l:List Int):Nat:=(l.filter (D3 p b)).length
theorem abH(P:Int→Bool): ∀(l:List Int),((List.range l.length).filter fun j=>P (l.getD j 0)).length=(l.filter P).length:=by
 intro l
 have key: ∀k,k≤l.length→((List.range k).filter fun j=>P (l.getD j 0)).length=((l.take k).filter P).length:=by
  intro k
  induction k with
  |zero=>intro _;simp
  |succ k ih=>
   intro hk
   have hy:=List.getElem?_eq_getElem (show k<l.length by omega)
   rw[List.range_succ,List.filter_append,List.length_append,ih (by omega),List.take_add_one,hy,List.filter_append,List.length_append,ob hy|>fun e=>(show(List.filter (fun j=>P (l.getD j 0)) [k]).length=(List.filter P [l[k]]).length by
    have:l.getD k 0=l[k]:=e
    simp only[List.filter_cons,List.filter_nil,this];split<;>rfl)]
   rfl
 have:=key l.length (Nat.le_refl _)
 rwa [List.take_length]at this
theorem abI{v:VV}(h:eU v)(i:Nat):r8 v.ae.pages ((i:Int)+2) v.at_=cR v.ae.pages v.at_ i:=by
 have hp:1≤v.ae.pages:=by have:=(ft.1 h.bears).2.2.1;omega
 rw[←DX hp i (h.pl.lM.pos hp),UA (yp.2 h) i,Gp,r8]
 exact(abH (D3 v.ae.pages ((i:Int)+2)) v.at_).symm
theorem Py{c:CV}{fl:List Int}(hk:aV c=true)(h:Std c fl): ∀x∈fl,0≤x∧x≤65535:=fun x hx=>by
 have hd:=eE hk
 rcases h.pos (by omega) x hx with h0|h1
 ·
  omega
 ·
  have hp:=lz.1 (h x hx (by omega))
  have:=FX (n:=x) hd.2.2.1 hd.2.2.2.1 hd.2.1 hp.2.1
  omega
theorem abJ{c:CV}(hb:fF c=true){i n:Int}(h:l6 c i n=true):kH (cy (bF c (n -1))).1 c.size=true∧(cy (bF c (n -1))).1.id=i∧iT c n=(cy (bF c (n -1))).1.body:=by
 obtain⟨h1,h2,h3,h4⟩:=AM h
 obtain⟨p1,p2,p3⟩:=lz.1 h1
 obtain⟨k1,_,k3,_⟩:=ft.1 hb
 have mW:=dV.1 (pL k1 (b:=(n -1)/c.pages) (by omega) p2)
 have h0:0≤(n -1)%c.pages:=Int.emod_nonneg _ (by omega)
 have hj:((n -1)%c.pages).toNat<(aj c ((n -1)/c.pages)).pages.length:=by omega
 have hl:((bF c (n -1)).length:Int)=c.size:=by
  rw[bF]
  simp only[List.getD]
  rw[List.getElem?_eq_getElem hj]
  exact mW.2.2.2.2.2 _ (List.getElem_mem hj)
 refine⟨?_,h4,by rw[iT,if_pos h2]⟩
 have:=abD h2 (by rw[h3];decide)
 rwa [hl]at this
theorem Iv{v:VV}{src:Int}{t:Nat}(wY:(t:Int)+2≠src)(hg:v.gen+1<281474976710656): ∀(l:List Int) (id:Nat) {n:Nat} {c:CV} {a:List Int} {m:Nat} {w:Int},Ok (n+l.length) c→dx v.ae c→t<c.blocks.length -2→Pl c v.at_→Std c a→a.length=v.at_.length→v.at_.drop id=l→(∀j,id≤j→a[j]? =v.at_[j]?)→(∀(j:Nat) (y:Int),v.at_[j]? =some y→(y=0∨(y -1)/v.ae.pages≠src)→a[j]? =some y)→
  cR c.pages (v.at_++a) t=m→(aj c ((t:Int)+2)).used=m→(m:Int)+r8 c.pages src l≤c.pages→
  ((bZ v src ((t:Int)+2) l id c a).e=none∧Ok n (bZ v src ((t:Int)+2) l id c a).c∧Std (bZ v src ((t:Int)+2) l id c a).c (bZ v src ((t:Int)+2) l id c a).a∧
   (∃m' w':Int,av (bZ v src ((t:Int)+2) l id c a).c (v.at_++(bZ v src ((t:Int)+2) l id c a).a)=(av c (v.at_++a)).set t ⟨m',m',w',false⟩)∧
   (∀(j:Nat) (y:Int),v.at_[j]? =some y→(y=0∨(y -1)/v.ae.pages≠src)→(bZ v src ((t:Int)+2) l id c a).a[j]? =some y))∨(bZ v src ((t:Int)+2) l id c a).e=some 7
 |[],id,n,c,a,m,w,h,dM,ht,hv,ha,dJ,hl,iG,dF,nE,Ad,Iw=>by
  left
  refine⟨rfl,h,ha,⟨m,(aj c ((t:Int)+2)).aT,?_⟩,dF⟩
  have:=h.get (fl:=v.at_++a) (hv.lM.append ha) ht
  rw[nE,Ad]at this
  exact(D0 this).symm
 |y::r,id,n,c,a,m,w,h,dM,ht,hv,ha,dJ,hl,iG,dF,nE,Ad,Iw=>by
  have hy:v.at_[id]? =some y:=by
   have:=congrArg (fun l:List Int=>l[0]?) hl
   simpa using this
  have hr:v.at_.drop (id+1)=r:=by rw[←List.drop_drop,hl];rfl
  have hp:=dM.pages
  have hd:=eE h.ae
  rw[bZ]
  by_cases h1:y=0∨(y -1)/v.ae.pages≠src
  ·
   rw[if_pos h1]
   refine Iv wY hg r (id+1) (n:=n) (w:=w) (h.mono (by simp only[List.length_cons];omega)) dM ht hv ha dJ hr (fun j hj=>iG j (by omega)) dF nE Ad ?_
   have:r8 c.pages src (y::r)=r8 c.pages src r:=by
    rw[r8,List.filter_cons_of_neg];rfl
    simp only[D3,Bool.and_eq_true,decide_eq_true_eq]
    rintro⟨g1,g2⟩
    rcases h1 with g|g
    ·
     omega
    ·
     rw[←hp]at g;exact g g2
   rw[←this];exact Iw
  ·
   rw[if_neg h1]
   have mv:y≠0:=fun e=>h1 (.inl e)
   have hys:(y -1)/c.pages=src:=by rw[hp];exact Classical.not_not.1 fun e=>h1 (.inr e)
   have C4:1≤y:=(hv.lM.pos (by omega) y (List.mem_of_getElem? hy)).resolve_left mv
   have hb:cg c v.at_ a src ((t:Int)+2)=((t:Int)+2,true):=by rw[cg,if_neg (by omega)]
   rw[hb,if_neg (by simp)]
   have sY:=hv.1 id y hy mv
   obtain⟨y1,y2,y3⟩:=abJ h.ok sY
   obtain⟨z1,z2,z3,z4,z5,z6⟩:=pF.1 y1
   rw[y2]at z3 z4
   have yr:kH ⟨1,id,((v.gen:Int)+1).toNat,iT c y⟩ c.size=true:=pF.2 ⟨z1, .inl rfl,z3,z4,by simp only;omega,by rw[y3];exact z6⟩
   have Ix:dQ c ((v.gen:Int)+1) id y=((dQ c ((v.gen:Int)+1) id y).1,0):=by
    rw[dQ,dg,if_pos yr]
   have bX:((dQ c ((v.gen:Int)+1) id y).1.length:Int)=c.size:=AH yr
   rw[if_neg (by rw[Ix];simp)]
   have abK:r8 c.pages src (y::r)=r8 c.pages src r+1:=by
    rw[r8,List.filter_cons_of_pos];rfl
    simp only[D3,Bool.and_eq_true,decide_eq_true_eq]
    exact⟨by omega,hys⟩
   rw[abK]at Iw
   rcases h.prog (n:=n+r.length) (b:=(t:Int)+2) (p:=(dQ c ((v.gen:Int)+1) id y).1) (by omega) (by omega) (by omega) bX with⟨z,g⟩|z
   ·
    rw[if_neg (by rw[z];simp)]
    have e2:(t:Int)+2=((t:Nat):Int)+2:=rfl
    generalize hN:((t:Int)+2)*v.ae.pages+(aj c ((t:Int)+2)).used+1=N
    have jD: ∀k,k∈v.at_++a.set id N↔k∈v.at_++a∨k=((t:Int)+2)*c.pages+(aj c ((t:Int)+2)).used+1:=fun k=>by
     rw[hp,hN,List.mem_append,List.mem_append]
     have iB:id<a.length:=by rw[dJ];exact(List.getElem?_eq_some_iff.1 hy).1
     constructor
     ·
      rintro(q|q)
      ·
       exact .inl (.inl q)
      ·
       rcases List.mem_or_eq_of_mem_set q with q|q
       ·
        exact .inl (.inr q)
       ·
        exact .inr q
     ·
      rintro((q|q)|q)
      ·
       exact .inl q
      ·
       obtain⟨j,hj⟩:=List.getElem?_of_mem q
       by_cases e:j=id
       ·
        rw[e,iG id (Nat.le_refl _)]at hj
        exact .inl (List.mem_of_getElem? hj)
       ·
        right
        exact List.mem_of_getElem? (i:=j) (by rw[List.getElem?_set_ne (fun g=>e g.symm)];exact hj)
      ·
       right
       rw[q]
       exact List.mem_of_getElem? (i:=id) (by rw[List.getElem?_set_self iB])
    obtain⟨b1,b2⟩:=Pj h.ae (hv.lM.append ha) z jD
    have td:=AJ (L:=v.at_) (c:=c) (b:=(t:Int)+2) (p:=(dQ c ((v.gen:Int)+1) id y).1)
    have nL:=gU c ((t:Int)+2) (dQ c ((v.gen:Int)+1) id y).1
    have fC:=iS.1 (nv z).1
    have j9:=yw z
    have eW:(((t:Int)+2)*c.pages+(aj c ((t:Int)+2)).used+1 -1)/c.pages=(t:Int)+2:=by
     rw[Int.add_sub_cancel,Int.add_comm,Int.add_mul_ediv_right _ _ (by omega),Int.ediv_eq_zero_of_lt fC.2.1 fC.2.2.1,Int.zero_add]
    have abL:((t:Int)+2)*c.pages+(aj c ((t:Int)+2)).used+1∉v.at_++a:=fun gZ=>by
     have xv:0≤((t:Int)+2)*c.pages:=Int.mul_nonneg (by omega) (by omega)
     have:=hv.lM.append ha _ gZ (by have:=fC.2.1;omega)
     rw[Int.add_sub_cancel,(DK (L:=[]) (by omega) z).2.2.2]at this;cases this
    have Pz:=Il (by omega) eW abL jD t
    rw[if_pos rfl,nE]at Pz
    have ih:=Iv wY hg r (id+1) (n:=n) (w:=w) (m:=m+1) (a:=a.set id N) g (dM.trans nL) (by rw[nL.len];exact ht) (hv.kd td fun _ q=>q) (fun k hk=>b2 k (List.mem_append_right _ hk)) (by rw[List.length_set,dJ]) hr (fun j hj=>by rw[List.getElem?_set_ne (by omega)];exact iG j (by omega)) (fun j q hq DR=>by
     by_cases e:j=id
     ·
      rw[e,hy]at hq
      obtain rfl:=Option.some.inj hq
      exact absurd DR h1
     ·
      rw[List.getElem?_set_ne (fun g=>e g.symm)];exact dF j q hq DR) (by rw[nL.pages];exact Pz) (by rw[j9.1,Ad];rfl) (by rw[nL.pages];omega)
    rcases ih with⟨i1,i2,i3,⟨m',w',i4⟩,i5⟩|i1
    ·
     left
     refine⟨i1,i2,i3,⟨m',w',?_⟩,i5⟩
     rw[i4,b1,List.set_set]
    ·
     exact .inr i1
   ·
    right
    rw[if_pos (by rw[z];decide)]
    show some (jr (bC c ((t:Int)+2) (dQ c ((v.gen:Int)+1) id y).1))=some 7
    rw[z];rfl
structure Lv(n:Nat)(x:WV):Prop where
 ok:Ok n x.v.ae
 wr:cV x
 rt:eU x.v
 pl:ie x.v.ae
 j6:(x.v.at_.length:Int)≤jd x.v.ae.size
 half:2*(x.v.at_.length:Int)≤((x.v.ae.blocks.length:Int) -4)*x.v.ae.pages
 idle: ∃j,j<x.v.ae.blocks.length -2∧cR x.v.ae.pages x.v.at_ j=0
theorem Lv.mono{n m:Nat}{x:WV}(h:Lv n x)(hm:m≤n):Lv m x:=⟨h.ok.mono hm,h.wr,h.rt,h.pl,h.j6,h.half,h.idle⟩
def lO(x:WV):Nat:=nN x.v.ae.pages (av x.v.ae x.v.at_)
theorem Lv.next{n m:Nat}{x y:WV}(h:Lv m x)(s:Sf x (cd x.v) y 0)(o:cV y)(k:Ok n y.v.ae)(hi: ∃j,j<y.v.ae.blocks.length -2∧cR y.v.ae.pages y.v.at_ j=0):Lv n y:=
 ⟨k,o,(s.bb rfl).1,h.pl.kd s.kd,by rw[s.len,s.kd.bT.size];exact h.j6,by rw[s.len,s.kd.bT.len,s.kd.bT.pages];exact h.half,hi⟩
theorem abM{n:Nat}{x:WV}{i:Nat}(h:Lv (n+100) x)(hg:x.v.gen+2<281474976710656)(hi:i<x.v.ae.blocks.length -2)(h0:0<cR x.v.ae.pages x.v.at_ i)(h1:(cR x.v.ae.pages x.v.at_ i:Int)<(aj x.v.ae ((i:Int)+2)).used):
  ((ff x (c6 x) i).2=0∧Lv n (ff x (c6 x) i).1∧lO (ff x (c6 x) i).1<lO x∧(ff x (c6 x) i).1.v.gen=x.v.gen+1)∨(ff x (c6 x) i).2=7:=by
 obtain⟨j,hj,DW⟩:=h.idle
 have ct:j≠i:=fun e=>by rw[e]at DW;omega
 have hd:=eE h.ok.ae
 have iY:=h.rt.pl.lM
 have eA:x.v.at_.length≤64:=h.wr.j6
 have lp:=O0 (l:=c6 x) (i:=(i:Int)) h.wr h.rt h.pl (vD _ _) (DI _ _) (by omega) (by rw[show(c6 x).length=_ from kL _ _];omega)
 have kV:=Ge (l:=c6 x) (i:=(i:Int)) h.wr (vD _ _)
 have qc:=lp.1
 have PA:=h.ok.get (fl:=x.v.at_) iY hi
 have lN:(c6 x).getD i dO=_:=h.ok.getD (fl:=x.v.at_) iY hi
 rcases abG (n:=n+83) (i:=i) h.ok iY hj ct DW with⟨t,w,t1,t2,t3,t4,t5,t6,t7⟩|tz
 ·
  have dJ:oQ x.v.ae (c6 x) i=false:=by
   rw[oQ,show(bV x.v.ae ((c6 x).set (i:Int).toNat bl)).2.2=0 from congrArg Prod.snd t4];rfl
  have nK:cQ x.v.ae (c6 x) i=((t:Int)+2,0):=by
   rw[cQ,if_neg (by rw[dJ];simp)];exact t4
  rw[ff,nK]at qc kV⊢
  rw[if_neg (by simp)]at qc kV⊢
  have aH:(i:Int).toNat=i:=rfl
  rw[aH]at qc kV⊢
  change Ok (n+83) (bV x.v.ae ((c6 x).set i bl)).1 at t5
  change av (bV x.v.ae ((c6 x).set i bl)).1 x.v.at_=(c6 x).set t ⟨0,0,w,false⟩at t6
  change Kp x.v.at_ x.v.ae (bV x.v.ae ((c6 x).set i bl)).1 at t7
  generalize(bV x.v.ae ((c6 x).set i bl)).1=c1 at*
  have AW:=h.rt.kp t7
  have dM:=t7.bT
  have wH:r8 c1.pages ((i:Int)+2) x.v.at_=cR x.v.ae.pages x.v.at_ i:=by rw[dM.pages];exact abI h.rt i
  have D1:=h.ok.yx hi
  have yz:Std c1 x.v.at_:=AW.pl.lM
  have rT:av c1 (x.v.at_++x.v.at_)=(c6 x).set t ⟨0,0,w,false⟩:=by
   rw[←t6]
   exact Io (by rw[dM.pages];omega) yz (yz.append yz) (.cZ _) fun k=>⟨rfl,rfl,rfl,fun _=>uE (fun m _=>by rw[List.mem_append];exact or_self_iff) (by rw[dM.pages];omega)⟩
  have G9:t<c1.blocks.length -2:=by rw[dM.len];exact t2
  have wG:=t5.get (fl:=x.v.at_++x.v.at_) (yz.append yz) G9
  rw[rT,List.getElem?_set_self (by rw[show(c6 x).length=_ from kL _ _];exact t2)]at wG
  have PB:=Option.some.inj wG
  have uu:(aj c1 ((t:Int)+2)).used=0:=(congrArg ay.used PB).symm
  have Bz:cR c1.pages (x.v.at_++x.v.at_) t=0:=by have:=congrArg ay.live PB;simp only at this;omega
  have PC:=Iv (v:=x.v) (src:=(i:Int)+2) (t:=t) (by omega) (by omega) x.v.at_ 0 (n:=n+19) (c:=c1) (a:=x.v.at_) (m:=0) (w:=w) (t5.mono (by omega)) dM G9 AW.pl yz rfl rfl (fun _ _=>rfl) (fun _ _ q _=>q) Bz uu (by rw[wH,dM.pages];omega)
  have hmk:=DM (v:=(x.on c1).v) (src:=(i:Int)+2) (to:=(t:Int)+2) (by omega) (fun _=>by omega) (by show 1≤c1.pages;rw[dM.pages];omega) (x.on c1).v.at_ 0 (c:=(x.on c1).v.ae) (a:=(x.on c1).v.at_) (t7.ok h.ok.ae) AW.pl (.cZ _ _) AW.pl rfl (fun _=>⟨by omega,by show(t:Int)+2<c1.blocks.length;omega,t5.nb _⟩) rfl (fun _ _=>rfl) (fun j n hj=>by omega) rfl
  have kj:bZ x.v ((i:Int)+2) ((t:Int)+2) x.v.at_ 0 c1 x.v.at_=bZ (x.on c1).v ((i:Int)+2) ((t:Int)+2) (x.on c1).v.at_ 0 (x.on c1).v.ae (x.on c1).v.at_:=by
   exact abN (v:=x.v) (u:=(x.on c1).v) dM.pages.symm rfl rfl _ _ _ _
  rw[kj]at PC
  rcases PC with⟨e1,e2,e3,⟨m',w',e4⟩,e5⟩|e1
  ·
   obtain⟨k1,k2,_,_⟩:=hmk
   obtain⟨k3,k4,k5,k6⟩:=k2 e1
   have D4:c5 (x.on c1) ((i:Int)+2) ((t:Int)+2)=((dP ((x.on c1).on (bZ (x.on c1).v ((i:Int)+2) ((t:Int)+2) (x.on c1).v.at_ 0 (x.on c1).v.ae (x.on c1).v.at_).c) (bZ (x.on c1).v ((i:Int)+2) ((t:Int)+2) (x.on c1).v.at_ 0 (x.on c1).v.ae (x.on c1).v.at_).a).1,decide ((dP ((x.on c1).on (bZ (x.on c1).v ((i:Int)+2) ((t:Int)+2) (x.on c1).v.at_ 0 (x.on c1).v.ae (x.on c1).v.at_).c) (bZ (x.on c1).v ((i:Int)+2) ((t:Int)+2) (x.on c1).v.at_ 0 (x.on c1).v.ae (x.on c1).v.at_).a).2=0),(dP ((x.on c1).on (bZ (x.on c1).v ((i:Int)+2) ((t:Int)+2) (x.on c1).v.at_ 0 (x.on c1).v.ae (x.on c1).v.at_).c) (bZ (x.on c1).v ((i:Int)+2) ((t:Int)+2) (x.on c1).v.at_ 0 (x.on c1).v.ae (x.on c1).v.at_).a).2):=by
    rw[c5,e1]
   generalize hM:bZ (x.on c1).v ((i:Int)+2) ((t:Int)+2) (x.on c1).v.at_ 0 (x.on c1).v.ae (x.on c1).v.at_=M at*
   have nL:=dM.trans k1.bT
   have fA:cV ((x.on c1).on M.c):=(h.wr.on (t7.ok h.ok.ae) dM).on e2.ae k1.bT
   have uF:AU ((x.on c1).on M.c).v.ae ((x.on c1).on M.c).v.gen M.a:=⟨by show x.v.gen+1<_;omega,by rw[show M.a.length=x.v.at_.length from k5,show((x.on c1).on M.c).v.ae.size=x.v.ae.size from nL.size];exact h.j6,Py e2.ae e3⟩
   rcases Pp (n:=n+17) fA (e2.mono (by omega)) uF with⟨w1,w2,w3,w4,w5,w6⟩|w1
   ·
    have AX:=Ib (a:=M.a) fA (by
     have:=AW.kp k1
     exact this) ((h.pl.kd t7.toKd).kd k1.toKd) k3 k5
    have hRW:=(AX.1.bb w1).1
    have r9:dx x.v.ae (dP ((x.on c1).on M.c) M.a).1.v.ae:=nL.trans AX.1.kd.bT
    rw[D4]at qc kV⊢
    simp only[w1,decide_true]at qc kV⊢
    generalize hW:(dP ((x.on c1).on M.c) M.a).1=W at*
    have AY:Std W.v.ae M.a:=by have:=hRW.pl.lM;rwa [w3]at this
    have PD:av W.v.ae M.a=((c6 x).set t ⟨m',m',w',false⟩).set i ⟨0,(aj x.v.ae ((i:Int)+2)).used,(aj x.v.ae ((i:Int)+2)).aT,false⟩:=by
     have PE:av M.c (x.v.at_++M.a)=(c6 x).set t ⟨m',m',w',false⟩:=by
      rw[e4,rT,List.set_set]
     have AZ:Std M.c (x.v.at_++M.a):=(h.rt.pl.lM.kd t7.toKd (fun _ q=>q)|>.kd k1.toKd fun _ q=>q).append e3
     have PF:=e2.get (fl:=x.v.at_++M.a) AZ (i:=i) (by rw[nL.len];exact hi)
     rw[PE,List.getElem?_set_ne t1,show(c6 x)[i]? =_ from PA]at PF
     have PG:=Option.some.inj PF
     have oo:1≤M.c.pages:=by rw[nL.pages];omega
     rw[←PE]
     refine Im oo AZ AY (by have:=AX.1.kd.bT;exact this) (fun k hk=>⟨w5 k,uE (fun q hq=> ?_) oo⟩) ?_
     ·
      rw[List.mem_append]
      refine⟨.inr,fun g=>g.elim (fun g=> ?_) id⟩
      obtain⟨z,hz⟩:=List.getElem?_of_mem g
      have:=e5 z q hz (.inr (by rw[←nL.pages,hq];omega))
      exact List.mem_of_getElem? this
     ·
      have lD:kg M.a W.v.ae ((i:Int)+2):=by
       have:kg M.a c1 ((i:Int)+2):=k6
       exact this.bT (k1.bT.trans AX.1.kd.bT)
      have:=(rZ (by rw[r9.pages];omega) AY i).2 lD
      rw[w2.tell,this,w5 i]
      have u1:=congrArg ay.used PG
      have u2:=congrArg ay.aT PG
      simp only at u1 u2
      rw[show(aj ((x.on c1).on M.c).v.ae ((i:Int)+2)).used=_ from u1.symm,show(aj ((x.on c1).on M.c).v.ae ((i:Int)+2)).aT=_ from u2.symm];rfl
    have hgt:(c6 x)[t]? =_:=h.ok.get (fl:=x.v.at_) iY t2
    have kP:=AV (p:=x.v.ae.pages) (x:=⟨m',m',w',false⟩) hgt
    have akr:kh x.v.ae.pages ⟨m',m',w',false⟩=0:=by
     rw[kh];simp only[Bool.false_eq_true,if_false]
     split
     ·
      rename_i e;rw[if_neg (by omega)]
     ·
      omega
    have PH:((c6 x).set t ⟨m',m',w',false⟩)[i]? =_:=(List.getElem?_set_ne t1).trans PA
    have G7:1≤kh x.v.ae.pages ⟨cR x.v.ae.pages x.v.at_ i,(aj x.v.ae ((i:Int)+2)).used,(aj x.v.ae ((i:Int)+2)).aT,false⟩:=by
     rw[kh];simp only[Bool.false_eq_true,if_false]
     rw[if_neg (by omega)];omega
    have Iy:cR W.v.ae.pages W.v.at_ i=0:=by
     have lD:kg M.a W.v.ae ((i:Int)+2):=by
      have:kg M.a c1 ((i:Int)+2):=k6
      exact this.bT (k1.bT.trans AX.1.kd.bT)
     rw[w3];exact(rZ (by rw[r9.pages];omega) AY i).2 lD
    have PI:i<W.v.ae.blocks.length -2:=by rw[r9.len];exact hi
    by_cases PJ:(aj x.v.ae ((i:Int)+2)).used=x.v.ae.pages
    ·
     rw[lN]at qc kV⊢
     rw[if_pos (.inr PJ)]at qc kV⊢
     left
     refine⟨rfl,h.next qc kV.1.ok (w2.mono (by omega)) ⟨i,PI,Iy⟩,?_,w4⟩
     rw[lO,lO,r9.pages,w3,PD]
     have je:=AV (p:=x.v.ae.pages) (x:=⟨0,(aj x.v.ae ((i:Int)+2)).used,(aj x.v.ae ((i:Int)+2)).aT,false⟩) PH
     have PK:kh x.v.ae.pages ⟨0,(aj x.v.ae ((i:Int)+2)).used,(aj x.v.ae ((i:Int)+2)).aT,false⟩=0:=by
      rw[kh];simp only[Bool.false_eq_true,if_false,if_true]
      rw[if_neg (by omega)]
     change _<nN x.v.ae.pages (c6 x)
     omega
    ·
     rw[lN]at qc kV⊢
     rw[if_neg (by rintro(g|g);cases g;exact PJ g)]at qc kV⊢
     rcases w2.DZ (n:=n) (b:=(i:Int)+2) (by omega) (by omega)with⟨q1,q2⟩|q1
     ·
      simp only[q1]at qc kV⊢
      left
      have lD:kg M.a W.v.ae ((i:Int)+2):=(rZ (by rw[r9.pages];omega) AY i).1 (by rw[←w3];exact Iy)
      obtain⟨b1,b2⟩:=DY w2.ae AY lD q1
      have kc:=(tT ((i:Int)+2) w2.ae).2
      refine⟨rfl,h.next qc kV.1.ok q2 ⟨i,by show i<(cA W.v.ae _).1.blocks.length -2;rw[kc.len];exact PI,by show cR (cA W.v.ae ((i:Int)+2)).1.pages W.v.at_ i=0;rw[kc.pages];exact Iy⟩,?_,w4⟩
      show nN (cA W.v.ae ((i:Int)+2)).1.pages (av (cA W.v.ae ((i:Int)+2)).1 W.v.at_)<_
      rw[w3,b1,PD,kc.pages,r9.pages,List.set_set]
      have je:=AV (p:=x.v.ae.pages) (x:=⟨0,0,(aj W.v.ae ((i:Int)+2)).aT+1,false⟩) PH
      have PK:kh x.v.ae.pages ⟨0,0,(aj W.v.ae ((i:Int)+2)).aT+1,false⟩=0:=by
       rw[kh];simp
      change _<nN x.v.ae.pages (c6 x)
      omega
     ·
      right
      simp only[q1];rfl
   ·
    right
    rw[D4]
    have hnz: ¬(dP ((x.on c1).on M.c) M.a).2=0:=by rw[w1];decide
    rw[if_pos (.inl (decide_eq_false hnz))]
    exact w1
  ·
   right
   have D4:c5 (x.on c1) ((i:Int)+2) ((t:Int)+2)=((x.on c1).on (bZ (x.on c1).v ((i:Int)+2) ((t:Int)+2) (x.on c1).v.at_ 0 (x.on c1).v.ae (x.on c1).v.at_).c,false,7):=by
    rw[c5,e1]
   rw[D4,if_pos (.inl rfl)]
 ·
  right
  have PL:(bV x.v.ae ((c6 x).set (i:Int).toNat bl)).2.2=7:=tz
  have dJ:oQ x.v.ae (c6 x) i=false:=by rw[oQ,PL];rfl
  have nK:(cQ x.v.ae (c6 x) i).2=7:=by rw[cQ,if_neg (by rw[dJ];simp)];exact PL
  rw[ff,if_pos (by rw[nK];decide),nK];rfl
where
 abN {v u:VV} {src to:Int} (h1:v.ae.pages=u.ae.pages) (h2:v.at_=u.at_) (h3:v.gen=u.gen) (l:List Int): ∀(id:Nat) (c:CV) (a:List Int),bZ v src to l id c a=bZ u src to l id c a:=by
  induction l with
  |nil=>intro id c a;rfl
  |cons n r ih=>
   intro id c a
   rw[bZ,bZ,h1,h2,h3,ih,ih]
open Go.aA
theorem abO{n:Nat}{x:WV}{j:Nat}(h:Lv (n+17) x)(hj:j<x.v.ae.blocks.length -2)(h0:cR x.v.ae.pages x.v.at_ j=0)(h1:0<(aj x.v.ae ((j:Int)+2)).used)(h2:(aj x.v.ae ((j:Int)+2)).used<x.v.ae.pages):
  ((j7 x (c6 x)).2=0∧Lv n (j7 x (c6 x)).1∧lO (j7 x (c6 x)).1<lO x∧(j7 x (c6 x)).1.v.gen=x.v.gen)∨(j7 x (c6 x)).2=7:=by
 have hd:=eE h.ok.ae
 have iY:=h.rt.pl.lM
 have hw:=Iq h.ok.ae iY (by omega)
 have hg:=h.ok.get (fl:=x.v.at_) iY hj
 have hwo:=h.ok.aT ((j:Int)+2)
 have lp:=Ih (l:=c6 x) h.rt (DI _ _)
 have nK:=Gf (l:=c6 x) h.wr (vD _ _)
 have hD:(mL x.v.ae (c6 x)).2=true:=by
  cases hq:(mL x.v.ae (c6 x)).2 with
  |true=>rfl
  |false=>
   have:=rA (yu (R:=mc x.v.ae.pages) hw) hq _ (List.mem_map_of_mem (f:=gV (mc x.v.ae.pages)) (List.mem_of_getElem? hg))
   rw[yy rfl (by simp only[mc,Bool.and_eq_true,decide_eq_true_eq];omega)]at this
   have D2:lb ⟨cR x.v.ae.pages x.v.at_ j,(aj x.v.ae ((j:Int)+2)).used,(aj x.v.ae ((j:Int)+2)).aT,false⟩=true:=by
    simp only[lb,h0,Bool.not_false,Bool.true_and,Bool.and_eq_true,decide_eq_true_eq]
    exact⟨rfl,h1⟩
   rw[D2]at this;cases this
 obtain⟨z,hz,a1,a2,a3,a4,a5⟩:=nx (fun x h=>(kM h).1) (show(fu (bS (mc x.v.ae.pages) (c6 x)) x.v.ae.pages lb [qw]).2=true from hD)
 have ow:(c6 x)[(mL x.v.ae (c6 x)).1.toNat]? =some z:=hz
 change 0≤(mL x.v.ae (c6 x)).1 at a4
 rw[j7,if_neg (by rw[hD];simp)]at lp nK⊢
 generalize mL x.v.ae (c6 x)=T at*
 obtain⟨e1,e2⟩:=te (by omega) iY ow
 rw[h.ok.tell]at e1
 have ly:=(kM a3).2.1
 have Ai:=(kM a3).2.2
 rw[mc,Bool.and_eq_true,decide_eq_true_eq]at a2
 have uu:=a2.1
 rw[e1]at ly Ai uu
 simp only at ly Ai uu
 have eT:T.1=((T.1.toNat:Nat):Int):=by omega
 rw[eT]at lp nK⊢
 have lD:=(rZ (by omega) iY T.1.toNat).1 (by omega)
 rcases h.ok.DZ (n:=n) (b:=((T.1.toNat:Nat):Int)+2) (by omega) (by omega)with⟨q1,q2⟩|q1
 ·
  left
  simp only[q1]at lp nK⊢
  obtain⟨b1,b2⟩:=DY h.ok.ae iY lD q1
  have kc:=(tT (((T.1.toNat:Nat):Int)+2) h.ok.ae).2
  refine⟨rfl,h.next lp nK.1.ok q2 ⟨T.1.toNat,by show _<(cA x.v.ae _).1.blocks.length -2;rw[kc.len];exact e2,by show cR (cA x.v.ae _).1.pages x.v.at_ _=0;rw[kc.pages];omega⟩,?_,rfl⟩
  show nN (cA x.v.ae (((T.1.toNat:Nat):Int)+2)).1.pages (av (cA x.v.ae (((T.1.toNat:Nat):Int)+2)).1 x.v.at_)<nN x.v.ae.pages (av x.v.ae x.v.at_)
  rw[b1,kc.pages]
  have je:=AV (p:=x.v.ae.pages) (x:=⟨0,0,(aj x.v.ae (((T.1.toNat:Nat):Int)+2)).aT+1,false⟩) ow
  have PK:kh x.v.ae.pages ⟨0,0,(aj x.v.ae (((T.1.toNat:Nat):Int)+2)).aT+1,false⟩=0:=by
   rw[kh];simp
  have og:kh x.v.ae.pages z=1:=by
   rw[e1,kh];simp only[Bool.false_eq_true,if_false]
   rw[if_pos ly,if_pos ⟨Ai,uu⟩]
  change nN x.v.ae.pages ((c6 x).set _ _)<nN x.v.ae.pages (c6 x)
  omega
 ·
  right;simp only[q1];rfl
theorem abP{p:Int}{l:List ay}(h:0<nN p l): ∃(i:Nat) (x:ay),l[i]? =some x∧kh p x≠0:=by
 apply Classical.byContradiction
 intro hn
 have:nN p l=0:=Pr fun x hx=>by
  obtain⟨i,hi⟩:=List.getElem?_of_mem hx
  apply Classical.byContradiction
  intro bW
  exact hn ⟨i,x,hi,bW⟩
 omega
theorem abQ{n:Nat}{x:WV}(h:Lv (n+100) x)(hg:x.v.gen+2<281474976710656)(hP:0<lO x):
  ((eF x).2=0∧Lv n (eF x).1∧lO (eF x).1<lO x∧(eF x).1.v.gen≤x.v.gen+1)∨(eF x).2=7:=by
 have hd:=eE h.ok.ae
 have iY:=h.rt.pl.lM
 have xX:vB x.v.gen=false:=decide_eq_false (by omega)
 rw[eF]
 by_cases hv:(qH x).2=true
 ·
  rw[if_pos ⟨hv,xX⟩]
  obtain⟨i,v1,v2,v3,v4⟩:=abE h.ok iY hv
  have v1':(qH x).1=i:=v1
  rw[v1']
  rcases abM h hg v2 v3 v4 with⟨r1,r2,r3,r4⟩|r1
  ·
   rw[if_pos (by rw[r1];decide)]
   exact .inl ⟨r1,r2,r3,by omega⟩
  ·
   rw[if_pos (by rw[r1];decide)];exact .inr r1
 ·
  rw[if_neg (fun g=>hv g.1)]
  obtain⟨i,z,hz,bW⟩:=abP hP
  obtain⟨e1,e2⟩:=te (by omega) iY hz
  rw[h.ok.tell]at e1
  have hu:=h.ok.yx e2
  rw[e1,kh]at bW
  simp only[Bool.false_eq_true,if_false]at bW
  by_cases hl:cR x.v.ae.pages x.v.at_ i=0
  ·
   rw[if_pos (by omega)]at bW
   have hb:0<(aj x.v.ae ((i:Int)+2)).used∧(aj x.v.ae ((i:Int)+2)).used<x.v.ae.pages:=by
    apply Classical.byContradiction
    intro hn
    rw[if_neg hn]at bW;exact bW rfl
   rcases abO (h.mono (by omega:n+17≤n+100)) e2 hl hb.1 hb.2 with⟨r1,r2,r3,r4⟩|r1
   ·
    exact .inl ⟨r1,r2,r3,by omega⟩
   ·
    exact .inr r1
  ·
   rw[if_neg (by omega)]at bW
   exact absurd (abF h.ok iY e2 (by omega) (by omega)) hv
def iZ(p:Int)(x:ay):Int:=if x.bad=true then 0 else kr p x
def kS(p:Int)(x:ay):Int:=if x.bad=true then 0 else if x.live=0 then kr p x else 0
def nO(l:List Int):Int:=l.foldl max 0
theorem D5{M:Int}(l:List Int): ∀s:Int,l.foldl max s≤M↔s≤M∧ ∀x∈l,x≤M:=by
 induction l with
 |nil=>intro s;simp
 |cons y r ih=>
  intro s
  rw[List.foldl_cons,ih,Int.max_le]
  simp only[List.mem_cons,forall_eq_or_imp]
  exact and_assoc
theorem abR{p:Int}(l:List ay)(h: ∀x∈l,0≤kr p x): ∀s:Int×Int,0≤s.2→l.foldl (qD p) s=(s.1+fv (l.map (iZ p)),(l.map (kS p)).foldl max s.2):=by
 induction l with
 |nil=>intro s _;simp[fv]
 |cons y r ih=>
  intro s hs
  have ih':=ih fun x hx=>h x (List.mem_cons_of_mem _ hx)
  have hy:=h y List.mem_cons_self
  rw[List.foldl_cons]
  have bB:0≤(qD p s y).2:=by
   rw[qD];split
   ·
    exact hs
   ·
    simp only;split<;>omega
  rw[ih' _ bB,List.map_cons,List.map_cons,List.foldl_cons,fv]
  rw[qD,iZ,kS]
  by_cases hb:y.bad=true
  ·
   rw[if_pos hb,if_pos hb,if_pos hb]
   rw[Int.zero_add,Int.max_eq_left hs]
  ·
   rw[if_neg hb,if_neg hb,if_neg hb]
   by_cases hl:y.live=0
   ·
    rw[if_pos hl,if_pos hl,Int.add_assoc]
   ·
    rw[if_neg hl,if_neg hl,Int.max_eq_left hs,Int.add_assoc]
theorem PM{c:CV}{fl:List Int}(hk:aV c=true):jM c fl=(fv ((av c fl).map (iZ c.pages)) -nO ((av c fl).map (kS c.pages)),fv ((av c fl).map (iZ c.pages))):=by
 have:=abR (p:=c.pages) (av c fl) (fun x hx=>(CB (rE hk hx) hk).1) (0,0) (Int.le_refl _)
 rw[jM,fw,this,nO]
 simp only[Int.zero_add]
theorem PN{f:ay→Int}: ∀{l:List ay} {i:Nat} {x y:ay},l[i]? =some y→fv ((l.set i x).map f)=fv (l.map f) -f y+f x
 |[],i,x,y,h=>by simp at h
 |z::r,0,x,y,h=>by
  obtain rfl:z=y:=by simpa using h
  simp only[List.set_cons_zero,List.map_cons,fv];omega
 |z::r,i+1,x,y,h=>by
  have:=PN (f:=f) (l:=r) (i:=i) (x:=x) (y:=y) (by simpa using h)
  simp only[List.set_cons_succ,List.map_cons,fv];omega
theorem abS{pages:Int}{l:List Int}: ∀(D k:Nat),((List.range D).map fun i=>jJ pages l k i).sum≤k:=by
 have step: ∀(D:Nat) (P:Bool) (b:Int),((List.range D).map fun i:Nat=>if P&&decide (b=(i:Int)+2)then 1 else 0).sum≤(if 2≤b∧b<(D:Int)+2 then 1 else 0):=by
  intro D P b
  induction D with
  |zero=>simp
  |succ D ih=>
   rw[List.range_succ,List.map_append,List.sum_append]
   simp only[List.map_cons,List.map_nil,List.sum_cons,List.sum_nil,Nat.add_zero]
   by_cases e:b=(D:Int)+2
   ·
    have hc:(if 2≤b∧b<(D:Int)+2 then 1 else 0)=0:=if_neg (by omega)
    have uv:(if 2≤b∧b<((D+1:Nat):Int)+2 then 1 else 0)=1:=if_pos (by omega)
    have yd:(if P&&decide (b=(D:Int)+2)then 1 else 0)≤1:=by split<;>omega
    rw[hc]at ih
    rw[uv];omega
   ·
    have yd:(if P&&decide (b=(D:Int)+2)then 1 else 0)=0:=if_neg (by simp[e])
    have Yd:(if 2≤b∧b<(D:Int)+2 then 1 else 0)≤(if 2≤b∧b<((D+1:Nat):Int)+2 then 1 else 0):=by
     by_cases g:2≤b∧b<(D:Int)+2
     ·
      rw[if_pos g,if_pos (by omega)];exact Nat.le_refl _
     ·
      rw[if_neg g];exact Nat.zero_le _
    rw[yd];omega
 intro D k
 induction k with
 |zero=>
  have: ∀i∈List.range D,jJ pages l 0 i=0:=fun i _=>by simp[jJ]
  rw[List.map_congr_left this]
  have: ∀n:Nat,((List.range n).map fun _:Nat=>(0:Nat)).sum=0:=fun n=>by
   induction n with
   |zero=>rfl
   |succ n ih=>rw[List.range_succ,List.map_append,List.sum_append,ih];rfl
  rw[this];exact Nat.le_refl _
 |succ k ih=>
  have: ∀i∈List.range D,jJ pages l (k+1) i=jJ pages l k i+(if l8 l k&&decide ((l.getD k 0 -1)/pages=(i:Int)+2)then 1 else 0):=fun i _=>zI pages l k i
  rw[List.map_congr_left this]
  have EB: ∀(f g:Nat→Nat) (n:Nat),((List.range n).map fun i=>f i+g i).sum=((List.range n).map f).sum+((List.range n).map g).sum:=fun f g n=>by
   induction n with
   |zero=>rfl
   |succ n ih=>
    rw[List.range_succ,List.map_append,List.map_append,List.map_append,List.sum_append,List.sum_append,List.sum_append,ih]
    simp only[List.map_cons,List.map_nil,List.sum_cons,List.sum_nil];omega
  have e:=EB (fun i=>jJ pages l k i) (fun i=>if l8 l k&&decide ((l.getD k 0 -1)/pages=(i:Int)+2)then 1 else 0) D
  have h2:=step D (l8 l k) ((l.getD k 0 -1)/pages)
  have h1:(if 2≤(l.getD k 0 -1)/pages∧(l.getD k 0 -1)/pages<(D:Int)+2 then 1 else 0)≤1:=by split<;>omega
  refine Nat.le_trans (Nat.le_of_eq e) ?_
  exact Nat.add_le_add ih (Nat.le_trans h2 h1)
theorem abT{c:CV}{fl:List Int}{f:ay→Int}{g:Nat→Int}(hp:1≤c.pages)(hs:Std c fl)(h: ∀i,i<c.blocks.length -2→f (nM c fl i)=g i):fv ((av c fl).map f)=fv ((List.range (c.blocks.length -2)).map g):=by
 rw[wh hp hs,List.map_map]
 congr 1
 refine List.map_congr_left fun i hi=> ?_
 exact h i (List.mem_range.1 hi)
theorem PO(p:Int)(f:Nat→Nat): ∀D:Nat,fv ((List.range D).map fun i=>p -(f i:Int))=(D:Int)*p -(((List.range D).map f).sum:Nat)
 |0=>by simp[fv]
 |D+1=>by
  have ih:=PO p f D
  rw[List.range_succ,List.map_append,List.map_append,Lm,List.sum_append,ih]
  simp only[List.map_cons,List.map_nil,fv,List.sum_cons,List.sum_nil]
  rw[show((D+1:Nat):Int)*p=(D:Int)*p+p by rw[Int.natCast_add,Int.add_mul];omega]
  omega
theorem abU{n:Nat}{x:WV}(h:Lv n x)(hP:lO x=0){need:Int}(hn:need≤x.v.at_.length):need≤(jM x.v.ae x.v.at_).1:=by
 have hd:=eE h.ok.ae
 have hp:1≤x.v.ae.pages:=by omega
 have iY:=h.rt.pl.lM
 have hz: ∀i,i<x.v.ae.blocks.length -2→kh x.v.ae.pages (nM x.v.ae x.v.at_ i)=0:=fun i hi=>by
  apply Classical.byContradiction
  intro bW
  have hg:=h.ok.get (fl:=x.v.at_) iY hi
  rw[←h.ok.tell]at hg
  have:=AV (p:=x.v.ae.pages) (x:=bl) hg
  have hb:kh x.v.ae.pages bl=0:=rfl
  change nN x.v.ae.pages (av x.v.ae x.v.at_)=0 at hP
  omega
 have wG: ∀i,i<x.v.ae.blocks.length -2→kr x.v.ae.pages (nM x.v.ae x.v.at_ i)=x.v.ae.pages -(cR x.v.ae.pages x.v.at_ i:Nat):=fun i hi=>by
  have h0:=hz i hi
  have hu:=h.ok.yx hi
  have hl:=h.ok.Ps iY hi
  rw[h.ok.tell,kh]at h0
  rw[h.ok.tell,kr]
  simp only[Bool.false_eq_true,if_false]at h0⊢
  by_cases ly:(cR x.v.ae.pages x.v.at_ i:Int)=0
  ·
   rw[if_pos ly]at h0
   have hb: ¬(0<(aj x.v.ae ((i:Int)+2)).used∧(aj x.v.ae ((i:Int)+2)).used<x.v.ae.pages):=fun g=>by rw[if_pos g]at h0;cases h0
   split
   ·
    omega
   ·
    omega
  ·
   rw[if_neg ly]at h0
   rw[if_neg (fun g=>ly g.1)];omega
 rw[PM h.ok.ae]
 simp only
 have abV:fv ((av x.v.ae x.v.at_).map (iZ x.v.ae.pages))=((x.v.ae.blocks.length -2:Nat):Int)*x.v.ae.pages -(((List.range (x.v.ae.blocks.length -2)).map fun i=>cR x.v.ae.pages x.v.at_ i).sum:Nat):=by
  rw[abT hp iY (g:=fun i=>x.v.ae.pages -(cR x.v.ae.pages x.v.at_ i:Nat)) fun i hi=>by
   rw[iZ,if_neg (by rw[h.ok.tell];simp)];exact wG i hi]
  exact PO _ _ _
 have yi:((List.range (x.v.ae.blocks.length -2)).map fun i=>cR x.v.ae.pages x.v.at_ i).sum≤x.v.at_.length:=by
  have:=abS (pages:=x.v.ae.pages) (l:=x.v.at_) (x.v.ae.blocks.length -2) x.v.at_.length
  rwa [List.map_congr_left fun i _=>DX hp i (iY.pos hp)]at this
 have aks:nO ((av x.v.ae x.v.at_).map (kS x.v.ae.pages))≤x.v.ae.pages:=by
  refine(D5 _ 0).2 ⟨by omega,fun z hz=> ?_⟩
  obtain⟨y,hy,rfl⟩:=List.mem_map.1 hz
  have:=CB (rE h.ok.ae hy) h.ok.ae
  rw[kS];split
  ·
   omega
  ·
   split<;>omega
 have akt:=h.half
 have hB:=h.wr.len
 generalize x.v.ae.pages=p at*
 generalize((List.range (x.v.ae.blocks.length -2)).map fun i=>cR p x.v.at_ i).sum=S at*
 have e:((x.v.ae.blocks.length -2:Nat):Int)*p=((x.v.ae.blocks.length:Int) -4)*p+2*p:=by
  rw[←Int.add_mul];congr 1;omega
 rw[abV,e]
 omega
open Go.aA
theorem PQ: ∀(k:Nat) {n:Nat} {x:WV} {need:Int},lO x<k→Lv (n+100*(lO x+1)) x→x.v.gen+lO x+2<281474976710656→need≤x.v.at_.length→
  ((me k x need).2=0∧Lv n (me k x need).1∧need≤(jM (me k x need).1.v.ae (me k x need).1.v.at_).1∧(me k x need).1.v.gen≤x.v.gen+lO x)∨(me k x need).2=7
 |0,n,x,need,hk,h,hg,hn=>by omega
 |k+1,n,x,need,hk,h,hg,hn=>by
  rw[me]
  by_cases h1:need≤(jM x.v.ae x.v.at_).1
  ·
   rw[if_pos h1];exact .inl ⟨rfl,h.mono (by omega),h1,by simp only;omega⟩
  ·
   rw[if_neg h1]
   have bX:rD x.v.ae x.v.last=x.v.ae.pages:=by
    rw[rD,if_neg (by rw[h.ok.nb];simp),if_neg (by rw[h.ok.nb];simp)]
   rw[if_neg (fun g=>by have:=h.wr.pages;omega)]
   have hP:0<lO x:=by
    apply Classical.byContradiction
    intro h0
    exact h1 (abU h (by omega) hn)
   rcases abQ (n:=n+100*lO x) (h.mono (by omega)) (by omega) hP with⟨c1,c2,c3,c4⟩|c1
   ·
    rw[if_pos c1]
    have j9:=(CJ h.wr).1.vC
    rcases PQ k (n:=n) (need:=need) (x:=(eF x).1) (by omega) (c2.mono (by omega)) (by omega) (by rw[j9];exact hn)with⟨s1,s2,s3,s4⟩|s1
    ·
     exact .inl ⟨s1,s2,s3,by omega⟩
    ·
     exact .inr s1
   ·
    rw[if_neg (by rw[c1];decide),if_pos (by rw[c1];decide)];exact .inr c1
theorem abW{p:Int}(hp:p≤16){l:List ay}(h: ∀x∈l,x.used≤p∧0≤x.live):nN p l≤16*l.length:=by
 unfold nN
 induction l with
 |nil=>simp
 |cons z r ih=>
  have:=ih fun x hx=>h x (List.mem_cons_of_mem _ hx)
  have hz:=h z List.mem_cons_self
  rw[List.map_cons,List.sum_cons,List.length_cons]
  have:kh p z≤16:=by
   rw[kh];split
   ·
    omega
   ·
    split
    ·
     split<;>omega
    ·
     omega
  omega
theorem abX{x:WV}(h:cV x):lO x≤480:=by
 have hd:=eE h.ae
 have:=abW hd.2.2.2.1 (l:=av x.v.ae x.v.at_) fun z hz=>by
  have t:=rE h.ae hz
  exact⟨t.xu,t.LF⟩
 rw[kL]at this
 unfold lO;omega
theorem abY{n:Nat}{x:WV}{need:Int}(h:Lv (n+50000) x)(hg:x.v.gen+500<281474976710656)(hn:need≤x.v.at_.length):
  ((j8 x need).2=0∧Lv n (j8 x need).1∧need≤(jM (j8 x need).1.v.ae (j8 x need).1.v.at_).1∧(j8 x need).1.v.gen≤x.v.gen+480)∨(j8 x need).2=7:=by
 have hP:=abX h.wr
 have ho:=h.ok.ops
 rcases PQ ((cP -x.v.ae.ops).toNat+1) (n:=n) (x:=x) (need:=need) (by omega) (h.mono (by omega)) (by omega) hn with⟨s1,s2,s3,s4⟩|s1
 ·
  exact .inl ⟨s1,s2,s3,by rw[j8];omega⟩
 ·
  exact .inr s1
def qd(c:CV)(fl:List Int):Int:=(jM c fl).1
theorem A0{c:CV}{fl:List Int}(hk:aV c=true):qd c fl=fv ((av c fl).map (iZ c.pages)) -nO ((av c fl).map (kS c.pages)):=by
 rw[qd,PM hk]
theorem Iz{l:List Int}{x:Int}(h:x∈l):x≤nO l:=((D5 (M:=nO l) l 0).1 (Int.le_refl _)).2 x h
theorem PR(l:List Int):0≤nO l:=((D5 (M:=nO l) l 0).1 (Int.le_refl _)).1
theorem abZ{p:Int}{l:List ay}{i:Nat}{x y:ay}(h:l[i]? =some y)(hn:iZ p x=iZ p y -1)(hm:kS p x≤kS p y):fv (l.map (iZ p)) -nO (l.map (kS p)) -1≤fv ((l.set i x).map (iZ p)) -nO ((l.set i x).map (kS p)):=by
 have hs:=PN (f:=iZ p) (x:=x) h
 have:nO ((l.set i x).map (kS p))≤nO (l.map (kS p)):=by
  refine(D5 _ 0).2 ⟨PR _,fun z hz=> ?_⟩
  obtain⟨w,hw,rfl⟩:=List.mem_map.1 hz
  rcases List.mem_or_eq_of_mem_set hw with g|rfl
  ·
   exact Iz (List.mem_map_of_mem g)
  ·
   exact Int.le_trans hm (Iz (List.mem_map_of_mem (List.mem_of_getElem? h)))
 omega
theorem ab0{l:List ay}{j:Nat}{x:ay}(h:l[j]? =some x)(hb:x.bad=false)(hl:x.live=0):1≤dE l:=by
 rw[dE]
 refine List.length_pos_of_mem (a:=x) (List.mem_filter.2 ⟨List.mem_of_getElem? h,?_⟩)
 rw[hb,hl];rfl
theorem ab1{l:List ay}(h:1≤dE l): ∃(j:Nat) (x:ay),l[j]? =some x∧x.bad=false∧x.live=0:=by
 obtain⟨x,hx⟩:=List.exists_mem_of_length_pos (show 0<_ from h)
 obtain⟨h1,h2⟩:=List.mem_filter.1 hx
 simp only[Bool.and_eq_true,Bool.not_eq_true',decide_eq_true_eq]at h2
 obtain⟨j,hj⟩:=List.getElem?_of_mem h1
 exact⟨j,x,hj,h2.1,h2.2⟩
theorem PS{x y:ay}(hx:x.live≠0): ∀{l:List ay} {i:Nat},l[i]? =some y→dE l≤dE (l.set i x)+1
 |[],i,h=>by simp at h
 |z::r,0,h=>by
  simp only[List.set_cons_zero,dE,List.filter_cons]
  split<;>split<;>simp<;>omega
 |z::r,i+1,h=>by
  have:=PS hx (l:=r) (i:=i) (by simpa using h)
  simp only[dE]at this
  simp only[List.set_cons_succ,dE,List.filter_cons]
  split
  ·
   simp only[List.length_cons];omega
  ·
   exact this
theorem PT{x y:ay}(hx:x.live≠0)(hy:y.live≠0): ∀{l:List ay} {i:Nat},l[i]? =some y→dE (l.set i x)=dE l
 |[],i,h=>by simp at h
 |z::r,0,h=>by
  obtain rfl:z=y:=by simpa using h
  simp only[List.set_cons_zero,dE,List.filter_cons,hx,hy,decide_false,Bool.and_false]
  rfl
 |z::r,i+1,h=>by
  have:=PT hx hy (l:=r) (i:=i) (by simpa using h)
  simp only[dE]at this
  simp only[List.set_cons_succ,dE,List.filter_cons]
  split
  ·
   simp only[List.length_cons];omega
  ·
   exact this
theorem PU{p M:Int}: ∀{l:List ay},(∀x∈l,x.bad=false∧(x.live≠0→iZ p x≤0)∧(x.live=0→iZ p x≤M))→fv (l.map (iZ p))≤(dE l:Int)*M
 |[],_=>by simp[fv,dE]
 |z::r,h=>by
  have ih:=PU (l:=r) fun x hx=>h x (List.mem_cons_of_mem _ hx)
  obtain⟨z1,z2,z3⟩:=h z List.mem_cons_self
  simp only[dE]at ih
  simp only[List.map_cons,fv,dE,List.filter_cons,z1,Bool.not_false,Bool.true_and]
  by_cases hl:z.live=0
  ·
   rw[decide_eq_true hl,if_pos rfl,List.length_cons,Int.natCast_add,Int.add_mul]
   have:=z3 hl;omega
  ·
   rw[decide_eq_false hl]
   have:=z2 hl
   simp only[Bool.false_eq_true,if_false];omega
theorem ab2{n:Nat}{c:CV}{fl:List Int}{aF:Bool}{p:PV}(h:Ok (n+18) c)(hs:Std c fl)(h3:3≤c.blocks.length)(hc:1≤qd c fl)(hm:kH p c.size=true):
  ((c0 c fl aF p).2.2=0∧Ok n (c0 c fl aF p).1∧ ∀gl:List Int,(∀k,k∈gl↔k∈fl∨k=(c0 c fl aF p).2.1)→(1≤dE (av c fl)→1≤dE (av (c0 c fl aF p).1 gl))∧qd c fl -1≤qd (c0 c fl aF p).1 gl∧Std (c0 c fl aF p).1 gl)∨(c0 c fl aF p).2.2=7:=by
 have hd:=eE h.ae
 have Ix:(dg p c.size).2=0:=by rw[dg,if_pos hm]
 have bX:((dg p c.size).1.length:Int)=c.size:=AH hm
 rw[c0,if_neg (by rw[Ix];simp)]
 generalize(dg p c.size).1=b at*
 rw[A0 h.ae]at hc
 have key: ∀{i:Nat} {d:CV} (y:ay),Ok (n+1) d→dx c d→Std d fl→i<c.blocks.length -2→av d fl=(av c fl).set i y→y.bad=false→y.used<c.pages→(∀z,(av c fl)[i]? =some z→z.bad=false∧iZ c.pages y=iZ c.pages z∧(y.live=0→z.live=0)∧(y.live≠0→y.live=z.live))→
   (dE (av c fl)≥1→y.live=0→2≤dE (av c fl))→
   ((bC d ((i:Int)+2) b=0∧Ok n (bn d ((i:Int)+2) b)∧ ∀gl:List Int,(∀k,k∈gl↔k∈fl∨k=((i:Int)+2)*c.pages+(aj d ((i:Int)+2)).used+1)→(1≤dE (av c fl)→1≤dE (av (bn d ((i:Int)+2) b) gl))∧qd c fl -1≤qd (bn d ((i:Int)+2) b) gl∧Std (bn d ((i:Int)+2) b) gl)∨bC d ((i:Int)+2) b=7):=by
  intro i d y bR dM PW hi hb hyb hyu hz iB
  have lN:=bR.get PW (i:=i) (by rw[dM.len];exact hi)
  have eX:i<(av c fl).length:=by rw[kL];exact hi
  rw[hb,List.getElem?_set_self eX]at lN
  have ey:=Option.some.inj lN
  have hu:(aj d ((i:Int)+2)).used=y.used:=by rw[ey]
  have yi:(cR d.pages fl i:Int)=y.live:=by rw[ey]
  obtain⟨z,od⟩: ∃z,(av c fl)[i]? =some z:=⟨_,List.getElem?_eq_getElem eX⟩
  obtain⟨z1,z2,z3,z4⟩:=hz z od
  rcases bR.prog (n:=n) (b:=(i:Int)+2) (p:=b) (by omega) (by rw[dM.len];omega) (by rw[hu,dM.pages];exact hyu) (by rw[dM.size];exact bX)with⟨e,g⟩|e
  ·
   left
   refine⟨e,g,fun gl vM=> ?_⟩
   obtain⟨b1,b2⟩:=Pj (gl:=gl) bR.ae PW e (by rw[dM.pages];exact vM)
   rw[hb,List.set_set]at b1
   have nL:=dM.trans (gU d ((i:Int)+2) b)
   have um:((cR d.pages fl i:Int)+1)≠0:=by omega
   refine⟨fun h1=> ?_,?_,b2⟩
   ·
    rw[b1]
    by_cases mv:y.live=0
    ·
     have:=iB h1 mv
     have:=PS (x:=⟨(cR d.pages fl i:Int)+1,(aj d ((i:Int)+2)).used+1,(aj d ((i:Int)+2)).aT,false⟩) um od
     omega
    ·
     rw[PT (x:=⟨(cR d.pages fl i:Int)+1,(aj d ((i:Int)+2)).used+1,(aj d ((i:Int)+2)).aT,false⟩) um (by rw[←z4 mv];exact mv) od];exact h1
   ·
    rw[A0 h.ae,A0 g.ae,b1,nL.pages]
    refine abZ od ?_ ?_
    ·
     rw[←z2,iZ,iZ,if_neg (by simp),if_neg (by rw[hyb];simp),kr,kr]
     simp only
     rw[if_neg (fun g=>um g.1)]
     by_cases mv:y.live=0∧c.pages -y.used=0
     ·
      omega
     ·
      rw[if_neg mv];omega
    ·
     rw[kS,if_neg (by simp),if_neg um,kS,if_neg (by rw[z1];simp)]
     split
     ·
      have:=CB (rE h.ae (List.mem_of_getElem? od)) h.ae
      exact this.1
     ·
      exact Int.le_refl _
  ·
   exact .inr e
 obtain⟨m,Mq⟩: ∃m,(cP -c.ops).toNat+1=m+1:=⟨_,rfl⟩
 rw[Mq,iA]
 suffices main:(∃(i:Nat) (d:CV),bm c fl aF=(d,(i:Int)+2,0)∧((bC d ((i:Int)+2) b=0∧Ok n (bn d ((i:Int)+2) b)∧ ∀gl:List Int,(∀k,k∈gl↔k∈fl∨k=((i:Int)+2)*c.pages+(aj d ((i:Int)+2)).used+1)→(1≤dE (av c fl)→1≤dE (av (bn d ((i:Int)+2) b) gl))∧qd c fl -1≤qd (bn d ((i:Int)+2) b) gl∧Std (bn d ((i:Int)+2) b) gl)∨bC d ((i:Int)+2) b=7))∨ ∃(d:CV) (b0:Int),bm c fl aF=(d,b0,7) by
  rcases main with⟨i,d,he,ab3⟩|⟨d,b0,he⟩
  ·
   rw[he]
   simp only[if_true]
   rcases ab3 with⟨r1,r2,r3⟩|r1
   ·
    rw[if_pos r1]
    exact .inl ⟨rfl,r2,r3⟩
   ·
    rw[if_neg (by rw[r1];decide),if_pos (by rw[r1];decide)]
    exact .inr r1
  ·
   rw[he,if_neg (show ¬(7:Int)=0 by decide),if_pos (show(7:Int)≠9 by decide)]
   exact .inr rfl
 have hw:=Iq h.ae hs h3
 by_cases hA:(ld c fl).2=true
 ·
  obtain⟨z,hz,a1,a2,a3,a4,a5⟩:=nx (fun x h=>(qA h).1) hA
  have ow:(av c fl)[(ld c fl).1.toNat]? =some z:=hz
  change 0≤(ld c fl).1 at a4
  obtain⟨e1,e2⟩:=te (by omega) hs ow
  have oJ:bm c fl aF=(c,(((ld c fl).1.toNat:Nat):Int)+2,0):=by rw[bm,if_pos hA,Int.toNat_of_nonneg a4]
  simp only[pM,decide_eq_true_eq]at a2
  refine .inl ⟨_,_,oJ,key z (h.mono (by omega)) (.cZ _) hs e2 (D0 ow).symm a1 (qA a3).2 (fun w hw=> ?_) (fun _ g=>absurd g (by omega))⟩
  obtain rfl:=Option.some.inj (ow.symm.trans hw)
  exact⟨a1,rfl,id,fun _=>rfl⟩
 ·
  have Is:=rA (yu (R:=pM) hw) (show(fu (bS pM (av c fl)) c.pages (lB c.pages) [xn,qw]).2=false by simpa[ld,eM]using hA)
  have ij: ∀x∈av c fl,x.bad=false∧(x.live≠0→iZ c.pages x≤0)∧(x.live=0→iZ c.pages x≤nO ((av c fl).map (kS c.pages))):=fun x hx=>by
   obtain⟨j,hj⟩:=List.getElem?_of_mem hx
   obtain⟨e1,e2⟩:=te (by omega) hs hj
   rw[h.tell]at e1
   have dR:x.bad=false:=by rw[e1]
   have Cg:0≤x.live:=by rw[e1];simp only;omega
   refine⟨dR,fun hl=> ?_,fun hl=> ?_⟩
   ·
    have:=Is _ (List.mem_map_of_mem (f:=gV pM) hx)
    rw[yy dR (by simp only[pM,decide_eq_true_eq];omega),lB,dR]at this
    simp only[Bool.not_false,Bool.true_and,decide_eq_false_iff_not]at this
    rw[iZ,if_neg (by rw[dR];simp),kr,if_neg (fun g=>hl g.1)];omega
   ·
    have:kS c.pages x=iZ c.pages x:=by
     have PX: ¬x.bad=true:=by rw[dR];simp
     rw[kS,iZ,if_neg PX,if_neg PX,if_pos hl]
    rw[←this]
    exact Iz (List.mem_map_of_mem hx)
  have PY:2≤dE (av c fl):=by
   have hr:=PU ij
   have h0:=PR ((av c fl).map (kS c.pages))
   apply Classical.byContradiction
   intro hn
   have hle:(dE (av c fl):Int)*nO ((av c fl).map (kS c.pages))≤1*nO ((av c fl).map (kS c.pages)):=Int.mul_le_mul_of_nonneg_right (by omega) h0
   omega
  have bW: ¬(dE (av c fl)=0∨(dE (av c fl)=1∧aF=false)):=by rintro(g|g)<;>omega
  by_cases hB:(jL c fl).2=true
  ·
   obtain⟨z,hz,a1,a2,a3,a4,a5⟩:=nx (fun x h=>(qA h).1) hB
   have ow:(av c fl)[(jL c fl).1.toNat]? =some z:=hz
   change 0≤(jL c fl).1 at a4
   obtain⟨e1,e2⟩:=te (by omega) hs ow
   have oJ:bm c fl aF=(c,(((jL c fl).1.toNat:Nat):Int)+2,0):=by rw[bm,if_neg hA,if_neg bW,if_pos hB,Int.toNat_of_nonneg a4]
   refine .inl ⟨_,_,oJ,key z (h.mono (by omega)) (.cZ _) hs e2 (D0 ow).symm a1 (qA a3).2 (fun w hw=> ?_) (fun _ _=>PY)⟩
   obtain rfl:=Option.some.inj (ow.symm.trans hw)
   exact⟨a1,rfl,id,fun _=>rfl⟩
  ·
   have hfd:=OI h.ae h3 (by omega) hB
   have Iu:=rA (yu (R:=fS) hw) (show(fu (bS fS (av c fl)) c.pages (lB c.pages) [xn,qw]).2=false by simpa[jL,eM]using hB)
   obtain⟨z,hz,a1,a2,a3,a4,a5⟩:=nx (fun x h=>(kM h).1) hfd
   have ow:(av c fl)[(jf c fl).toNat]? =some z:=hz
   change 0≤jf c fl at a4
   obtain⟨e1,e2⟩:=te (by omega) hs ow
   have oV:=(kM a3).2.1
   have hzu:c.pages≤z.used:=by
    have:=Iu _ (List.mem_map_of_mem (f:=gV fS) (List.mem_of_getElem? ow))
    rw[yy a1 a2,lB,a1]at this
    simp only[Bool.not_false,Bool.true_and,decide_eq_false_iff_not]at this
    omega
   have D1:=h.yx e2
   rw[h.tell]at e1
   have lD:=(rZ (by omega) hs (jf c fl).toNat).1 (by rw[e1]at oV;simp only at oV;omega)
   have eD:jf c fl+2=(((jf c fl).toNat:Nat):Int)+2:=by rw[Int.toNat_of_nonneg a4]
   rcases h.DZ (n:=n+1) (b:=(((jf c fl).toNat:Nat):Int)+2) (by omega) (by omega)with⟨q1,q2⟩|q1
   ·
    have oJ:bm c fl aF=((cA c ((((jf c fl).toNat:Nat):Int)+2)).1,(((jf c fl).toNat:Nat):Int)+2,0):=by rw[bm,if_neg hA,if_neg bW,if_neg hB,eD,q1]
    obtain⟨b1,b2⟩:=DY h.ae hs lD q1
    refine .inl ⟨_,_,oJ,key _ q2 (tT _ h.ae).2 b2 e2 b1 rfl (by simp only;omega) (fun w hw=> ?_) (fun _ _=>PY)⟩
    obtain rfl:=Option.some.inj (ow.symm.trans hw)
    refine⟨a1,?_,fun _=>oV,fun g=>absurd rfl g⟩
    have aku:z.used≤c.pages:=by rw[e1];exact D1.2
    rw[iZ,if_neg (by simp),iZ,if_neg (by rw[a1];simp),kr,kr,if_neg (show ¬((0:Int)=0∧c.pages -0=0) by omega),if_pos ⟨oV,by omega⟩]
    simp only;omega
   ·
    right
    have oJ:bm c fl aF=((cA c ((((jf c fl).toNat:Nat):Int)+2)).1,(((jf c fl).toNat:Nat):Int)+2,7):=by rw[bm,if_neg hA,if_neg bW,if_neg hB,eD,q1]
    exact⟨_,_,oJ⟩
open Go.aA
theorem PZ{c:CV}{fl gl:List Int}(hk:aV c=true)(h:av c gl=av c fl):qd c gl=qd c fl:=by rw[A0 hk,A0 hk,h]
theorem IA{v:VV}{aF:Bool}(hg:v.gen+1<281474976710656)(P0:v.at_.length≤64): ∀(l:List (Int×List UInt8)) {n:Nat} {c:CV} {a:List Int},Ok (n+18*l.length) c→3≤c.blocks.length→Pl c v.at_→Std c a→a.length=v.at_.length→l.Pairwise (fun p q=>p.1≠q.1)→
    (∀x∈l,0≤x.1∧x.1<v.at_.length∧(x.2.length:Int)≤dC c.size)→(∀x∈l,a[x.1.toNat]? =v.at_[x.1.toNat]?)→(lg l:Int)≤qd c (v.at_++a)→1≤dE (av c (v.at_++a))→
    ((gk v aF l c a).2.2=0∧Ok n (gk v aF l c a).1∧Std (gk v aF l c a).1 (gk v aF l c a).2.1∧1≤dE (av (gk v aF l c a).1 (v.at_++(gk v aF l c a).2.1)))∨(gk v aF l c a).2.2=7
  |[],n,c,a,h,h3,hv,ha,dJ,hp,hi,hs,hc,iB=> .inl ⟨rfl,h,ha,iB⟩
  |x::r,n,c,a,h,h3,hv,ha,dJ,hp,hi,hs,hc,iB=>by
   obtain⟨kP,je⟩:=List.pairwise_cons.1 hp
   obtain⟨x0,x1,x2⟩:=hi x List.mem_cons_self
   have hd:=eE h.ae
   have P1:x.1.toNat<v.at_.length:=by omega
   obtain⟨y,hy⟩: ∃y,v.at_[x.1.toNat]? =some y:=⟨_,List.getElem?_eq_getElem P1⟩
   have G3:a[x.1.toNat]? =some y:=(hs x List.mem_cons_self).trans hy
   have AO: ∀{k N:Int},k∈a→k∈v.at_∨k∈a.set x.1.toNat N:=fun{k N} hk=>by
      obtain⟨j,hj⟩:=List.getElem?_of_mem hk
      by_cases e:j=x.1.toNat
      ·rw[e,G3]at hj
       obtain rfl:=Option.some.inj hj
       exact .inl (List.mem_of_getElem? hy)
      ·right
       exact List.mem_of_getElem? (i:=j) (by rw[List.getElem?_set_ne (fun g=>e g.symm)];exact hj)
   have P2: ∀{N:Int},∀q∈r,(a.set x.1.toNat N)[q.1.toNat]? =v.at_[q.1.toNat]? :=fun{N} q hq=>by
      have h0:=(hi q (List.mem_cons_of_mem _ hq)).1
      have bW:=kP q hq
      rw[List.getElem?_set_ne (by omega)]
      exact hs q (List.mem_cons_of_mem _ hq)
   rw[gk]
   by_cases h0:x.2.length=0
   ·rw[if_pos h0]
    have IB:lg (x::r)=lg r:=by
        rw[lg,List.filter_cons_of_neg (by simp[h0])];rfl
    have bB:Std c (a.set x.1.toNat 0):=fun k hk mD=>by
        rcases List.mem_or_eq_of_mem_set hk with g|g
        ·exact ha k g mD
        ·exact absurd g mD
    have ta:av c (v.at_++a.set x.1.toNat 0)=av c (v.at_++a):=by
        refine Io (by omega) (hv.lM.append ha) (hv.lM.append bB) (.cZ _) fun i=>⟨rfl,rfl,rfl,fun _=>uE (fun k hk=> ?_) (by omega)⟩
        have mD:k≠0:=fun e=>by
          rw[e]at hk
          have:((0:Int) -1)/c.pages<0:=Int.ediv_neg_of_neg_of_pos (by decide) (by omega)
          omega
        rw[List.mem_append,List.mem_append]
        constructor
        ·rintro(g|g)
         ·exact .inl g
         ·rcases List.mem_or_eq_of_mem_set g with g|g
          ·exact .inr g
          ·exact absurd g mD
        ·rintro(g|g)
         ·exact .inl g
         ·exact AO g
    exact IA hg P0 r (h.mono (by simp only[List.length_cons];omega)) h3 hv bB (by rw[List.length_set,dJ]) je (fun q hq=>hi q (List.mem_cons_of_mem _ hq)) P2 (by rw[PZ h.ae ta,←IB];exact hc) (by rw[ta];exact iB)
   ·rw[if_neg h0]
    have IB:lg (x::r)=lg r+1:=by
        rw[lg,List.filter_cons_of_pos (by rw[decide_eq_true_eq];omega)];rfl
    rw[IB]at hc
    obtain⟨k1,_,_,k4⟩:=ft.1 h.ok
    have yr:kH (hY v x) c.size=true:=pF.2 ⟨qu.2 ⟨k4,by omega⟩, .inl rfl,x0,by show x.1<64;omega,hg,x2⟩
    have mB:=(OJ (c:=c) (fl:=v.at_++a) (aF:=aF) (p:=hY v x) h.ae h3).1
    rcases ab2 (n:=n+18*r.length) (c:=c) (fl:=v.at_++a) (aF:=aF) (p:=hY v x) (h.mono (by simp only[List.length_cons];omega)) (hv.lM.append ha) h3 (by omega) yr with⟨p1,p2,p3⟩|p1
    ·rw[if_neg (by rw[p1];simp)]
     generalize c0 c (v.at_++a) aF (hY v x)=P at*
     obtain⟨q1,q2,q3⟩:=p3 (v.at_++a.set x.1.toNat P.2.1) (fun k=>by
          rw[List.mem_append,List.mem_append]
          constructor
          ·rintro(g|g)
           ·exact .inl (.inl g)
           ·rcases List.mem_or_eq_of_mem_set g with g|g
            ·exact .inl (.inr g)
            ·exact .inr g
          ·rintro((g|g)|g)
           ·exact .inl g
           ·exact AO g
           ·right
            rw[g]
            exact List.mem_of_getElem? (i:=x.1.toNat) (by rw[List.getElem?_set_self (by rw[dJ];exact P1)]))
     exact IA hg P0 r p2 (by rw[mB.bT.len];exact h3) (hv.kd mB.toKd fun _ g=>List.mem_append_left _ g) (fun k hk=>q3 k (List.mem_append_right _ hk)) (by rw[List.length_set,dJ]) je (fun q hq=>by
          obtain⟨z0,z1,z2⟩:=hi q (List.mem_cons_of_mem _ hq)
          exact⟨z0,z1,by rw[mB.bT.size];exact z2⟩) P2 (by omega) (q1 iB)
    ·right
     rw[if_pos (by rw[p1];decide)];exact p1
structure Items(v:VV)(l:List (Int×List UInt8)):Prop where
  ne:l.Pairwise fun p q=>p.1≠q.1
  it: ∀x∈l,0≤x.1∧x.1<v.at_.length∧(x.2.length:Int)≤dC v.ae.size
  len:l.length≤v.at_.length
theorem ab4(l:List (Int×List UInt8)):lg l≤l.length:=List.length_filter_le _ _
theorem Lv.by{n:Nat}{x:WV}(h:Lv n x)(b:Bool):Lv n {x with beyond:=b}:=⟨h.ok,h.wr.by b,h.rt,h.pl,h.j6,h.half,h.idle⟩
theorem ab5{n:Nat}{x:WV}{l:List (Int×List UInt8)}(h:Lv (n+60000) x)(hg:x.v.gen+600<281474976710656)(hl:Items x.v l):
    ((gJ x l).2=0∧Lv n (gJ x l).1∧(gJ x l).1.v.gen≤x.v.gen+481)∨(gJ x l).2=7:=by
  have hf:=h.wr.j6
  have lZ:=hl.len
  have um:=ab4 l
  have lp:=O4 (l:=l) h.wr h.rt h.pl fun y hy=>(hl.it y hy).1
  have mW:=Gk (l:=l) h.wr
  have vY:Sf x (cd x.v) (cH x l).1 (cH x l).2:=(O3 (x:={x with beyond:=false}) (need:=lg l) (h.wr.by false) h.rt h.pl).cL
  have ia:=CK (l:=l) h.wr
  rw[gJ]at lp mW⊢
  rcases abY (n:=n+2000) (x:={x with beyond:=false}) (need:=lg l) (h.by false|>.mono (by omega)) (by show x.v.gen+500<_;omega) (by show(lg l:Int)≤x.v.at_.length;omega)with⟨s1,s2,s3,s4⟩|s1
  ·change(cH x l).2=0 at s1
   change Lv (n+2000) (cH x l).1 at s2
   change(lg l:Int)≤(jM (cH x l).1.v.ae (cH x l).1.v.at_).1 at s3
   change(cH x l).1.v.gen≤x.v.gen+480 at s4
   rw[if_neg (by rw[s1];simp)]at lp mW⊢
   have hlen:=vY.len
   have fh:=vY.kd.bT
   have hd:=eE s2.ok.ae
   have h3:3≤(cH x l).1.v.ae.blocks.length:=by have:=s2.wr.qE;omega
   have iY:=s2.rt.pl.lM
   have ta:av (cH x l).1.v.ae ((cH x l).1.v.at_++(cH x l).1.v.at_)=av (cH x l).1.v.ae (cH x l).1.v.at_:=
      Io (by omega) iY (iY.append iY) (.cZ _) fun i=>⟨rfl,rfl,rfl,fun _=>uE (fun k _=>by rw[List.mem_append];exact or_self_iff) (by omega)⟩
   have ab6:1≤dE (av (cH x l).1.v.ae (cH x l).1.v.at_):=by
      obtain⟨j,j1,j2⟩:=s2.idle
      exact ab0 (s2.ok.get iY j1) rfl (by simp only;omega)
   have n0:=IA (v:=(cH x l).1.v) (aF:=(cH x l).1.beyond) (by omega) (by omega) l (n:=n+2) (c:=(cH x l).1.v.ae) (a:=(cH x l).1.v.at_) (s2.ok.mono (by omega)) h3 s2.rt.pl iY rfl hl.ne (fun y hy=>by
      obtain⟨z0,z1,z2⟩:=hl.it y hy
      exact⟨z0,by rw[hlen];exact z1,by rw[fh.size];exact z2⟩) (fun _ _=>rfl) (by rw[PZ s2.ok.ae ta];exact s3) (by rw[ta];exact ab6)
   have mA:=DL (v:=(cH x l).1.v) (aF:=(cH x l).1.beyond) l (c:=(cH x l).1.v.ae) (a:=(cH x l).1.v.at_) s2.ok.ae h3 s2.rt.pl s2.rt.pl (fun y hy=>(hl.it y hy).1)
   change _∨(fM x l).2.2=7 at n0
   rcases n0 with⟨i1,i2,i3,i4⟩|i1
   ·change(fM x l).2.2=0 at i1
    change Ok (n+2) (fM x l).1 at i2
    change Std (fM x l).1 (fM x l).2.1 at i3
    change 1≤dE (av (fM x l).1 ((cH x l).1.v.at_++(fM x l).2.1))at i4
    rw[if_neg (by rw[i1];simp)]at lp mW⊢
    obtain⟨t1,t2,t3⟩:=mA
    obtain⟨t4,t5,t6⟩:=t2 i1
    change Kp (cH x l).1.v.at_ (cH x l).1.v.ae (fM x l).1 at t1
    change(fM x l).2.1.length=(cH x l).1.v.at_.length at t6
    have fA:cV ((cH x l).1.on (fM x l).1):=s2.wr.on i2.ae t1.bT
    rcases Pp (n:=n) fA i2 ⟨by show(cH x l).1.v.gen+1<_;omega,by rw[t6,show((cH x l).1.on (fM x l).1).v.ae.size=(cH x l).1.v.ae.size from t1.bT.size];exact s2.j6,Py i2.ae i3⟩with⟨w1,w2,w3,w4,w5,w6⟩|w1
    ·left
     rw[w1]at lp
     refine⟨w1,⟨w2,mW.ok,(lp.bb rfl).1,h.pl.kd lp.kd,by rw[lp.len,lp.kd.bT.size];exact h.j6,by rw[lp.len,lp.kd.bT.len,lp.kd.bT.pages];exact h.half,?_⟩,by rw[w4];show(cH x l).1.v.gen+1≤_;omega⟩
     obtain⟨j,z,hz,z1,z2⟩:=ab1 i4
     have AZ:Std (fM x l).1 ((cH x l).1.v.at_++(fM x l).2.1):=(iY.kd t1.toKd fun _ g=>g).append i3
     obtain⟨e1,e2⟩:=te (by rw[t1.bT.pages];omega) AZ hz
     have r9:dx (fM x l).1 (dP ((cH x l).1.on (fM x l).1) (fM x l).2.1).1.v.ae:=(F4 fA (ab7 i3 (by show 1≤(fM x l).1.pages;rw[t1.bT.pages];omega)) t6).1.bT
     refine⟨j,by rw[r9.len];exact e2,?_⟩
     rw[i2.tell]at e1
     rw[e1]at z2
     simp only at z2
     have lD:=(rZ (by rw[t1.bT.pages];omega) AZ j).1 (by omega)
     have hS:=(lp.bb rfl).1.pl.lM
     refine(rZ (by rw[r9.pages,t1.bT.pages];omega) hS j).2 ?_
     rw[w3]
     intro k hk mD
     rw[r9.pages]
     exact lD k (List.mem_append_right _ hk) mD
    ·exact .inr w1
   ·right
    rw[if_pos (by rw[i1];decide)];exact i1
  ·right
   change(cH x l).2=7 at s1
   rw[if_pos (by rw[s1];decide)];exact s1
where
  ab7 {c:CV} {a:List Int} (h:Std c a) (hp:1≤c.pages):hU c a:=fun k hk=>by
    by_cases h0:k=0
    ·exact .inl h0
    ·obtain⟨q1,q2,_⟩:=lz.1 (h k hk h0)
     exact .inr ⟨(h.pos hp k hk).resolve_left h0,q1,q2⟩
theorem ab8{v:VV}{l:List (Int×List UInt8)}(h:Items v l):pP v l=true:=by
  refine zQ.2 fun i hi=> ?_
  have hx:=List.getElem?_eq_getElem hi
  obtain⟨z0,z1,z2⟩:=h.it l[i] (List.getElem_mem hi)
  rw[rI,show l.getD i (0,[])=l[i] by simp[List.getD,hi],Bool.and_eq_true,rH,Bool.and_eq_true,Bool.and_eq_true,decide_eq_true_eq,decide_eq_true_eq,decide_eq_true_eq]
  refine⟨⟨⟨z0,z1⟩,z2⟩,?_⟩
  rw[Bool.not_eq_true']
  cases hc:((l.take i).map Prod.fst).contains l[i].1 with
  |false=>rfl
  |true=>
   exfalso
   obtain⟨p,hp,e⟩:=List.mem_map.1 (List.contains_iff_mem.1 hc)
   obtain⟨j,hj,e2⟩:=List.mem_take_iff_getElem.1 hp
   have:=List.pairwise_iff_getElem.1 h.ne j i (by omega) hi (by omega)
   rw[e2]at this
   exact this e
theorem ab9{n:Nat}{v:VV}{l:List (Int×List UInt8)}(h:Lv (n+60000) ⟨v,false⟩)(hg:v.gen+600<281474976710656)(hl:Items v l):
    ((fy v l).2=0∧Lv n ⟨(fy v l).1,false⟩∧(fy v l).1.gen≤v.gen+481)∨(fy v l).2=7:=by
  have hb:=ab5 (l:=l) h hg hl
  have e:nA (v.ae.blocks.length+1) ⟨v,false⟩ l=gJ ⟨v,false⟩ l:=by
    rw[nA,if_neg]
    rintro⟨g,_⟩
    rcases hb with⟨b1,_⟩|b1
    ·rw[b1]at g;cases g
    ·rw[b1]at g;cases g
  rw[fy,if_neg (fun g=>g ⟨yp.2 h.rt,by omega,ab8 hl⟩),if_neg (by have:=h.ok.off;rw[show(⟨v,false⟩:WV).v.ae=v.ae from rfl]at this;rw[this];simp),e]
  rcases hb with⟨b1,b2,b3⟩|b1
  ·exact .inl ⟨b1,b2.by false,b3⟩
  ·exact .inr b1
theorem aca{n:Nat}{f:FV}(h:gM f)(k:Ok n f.ak.ae)(hp:ie f.ak.ae)(hi: ∃j,j<f.ak.ae.blocks.length -2∧cR f.ak.ae.pages f.ak.at_ j=0):Lv n ⟨f.ak,false⟩:=by
  have iB:=h.ids
  have hc:dh f.ak.ae≤jd f.ak.ae.size∧dh f.ak.ae≤qI f.ak.ae.blocks.length f.ak.ae.pages/2:=by rw[dh,rP];omega
  have hl:qI f.ak.ae.blocks.length f.ak.ae.pages≤((f.ak.ae.blocks.length:Int) -4)*f.ak.ae.pages:=by
    have h4:=(ft.1 h.rt.bears).2.1
    have hd:=eE k.ae
    rw[qI];split
    ·exact Int.mul_nonneg (by omega) (by omega)
    ·exact Int.le_refl _
  exact⟨k,CL (yp.2 h.rt),h.rt,hp,by show(f.ak.at_.length:Int)≤jd f.ak.ae.size;omega,by show 2*(f.ak.at_.length:Int)≤((f.ak.ae.blocks.length:Int) -4)*f.ak.ae.pages;omega,hi⟩
theorem acb(t:List Rt){room:Int}(hr:0≤room)(id:Nat):((pQ t (room/20).toNat id).length:Int)≤room:=by
  have:=Gr t (room/20).toNat id
  omega
theorem acd{n:Nat}{f:FV}{l:List Ch}(h:gM f)(k:Lv (n+60000) ⟨f.ak,false⟩)(hg:f.ak.gen+600<281474976710656)(he:dA f.table l=0)(hm: ¬fa f.ak.ae<(cj f.table l).length):
    ((cC f l).2=0∧Lv n ⟨(cC f l).1.ak,false⟩∧(cC f l).1.ak.gen≤f.ak.gen+481)∨(cC f l).2=7:=by
  have hE:=yt (l:=l) h
  rw[if_neg hm]at hE
  by_cases hc:eG (ez f) (du f l)=[]
  ·rw[(DU h he hm hc).1]
   exact .inl ⟨rfl,k.mono (by omega),by simp only;omega⟩
  ·have hlen:(ez f).length=(du f l).length:=by
      have:=(AD hE).1
      have h2:=h.ids
      rw[qW h,xE]
      have:((du f l).length:Int)=dh f.ak.ae:=this
      omega
   have xI:(ez f).length=f.ak.at_.length:=by rw[qW h,xE]
   have ace:Items f.ak (eG (ez f) (du f l)):=by
      refine⟨(Dy (ez f) (du f l) _).imp fun g=>by omega,fun x hx=> ?_,?_⟩
      ·obtain⟨i,i1,rfl,i3⟩:=HQ hx
       refine⟨Int.natCast_nonneg _,by simp only;omega,?_⟩
       obtain⟨_,_,_,e⟩:=HP hE
       have hi:i<(du f l).length:=by omega
       have jD:(du f l).getD i []∈du f l:=by
          simp only[List.getD,List.getElem?_eq_getElem hi,Option.getD_some];exact List.getElem_mem hi
       rw[show du f l=kN (cj f.table l) (dh f.ak.ae).toNat (dC f.ak.ae.size/20).toNat from e]at jD⊢
       rw[kN]at jD⊢
       obtain⟨j,_,hj⟩:=List.mem_map.1 jD
       simp only
       rw[←hj]
       exact acb _ (by rw[dC];split;·rename_i hf;have:=qu.1 hf;omega
                       ·exact Int.le_refl _) j
      ·have:=CS (ez f) (du f l) (max (ez f).length (du f l).length)
       rw[eG];omega
   rw[C3 (uD.2 h) he hE hc]
   exact ab9 k hg ace
open Go.aA
def yA(n p:Nat):CV×Int:=n7 ((n:Int)+5) ((p:Int)+2) 64
def qX(n p:Nat):FV×Int:=ji (yA n p).1
def IC(f:FV):Bool:=gx f&&decide (f.table=[])&&f.ak.ae.blocks.all (fun b=> !b.bad&&decide (b.aT=0))&&decide (f.ak.ae.ops≤10)&& !f.ak.ae.off&&decide (f.ak.ae.aQ=[])&&decide (f.ak.gen≤10)&&f.ak.at_.all (fun n=>decide (n=0))&&decide (eG (ez f) (du f [])=[])
def P3(n p:Nat):Bool:=decide ((yA n p).2=0)&&decide ((qX n p).2=0)&&IC (qX n p).1&&aV (yA n p).1&&decide ((qX n p).1.ak.ae.blocks.length=n+5)&&decide ((qX n p).1.ak.ae.pages=(p:Int)+2)&&decide ((qX n p).1.ak.ae.size=64)
theorem acf: ∀n,n<8→ ∀p,p<7→P3 n p=true:=by decide+kernel
open Go.aA
structure Rm(k:Nat)(f:FV):Prop where
 fb:gM f
 lv:Lv k ⟨f.ak,false⟩
 ln:f.ak.ae.aQ=[]
 off:f.ak.ae.off=false
 gen:f.ak.gen+k<281474976710656
 can:eG (ez f) (du f [])=[]
 j6:(f.table.length:Int)≤fa f.ak.ae
theorem Rm.mono{k m:Nat}{f:FV}(h:Rm k f)(hm:m≤k):Rm m f:=⟨h.fb,h.lv.mono hm,h.ln,h.off,Nat.lt_of_le_of_lt (Nat.add_le_add_left hm _) h.gen,h.can,h.j6⟩
theorem acg{f:FV}(h:IC f=true):Rm 1000000000 f∧f.table=[]:=by
 simp only[IC,Bool.and_eq_true,decide_eq_true_eq,List.all_eq_true,Bool.not_eq_true']at h
 obtain⟨⟨⟨⟨⟨⟨⟨⟨h1,h2⟩,h3⟩,h4⟩,h5⟩,h6⟩,h7⟩,h8⟩,h9⟩:=h
 have wi:=uD.1 h1
 have oO:cP=1099511627776:=rfl
 have eW: ∀b:Int,(aj f.ak.ae b).bad=false∧(aj f.ak.ae b).aT=0:=fun b=>by
  rcases Nat.lt_or_ge b.toNat f.ak.ae.blocks.length with hl|hl
  ·
   have hm:aj f.ak.ae b∈f.ak.ae.blocks:=by
    simp only[aj,List.getD,List.getElem?_eq_getElem hl,Option.getD_some];exact List.getElem_mem hl
   exact h3 _ hm
  ·
   simp only[aj,List.getD,List.getElem?_eq_none hl,Option.getD_none];exact⟨rfl,rfl⟩
 have h4l:4≤(f.ak.ae.blocks.length:Int):=(ft.1 wi.rt.bears).2.1
 have hp:2≤f.ak.ae.pages:=(ft.1 wi.rt.bears).2.2.1
 have bR:Ok 1000000000 f.ak.ae:=⟨wi.rt.bears,fun b=>(eW b).1,h5,(by rw[h6];exact fun x hx=>absurd hx List.not_mem_nil),by omega,fun b=>by rw[(eW b).2];omega⟩
 refine⟨⟨wi,aca wi bR (.nil h6) ⟨0,by omega,?_⟩,h6,h5,Nat.lt_of_le_of_lt (Nat.add_le_add_right h7 _) (by decide),h9,?_⟩,h2⟩
 ·
  refine(rZ (by omega) wi.rt.pl.lM 0).2 fun k hk mD=> ?_
  exact absurd (h8 k hk) mD
 ·
  rw[h2]
  have hm:=wi.iC
  have:0≤fa f.ak.ae:=by
   rw[fa,sN,iC];split
   ·
    omega
   ·
    rename_i g
    have hi:=GK f.ak.ae
    have h0:0≤dC f.ak.ae.size/20:=by omega
    have h1:0≤rP f.ak.ae.blocks.length f.ak.ae.pages f.ak.ae.size*(dC f.ak.ae.size/20):=Int.mul_nonneg (by omega) h0
    omega
  simpa using this
theorem ach{n p:Nat}(hn:n<8)(hp:p<7):(yA n p).2=0∧aV (yA n p).1=true∧(qX n p).2=0∧Rm 1000000000 (qX n p).1∧(qX n p).1.table=[]∧fa (qX n p).1.ak.ae=sN ((n:Int)+5) ((p:Int)+2) 64:=by
 have h:=acf n hn p hp
 simp only[P3,Bool.and_eq_true,decide_eq_true_eq]at h
 obtain⟨⟨⟨⟨⟨⟨h1,h2⟩,h3⟩,h4⟩,h5⟩,h6⟩,h7⟩:=h
 obtain⟨g1,g2⟩:=acg h3
 refine⟨h1,h4,h2,g1,g2,?_⟩
 rw[fa,h5,h6,h7];rfl
theorem aci{g k:Nat}(h:g+(k+60000)<281474976710656):g+600<281474976710656:=Nat.lt_of_le_of_lt (Nat.add_le_add_left (Nat.le_trans (by decide:600≤60000) (Nat.le_add_left _ _)) g) h
theorem acj{g g2 k:Nat}(h:g+(k+60000)<281474976710656)(h2:g2≤g+481):g2+k<281474976710656:=Nat.lt_of_le_of_lt (by omega:g2+k≤g+(k+60000)) h
theorem Rm.step{k:Nat}{f:FV}{l:List Ch}(h:Rm (k+60000) f)(he:dA f.table l=0)(hm: ¬fa f.ak.ae<(cj f.table l).length):(cC f l).2=0∧Rm k (cC f l).1∧(cC f l).1.table=cj f.table l∧fa (cC f l).1.ak.ae=fa f.ak.ae:=by
 obtain⟨q1,q2,q3,q4,q5,q6,q7⟩:=abw h.fb h.ln h.off l
 have hg:=h.gen
 have yi:=h.lv
 have hg2:f.ak.gen+600<281474976710656:=aci h.gen
 have dJ:=acd (n:=k) h.fb yi hg2 he hm
 have a1:(cC f l).2=0:=by
  rcases dJ with g|g
  ·
   exact g.1
  ·
   exact absurd g q6
 have a23:Lv k ⟨(cC f l).1.ak,false⟩∧(cC f l).1.ak.gen≤f.ak.gen+481:=by
  rcases dJ with g|g
  ·
   exact g.2
  ·
   exact absurd g q6
 obtain⟨a2,a3⟩:=a23
 have P4:=Pe h.fb (.nil h.ln) he hm
 have hc:=DT P4.kd.bT
 have ht:=(q4 a1).2
 refine⟨a1,⟨q1,a2,q2,q3,acj h.gen a3,?_,by rw[ht,hc.1];omega⟩,ht,hc.1⟩
 have hE:=yt (l:=l) h.fb
 rw[if_neg hm]at hE
 have Dr:=yt (l:=[]) q1
 have D6:cj (cC f l).1.table []=(cC f l).1.table:=by rw[cj];split<;>rfl
 rw[D6,ht,hc.1,if_neg hm]at Dr
 have ye:du (cC f l).1 []=du f l:=by
  rw[du,du,D6,ht,hc.2,P4.kd.bT.size]
 by_cases P5:eG (ez f) (du f l)=[]
 ·
  obtain⟨e1,e2⟩:=DU h.fb he hm P5
  rw[e1];exact h.can
 ·
  have hold:ez (cC f l).1=du f l:=by
   rw[qW q1]
   have hlen:(ez f).length=(du f l).length:=by
    have:=(AD hE).1
    have h2:=h.fb.ids
    rw[qW h.fb,xE]
    have:((du f l).length:Int)=dh f.ak.ae:=this
    omega
   have hs:=O6 (l:=eG (ez f) (du f l)) h.fb.rt (.nil h.ln)
   rw[←qW h.fb,Pb hlen]at hs
   have ew:=C3 (uD.2 h.fb) he hE P5
   rw[ew]at a1⊢
   exact(hs.bb a1).2
  rw[hold,ye]
  exact N5 _
theorem Rm.same{k:Nat}{f:FV}(h:Rm k f){l:List Ch}(he:dA f.table l=0)(hl:cj f.table l=f.table):cC f l=(f,0):=by
 have D6:cj f.table []=f.table:=by rw[cj];split<;>rfl
 have hn:du f l=du f []:=by rw[du,du,hl,D6]
 have hf:=h.j6
 exact(DU h.fb he (by rw[hl];omega) (by rw[hn];exact h.can)).1
theorem Rm.stays{k:Nat}{f:FV}(h:Rm (k+60000) f)(l:List Ch):Rm k (cC f l).1∧((cC f l).2=0→dA f.table l=0∧(cC f l).1.table=cj f.table l)∧((cC f l).2≠0→(cC f l).1=f):=by
 by_cases he:dA f.table l=0
 ·
  by_cases hm:fa f.ak.ae<(cj f.table l).length
  ·
   rw[Pd h.fb he hm]
   exact⟨h.mono (by omega),fun g=>absurd (show(5:Int)=0 from g) (by decide),fun _=>rfl⟩
  ·
   obtain⟨a1,a2,a3,a4⟩:=h.step he hm
   exact⟨a2,fun _=>⟨he,a3⟩,fun g=>absurd a1 g⟩
 ·
  rw[Pc h.fb he]
  exact⟨h.mono (by omega),fun g=>absurd g he,fun _=>rfl⟩
end Go.Kb
namespace Go.aA
open Go.Kb
variable {t ts:List Rt} {k:Key} {bits:Int} {p:cJ}
theorem ack{t:List Rt}(h:cr t=true): ∀l:List Ch,cr (gK t l).1=true:=by
 intro l
 induction l generalizing t with
 |nil=>exact h
 |cons c l ih=>
  rw[gK];split
  ·
   exact ih (AF h c)
  ·
   exact h
theorem acm{t:List Rt}(h:cr t=true)(l:List Ch):cr (cj t l)=true:=by
 unfold cj;split
 ·
  exact ack h l
 ·
  exact h
open Go.Kb
variable {t ts:List Rt} {k:Key} {bits:Int} {p:cJ} {r:Rt}
open Go.Kb
variable {t ts:List Rt} {p:cJ}
def lq(l:List Ch)(p:cJ):Option Ch:=(l.filter fun c=>decide (c.r.p=p)).getLast?
theorem P6{l:List Ch}{p:cJ}{x:Ch}(h:lq l p=some x):x∈l∧x.r.p=p:=by
 have:=List.mem_filter.1 (List.mem_of_getLast? h)
 exact⟨this.1,by simpa using this.2⟩
theorem acn(c:Ch)(l:List Ch)(p:cJ):lq (c::l) p=(lq l p).or (if c.r.p=p then some c else none):=by
 unfold lq
 rw[List.filter_cons]
 by_cases h:c.r.p=p
 ·
  rw[if_pos (by simpa using h),if_pos h,List.getLast?_cons]
  cases hl:(l.filter fun c=>decide (c.r.p=p)).getLast?<;>simp
 ·
  rw[if_neg (by simpa using h),if_neg h];simp
theorem aco{l:List Ch}(h: ∀c∈l,c.r.p≠p):lq l p=none:=by
 unfold lq
 rw[List.filter_eq_nil_iff.2 fun c hc=>by simpa using h c hc];rfl
theorem ID(h:cr t=true){c:Ch}(he:ei t c=0)(x:Rt):x∈iE t c↔if c.r.p=x.p then c.gone=false∧x=c.r else x∈t:=by
 obtain⟨r,g⟩:=c
 cases g with
 |false=>
  rw[aaq h he]
  by_cases hp:r.p=x.p
  ·
   rw[if_pos hp]
   constructor
   ·
    rintro(h1|⟨_,h1⟩)
    ·
     exact⟨rfl,h1⟩
    ·
     exact absurd hp.symm h1
   ·
    exact fun h1=> .inl h1.2
  ·
   rw[if_neg hp]
   constructor
   ·
    rintro(h1|h1)
    ·
     exact absurd (by rw[h1]) hp
    ·
     exact h1.1
   ·
    exact fun h1=> .inr ⟨h1,fun e=>hp e.symm⟩
 |true=>
  rw[aav h he,List.mem_filter]
  by_cases hp:r.p=x.p
  ·
   rw[if_pos hp];simp[hp]
  ·
   rw[if_neg hp]
   exact⟨fun h1=>h1.1,fun h1=>⟨h1,by simpa using fun e=>hp e.symm⟩⟩
theorem P7: ∀{l:List Ch} {t:List Rt},cr t=true→(gK t l).2=0→ ∀x,x∈(gK t l).1↔match lq l x.p with
  |some c=>c.gone=false∧x=c.r
  |none=>x∈t
 |[],t,_,_,x=>by simp[lq,gK]
 |c::l,t,h,he,x=>by
  rw[gK]at he⊢
  by_cases hc:ei t c=0
  ·
   rw[if_pos hc]at he⊢
   rw[P7 (AF h c) he x,acn]
   cases hl:lq l x.p with
   |some d=>rfl
   |none=>
    simp only[Option.none_or]
    rw[ID h hc]
    by_cases hp:c.r.p=x.p
    ·
     rw[if_pos hp,if_pos hp]
    ·
     rw[if_neg hp,if_neg hp]
  ·
   rw[if_neg hc]at he;exact absurd he hc
theorem P8: ∀{l:List Ch} {t:List Rt},cr t=true→(gK t l).2=0→ ∀c∈l,cq c.r.p=true
 |[],_,_,_,c,hc=>by cases hc
 |c::l,t,h,he,d,hd=>by
  rw[gK]at he
  by_cases hc:ei t c=0
  ·
   rw[if_pos hc]at he
   rcases List.mem_cons.1 hd with rfl|hd
   ·
    exact wa hc
   ·
    exact P8 (AF h c) he d hd
  ·
   rw[if_neg hc]at he;exact absurd he hc
theorem acp(h:cr t=true){l:List Ch}(he:dA t l=0)(x:Rt):x∈cj t l↔match lq l x.p with
  |some c=>c.gone=false∧x=c.r
  |none=>x∈t:=by
 rw[cj,if_pos he]
 rw[dA,if_pos h]at he
 exact P7 h he x
open Go.Kb
variable {t u:List Ch} {p:cJ} {r:Ch}
open Go.Kb
variable {t u v:List Rt} {p:cJ} {l:List Ch}
def nP(t:List Rt)(p:cJ):Option Rt:=t.find? fun x=>decide (x.p=p)
theorem D7(ho:Ord t){x:Rt}:nP t p=some x↔x∈t∧x.p=p:=by
 unfold nP
 constructor
 ·
  intro h
  exact⟨List.mem_of_find?_eq_some h,by simpa using List.find?_some h⟩
 ·
  rintro⟨h1,h2⟩
  cases h:t.find? fun x=>decide (x.p=p)with
  |some y=>
   have h3:=List.mem_of_find?_eq_some h
   have h4:y.p=p:=by simpa using List.find?_some h
   rw[ho.uniq h1 h3 (h2.trans h4.symm)]
  |none=>
   have:=List.find?_eq_none.1 h x h1
   simp[h2]at this
theorem P9:nP t p=none↔ ∀x∈t,x.p≠p:=by
 unfold nP
 rw[List.find?_eq_none]
 exact⟨fun h x hx=>by simpa using h x hx,fun h x hx=>by simpa using h x hx⟩
theorem acq{x:Rt}(h:nP t p=some x):x.p=p:=by
 unfold nP at h;simpa using List.find?_some h
theorem IE{x:Rt}(h:nP t p=some x):x∈t:=by
 unfold nP at h;exact List.mem_of_find?_eq_some h
theorem acr(h1:Ord t)(h2:Ord u)(h: ∀p,nP t p=nP u p):t=u:=
 Go.Kb.Ord.ext h1 h2 fun x=>by
  have:=h x.p
  constructor
  ·
   intro hx
   exact IE (this▸(D7 h1).2 ⟨hx,rfl⟩)
  ·
   intro hx
   exact IE (this.symm▸(D7 h2).2 ⟨hx,rfl⟩)
theorem acs:lq l p=none↔ ∀c∈l,c.r.p≠p:=by
 constructor
 ·
  intro hl c hc
  have:(l.filter fun c=>decide (c.r.p=p))=[]:=List.getLast?_eq_none_iff.1 hl
  have:=List.filter_eq_nil_iff.1 this c hc
  simpa using this
 ·
  exact aco
def aC:Option Ch→Option Rt→Option Rt
 |some c,_=>if c.gone=true then none else some c.r
 |none,o=>o
theorem IF(h:cr t=true)(he:dA t l=0)(p:cJ):nP (cj t l) p=aC (lq l p) (nP t p):=by
 have hu:=rN (acm h l)
 have key: ∀x:Rt,x.p=p→(x∈cj t l↔aC (lq l p) (nP t p)=some x):=fun x hx=>by
  rw[acp h he,hx]
  cases hl:lq l p with
  |none=>simp only[aC];rw[D7 (rN h)];exact⟨fun h=>⟨h,hx⟩,fun h=>h.1⟩
  |some c=>
   simp only[aC]
   cases c.gone<;>simp[eq_comm]
 cases ha:aC (lq l p) (nP t p)with
 |some x=>
  have hx:x.p=p:=by
   cases hl:lq l p with
   |none=>rw[hl]at ha;exact acq ha
   |some c=>
    rw[hl]at ha
    simp only[aC]at ha
    split at ha
    ·
     cases ha
    ·
     rw[←Option.some.inj ha];exact(P6 hl).2
  exact(D7 hu).2 ⟨(key x hx).2 ha,hx⟩
 |none=>
  rw[P9]
  intro x hx e
  have:=(key x e).1 hx
  rw[ha]at this;cases this
theorem Cn{a:cJ}(ha:cq a=true)(h: ∀x∈t,dL a x.p=true):nP t a=none:=P9.2 fun x hx e=>by
 have:=h x hx
 rw[e,rM ha]at this;cases this
end Go.aA
namespace Go.Kb
open Go.aA
theorem IG{t:List Rt}{l:List Ch}(h:cr t=true):dA t l=(gK t l).2:=if_pos h
theorem Qa: ∀(l:List Ch) {s:List Rt},cr s=true→(∀c∈l,c.gone=false∧cq c.r.p=true∧ ∃x∈s,x.p=c.r.p)→(gK s l).2=0
 |[],_,_,_=>rfl
 |c::r,s,hs,h=>by
  obtain⟨h1,h2,x,h3,h4⟩:=h c List.mem_cons_self
  have qM:jw s c.r.p=true:=by
   rw[←aau hs h2,List.any_eq_true]
   exact⟨x,h3,decide_eq_true h4⟩
  have he:ei s c=0:=by rw[ei,if_pos h2,if_pos qM]
  rw[gK,if_pos he]
  refine Qa r (AF hs c) fun d hd=> ?_
  obtain⟨d1,d2,y,d3,d4⟩:=h d (List.mem_cons_of_mem _ hd)
  refine⟨d1,d2,?_⟩
  by_cases e:c.r.p=d.r.p
  ·
   exact⟨c.r,(ID hs he c.r).2 (by rw[if_pos rfl];exact⟨h1,rfl⟩),e⟩
  ·
   exact⟨y,(ID hs he y).2 (by rw[if_neg (by rw[d4];exact e)];exact d3),d4⟩
theorem acu{t:List Rt}{l:List Ch}(h:cr t=true)(he:dA t l=0)(hg: ∀c∈l,c.gone=false):dA (cj t l) l=0∧cj (cj t l) l=cj t l:=by
 have hr:=Ii h l
 have hm:=P8 h (by rw[←IG h];exact he)
 have Ia: ∀c∈l,∃d,lq l c.r.p=some d:=fun c hc=>by
  cases hq:lq l c.r.p with
  |some d=>exact⟨d,rfl⟩
  |none=>exact absurd rfl (acs.1 hq c hc)
 have hE:dA (cj t l) l=0:=by
  rw[IG hr]
  refine Qa l hr fun c hc=>⟨hg c hc,hm c hc,?_⟩
  obtain⟨d,hd⟩:=Ia c hc
  have Ir:=P6 hd
  have:=IF h he c.r.p
  rw[hd,aC,if_neg (by rw[hg d Ir.1];simp)]at this
  exact⟨d.r,IE this,Ir.2⟩
 refine⟨hE,?_⟩
 refine acr (rN (Ii hr l)) (rN hr) fun p=> ?_
 rw[IF hr hE p,IF h he p]
 cases lq l p with
 |none=>rfl
 |some c=>rfl
theorem IH: ∀(m:Nat) {n:Nat} {b:Int} {c:CV},Ok (n+m) c→0≤b→b+m=c.blocks.length→
  ((fx m b c).2=0∧Ok n (fx m b c).1∧dx c (fx m b c).1∧(fx m b c).1.aQ=c.aQ∧(∀k:Int,k<b→0≤k→aj (fx m b c).1 k=aj c k)∧ ∀k:Int,b≤k→k<c.blocks.length→pK (fx m b c).1 k=false)∨(fx m b c).2=7
 |0,n,b,c,h,h0,hb=> .inl ⟨rfl,h, .cZ c,rfl,fun _ _ _=>rfl,fun k k1 k2=>by omega⟩
 |m+1,n,b,c,h,h0,hb=>by
  rw[fx]
  by_cases bB:pK c b=false
  ·
   rw[if_pos bB]
   rcases IH m (n:=n) (h.mono (by omega)) (show 0≤b+1 by omega) (by omega)with⟨w1,w2,w3,w4,w5,w6⟩|w1
   ·
    refine .inl ⟨w1,w2,w3,w4,fun k k1 k2=>w5 k (by omega) k2,fun k k1 k2=> ?_⟩
    by_cases e:k=b
    ·
     have:=w5 b (by omega) h0
     rw[e,pK,this,show gW (fx m (b+1) c).1 b=gW c b by rw[gW,gW,this]]
     exact bB
    ·
     exact w6 k (by omega) k2
   ·
    exact .inr w1
  ·
   rw[if_neg bB]
   rcases Ok.erase (n:=n+m) (b:=b) h h0 (by omega)with⟨e,g⟩|e
   ·
    rw[if_neg (fun q=>q.1 e)]
    have dM:=sJ c b
    rcases IH m (n:=n) g (show 0≤b+1 by omega) (by rw[dM.len];omega)with⟨w1,w2,w3,w4,w5,w6⟩|w1
    ·
     obtain⟨z1,z2,z3,z4,z5⟩:=xw e
     have hh:=(np.1 z1).1
     obtain⟨_,k3,k4⟩:=gq.1 hh
     refine .inl ⟨w1,w2,dM.trans w3,w4.trans (by rw[z5];rfl),fun k k1 k2=> ?_,fun k k1 k2=> ?_⟩
     ·
      rw[w5 k (by omega) k2,z5,jH,qU (by omega),if_neg (by omega)]
     ·
      by_cases e2:k=b
      ·
       have hw:=w5 b (by omega) h0
       have Qb:aj (cY c b) b={aj c b with used:=0,aT:=(aj c b).aT+1,pages:=(aj c b).pages.map fun _=>gu c.size}:=by
        rw[z5,jH,mK hh,z4]
        simp only[pD,z4,Bool.false_eq_true,if_false]
       have hgr:gW (fx m (b+1) (cY c b)).1 b=0:=by
        have h1:gW (fx m (b+1) (cY c b)).1 b≤0:=by
         rw[gW,hw,Qb]
         refine DQ _ 0 (Nat.le_refl _) fun p hp=> ?_
         obtain⟨_,_,rfl⟩:=List.mem_map.1 hp
         rw[iW,if_neg (DN (OP _))];exact Nat.le_refl _
        omega
       rw[e2,pK,hgr,hw,Qb]
       simp
      ·
       exact w6 k (by omega) (by rw[dM.len];exact k2)
    ·
     exact .inr w1
   ·
    right
    rw[if_pos (by rw[e];decide)];exact e
theorem Qc{p:List UInt8}{l:List (List UInt8)}(h:pJ l=0)(hp:p∈l):iW p=0:=by
 have:=(H9 (p:=p) l 0).2 hp
 change iW p≤pJ l at this
 omega
theorem acv{n:Nat}{c:CV}{ids:Int}(h:Ok (n+40) c)(h1:1≤ids)(h2:ids≤jd c.size):
  ((gX c ids).2=0∧eU (gX c ids).1∧dx c (gX c ids).1.ae∧(gX c ids).1.at_=List.replicate ids.toNat 0)∨(gX c ids).2=7:=by
 have hd:=eE h.ae
 obtain⟨k1,k2,k3,k4⟩:=ft.1 h.ok
 have e0:gX c ids=(if(jN c ids).2≠0 then(⟨(jN c ids).1.v.ae,[],0,0⟩,(jN c ids).2)else((jN c ids).1.v,0)):=by
  rw[gX,if_neg (fun g=>g ⟨h.ok,h1,h2⟩),if_neg (by rw[h.off];simp)]
 have eb:jN c ids=if(fx c.blocks.length 0 c).2≠0 then((⟨⟨c,[],0,0⟩,false⟩:WV).on (fx c.blocks.length 0 c).1,(fx c.blocks.length 0 c).2)else pN 2 0 ((⟨⟨c,[],0,0⟩,false⟩:WV).on (fx c.blocks.length 0 c).1) ids.toNat:=rfl
 rcases IH c.blocks.length (n:=n+1) (b:=0) (c:=c) (h.mono (by omega)) (Int.le_refl _) (by omega)with⟨w1,w2,w3,w4,w5,w6⟩|w1
 ·
  rw[if_neg (by rw[w1];simp)]at eb
  generalize fx c.blocks.length 0 c=W at*
  have s0:=w6 0 (Int.le_refl _) (by omega)
  have s1:=w6 1 (by decide) (by omega)
  have ny:=fun b=>w2.nb b
  have us: ∀k:Int,0≤k→k<2→pK W.1 k=false→(aj W.1 k).used≤0∧gW W.1 k=0:=fun k k0 A1 hs=>by
   rw[pK,ny k]at hs
   simp only[Bool.not_false,Bool.true_and,Bool.or_eq_false_iff,Bool.and_eq_false_iff,decide_eq_false_iff_not]at hs
   exact⟨by omega,by rcases hs.2 with g|g<;>omega⟩
  obtain⟨u0,g0⟩:=us 0 (by decide) (by decide) s0
  obtain⟨u1,g1⟩:=us 1 (by decide) (by decide) s1
  have D1:=(dV.1 (pL w2.ae (b:=0) (by decide) (by rw[w3.len];omega))).2.1
  have hu:(aj W.1 0).used=0:=by omega
  have yh:fG W.1 0=1:=by
   rw[fG,show(1:Int) -0=1 from rfl,g1];rfl
  have kV:AU W.1 0 (List.replicate ids.toNat 0):=⟨by decide,by rw[List.length_replicate,w3.size];omega,fun x hx=>by rw[List.eq_of_mem_replicate hx];decide⟩
  obtain⟨p1,p2⟩:=kV.put w2.ok
  have HB:lF W.1 0 ids.toNat=cO ⟨0+1,List.replicate ids.toNat 0⟩ W.1.size:=by rw[lF,yh]
  have hm:=Ou p1
  have pV:dD W.1 0≠0:=by rw[dD,if_neg (by rw[ny];simp),hu,w3.pages];omega
  rw[pN,show((⟨⟨c,[],0,0⟩,false⟩:WV).on W.1).v.ae=W.1 from rfl,HB,if_neg (by rintro(q|q);exact q p1;exact pV q),yh]at eb
  rcases w2.prog (n:=n) (b:=0) (p:=(cO ⟨0+1,List.replicate ids.toNat 0⟩ W.1.size).1) (Int.le_refl _) (by rw[w3.len];omega) (by rw[hu,w3.pages];omega) p2 with⟨z,gz⟩|z
  ·
   rw[if_pos z]at eb
   rw[e0,eb,if_neg (fun q=>q rfl)]
   left
   have zY:=Oq hm
   generalize(cO ⟨0+1,List.replicate ids.toNat 0⟩ W.1.size).1=pg at*
   have dM:=gU W.1 0 pg
   have mh:=gz.ok
   have hz:=nv z
   have hP:(bn W.1 0 pg).pages=c.pages:=dM.pages.trans w3.pages
   have vT:bF (bn W.1 0 pg) 0=pg:=by
    obtain⟨j1,j2,j3,j4,j5⟩:=iS.1 hz.1
    have vN:=(dV.1 (n8 j1)).1
    rw[hz.2.2.2.2]
    show(aj _ (0/W.1.pages)).pages.getD (0%W.1.pages).toNat []=pg
    rw[Int.zero_ediv,Int.zero_emod,gG,mK j1,hu]
    simp only[List.getD]
    rw[List.getElem?_set_self (by show(0:Int).toNat<_;rw[w3.pages]at vN;show 0<_;omega),mG,hz.2.2.2.1];rfl
   have pa: ∀k:Int,0<k→k<2*c.pages→iW (bF (bn W.1 0 pg) k)=0:=fun k k0 A1=>by
    have Pv:=Int.ediv_nonneg (Int.le_of_lt k0) (show 0≤c.pages by omega)
    have mg:0≤k%c.pages:=Int.emod_nonneg _ (by omega)
    have nE:k%c.pages<c.pages:=Int.emod_lt_of_pos _ (by omega)
    have va:k/c.pages<2:=Int.ediv_lt_of_lt_mul (by omega) A1
    have hpe:bF (bn W.1 0 pg) k=bF W.1 k:=by
     by_cases e:k/c.pages=0
     ·
      obtain⟨j1,j2,j3,j4,j5⟩:=iS.1 hz.1
      rw[hz.2.2.2.2]
      show(aj _ (k/W.1.pages)).pages.getD (k%W.1.pages).toNat []=_
      have hk:k%c.pages=k:=Int.emod_eq_of_lt (by omega) (by
       have:=Int.mul_ediv_add_emod k c.pages
       rw[e,Int.mul_zero]at this;omega)
      rw[w3.pages,e,gG,mK j1,hu]
      simp only[List.getD]
      rw[List.getElem?_set_ne (by show ¬(0:Int).toNat=_;show ¬0=_;omega),bF,w3.pages,e];rfl
     ·
      rw[bF,bF,hP,w3.pages,AT z (by omega)]
    rw[hpe]
    obtain⟨r0,r1⟩:=yq w2.ok
    have jD: ∀b:Int,k/c.pages=b→((aj W.1 b).pages.length:Int)=W.1.pages→bF W.1 k∈(aj W.1 b).pages:=fun b hb hl=>by
     rw[bF,w3.pages,hb]
     simp only[List.getD]
     rw[w3.pages]at hl
     rw[List.getElem?_eq_getElem (show(k%c.pages).toNat<(aj W.1 b).pages.length by omega)]
     exact List.getElem_mem _
    rcases(show k/c.pages=0∨k/c.pages=1 by omega)with e|e
    ·
     exact Qc g0 (jD 0 e r0)
    ·
     exact Qc g1 (jD 1 e r1)
   have uF:=H8 mh (i:=0) (Int.le_refl _) (by rw[hP];omega) (by rw[vT,zY]) (fun k k0 A1 hv=>by
    rw[vT,zY]
    rw[hP]at A1
    rcases Int.lt_or_eq_of_le k0 with g|g
    ·
     have:=pa k g A1
     rw[iW,if_pos hv]at this
     simp only;omega
    ·
     rw[←g,vT,zY];simp only;omega)
   rw[vT,zY]at uF
   have j9:=yw z
   refine⟨rfl,⟨mh,?_,?_,⟨fun i y hy h0=> ?_,fun i j y hi hj h0=> ?_⟩,?_,?_,?_⟩,w3.trans dM,rfl⟩
   ·
    show(bL (bn W.1 0 pg)).2.2=0;rw[uF]
   ·
    show(bL (bn W.1 0 pg)).1%(bn W.1 0 pg).pages<(aj (bn W.1 0 pg) ((bL (bn W.1 0 pg)).1/(bn W.1 0 pg).pages)).used
    rw[uF];simp only
    rw[Int.zero_emod,Int.zero_ediv,j9.1,hu];decide
   ·
    exact absurd (List.eq_of_mem_replicate (List.mem_of_getElem? hy)) h0
   ·
    exact absurd (List.eq_of_mem_replicate (List.mem_of_getElem? hi)) h0
   ·
    show(bL (bn W.1 0 pg)).2.1.at_=_;rw[uF];rfl
   ·
    show(bL (bn W.1 0 pg)).2.1.gen=_;rw[uF];rfl
   ·
    show(bL (bn W.1 0 pg)).1/(bn W.1 0 pg).pages=0;rw[uF];exact Int.zero_ediv _
  ·
   right
   rw[if_neg (by rw[z];decide),if_pos (by rw[z];decide)]at eb
   rw[e0,eb]
   rw[if_pos (by rw[z];show(7:Int)≠0;decide)];exact z
 ·
  right
  rw[if_pos (by rw[w1];decide)]at eb
  rw[e0,eb]
  rw[if_pos (by rw[w1];show(7:Int)≠0;decide)];exact w1
theorem acw(c:CV)(n:Nat):(List.replicate n (0:Int)).map (eo c)=List.replicate n []:=by
 rw[List.map_replicate];rfl
theorem Rm.format{k:Nat}{f:FV}(h:Rm (k+40) f):(ji f.ak.ae).2=0∧gM (ji f.ak.ae).1∧(ji f.ak.ae).1.table=[]:=by
 have hm:=h.fb.iC
 have yf:1≤dh f.ak.ae∧dh f.ak.ae≤jd f.ak.ae.size:=by
  refine⟨?_,by rw[dh,rP];omega⟩
  rw[fa,sN,iC]at hm
  split at hm
  ·
   exact absurd rfl hm
  ·
   rename_i g
   have:dh f.ak.ae=rP f.ak.ae.blocks.length f.ak.ae.pages f.ak.ae.size:=rfl
   omega
 have he:ji f.ak.ae=(⟨(gX f.ak.ae (dh f.ak.ae)).1,[]⟩,(gX f.ak.ae (dh f.ak.ae)).2):=by rw[ji,if_neg hm]
 rw[he]
 rcases acv (n:=k) (c:=f.ak.ae) (ids:=dh f.ak.ae) h.lv.ok yf.1 yf.2 with⟨f1,f2,f3,f4⟩|f1
 ·
  have hc:=DT f3
  have hb:cd (gX f.ak.ae (dh f.ak.ae)).1=List.replicate (dh f.ak.ae).toNat []:=by
   rw[cd,f4,acw]
  obtain⟨t1,t2⟩:=acx (dh f.ak.ae).toNat
  exact⟨f1,⟨f2,by show fa _≠0;rw[hc.1];exact hm,by show(_:Int)=dh _;rw[hc.2,f4,List.length_replicate];omega,by show jh _=0;rw[hb];exact t1,by show[]=iD _;rw[hb];exact t2.symm⟩,rfl⟩
 ·
  exfalso
  exact acy h.ln h.off f1
where
 acx (n:Nat):jh (List.replicate n [])=0∧iD (List.replicate n [])=[]:=by
  have hu: ∀n,fU (List.replicate n [])=some []:=fun n=>by
   induction n with
   |zero=>rfl
   |succ n ih=>
    rw[List.replicate_succ,fU,Gt,ih];rfl
  rw[jh,iD,hu]
  exact⟨rfl,rfl⟩
 acy {c:CV} {ids:Int} (hf:c.aQ=[]) (ho:c.off=false) (h:(gX c ids).2=7):False:=by
  have hpr: ∀(d:CV) (b:Int) (p:List UInt8),d.aQ=[]→d.off=false→bC d b p≠7∧(bn d b p).aQ=[]∧(bn d b p).off=false:=fun d b p h1 h2=>by
   have hk:=AJ (L:=[]) (c:=d) (b:=b) (p:=p)
   have sR:=hk.on h2 (by rw[h1];intro x hx;cases hx)
   refine⟨fun g=> ?_,hk.ln.trans h1,sR⟩
   rw[AK g]at sR;cases sR
  have Qd: ∀(d:CV) (b:Int),d.aQ=[]→d.off=false→dG d b≠7∧(cY d b).aQ=[]∧(cY d b).off=false:=fun d b h1 h2=>by
   have hk:=OA (L:=[]) (c:=d) (b:=b) (fun n hn=>by cases hn)
   have sR:=hk.on h2 (by rw[h1];intro x hx;cases hx)
   refine⟨fun g=> ?_,hk.ln.trans h1,sR⟩
   rw[H2 g]at sR;cases sR
  have hwi: ∀(m:Nat) (b:Int) (d:CV),d.aQ=[]→d.off=false→(fx m b d).2≠7∧(fx m b d).1.aQ=[]∧(fx m b d).1.off=false:=by
   intro m
   induction m with
   |zero=>intro b d h1 h2;exact⟨show(0:Int)≠7 by decide,h1,h2⟩
   |succ m ih=>
    intro b d h1 h2
    rw[fx]
    split
    ·
     exact ih _ _ h1 h2
    ·
     split
     ·
      obtain⟨q1,q2,q3⟩:=Qd d b h1 h2
      exact⟨q1,q2,q3⟩
     ·
      obtain⟨q1,q2,q3⟩:=Qd d b h1 h2
      exact ih _ _ q2 q3
  have hrt: ∀(m:Nat) (b:Int) (x:WV) (i:Nat),x.v.ae.aQ=[]→x.v.ae.off=false→(pN m b x i).2≠7:=by
   intro m
   induction m with
   |zero=>intro b x i h1 h2;show(9:Int)≠7;decide
   |succ m ih=>
    intro b x i h1 h2
    obtain⟨q1,q2,q3⟩:=hpr x.v.ae b (lF x.v.ae b i).1 h1 h2
    rw[pN]
    split
    ·
     exact ih _ _ _ h1 h2
    ·
     split
     ·
      show(0:Int)≠7;decide
     ·
      split
      ·
       exact q1
      ·
       exact ih _ _ _ q2 q3
  rw[gX]at h
  split at h
  ·
   cases h
  ·
   split at h
   ·
    rename_i g;rw[ho]at g;cases g
   ·
    have hb7:(jN c ids).2≠7:=by
     rw[jN,oP]
     obtain⟨q1,q2,q3⟩:=hwi c.blocks.length 0 c hf ho
     split
     ·
      exact q1
     ·
      exact hrt _ _ _ _ q2 q3
    split at h
    ·
     exact hb7 h
    ·
     cases h
open Go.aA
theorem D8(k:Key)(bits:Int):mO [] k bits≠0∧lh [] k bits=fQ:=by
 cases hk:cq ⟨bits,bits,k⟩with
 |false=>
  obtain⟨h1,h2⟩:=aay (ts:=[]) (k:=k) (bits:=bits) rfl hk
  exact⟨by rw[h1];decide,h2⟩
 |true=>
  obtain⟨h1,h2⟩:=AG.none (ts:=[]) (k:=k) (bits:=bits) rfl hk .zero (by decide)
  exact⟨by rw[h1];decide,h2⟩
theorem Qe{t:List Rt}(h:cr t=true):dA t []=0∧cj t []=t:=⟨by rw[IG h];rfl,by rw[cj];split<;>rfl⟩
theorem Rm.nothing{k:Nat}{f:FV}(h:Rm k f):cC f []=(f,0):=h.same (Qe h.fb.right).1 (Qe h.fb.right).2
theorem Rm.again{k:Nat}{f:FV}{l:List Ch}(h:Rm (k+60000) f)(he:(cC f l).2=0)(hg: ∀c∈l,c.gone=false):cC (cC f l).1 l=((cC f l).1,0):=by
 obtain⟨q1,q2,q3⟩:=h.stays l
 obtain⟨a1,a2⟩:=q2 he
 obtain⟨b1,b2⟩:=acu h.fb.right a1 hg
 rw[←a2]at b1 b2
 exact q1.same b1 b2
end Go.Kb
namespace Go.Proofs.YtaipiecplldinaaGreat
open Go.aA Go.Kb
open Go.RowKit
theorem acz(w:World)(b:UInt8)(p:UInt8)(l:Sv)(ls:List Ch)(k:Key)(bits:Int)(hl:bQ fN 20 (hp w) l ls):Calls Tryz.prog 7 #[.int .u8 (b.toNat:Nat), .int .u8 (p.toNat:Nat),l.val, .agg (cT k), .int .i64 bits] w fun e w'=>e= .returned (.bool true)∧Mem w [] w':=by
 have oX:Gv w l fN 20 ls:=⟨hl⟩
 have dz:=hl.bd
 obtain⟨n1,n2,n3,n4,n5,n6⟩:=ach (n:=(b.toNat%8)) (p:=(p.toNat%7)) (by omega) (by omega)
 refine ba (args:=[_,_,_,_,_]) Tryz.func7 rfl Tryz.ntmps7 rfl ?_
 change Cw _ _ _ _ _ [(0, .int .u8 (b.toNat:Nat)),(1, .int .u8 (p.toNat:Nat)),(2,l.val),(3, .agg (cT k)),(4, .int .i64 bits)] []
 refine Gc ?_
 refine bY rfl fun b8=> ?_
 refine Gs ?_
 refine Gc ?_
 iterate 2 refine Gs ?_
 refine Gc ?_
 refine au rfl (fun h0=> ?_) (fun h0=> ?_)
 ·
  exfalso;simp at h0
 ·
  replace h0:=bz h0
  refine Gc ?_
  iterate 3 refine Gs ?_
  refine Gc ?_
  refine au rfl (fun h1=> ?_) (fun h1=> ?_)
  ·
   replace h1:=bz h1
   refine Gc ?_
   refine Gs ?_
   refine Gc ?_
   refine aq (.inl rfl) (aJ rfl (al rfl)) (fun w1 hw=> ?_)
   exact⟨congrArg (fun b=>Ending.returned (Value.bool b)) (rfl),ah.mem hw⟩
  ·
   replace h1:=bz h1
   refine Gc ?_
   refine Gs ?_
   refine ag (y5 (p:=b.toNat) (q:=8) rfl rfl rfl rfl (by omega)) ?_
   refine ag (qg rfl (by simp only[nb];omega)) ?_
   iterate 2 refine Gs ?_
   refine ag (y5 (p:=p.toNat) (q:=7) rfl rfl rfl rfl (by omega)) ?_
   refine ag (qg rfl (by simp only[nb];omega)) ?_
   refine Gs ?_
   refine bo rfl trivial fun yB acA=> ?_
   have II:cv yB=(yA (b.toNat%8) (p.toNat%7)).1:=acA
   have z42:(n7 ((((b.toNat%8):Nat):Int)+5) ((((p.toNat%7):Nat):Int)+2) 64).2=0:=n1
   have acB:dW yB:=pE (by rw[II];exact n2)
   refine Gs ?_
   refine ag (aU (v:= .agg (aD yB)) rfl rfl) ?_
   refine ag (aU (v:= .int .i64 ((n7 ((((b.toNat%8:Nat)):Int)+5) ((((p.toNat%7:Nat)):Int)+2) 64).2)) rfl rfl) ?_
   refine bH fun oq=> ?_
   iterate 2 refine Gs ?_
   refine Gc ?_
   refine Gs ?_
   refine bo rfl acB fun nH Hc=> ?_
   have Qf:bg nH=(qX (b.toNat%8) (p.toNat%7)).1:=by rw[Hc,II];rfl
   have z47:(ji (cv yB)).2=0:=by rw[II];exact n3
   have IJ:Rm 1000000000 (bg nH):=by rw[Qf];exact n4
   have t47:nH.table.xs=[]:=by rw[show nH.table.xs=(qX (b.toNat%8) (p.toNat%7)).1.table from congrArg FV.table Qf,n5]
   refine Gs ?_
   refine ag (aU (v:= .agg (bU nH)) rfl rfl) ?_
   refine ag (aU (v:= .int .i64 ((ji (cv yB)).2)) rfl rfl) ?_
   refine bH fun iX=> ?_
   iterate 2 refine Gs ?_
   refine Gc ?_
   iterate 3 refine Gs ?_
   iterate 2 refine Gg ?_
   refine Gs ?_
   refine Gc ?_
   refine au rfl (fun h2=> ?_) (fun h2=> ?_)
   ·
    exfalso;rw[z42,z47]at h2;simp at h2
   ·
    replace h2:=bz h2
    refine Gc ?_
    iterate 2 refine Gs ?_
    refine bo rfl IJ.fb.small fun iP Qg=> ?_
    obtain⟨u1,u2,u3⟩:=Rm.stays (k:=900000000) (IJ.mono (by decide)) ls
    rw[←Qg]at u1 u2 u3
    have u4:=u1.fb.small
    have u5:=u1.fb.AS
    have u6:=u1.nothing
    have u7:=u1.fb.abr u1.off
    have u8:=Rm.format (k:=800000000) (u1.mono (by decide))
    have u9: ∀(hz:(cC (bg nH) ls).2=0) (hg: ∀c∈ls,c.gone=false),cC (bg iP) ls=(bg iP,0):=fun hz hg=>by
     have:=Rm.again (k:=900000000) (IJ.mono (by decide)) hz hg
     rw[←Qg]at this;exact this
    refine Gs ?_
    refine ag (aU (v:= .agg (bU iP)) rfl rfl) ?_
    refine ag (aU (v:= .int .i64 ((cC (bg nH) ls).2)) rfl rfl) ?_
    iterate 2 refine Gs ?_
    refine Gc ?_
    refine Gs ?_
    refine bo (vs:=[_,Sv.none.val]) rfl u4 fun D9 acC=> ?_
    have e64:bg D9=bg iP:=by rw[acC,u6]
    have z64:(cC (bg iP) []).2=0:=by rw[u6]
    refine Gs ?_
    refine ag (aU (v:= .agg (bU D9)) rfl rfl) ?_
    refine ag (aU (v:= .int .i64 ((cC (bg iP) []).2)) rfl rfl) ?_
    refine bH fun vU=> ?_
    iterate 2 refine Gs ?_
    refine Gc ?_
    iterate 3 refine Gs ?_
    refine bM rfl rfl rfl (fun hg=>(Ry.yl (eJ rfl))) ?_
    refine bM rfl rfl rfl (fun hg=>(Ry.yl (eJ rfl))) ?_
    refine bM rfl rfl rfl (fun hg=>cE (dy (aG hg rfl) (dy (aG hg rfl) gB)) trivial) ?_
    refine bM rfl rfl rfl (fun hg=>(Ry.yl (iq (aG hg rfl)))) ?_
    refine Gs ?_
    refine Gc ?_
    refine au rfl (fun h3=> ?_) (fun h3=> ?_)
    ·
     exfalso;simp[e64,z64]at h3
    ·
     replace h3:=bz h3
     refine Gc ?_
     refine Gs ?_
     refine Gc ?_
     refine Gs ?_
     refine Gc ?_
     refine cc (X:=Nat) (fun zz=>[(19, .int .i64 (zz:Nat)),(18, .bool ((ls.take zz).any fun c=>c.gone)),(2,l.val),(4, .int .i64 bits),(8, .pointer (some ⟨b8,0,none⟩)),(13, .pointer (some ⟨iX,0,none⟩)),(15, .int .i64 ((cC (bg nH) ls).2))]) (fun zz=>[ar vU (bU D9) 54,fz D9,ar iX (bU iP) 54,fz iP,ar oq (aD yB) 25,ar b8 (cT k) 56]) (fun zz=>zz≤ls.length) (fun zz=>ls.length -zz) 0 (Nat.zero_le _) (Sub.cons rfl (Sub.cons (look_eq rfl (by rw[List.take_zero];rfl)) (Sub.cons rfl (Sub.cons rfl (Sub.cons rfl (Sub.cons rfl (Sub.cons rfl (Sub.nil _)))))))) (fun w hw=>ah.mem hw) ?_
     rintro i bj
     refine Gc ?_
     iterate 4 refine Gs ?_
     refine Gc ?_
     refine au rfl (fun h4=> ?_) (fun h4=> ?_)
     ·
      replace h4:=bz h4
      obtain⟨c,hc⟩:=get_some (xs:=ls) (i:=i) (by omega)
      refine Gc ?_
      iterate 2 refine Gs ?_
      iterate 2 refine Gg ?_
      refine bM rfl rfl rfl (fun hg=>(Ry.yl (bk (aG hg rfl) (aG hg rfl) i rfl (by simp only[Z0,Z1,Z2,Z3,Z4,Z5,Z6,Z7,Z8,Z9]at hg;omega)))) ?_
      refine bM rfl rfl rfl (fun hg=>(Ry.yl (aI (aG hg rfl) rfl))) ?_
      refine bM rfl rfl rfl (fun hg=>(Ry.yl (bP (j:=19) (aG hg rfl) i hc rfl (by decide)))) ?_
      iterate 2 refine Gs ?_
      refine Gc ?_
      iterate 3 refine Gs ?_
      refine Gi ?_
      exact bA (x:=(i)) (i+1) (by first|omega|(simp only[];omega)) (by first|omega|(simp only[];omega)) (Sub.cons rfl (Sub.cons (look_eq rfl (by rw[List.take_add_one,hc,List.any_append];simp)) (Sub.cons rfl (Sub.cons rfl (Sub.cons rfl (Sub.cons rfl (Sub.cons rfl (Sub.nil _)))))))) (fun w hw=>ah.mem hw)
     ·
      replace h4:=bz h4
      obtain rfl:i=ls.length:=by omega
      refine Gc ?_
      iterate 3 refine Gs ?_
      refine Gg ?_
      refine g9 rfl rfl rfl (fun hg=>(Ry.yl (iq (aG hg rfl)))) ?_
      refine Gs ?_
      refine Gc ?_
      refine au rfl (fun h5=> ?_) (fun h5=> ?_)
      ·
       replace h5:=bz h5
       have Qh: ∀c∈ls,c.gone=false:=fun c hc=>by
        have h:=h5.2
        rw[List.take_length,List.any_eq_false]at h
        simpa using h c hc
       refine Gc ?_
       iterate 2 refine Gs ?_
       refine bo rfl u4 fun Qi acD=> ?_
       have e98:bg Qi=bg iP:=by rw[acD,u9 h5.1 Qh]
       have z98:(cC (bg iP) ls).2=0:=by rw[u9 h5.1 Qh]
       refine Gs ?_
       refine ag (aU (v:= .agg (bU Qi)) rfl rfl) ?_
       refine ag (aU (v:= .int .i64 ((cC (bg iP) ls).2)) rfl rfl) ?_
       refine bH fun ib=> ?_
       iterate 2 refine Gs ?_
       refine Gc ?_
       iterate 3 refine Gs ?_
       refine bM rfl rfl rfl (fun hg=>(Ry.yl (eJ rfl))) ?_
       refine bM rfl rfl rfl (fun hg=>(Ry.yl (eJ rfl))) ?_
       refine bM rfl rfl rfl (fun hg=>cE (dy (aG hg rfl) (dy (aG hg rfl) gB)) trivial) ?_
       refine bM rfl rfl rfl (fun hg=>(Ry.yl (iq (aG hg rfl)))) ?_
       refine Gs ?_
       refine Gc ?_
       refine au rfl (fun h6=> ?_) (fun h6=> ?_)
       ·
        exfalso;simp[e98,z98]at h6
       ·
        replace h6:=bz h6
        refine Gc ?_
        iterate 5 refine Gs ?_
        refine ag (aU (v:= .agg (ax (nC (bg iP) k bits))) rfl rfl) ?_
        refine ag (aU (v:= .int .i64 (nD (bg iP) k bits)) rfl rfl) ?_
        refine Gc ?_
        iterate 2 refine Gs ?_
        refine ag (gD rfl) ?_
        refine bo rfl trivial fun A2 IK=> ?_
        have IL:bg A2=bg iP:=by rw[IK];exact congrArg Prod.fst u7
        have IM:(c8 (cv iP.ak.ae)).2=0:=congrArg Prod.snd u7
        refine Gs ?_
        refine ag (aU (v:= .agg (bU A2)) rfl rfl) ?_
        refine ag (aU (v:= .int .i64 ((c8 (cv iP.ak.ae)).2)) rfl rfl) ?_
        refine bH fun uf=> ?_
        iterate 2 refine Gs ?_
        refine Gc ?_
        iterate 3 refine Gs ?_
        refine bM rfl rfl rfl (fun hg=>(Ry.yl (eJ rfl))) ?_
        refine bM rfl rfl rfl (fun hg=>(Ry.yl (eJ rfl))) ?_
        refine bM rfl rfl rfl (fun hg=>cE (dy (aG hg rfl) (dy (aG hg rfl) gB)) trivial) ?_
        refine bM rfl rfl rfl (fun hg=>(Ry.yl (iq (aG hg rfl)))) ?_
        refine Gs ?_
        refine Gc ?_
        refine au rfl (fun h7=> ?_) (fun h7=> ?_)
        ·
         exfalso;simp[IL,IM]at h7
        ·
         replace h7:=bz h7
         refine Gc ?_
         iterate 2 refine Gs ?_
         refine ag (gD rfl) ?_
         refine bo rfl u4.1 fun mj IN=> ?_
         have IP:bg mj=(ji (bg iP).ak.ae).1:=IN
         obtain⟨v1,v2,v3⟩:=u8
         rw[←IP]at v2 v3
         have v4:=v2.AS
         have v5:(ji (cv iP.ak.ae)).2=0:=v1
         have v6:mj.table.xs.length=0:=by rw[show mj.table.xs=[]from v3];rfl
         have v7:nC (bg mj) k bits=fQ:=by rw[(v2.DV k bits).1,v3];exact(D8 k bits).2
         have v8:nD (bg mj) k bits≠0:=by rw[(v2.DV k bits).2,v3];exact(D8 k bits).1
         refine Gs ?_
         refine ag (aU (v:= .agg (bU mj)) rfl rfl) ?_
         refine ag (aU (v:= .int .i64 ((ji (cv iP.ak.ae)).2)) rfl rfl) ?_
         refine bH fun DC=> ?_
         iterate 2 refine Gs ?_
         refine Gc ?_
         iterate 5 refine Gs ?_
         refine ag (aU (v:= .agg (ax (nC (bg mj) k bits))) rfl rfl) ?_
         refine ag (aU (v:= .int .i64 (nD (bg mj) k bits)) rfl rfl) ?_
         refine bH fun xR=> ?_
         iterate 2 refine Gs ?_
         refine Gc ?_
         iterate 3 refine Gs ?_
         refine eL rfl rfl rfl (by simp[v4,v5,v6,v7,v8]) (Ry.yl (aI (o':=9) rfl rfl)) ?_
         refine eL rfl rfl rfl (by simp[v4,v5,v6,v7,v8]) (Ry.yl (bJ rfl)) ?_
         refine eL rfl rfl rfl (by simp[v4,v5,v6,v7,v8]) (Ry.yl (kC rfl)) ?_
         refine eL rfl rfl rfl (by simp[v4,v5,v6,v7,v8]) (Ry.yl (ck rfl rfl rfl)) ?_
         refine ag (mz rfl (by simp[v4,v5,v6,v7,v8]) rfl rfl) ?_
         refine Gs ?_
         refine eL rfl rfl rfl (by simp[v4,v5,v6,v7,v8]) (Ry.yl (eJ rfl)) ?_
         refine eL rfl rfl rfl (by simp[v4,v5,v6,v7,v8]) (cE rfl trivial) ?_
         refine ag (mz rfl (by simp[v4,v5,v6,v7,v8]) rfl rfl) ?_
         refine Gs ?_
         refine eL rfl rfl rfl (by simp[v4,v5,v6,v7,v8]) (Ry.yl (aE rfl)) ?_
         refine eL rfl rfl rfl (by simp[v4,v5,v6,v7,v8]) (Ry.yl (ck rfl rfl rfl)) ?_
         refine ag (mz rfl (by simp[v4,v5,v6,v7,v8]) rfl rfl) ?_
         refine Gs ?_
         refine eL rfl rfl rfl (by simp[v4,v5,v6,v7,v8]) (Ry.yl (eJ rfl)) ?_
         refine eL rfl rfl rfl (by simp[v4,v5,v6,v7,v8]) (Ry.yl (cS (v:= .agg (ax fQ)) rfl (fun w=>by unfold ax da fQ;rw[vG];kernel_rfl))) ?_
         refine eL rfl rfl rfl (by simp[v4,v5,v6,v7,v8]) (Ry.yl (Bp rfl rfl)) ?_
         refine ag (mz rfl (by simp[v4,v5,v6,v7,v8]) rfl rfl) ?_
         refine Gs ?_
         refine Gc ?_
         refine aq (.inl rfl) (aJ rfl (al rfl)) (fun w1 hw=> ?_)
         exact⟨congrArg (fun b=>Ending.returned (Value.bool b)) ((by simp[v7])),ah.mem hw⟩
      ·
       replace h5:=bz h5
       refine Gc ?_
       iterate 5 refine Gs ?_
       refine ag (aU (v:= .agg (ax (nC (bg iP) k bits))) rfl rfl) ?_
       refine ag (aU (v:= .int .i64 (nD (bg iP) k bits)) rfl rfl) ?_
       refine Gc ?_
       iterate 2 refine Gs ?_
       refine ag (gD rfl) ?_
       refine bo rfl trivial fun A2 IK=> ?_
       have IL:bg A2=bg iP:=by rw[IK];exact congrArg Prod.fst u7
       have IM:(c8 (cv iP.ak.ae)).2=0:=congrArg Prod.snd u7
       refine Gs ?_
       refine ag (aU (v:= .agg (bU A2)) rfl rfl) ?_
       refine ag (aU (v:= .int .i64 ((c8 (cv iP.ak.ae)).2)) rfl rfl) ?_
       refine bH fun uf=> ?_
       iterate 2 refine Gs ?_
       refine Gc ?_
       iterate 3 refine Gs ?_
       refine bM rfl rfl rfl (fun hg=>(Ry.yl (eJ rfl))) ?_
       refine bM rfl rfl rfl (fun hg=>(Ry.yl (eJ rfl))) ?_
       refine bM rfl rfl rfl (fun hg=>cE (dy (aG hg rfl) (dy (aG hg rfl) gB)) trivial) ?_
       refine bM rfl rfl rfl (fun hg=>(Ry.yl (iq (aG hg rfl)))) ?_
       refine Gs ?_
       refine Gc ?_
       refine au rfl (fun h7=> ?_) (fun h7=> ?_)
       ·
        exfalso;simp[IL,IM]at h7
       ·
        replace h7:=bz h7
        refine Gc ?_
        iterate 2 refine Gs ?_
        refine ag (gD rfl) ?_
        refine bo rfl u4.1 fun mj IN=> ?_
        have IP:bg mj=(ji (bg iP).ak.ae).1:=IN
        obtain⟨v1,v2,v3⟩:=u8
        rw[←IP]at v2 v3
        have v4:=v2.AS
        have v5:(ji (cv iP.ak.ae)).2=0:=v1
        have v6:mj.table.xs.length=0:=by rw[show mj.table.xs=[]from v3];rfl
        have v7:nC (bg mj) k bits=fQ:=by rw[(v2.DV k bits).1,v3];exact(D8 k bits).2
        have v8:nD (bg mj) k bits≠0:=by rw[(v2.DV k bits).2,v3];exact(D8 k bits).1
        refine Gs ?_
        refine ag (aU (v:= .agg (bU mj)) rfl rfl) ?_
        refine ag (aU (v:= .int .i64 ((ji (cv iP.ak.ae)).2)) rfl rfl) ?_
        refine bH fun DC=> ?_
        iterate 2 refine Gs ?_
        refine Gc ?_
        iterate 5 refine Gs ?_
        refine ag (aU (v:= .agg (ax (nC (bg mj) k bits))) rfl rfl) ?_
        refine ag (aU (v:= .int .i64 (nD (bg mj) k bits)) rfl rfl) ?_
        refine bH fun xR=> ?_
        iterate 2 refine Gs ?_
        refine Gc ?_
        iterate 3 refine Gs ?_
        refine eL rfl rfl rfl (by simp[v4,v5,v6,v7,v8]) (Ry.yl (aI (o':=9) rfl rfl)) ?_
        refine eL rfl rfl rfl (by simp[v4,v5,v6,v7,v8]) (Ry.yl (bJ rfl)) ?_
        refine eL rfl rfl rfl (by simp[v4,v5,v6,v7,v8]) (Ry.yl (kC rfl)) ?_
        refine eL rfl rfl rfl (by simp[v4,v5,v6,v7,v8]) (Ry.yl (ck rfl rfl rfl)) ?_
        refine ag (mz rfl (by simp[v4,v5,v6,v7,v8]) rfl rfl) ?_
        refine Gs ?_
        refine eL rfl rfl rfl (by simp[v4,v5,v6,v7,v8]) (Ry.yl (eJ rfl)) ?_
        refine eL rfl rfl rfl (by simp[v4,v5,v6,v7,v8]) (cE rfl trivial) ?_
        refine ag (mz rfl (by simp[v4,v5,v6,v7,v8]) rfl rfl) ?_
        refine Gs ?_
        refine eL rfl rfl rfl (by simp[v4,v5,v6,v7,v8]) (Ry.yl (aE rfl)) ?_
        refine eL rfl rfl rfl (by simp[v4,v5,v6,v7,v8]) (Ry.yl (ck rfl rfl rfl)) ?_
        refine ag (mz rfl (by simp[v4,v5,v6,v7,v8]) rfl rfl) ?_
        refine Gs ?_
        refine eL rfl rfl rfl (by simp[v4,v5,v6,v7,v8]) (Ry.yl (eJ rfl)) ?_
        refine eL rfl rfl rfl (by simp[v4,v5,v6,v7,v8]) (Ry.yl (cS (v:= .agg (ax fQ)) rfl (fun w=>by unfold ax da fQ;rw[vG];kernel_rfl))) ?_
        refine eL rfl rfl rfl (by simp[v4,v5,v6,v7,v8]) (Ry.yl (Bp rfl rfl)) ?_
        refine ag (mz rfl (by simp[v4,v5,v6,v7,v8]) rfl rfl) ?_
        refine Gs ?_
        refine Gc ?_
        refine aq (.inl rfl) (aJ rfl (al rfl)) (fun w1 hw=> ?_)
        exact⟨congrArg (fun b=>Ending.returned (Value.bool b)) ((by simp[v7])),ah.mem hw⟩
open Go.aA Go.Kb
open Go.RowKit
end Go.Proofs.YtaipiecplldinaaGreat
namespace Go.aA
open Go.ChangeShapes Go.WideShapes Go.ChangeAt Go.RowKit Go.Kb
variable {H:Type} {enc:TypeId×Value→H} {P:Program}
theorem Qj(hl:laidOutB P=true){W W':World}{sp:Nat→Bool}: ∀{ts:List TypeId} {vs:List Value} {ds:List (DataW H)} {ps:List MemPlace},
  (∀t∈ts,P.readableRec t=true∧t<P.types.size)→DataW.TrodAll enc P W 0 (fun _=>true) true ts vs ds ps→(∀p∈ps,W.sameAt W' p)→(∀p∈ps,sp p.block=true)→
  DataW.TrodAll enc P W' 0 sp true ts vs ds ps
 |[],_,_,_,_,h,_,_=>by
  obtain⟨rfl,rfl,rfl⟩:=trodAll_nil h
  exact rfl
 |t::_,_,_,_,ht,h,hs,hp=>by
  obtain⟨v,Qk,d,Ql,a,b,rfl,rfl,rfl,h1,h2⟩:=trodAll_cons h
  exact⟨a,b,WideElems.Trod_stays hl (ht t (by simp)).1 (ht t (by simp)).2 h1 (fun p h=>hs p (by simp[h])) (fun p h=>hp p (by simp[h])),
   Qj hl (fun t h=>ht t (by simp[h])) h2 (fun p h=>hs p (by simp[h])) (fun p h=>hp p (by simp[h])),rfl⟩
theorem IQ{W:World}{b:Nat}{sp:Nat→Bool}{hd:Bool}: ∀{ts:List TypeId} {vs:List Value} {ds:List (DataW H)} {ps:List MemPlace},
  DataW.TrodAll enc P W b sp hd ts vs ds ps→vs.length=ts.length∧ds.length=ts.length
 |[],_,_,_,h=>by
  obtain⟨rfl,rfl,rfl⟩:=trodAll_nil h
  exact⟨rfl,rfl⟩
 |_::_,_,_,_,h=>by
  obtain⟨v,Qk,d,Ql,a,b,rfl,rfl,rfl,h1,h2⟩:=trodAll_cons h
  have:=IQ h2
  simp[this.1,this.2]
theorem acE(hl:laidOutB P=true){f:Func}{s:ChangeSpec}{apart fresh handsOn:Bool}{W W':World}{args:Array Value}{ds gs:List (DataW H)}{before:List MemPlace}{tb:TypeId}
  (hp:f.params.toList.all (fun t=>P.readableRec t&&decide (t<P.types.size))=true) (hr:f.resultTypes= #[tb]) (hb:P.underlying tb=some .bool) (hv:s.vars=[])
  (IS: ∀ds:List (DataW H),ds.length=f.params.size→s.fn H ds={results:=[.lit (.bool true)],args:=ds})
  (hW:DataW.Whole enc P f.params.toList s.vars apart W args.toList ds gs before) (Qm:Below W.heap.size W W'):
  s.post enc P f apart fresh handsOn false W args (.bool true) W':=by
 have bu:=hW.lt
 have hW0:=hW
 obtain⟨p,q,hA,hV,rfl,lT,cz⟩:=hW
 rw[hv]at hV
 obtain⟨rfl,rfl⟩:=trodVars_none hV
 have hlen:=IQ hA
 have e1:s.fn H (ds++[])={results:=[.lit (.bool true)],args:=ds}:=by rw[List.append_nil];exact IS ds (by rw[hlen.2];simp)
 have lE: ∀t∈f.params.toList,P.readableRec t=true∧t<P.types.size:=fun t ht=>by
  simpa using List.all_eq_true.1 hp t ht
 refine⟨ds,[],p++[],[],p,[],hW0,?_,?_,?_,Qm.frame _,fun h=>by cases h⟩
 ·
  rw[e1,hr];exact trodAll_mk1 (shut_bool hb true)
 ·
  rw[e1]
  exact Qj hl lE hA (fun x hx=>Qm.same (bu x (by simp[hx]))) (fun x hx=>by simpa using bu x (by simp[hx]))
 ·
  rw[e1,hv];exact rfl
theorem acF{w:World}{b:Nat}{e:TypeId}{v:Value}(he:P.underlying e=some (.int .u8))(h:Cell.okWide P w .any b e v): ∃n:Nat,n<256∧v= .int .u8 n:=by
 cases v with
 |int k n=>
  simp only[Cell.okWide,he,Cell.ok,IntKind.has]at h
  obtain⟨rfl,h1,h2⟩:=h
  have a1:(0:Int)≤n:=h1
  have a2:n≤(255:Int):=h2
  exact⟨n.toNat,by omega,by rw[Int.toNat_of_nonneg a1]⟩
 |_=>simp[Cell.okWide,he,Cell.ok]at h
theorem acG{w:World}{b:Nat}{e:TypeId}{v:Value}(he:P.underlying e=some (.int .i64))(h:Cell.okWide P w .any b e v): ∃n:Int,v= .int .i64 n∧ -2^63≤n∧n<2^63:=by
 cases v with
 |int k n=>
  simp only[Cell.okWide,he,Cell.ok,IntKind.has]at h
  obtain⟨rfl,h1,h2⟩:=h
  have a1:(-2^63:Int)≤n:=h1
  have a2:n≤(2^63 -1:Int):=h2
  exact⟨n,rfl,a1,by omega⟩
 |_=>simp[Cell.okWide,he,Cell.ok]at h
theorem acH{w:World}{b:Nat}{t:TypeId}{v:Value}(he:P.underlying t=some (.int .i64))(h:Value.okWide P w .any b t v): ∃n:Int,v= .int .i64 n∧ -2^63≤n∧n<2^63:=by
 unfold Value.okWide at h
 rw[he]at h
 exact acG he h
theorem acI{w:World}{b:Nat}{t:TypeId}{v:Value}(he:P.underlying t=some (.int .u8))(h:Value.okWide P w .any b t v): ∃n:Nat,n<256∧v= .int .u8 n:=by
 unfold Value.okWide at h
 rw[he]at h
 exact acF he h
theorem Qn{α:Type}{l:List α}(h:l.length=5): ∃a b c d e,l=[a,b,c,d,e]:=match l,h with|[a,b,c,d,e],_=>⟨a,b,c,d,e,rfl⟩
theorem Qo{w:World}{b:Nat}{t:TypeId}{v:Value}(he:P.underlying t=some (.int .u8))(h:Value.okWide P w .any b t v): ∃n:UInt8,v= .int .u8 n.toNat:=by
 obtain⟨n,hn,rfl⟩:=acI he h
 exact⟨UInt8.ofNat n,by simp;omega⟩
open Go.ChangeShapes Go.WideShapes Go.ChangeAt Go.RowKit Go.Kb
variable {P:Program}
theorem IT{α:Type}{p:Nat→α→Prop}: ∀{n:Nat},(∀i,i<n→ ∃x,p i x)→ ∃l:List α,l.length=n∧ ∀i x,l[i]? =some x→p i x
 |0,_=>⟨[],rfl,fun i x h=>by simp at h⟩
 |n+1,h=>by
  obtain⟨l,hl,hp⟩:=IT (n:=n) fun i hi=>h i (by omega)
  obtain⟨x,hx⟩:=h n (by omega)
  refine⟨l++[x],by simp[hl],fun i y hy=> ?_⟩
  by_cases hi:i<n
  ·
   rw[List.getElem?_append_left (by omega)]at hy;exact hp i y hy
  ·
   have:i=n:=by
    have:=(List.getElem?_eq_some_iff.1 hy).1
    rw[List.length_append,hl]at this;simp at this;omega
   subst this
   rw[List.getElem?_append_right (by omega),hl]at hy
   have:x=y:=by simpa using hy
   exact this▸hx
class ky(P:Program)(t:TypeId)(τ:Type)[Deep τ]:Prop where
 sz:P.cellsOf t=Deep.c τ
 h: ∀{H:Type} {enc:TypeId×Value→H} {w:World} {fuel:Nat} {cs:List Value} {d:DataW H} {ps:List MemPlace},DataW.trod enc P w 0 (fun _=>true) true fuel t cs=some (d,ps)→(∀n∈d.weights P t,n≤reachBytes)→
  ∃x:τ,(Deep.cells x).toList=cs∧Deep.bb (hp w) x
theorem acJ{w:World}{b:Nat}{a:Addr}{n:Nat}{cs:List Value}(h:w.cells? b a n=some cs):cs.length=n∧ ∀j,j<n→w.cell? (a.add j)=cs[j]? :=by
 unfold World.cells? at h
 split at h
 ·
  have hl:=mapM_some_length h
  refine⟨by simpa using hl,fun j hj=> ?_⟩
  exact mapM_some_get h j j (by simp[hj])
 ·
  cases h
theorem IU{H:Type}{e:TypeId}{n:Nat}: ∀{l:List (DataW H)} {d:DataW H},d∈l→n∈d.weights P e→n∈DataW.weightsAll P e l
 |x::l,d,hd,hn=>by
  rw[DataW.weightsAll]
  rcases List.mem_cons.1 hd with rfl|hd
  ·
   exact List.mem_append_left _ hn
  ·
   exact List.mem_append_right _ (IU hd hn)
theorem IV{H:Type}{n:Nat}: ∀{ts:List TypeId} {l:List (DataW H)} {i:Nat} {t:TypeId} {d:DataW H},ts[i]? =some t→l[i]? =some d→n∈d.weights P t→n∈DataW.weightsEach P ts l
 |[],_,i,_,_,h,_,_=>by simp at h
 |_::_,[],i,_,_,_,h,_=>by simp at h
 |t0::ts,d0::l,0,t,d,ht,hd,hn=>by
  obtain rfl:t0=t:=by simpa using ht
  obtain rfl:d0=d:=by simpa using hd
  rw[DataW.weightsEach];exact List.mem_append_left _ hn
 |t0::ts,d0::l,i+1,t,d,ht,hd,hn=>by
  rw[DataW.weightsEach];exact List.mem_append_right _ (IV (i:=i) (by simpa using ht) (by simpa using hd) hn)
theorem acK:reachBytes≤140737488355328:=by decide
theorem wM{t e:TypeId}{τ:Type}[Deep τ](hu:P.underlying t=some (.slice e))(nf:Nat.ble 1 (P.bytesOf e)=true)(hc:1≤Deep.c τ)(hs:P.cellsOf t=1)[o:ky P e τ]:ky P t (Sl τ):=⟨hs,fun{H enc w fuel cs d ps} h hw=>by
 have hb:1≤P.bytesOf e:=Nat.le_of_ble_eq_true nf
 rcases Go.Deep.open_slice hu h with⟨rfl,_⟩|⟨a,len,cap,m,n,D,Pl,rfl,_,hl,_,hm,hx,BQ⟩
 ·
  exact⟨⟨Sv.none,[]⟩,rfl,vd⟩
 ·
  simp only[if_true]at hm
  subst hm
  have hd:d= .slice ((List.range len).map D) ((List.range (m -len)).map fun j=>D (len+j)):=congrArg Prod.fst hx
  subst hd
  simp only[DataW.weights,hu,List.length_map,List.length_range]at hw
  have uY:m≤140737488355328:=by
   have h1:=hw _ (List.mem_cons_self ..)
   have h2:(len+(m -len))*1≤(len+(m -len))*P.bytesOf e:=Nat.mul_le_mul_left _ hb
   have:=acK;omega
  have Qp: ∀i,i<m→ ∃cs',(cs'.length=Deep.c τ∧ ∀j,j<Deep.c τ→w.cell? ((a.add (i*Deep.c τ)).add j)=cs'[j]?)∧DataW.trod enc P w 0 (fun _=>true) true n e cs'=some (D i,Pl i):=fun i hi=>by
   obtain⟨cs',h1,h2⟩:=BQ i hi
   rw[o.sz]at h1
   exact⟨cs',acJ h1,h2⟩
  have Qq:0<m→a.spot=none:=fun hm=>by
   obtain⟨cs',⟨h1,h2⟩,_⟩:=Qp 0 hm
   have h3:=h2 0 (by omega)
   have e0:(a.add (0*Deep.c τ)).add 0=a:=by simp[Addr.add]
   rw[e0,List.getElem?_eq_getElem (by omega)]at h3
   unfold World.cell? at h3
   split at h3
   ·
    split at h3
    ·
     cases h3
    ·
     rename_i hs;simpa using hs
   ·
    cases h3
  obtain⟨l,lZ,Ea⟩:=IT (p:=fun i (x:τ)=>(∀j,j<Deep.c τ→w.cell? ((a.add (i*Deep.c τ)).add j)=(Deep.cells x)[j]?)∧Deep.bb (hp w) x) (n:=len) fun i hi=>by
   obtain⟨cs',⟨h1,h2⟩,h3⟩:=Qp i (by omega)
   obtain⟨x,nz,jZ⟩:=o.h h3 (fun k hk=>hw k (List.mem_cons_of_mem _ (List.mem_append_left _ (IU (List.mem_map.2 ⟨i,List.mem_range.2 hi,rfl⟩) hk))))
   refine⟨x,fun j hj=> ?_,jZ⟩
   rw[h2 j hj,←nz];simp
  refine⟨⟨⟨false,a.block,a.off,len,m,a.spot⟩,l⟩,rfl,⟨⟨(fun h=>by cases h),hl,by simp only;omega,Qq⟩,by simp[lZ],fun i x hi j hj=> ?_⟩,fun x hx=> ?_⟩
  ·
   have eX:i<len:=by rw[←lZ];exact(List.getElem?_eq_some_iff.1 hi).1
   have h1:=(Ea i x hi).1 j hj
   have hs:=Qq (by omega)
   have ea:(a.add (i*Deep.c τ)).add j=⟨a.block,a.off+i*Deep.c τ+j,none⟩:=by
    obtain⟨ab,ao,asp⟩:=a
    simp only at hs
    subst hs
    rw[Addr.gC,Addr.gC]
   rw[ea,rf]at h1
   exact h1
  ·
   obtain⟨i,hi⟩:=List.getElem?_of_mem hx
   exact(Ea i x hi).2⟩
theorem wj{H:Type}{enc:TypeId×Value→H}{w:World}{fuel:Nat}{t:TypeId}{cs:List Value}{d:DataW H}{ps:List MemPlace}{fs:Array Field}(hu:P.underlying t=some (.struct fs))(h:DataW.trod enc P w 0 (fun _=>true) true fuel t cs=some (d,ps))(hw: ∀n∈d.weights P t,n≤reachBytes)
  {i tf off:Nat} (mw:(fs[i]?).map (fun f=>(f.type,f.offset))=some (tf,off)) (τ:Type) [Deep τ] [o:ky P tf τ]:cs.length=P.cellsOf t∧ ∃x:τ,(Deep.cells x).toList=(cs.drop off).take (Deep.c τ)∧Deep.bb (hp w) x:=by
 obtain⟨f,hf,e⟩:=Option.map_eq_some_iff.1 mw
 obtain⟨rfl,rfl⟩:=Prod.mk.inj e
 obtain⟨xs,n,_,hx,hl,hlen,hg⟩:=DataW.trod_struct hu h
 have h1:=hg i f hf
 have hi:i<xs.length:=by rw[hlen];exact(Array.getElem?_eq_some_iff.1 hf).1
 rw[List.getElem?_eq_getElem hi,o.sz]at h1
 have hd:d= .agg (xs.map (·.1)):=congrArg Prod.fst hx
 subst hd
 obtain⟨x,nz,jZ⟩:=o.h (d:=xs[i].1) (ps:=xs[i].2) h1 (fun k hk=>hw k (by
  simp only[DataW.weights,hu]
  exact IV (i:=i) (t:=f.type) (d:=xs[i].1) (by
   have:fs.toList[i]? =some f:=by simpa using hf
   rw[List.getElem?_map,this];rfl) (by simp[hi]) hk))
 exact⟨hl,x,nz,jZ⟩
theorem acL{H:Type}{enc:TypeId×Value→H}{w:World}{fuel:Nat}{t e:TypeId}{m:Nat}{cs:List Value}{d:DataW H}{ps:List MemPlace}(hu:P.underlying t=some (.array m e))(h:DataW.trod enc P w 0 (fun _=>true) true fuel t cs=some (d,ps))(hw: ∀n∈d.weights P t,n≤reachBytes)
  (τ:Type) [Deep τ] [o:ky P e τ]:cs.length=P.cellsOf t∧ ∀i,i<m→ ∃x:τ,(Deep.cells x).toList=(cs.drop (i*Deep.c τ)).take (Deep.c τ)∧Deep.bb (hp w) x:=by
 cases fuel with
 |zero=>simp[DataW.trod]at h
 |succ n=>
  unfold DataW.trod at h
  rw[hu]at h
  split at h<;>simp_all
  rename_i m' e' heq
  obtain⟨hl,xs,hH,hd⟩:=h
  obtain⟨rfl,rfl⟩:=heq
  intro i hi
  have hlen:=mapM_some_length hH
  have nR:i<xs.length:=by simpa[hlen]using hi
  have h1:=mapM_some_get hH i i (by simp[hi])
  rw[List.getElem?_eq_getElem nR,o.sz]at h1
  obtain⟨rfl,-⟩:=hd
  exact o.h (d:=xs[i].1) (ps:=xs[i].2) h1 (fun k hk=>hw k (by
   simp only[DataW.weights,hu]
   exact IU (List.mem_map_of_mem (List.getElem_mem nR)) hk))
theorem IW{α:Type}{cs:List α}{a b:Nat}(h:cs.length=a+b):(cs.drop 0).take a++(cs.drop a).take b=cs:=by
 rw[List.drop_zero,List.take_of_length_le (l:=cs.drop a) (by rw[List.length_drop];omega),List.take_append_drop]
theorem acM{α:Type}{cs:List α}{a b c:Nat}(h:cs.length=a+b+c):(cs.drop 0).take a++(cs.drop a).take b++(cs.drop (a+b)).take c=cs:=by
 have h1:=IW (cs:=cs) (a:=a+b) (b:=c) (by omega)
 conv=>rhs;rw[←h1]
 congr 1
 rw[List.drop_zero,List.take_add]
def IX(n:Int):Array Value:= #[.int .i64 n]
instance:bD IX 1:=⟨fun _=>rfl,fun _=>by simp[IX,Value.oneCell']⟩
instance:Deep Int:=Deep.flat IX 1
def A3(n:UInt16):Array Value:= #[.int .u16 n.toNat]
instance:bD A3 1:=⟨fun _=>rfl,fun _=>by simp[A3,Value.oneCell']⟩
instance:Deep UInt16:=Deep.flat A3 1
def Eb(b:Bool):Array Value:= #[.bool b]
instance:bD Eb 1:=⟨fun _=>rfl,fun _=>by simp[Eb,Value.oneCell']⟩
instance:Deep Bool:=Deep.flat Eb 1
theorem acN{t:TypeId}(hu:P.underlying t=some (.int .i64))(hs:P.cellsOf t=1):ky P t Int:=⟨hs,fun h _=>by
 obtain⟨n,rfl,_,_⟩:=DataW.trod_int hu h
 exact⟨n,rfl,trivial⟩⟩
theorem acO{t:TypeId}(hu:P.underlying t=some (.int .u8))(hs:P.cellsOf t=1):ky P t UInt8:=⟨hs,fun h _=>by
 obtain⟨n,rfl,_,hw⟩:=DataW.trod_int hu h
 simp only[Lit.wf,Bool.and_eq_true,decide_eq_true_eq]at hw
 have h1:(0:Int)≤n:=hw.1
 have h2:n≤(255:Int):=hw.2
 refine⟨UInt8.ofNat n.toNat,?_,trivial⟩
 have:((UInt8.ofNat n.toNat).toNat:Int)=n:=by simp;omega
 show(aN (UInt8.ofNat n.toNat)).toList=_
 simp only[aN,this]⟩
theorem acP{t:TypeId}(hu:P.underlying t=some (.int .u16))(hs:P.cellsOf t=1):ky P t UInt16:=⟨hs,fun h _=>by
 obtain⟨n,rfl,_,hw⟩:=DataW.trod_int hu h
 simp only[Lit.wf,Bool.and_eq_true,decide_eq_true_eq]at hw
 have h1:(0:Int)≤n:=hw.1
 have h2:n≤(65535:Int):=hw.2
 refine⟨UInt16.ofNat n.toNat,?_,trivial⟩
 have:((UInt16.ofNat n.toNat).toNat:Int)=n:=by simp;omega
 show(A3 (UInt16.ofNat n.toNat)).toList=_
 simp only[A3,this]⟩
theorem open_bool{t:TypeId}(hu:P.underlying t=some .bool)(hs:P.cellsOf t=1):ky P t Bool:=⟨hs,fun h _=>by
 obtain⟨n,rfl,_⟩:=DataW.trod_bool hu h
 exact⟨n,rfl,trivial⟩⟩
theorem acQ{H:Type}{enc:TypeId×Value→H}{w:World}{b:Nat}{t e:TypeId}{τ:Type}[Deep τ][o:ky P t (Sl τ)](hu:P.underlying t=some (.slice e)){v:Value}{d:DataW H}{ps:List MemPlace}(hv:Value.okWide P w .any b t v)(h:DataW.Trod enc P w 0 (fun _=>true) true t v d ps)(hw: ∀n∈d.weights P t,n≤reachBytes):
  ∃x:Sl τ,v=x.sv.val∧Deep.bb (hp w) x:=by
 obtain⟨fuel,h⟩:=h
 obtain⟨x,h1,h2⟩:=o.h h hw
 refine⟨x,?_,h2⟩
 have hc:v.cells= #[v]:=by
  unfold Value.okWide at hv
  rw[hu]at hv
  unfold Cell.okWide at hv
  rw[hu]at hv
  cases v<;>simp_all[Cell.ok,Value.cells]
 rw[hc]at h1
 have:[x.sv.val]=[v]:=h1
 simpa using this.symm
theorem acR{H:Type}{enc:TypeId×Value→H}{w:World}{b:Nat}{t:TypeId}{τ:Type}[Deep τ][o:ky P t τ](hu: ∃d,P.underlying t=some d∧tk d=true){v:Value}{d:DataW H}{ps:List MemPlace}(hv:Value.okWide P w .any b t v)(h:DataW.Trod enc P w 0 (fun _=>true) true t v d ps)(hw: ∀n∈d.weights P t,n≤reachBytes):
  ∃x:τ,v= .agg (Deep.cells x)∧Deep.bb (hp w) x:=by
 obtain⟨fuel,h⟩:=h
 obtain⟨x,h1,h2⟩:=o.h h hw
 refine⟨x,?_,h2⟩
 obtain⟨dd,uu,F3⟩:=hu
 have hc: ∃cs,v= .agg cs:=by
  unfold Value.okWide at hv
  rw[uu]at hv
  cases dd<;>simp[tk]at F3
  ·
   obtain⟨cs,rfl,_⟩:=hv;exact⟨cs,rfl⟩
  ·
   obtain⟨cs,rfl,_⟩:=hv;exact⟨cs,rfl⟩
 obtain⟨cs,rfl⟩:=hc
 have:(Deep.cells x).toList=cs.toList:=h1
 rw[Array.toList_inj.1 this]
structure Arg(H:Type)(enc:TypeId×Value→H)(P:Program)(W:World)(b:Nat)(t:TypeId)(v:Value):Prop where
 ok:Value.okWide P W .any b t v
 trod: ∃d ps,DataW.Trod enc P W 0 (fun _=>true) true t v d ps∧ ∀n∈d.weights P t,n≤reachBytes
theorem Arg.sl{H:Type}{enc:TypeId×Value→H}{W:World}{b:Nat}{t e:TypeId}{v:Value}(h:Arg H enc P W b t v)(hu:P.underlying t=some (.slice e))(τ:Type)[Deep τ][o:ky P t (Sl τ)]: ∃x:Sl τ,v=x.sv.val∧Deep.bb (hp W) x:=by
 obtain⟨d,ps,h1,h2⟩:=h.trod
 exact acQ hu h.ok h1 h2
theorem Arg.agg{H:Type}{enc:TypeId×Value→H}{W:World}{b:Nat}{t:TypeId}{v:Value}(h:Arg H enc P W b t v){n:Nat}(hu:fY P t n)(τ:Type)[Deep τ][o:ky P t τ]: ∃x:τ,v= .agg (Deep.cells x)∧Deep.bb (hp W) x:=by
 obtain⟨d,ps,h1,h2⟩:=h.trod
 exact acR hu.row h.ok h1 h2
theorem Qr{H:Type}{enc:TypeId×Value→H}{W:World}{sp:Nat→Bool}{hd:Bool}: ∀{ts:List TypeId} {vs:List Value} {ds:List (DataW H)} {ps:List MemPlace},DataW.TrodAll enc P W 0 sp hd ts vs ds ps→ ∀(j:Nat) (t:TypeId) (v:Value),ts[j]? =some t→vs[j]? =some v→
  ∃d p,ds[j]? =some d∧DataW.Trod enc P W 0 sp hd t v d p
 |[],_,_,_,h,j,_,_,ht,_=>by simp at ht
 |t0::ts,vs,ds,ps,h,j,t,v,ht,hv=>by
  obtain⟨v0,Qk,d0,Ql,a,b,rfl,rfl,rfl,h1,h2⟩:=trodAll_cons h
  cases j with
  |zero=>
   obtain rfl:t0=t:=by simpa using ht
   obtain rfl:v0=v:=by simpa using hv
   exact⟨d0,a,rfl,h1⟩
  |succ j=>exact Qr h2 j t v (by simpa using ht) (by simpa using hv)
theorem acS{H:Type}{enc:TypeId×Value→H}{C:Checked}{os:Os}{f:FuncId}{fn:Func}{s:ChangeSpec}{conds:List PathCond}{apart fresh handsOn:Bool}{tb:TypeId}
  (own:ownKnob C.prog.godebug=none) (started:os.Started) (acT:C.prog.inits.idxOf? f=none) (acU:C.prog.funcs[f]? =some fn)
  (wit: ∃(w:World) (tape:Tape) (i:Input),w.os=os∧(w.forCall tape i).Shaped C.prog∧i.vars=[]∧Input.okWide C.prog (w.forCall tape i) .any w.heap.size f i∧
   s.pre6 enc C.prog fn conds apart (w.forCall tape i).memory i.args∧({}:Assume).holds C.prog (lone (Frame.enter C.prog f i.args .normal) [] (w.forCall tape i)))
  (hl:laidOutB C.prog=true) (hp:fn.params.toList.all (fun t=>C.prog.readableRec t&&decide (t<C.prog.types.size))=true) (hr:fn.resultTypes= #[tb]) (hb:C.prog.underlying tb=some .bool)
  (hv:s.vars=[]) (IS: ∀ds:List (DataW H),ds.length=fn.params.size→s.fn H ds={results:=[.lit (.bool true)],args:=ds})
  (acV: ∀(W:World) (base:Nat) (vs:List Value),vs.length=fn.params.size→(∀(j:Nat) t v,fn.params[j]? =some t→vs[j]? =some v→Arg H enc C.prog W base t v)→
   Calls C.prog f vs.toArray W fun e W'=>e= .returned (.bool true)∧Mem W [] W'):
  ReturnsInHanded {} C os f .any (s.pre6 enc C.prog fn conds apart) (s.post enc C.prog fn apart fresh handsOn false):=by
 refine returnsInHanded_of_change_shaped own started acT acU wit ?_
 intro W base args ds gs before acW hW _ pf _ _
 have hlen:args.toList.length=fn.params.size:=by
  obtain⟨p,q,hA,_⟩:=hW
  rw[(IQ hA).1];simp
 have h:=acV W base args.toList hlen (fun j t v h1 h2=>⟨acW j t v h1 (by simpa using h2),by
  obtain⟨p,q,hA,_⟩:=hW
  obtain⟨d,pp,hd,ht⟩:=Qr hA j t v (by simpa using h1) h2
  refine⟨d,pp,ht,fun n hn=> ?_⟩
  have hh:=List.all_eq_true.1 pf n (IV (i:=j) (t:=t) (d:=d) (by rw[List.getElem?_append_left (by have:=(Array.getElem?_eq_some_iff.1 h1).1;simpa using this)];simpa using h1)
   (by rw[List.getElem?_append_left (List.getElem?_eq_some_iff.1 hd).1];exact hd) hn)
  simpa using hh⟩)
 rw[Array.toArray_toList]at h
 exact h.mono fun e W' hh=>⟨_,hh.1,acE hl hp hr hb hv IS hW hh.2.below⟩
end Go.aA
namespace Go.Proofs.YtaipiecplldinaaGreat
open Go.aA Go.Kb
instance op3:ky Tryz.prog 3 Int:=acN Tryz.underlying3 (by kernel_rfl)
instance op4:ky Tryz.prog 4 Bool:=open_bool Tryz.underlying4 (by kernel_rfl)
instance op5:ky Tryz.prog 5 UInt8:=acO Tryz.underlying5 (by kernel_rfl)
instance akv:ky Tryz.prog 66 UInt16:=acP Tryz.underlying66 (by kernel_rfl)
instance:bD cT 16:=⟨gS,fun k=>(inferInstance:gm (cT k) 16).one⟩
instance:Deep Key:=Deep.flat cT 16
instance:bD da 18:=⟨oG,fun k=>(inferInstance:gm (da k) 18).one⟩
instance:Deep cJ:=Deep.flat da 18
instance akw:ky Tryz.prog 56 Key:=⟨by kernel_rfl,fun h hw=>by
 obtain⟨hl,he⟩:=acL Tryz.underlying56 h hw UInt8
 rw[show Tryz.prog.cellsOf 56=16 from by kernel_rfl]at hl
 obtain⟨l,lZ,Ea⟩:=IT (p:=fun i (x:UInt8)=>_) he
 refine⟨oF fun i=>(l.getD i 0).toNat,?_,trivial⟩
 refine List.ext_getElem? fun i=> ?_
 rw[Array.getElem?_toList]
 rcases Nat.lt_or_ge i 16 with hi|hi
 ·
  have hx:l[i]? =some (l.getD i 0):=oD (by omega)
  have h1:=congrArg (·[0]?) (Ea i _ hx).1
  simp only[List.getElem?_take,List.getElem?_drop]at h1
  rw[if_pos (by decide),show i*Deep.c UInt8+0=i from Nat.mul_one i]at h1
  have h3:some (Value.int .u8 (l.getD i 0).toNat)=_:=h1
  have e8:(l.getD i 0).toNat%2^8=(l.getD i 0).toNat:=Nat.mod_eq_of_lt (l.getD i 0).toNat_lt
  show(cT _)[i]? =_
  rw[lU _ _ hi,zd _ _ hi,e8,←h3]
 ·
  show(cT _)[i]? =_
  rw[JL _ _ hi,List.getElem?_eq_none (by omega)]⟩
instance akx:ky Tryz.prog 65 cJ:=⟨by kernel_rfl,fun h hw=>by
 obtain⟨hl,x0,h0,-⟩:=wj Tryz.underlying65 h hw (i:=0) (tf:=3) (off:=0) rfl Int
 obtain⟨-,x1,h1,-⟩:=wj Tryz.underlying65 h hw (i:=1) (tf:=3) (off:=1) rfl Int
 obtain⟨-,x2,h2,-⟩:=wj Tryz.underlying65 h hw (i:=2) (tf:=56) (off:=2) rfl Key
 refine⟨⟨x0,x1,x2⟩,?_,trivial⟩
 refine Eq.trans ?_ (acM (a:=1) (b:=1) (c:=16) (hl.trans (by kernel_rfl)))
 rw[show(Deep.cells (⟨x0,x1,x2⟩:cJ)).toList=(Deep.cells x0).toList++(Deep.cells x1).toList++(Deep.cells x2).toList from by show(da _).toList=_;unfold da;rw[Array.toList_append];rfl,h0,h1,h2]
 rfl⟩
instance aky:ky Tryz.prog 68 Rt:=⟨by kernel_rfl,fun h hw=>by
 obtain⟨hl,x0,h0,-⟩:=wj Tryz.underlying68 h hw (i:=0) (tf:=65) (off:=0) rfl cJ
 obtain⟨-,x1,h1,-⟩:=wj Tryz.underlying68 h hw (i:=1) (tf:=66) (off:=18) rfl UInt16
 refine⟨⟨x0,x1⟩,?_,trivial⟩
 refine Eq.trans ?_ (IW (a:=18) (b:=1) (hl.trans (by kernel_rfl)))
 rw[show(Deep.cells (⟨x0,x1⟩:Rt)).toList=(Deep.cells x0).toList++(Deep.cells x1).toList from by show(ax _).toList=_;unfold ax;rw[Array.toList_append];rfl,h0,h1]
 rfl⟩
end Go.Proofs.YtaipiecplldinaaGreat
namespace Go.aA
open Go.RowKit Go.Kb
open Go.RowKit Go.Kb
end Go.aA
namespace Go.Proofs.YtaipiecplldinaaGreat
open Go.aA Go.Kb
open Go.ChangeShapes Go.WideShapes Go.ChangeAt Go.RowKit
open Go.aA Go.Kb
open Go.ChangeShapes Go.WideShapes Go.ChangeAt Go.RowKit
open Go.aA Go.Kb
instance (priority:=high) akz:Deep Bool:=Deep.flat Eb 1
instance akA:ky Tryz.prog 91 Ch:=⟨by kernel_rfl,fun h hw=>by
 obtain⟨hl,x0,h0,-⟩:=wj Tryz.underlying91 h hw (i:=0) (tf:=68) (off:=0) rfl Rt
 obtain⟨-,x1,h1,-⟩:=wj Tryz.underlying91 h hw (i:=1) (tf:=4) (off:=19) rfl Bool
 refine⟨⟨x0,x1⟩,?_,trivial⟩
 refine Eq.trans ?_ (IW (a:=19) (b:=1) (hl.trans (by kernel_rfl)))
 rw[show(Deep.cells (⟨x0,x1⟩:Ch)).toList=(Deep.cells x0).toList++(Deep.cells x1).toList from by show(fN _).toList=_;unfold fN;rw[Array.toList_append];rfl,h0,h1]
 rfl⟩
instance akB:ky Tryz.prog 76 (Sl Ch):=wM Tryz.underlying76 (by kernel_rfl) (by decide) (by kernel_rfl)
open Go.aA Go.Kb Go.ChangeShapes Go.WideShapes Go.ChangeAt Go.RowKit
theorem Tryz.own:ownKnob Tryz.prog.godebug=none:=by kernel_rfl
theorem Tryz.laidOut:laidOutB Tryz.prog=true:=by kernel_rfl
set_option maxRecDepth 100000 in
theorem acX{H:Type}{enc:TypeId×Value→H}(W:World)(base:Nat)(vs:List Value)(hl:vs.length=5)(h: ∀(j:Nat) t v,Tryz.f7.params[j]? =some t→vs[j]? =some v→Arg H enc Tryz.prog W base t v):
  Calls Tryz.prog 7 vs.toArray W fun e W'=>e= .returned (.bool true)∧Mem W [] W':=by
 rw[Tryz.params7]at h
 obtain⟨v0,v1,v2,v3,v4,rfl⟩:=Qn hl
 obtain⟨x0,rfl⟩:=Qo (t:=5) Tryz.underlying5 (h 0 5 v0 rfl rfl).ok
 obtain⟨x1,rfl⟩:=Qo (t:=5) Tryz.underlying5 (h 1 5 v1 rfl rfl).ok
 obtain⟨x2,rfl,g2⟩:=(h 2 76 v2 rfl rfl).sl Tryz.underlying76 Ch
 obtain⟨x3,rfl,-⟩:=(h 3 56 v3 rfl rfl).agg (inferInstance:fY Tryz.prog 56 _) Key
 obtain⟨x4,rfl,b4⟩:=acH (t:=3) Tryz.underlying3 (h 4 3 v4 rfl rfl).ok
 exact acz W x0 x1 x2.sv x2.xs x3 x4 g2.1
set_option maxRecDepth 100000 in
theorem acY(os:Os)(started:os.Started)(H:Type)(enc:TypeId×Value→H):
  ReturnsInHanded {} Tryz.checked os 7 .any (Rows.fibTwiceSpec.pre6 enc Tryz.prog Tryz.f7 Rows.fibTwiceRow.domain false) (Rows.fibTwiceSpec.post enc Tryz.prog Tryz.f7 false true false false):=
 acS (C:=Tryz.checked) Tryz.own started (by kernel_rfl) Tryz.func7
  (ChangeSpec.witness6 (enc:=enc) (C:=Tryz.checked) false ⟨#[],#[.int .u8 0, .int .u8 0, .slice none 0 0, .agg #[.int .u8 0, .int .u8 0, .int .u8 0, .int .u8 0, .int .u8 0, .int .u8 0, .int .u8 0, .int .u8 0, .int .u8 0, .int .u8 0, .int .u8 0, .int .u8 0, .int .u8 0, .int .u8 0, .int .u8 0, .int .u8 0], .int .i64 0],[]⟩ 24 (by kernel_rfl) (by kernel_rfl) (by kernel_rfl) (by kernel_rfl))
  Tryz.laidOut (by kernel_rfl) rfl Tryz.underlying4 rfl (fun ds hd=>by obtain⟨d0,d1,d2,d3,d4,rfl⟩:=Qn (hd.trans (by kernel_rfl));rfl)
  (fun W base vs hl h=>acX W base vs (hl.trans (by kernel_rfl)) h)
theorem fibTwice_holds:Rows.FibTwiceSaid:=
 OpenClaim.holds_of_wide 7 Tryz.f7 rfl rfl rfl rfl rfl rfl rfl ⟨rfl,rfl,rfl,rfl,rfl⟩ rfl rfl rfl rfl rfl (by kernel_rfl) Tryz.func7 (by kernel_rfl)
  (of_decide_eq_true (by kernel_rfl)) (by unfold Func.isWrapper;first|(rw[if_pos (by decide+kernel)];kernel_rfl)|(rw[if_neg (by decide+kernel)];exact⟨rfl,rfl⟩))
  (fun os started H enc _=>acY os started H enc)
end Go.Proofs.YtaipiecplldinaaGreat

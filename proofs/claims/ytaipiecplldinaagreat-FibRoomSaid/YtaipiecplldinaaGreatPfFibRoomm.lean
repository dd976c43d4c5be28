/- The law FibRoom holds: where nothing fails each batch is done, but where there would be too many routes, or a change cannot be made; and then nothing is changed. It holds of all arguments that can be read; its arguments read behind the call as they did. -/
import Derived.Test.YtaipiecplldinaaGreatD6
import Derived.Test.YtaipiecplldinaaGreatD1
import Derived.ProofKit
import Derived.Deep.Slices
import Derived.HandedShaped
import Derived.Test.YtaipiecplldinaaGreatD3
import Derived.Test.YtaipiecplldinaaGreatD2
import Derived.Test.YtaipiecplldinaaGreatD5
import Derived.Test.YtaipiecplldinaaGreatRows
set_option maxRecDepth 20000
set_option linter.unusedSimpArgs false
set_option linter.unusedVariables false
namespace Go.Kb
open Go.aC
def Dh(c:CV):Prop:=cI≤c.ops∨ ∃b,cI≤(aj c b).aS
def qF(g:Nat)(a:List Int)(c:CV):Prop:= ∀k,0≤k→k<2*c.pages→bB (bJ c k)≠(⟨g+1,a⟩,0)
theorem aag{c:CV}(h:c.aR=[]):(bn c).2=false:=by rw[bn,h];rfl
theorem NV{c:CV}{b:Int}{p:List UInt8}(h:c.aR=[])(he:bC c b p≠0):fK c b (aj c b).used p=c:=by
 rw[fK,if_neg]
 rintro⟨h1,h2,h3,h4⟩
 apply he
 rw[bC,jq,if_pos h1,if_neg (by rw[h2];simp),if_neg (by rw[h3];simp),if_neg (by rw[aag h];simp)]
theorem qF.erase{g:Nat}{a:List Int}{c:CV}(h:qF g a c)(hb:fB c=true)(bU:gZ c){b:Int}(oO:0≤b):qF g a (da c b):=by
 have hP:=(tr c b).pages
 have hp:2≤c.pages:=(fv.1 hb).2.2.1
 intro k k0 k1 he
 rw[hP]at k1
 by_cases e:k/c.pages=b
 ·
  have:=(NU bU k0 (by omega) e (by rw[he])).1
  rw[this]at he;exact h k k0 k1 he
 ·
  have:bJ (da c b) k=bJ c k:=by
   have hk:=Int.ediv_nonneg k0 (show 0≤c.pages by omega)
   rw[bJ,bJ,hP,da,sK.1,xN (by omega)]
  rw[this]at he;exact h k k0 k1 he
theorem aah{c:CV}{b:Int}(q:dF c b=1):m0 c b=false:=by
 cases ho:m0 c b with
 |false=>rfl
 |true=>
  exfalso
  rw[dF,if_pos ho]at q
  by_cases h1:c.off=true
  ·
   rw[if_pos h1]at q;cases q
  ·
   rw[if_neg h1]at q
   by_cases h2:(aj c b).bad=true
   ·
    rw[if_pos h2]at q;cases q
   ·
    rw[if_neg h2]at q
    by_cases h3:(bn c).2=true
    ·
     rw[if_pos h3,kt]at q;split at q<;>cases q
    ·
     rw[if_neg h3]at q;cases q
theorem aai{g:Nat}{at_ a:List Int}{last:Int}{c:CV}(h:Wv g at_ last a c)(bU:gZ c)(hl:last=0∨last=1):
  (∀L,Kd L c (aW c last).1)∧Wv g at_ last a (aW c last).1∧(qF g a c→qF g a (aW c last).1)∧((aW c last).2.2=7→(aW c last).1.off=true)∧
   ((aW c last).2.2=0→((aW c last).2.1=0∨(aW c last).2.1=1)∧0<dG (aW c last).1 (aW c last).2.1)∧((aW c last).2.2≠0→(aW c last).2.2=7∨(aW c last).2.2=9∨((aW c last).2.2=1∧Dh (aW c last).1)):=by
 have hk:=(fv.1 h.bears).1
 have h4:=(fv.1 h.bears).2.1
 have z7: ∀{P:Prop},(0:Int)=7→P:=fun h=>absurd h (by decide)
 rw[aW]
 by_cases h1:0<dG c last
 ·
  rw[if_pos h1];exact⟨fun L=> .cX _ _,h,id,fun h=>z7 h,fun _=>⟨hl,h1⟩,fun h=>absurd rfl h⟩
 ·
  rw[if_neg h1]
  by_cases h2:0<dG c (1 -last)
  ·
   rw[if_pos h2];exact⟨fun L=> .cX _ _,h,id,fun h=>z7 h,fun _=>⟨by simp only;omega,h2⟩,fun h=>absurd rfl h⟩
  ·
   rw[if_neg h2]
   by_cases h3:(aj c (1 -last)).bad=true
   ·
    rw[if_pos h3];exact⟨fun L=> .cX _ _,h,id,fun h=>absurd (show(9:Int)=7 from h) (by decide),fun h=>absurd (show(9:Int)=0 from h) (by decide),fun _=> .inr (.inl rfl)⟩
   ·
    rw[if_neg h3]
    refine⟨fun L=>ZS (by omega),h.erase bU (by omega) (by omega) (by omega),fun g=>g.erase h.bears bU (by omega),Nz,fun he=>⟨by simp only;omega,?_⟩,fun he=> ?_⟩
    ·
     obtain⟨e1,e2,e3,e4,e5⟩:=zg he
     have hh:=(nJ.1 e1).1
     have hd:=eF hk
     show 0<dG (da c (1 -last)) (1 -last)
     rw[e5,dG,jZ,oD hh,e4,e3]
     simp only[Bool.false_eq_true,if_false];omega
    ·
     simp only at he
     rcases Fs c (1 -last)with q|q|q|q
     ·
      exact absurd q he
     ·
      refine .inr (.inr ⟨q,?_⟩)
      simp only
      have je:=aah q
      have aaj:da c (1 -last)=c:=by rw[da,q,iE,if_neg (by decide),fA,if_neg (by rw[je];simp)]
      rw[aaj]
      have hh:fY c (1 -last)=true:=gv.2 ⟨hk,by omega,by omega⟩
      by_cases ho:c.ops<cI
      ·
       right
       refine⟨1 -last,?_⟩
       apply Classical.byContradiction
       intro hw
       rw[nJ.2 ⟨hh,ho,by omega⟩]at je;cases je
      ·
       exact .inl (by omega)
     ·
      exact .inl q
     ·
      exact .inr (.inl q)
theorem aak{c:CV}{b:Int}{p:List UInt8}(hh:fY c b=true)(hf:0<dG c b)(hl:(p.length:Int)=c.size)(h:bC c b p=1):cI≤c.ops∧fK c b (aj c b).used p=c:=by
 have je:mq c b (aj c b).used p=false:=by
  cases ho:mq c b (aj c b).used p with
  |false=>rfl
  |true=>
   rw[bC,jq,if_pos ho]at h
   split at h
   ·
    cases h
   ·
    split at h
    ·
     cases h
    ·
     split at h
     ·
      rw[kt]at h;split at h<;>cases h
     ·
      cases h
 have hu:=(dX.1 (oB hh)).2.1
 have hb:=BW hf
 rw[dG,if_neg (by rw[hb];simp)]at hf
 refine⟨?_,by rw[fK,if_neg (by rw[je];simp)]⟩
 apply Classical.byContradiction
 intro hw
 rw[iW.2 ⟨hh,hu,by omega,hl,by omega⟩]at je;cases je
theorem qF.prog{g:Nat}{a:List Int}{c:CV}{b:Int}{p:List UInt8}(h:qF g a c)(hf:c.aR=[])(he:bC c b p≠0):qF g a (bD c b p):=by
 intro k k0 k1 e
 rw[bD,Dg,NV hf he]at e
 rw[bD,(BP _ _ _).pages,NV hf he]at k1
 exact h k k0 k1 e
theorem NW{p:List UInt8}: ∀(l:List (List UInt8)) (m:Nat),m≤l.foldl (fun m p=>max m (j7 p)) m∧(p∈l→j7 p≤l.foldl (fun m p=>max m (j7 p)) m)
 |[],m=>⟨Nat.le_refl _,fun h=>by cases h⟩
 |q::r,m=>by
  obtain⟨h1,h2⟩:=NW (p:=p) r (max m (j7 q))
  refine⟨by rw[List.foldl_cons];omega,fun h=> ?_⟩
  rw[List.foldl_cons]
  rcases List.mem_cons.1 h with rfl|h
  ·
   omega
  ·
   exact h2 h
theorem Hq{M:Nat}: ∀(l:List (List UInt8)) (m:Nat),m≤M→(∀p∈l,j7 p≤M)→l.foldl (fun m p=>max m (j7 p)) m≤M
 |[],m,h,_=>h
 |q::r,m,h,hp=>by
  rw[List.foldl_cons]
  exact Hq r _ (by have:=hp q List.mem_cons_self;omega) fun p gP=>hp p (List.mem_cons_of_mem _ gP)
theorem Wv.last{g:Nat}{at_ a:List Int}{last:Int}{c:CV}(h:Wv g at_ last a c)(hp:Pl c a){b:Int}(hb:b=0∨b=1){k0:Int}(q0:0≤k0)(q1:k0/c.pages=b)(q2:bB (bJ c k0)=(⟨g+1,a⟩,0)):
  eV ⟨c,a,g+1,if j8 c 1=g+1 then 1 else b⟩:=by
 have iK:2≤c.pages:=(fv.1 h.bears).2.2.1
 obtain⟨l0,l1⟩:=Ae h.bears
 have bp: ∀k:Int,k/c.pages<2→k<2*c.pages:=fun k hk=>by
  apply Classical.byContradiction
  intro hn
  have:2≤k/c.pages:=by
   have:=Int.ediv_le_ediv (show 0<c.pages by omega) (show 2*c.pages≤k by omega)
   rwa [Int.mul_ediv_cancel _ (by omega)]at this
  omega
 obtain⟨i,hR,i0,i1,i2,i3⟩:=h.NT hp q0 (bp k0 (by omega)) q2
 have GF:i/c.pages=0∨i/c.pages=1:=by
  have h1:=Int.ediv_nonneg i0 (show 0≤c.pages by omega)
  have h2:i/c.pages<2:=Int.ediv_lt_of_lt_mul (by omega) i1
  omega
 have hle: ∀k,0≤k→k<2*c.pages→j7 (bJ c k)≤g+1:=fun k k0 k1=>by
  rw[j7]
  split
  ·
   rename_i hv
   obtain⟨j,_,_,_,_,_,j5⟩:=h.xk
   rcases j5 k k0 k1 hv with r|r|r
   ·
    omega
   ·
    omega
   ·
    rw[r.1];exact Nat.le_refl _
  ·
   omega
 have NX: ∀p∈(aj c 1).pages,∃k,c.pages≤k∧k<2*c.pages∧bJ c k=p:=fun p ub=>by
  obtain⟨j,hj⟩:=List.getElem?_of_mem ub
  have jj:=(List.getElem?_eq_some_iff.1 hj).1
  refine⟨c.pages+j,by omega,by omega,?_⟩
  have:=rK h.bears (k:=(aj c 0).pages.length+j) (by omega)
  rw[show(((aj c 0).pages.length+j:Nat):Int)=c.pages+j by omega]at this
  rw[←this]
  simp only[List.getD]
  rw[List.getElem?_append_right (by omega),Nat.add_sub_cancel_left,hj];rfl
 have aal:i/c.pages=(if j8 c 1=g+1 then 1 else b):=by
  rcases GF with e|e
  ·
   have eP:i<c.pages:=by
    apply Classical.byContradiction
    intro hn
    have:=Int.ediv_le_ediv (show 0<c.pages by omega) (show c.pages≤i by omega)
    rw[Int.ediv_self (by omega)]at this;omega
   have hg:j8 c 1≤g:=by
    refine Hq _ 0 (Nat.zero_le _) fun p ub=> ?_
    obtain⟨k,F3,og,rfl⟩:=NX p ub
    rw[j7]
    split
    ·
     rename_i hv
     obtain⟨j,_,_,_,_,_,j5⟩:=h.xk
     rcases j5 k (by omega) og hv with r|r|r
     ·
      omega
     ·
      omega
     ·
      have:=i3 k og r.1;omega
    ·
     omega
   rw[if_neg (by omega),e]
   have ajh:=i3 k0 (bp k0 (by omega)) q2
   have:k0/c.pages=0:=Int.ediv_eq_zero_of_lt q0 (by omega)
   omega
  ·
   have eP:c.pages≤i:=by
    apply Classical.byContradiction
    intro hn
    have:i/c.pages=0:=Int.ediv_eq_zero_of_lt i0 (by omega)
    omega
   have hg:j8 c 1=g+1:=by
    have h1:j8 c 1≤g+1:=Hq _ 0 (Nat.zero_le _) fun p ub=>by
     obtain⟨k,F3,og,rfl⟩:=NX p ub
     exact hle k (by omega) og
    have h2:bJ c i∈(aj c 1).pages:=by
     rw[bJ,e]
     have mD:0≤i%c.pages:=Int.emod_nonneg _ (by omega)
     have nR:i%c.pages<c.pages:=Int.emod_lt_of_pos _ (by omega)
     have hj:(i%c.pages).toNat<(aj c 1).pages.length:=by omega
     simp only[List.getD]
     rw[List.getElem?_eq_getElem hj];exact List.getElem_mem hj
    have h3:=(NW (p:=bJ c i) (aj c 1).pages 0).2 h2
    have h4:j7 (bJ c i)=g+1:=by rw[j7,if_pos (by rw[i2]),i2]
    have h5:j8 c 1=(aj c 1).pages.foldl (fun m p=>max m (j7 p)) 0:=rfl
    omega
   rw[if_pos hg,e]
 rw[←aal];exact hR
theorem NY: ∀(n:Nat) {x:WV} {a:List Int} {b:List UInt8},cO x→Wv x.v.gen x.v.at_ x.v.last a x.v.ae→Pl x.v.ae a→gZ x.v.ae→bB b=(⟨x.v.gen+1,a⟩,0)→(b.length:Int)=x.v.ae.size→(cI -x.v.ae.ops).toNat<n→
  (∀L,Kd L x.v.ae (gf n x a b).1.v.ae)∧((gf n x a b).2=0→eV (gf n x a b).1.v∧(gf n x a b).1.v.at_=a)∧
  ((gf n x a b).2≠0→(gf n x a b).1=x.on (gf n x a b).1.v.ae∧Wv x.v.gen x.v.at_ x.v.last a (gf n x a b).1.v.ae∧(x.v.ae.aR=[]→qF x.v.gen a x.v.ae→qF x.v.gen a (gf n x a b).1.v.ae)∧
   ((gf n x a b).2=7∨(gf n x a b).2=9∨((gf n x a b).2=1∧Dh (gf n x a b).1.v.ae)))∧((gf n x a b).2=7→(gf n x a b).1.v.ae.off=true)
 |0,x,a,b,_,_,_,_,_,_,hn=>by omega
 |n+1,x,a,b,hx,hw,ha,bU,hr,dt,hn=>by
  have hl:=hx.last
  obtain⟨k1,k2,k3,k4,k5,k6⟩:=aai hw bU hl
  obtain⟨o1,o2,o3,o4⟩:=BX (last:=x.v.last) hx.ae hl
  have lh:0≤x.v.last:=by omega
  rw[gf]
  by_cases h0:(aW x.v.ae x.v.last).2.2≠0
  ·
   rw[if_pos h0]
   exact⟨k1,fun h=>absurd h h0,fun _=>⟨rfl,k2,fun _ g=>k3 g,k6 h0⟩,k4⟩
  ·
   rw[if_neg h0]
   obtain⟨g1,g2⟩:=k5 (by simpa using h0)
   have aam:gZ (aW x.v.ae x.v.last).1:=bU.kd (k1 [])
   have hh:fY (aW x.v.ae x.v.last).1 (aW x.v.ae x.v.last).2.1=true:=by
    have:=(fv.1 k2.bears).2.1
    exact gv.2 ⟨o1,by omega,by omega⟩
   have oO:0≤(aW x.v.ae x.v.last).2.1:=by omega
   have eL:=k2.prog aam oO lh hr
   have sL: ∀L,Kd L x.v.ae (bD (aW x.v.ae x.v.last).1 (aW x.v.ae x.v.last).2.1 b):=fun L=>(k1 L).trans C7
   by_cases h1:bC (aW x.v.ae x.v.last).1 (aW x.v.ae x.v.last).2.1 b=0
   ·
    rw[if_pos h1]
    refine⟨sL,fun _=>⟨?_,rfl⟩,fun h=>absurd rfl h,fun h=>absurd (show(0:Int)=7 from h) (by decide)⟩
    have hz:=nM h1
    obtain⟨j1,j2,j3,j4,j5⟩:=iW.1 hz.1
    have hP:=(gU (aW x.v.ae x.v.last).1 (aW x.v.ae x.v.last).2.1 b).pages
    generalize(aW x.v.ae x.v.last).1=c at*
    generalize(aW x.v.ae x.v.last).2.1=B at*
    have hd:(B*c.pages+(aj c B).used)/c.pages=B:=by
     rw[Int.add_comm,Int.add_mul_ediv_right _ _ (by omega),Int.ediv_eq_zero_of_lt j2 j3,Int.zero_add]
    have hm:(B*c.pages+(aj c B).used)%c.pages=(aj c B).used:=by
     rw[Int.add_comm,Int.add_mul_emod_self_right,Int.emod_eq_of_lt j2 j3]
    have zx:=(dX.1 (oB j1)).1
    have nV:bJ (bD c B b) (B*c.pages+(aj c B).used)=b:=by
     rw[hz.2.2.2.2]
     show(aj _ ((B*c.pages+(aj c B).used)/c.pages)).pages.getD ((B*c.pages+(aj c B).used)%c.pages).toNat []=b
     rw[hd,hm,gR,oD j1]
     simp only[List.getD]
     rw[List.getElem?_set_self (by omega),mZ,hz.2.2.2.1];rfl
    have:0≤B*c.pages:=Int.mul_nonneg oO (by omega)
    exact eL.last (k0:=B*c.pages+(aj c B).used) (ha.kd (sL a) fun _ g=>g) g1 (by omega) (by rw[hP,hd]) (by rw[nV];exact hr)
   ·
    rw[if_neg h1]
    by_cases h9:bC (aW x.v.ae x.v.last).1 (aW x.v.ae x.v.last).2.1 b≠9
    ·
     rw[if_pos h9]
     refine⟨sL,fun h=>absurd h h1,fun _=>⟨rfl,eL,fun hf je=>(k3 je).prog (by rw[(k1 []).mJ];exact hf) h1,?_⟩,C9⟩
     rcases zh (aW x.v.ae x.v.last).1 (aW x.v.ae x.v.last).2.1 (aj (aW x.v.ae x.v.last).1 (aW x.v.ae x.v.last).2.1).used b with q|q|q|q
     ·
      exact absurd q h1
     ·
      obtain⟨t1,t2⟩:=aak hh g2 (by rw[dt,o2.size]) q
      refine .inr (.inr ⟨q, .inl ?_⟩)
      simp only[WV.on]
      rw[bD,zb,t2];exact t1
     ·
      exact .inl q
     ·
      exact absurd q h9
    ·
     rw[if_neg h9]
     have e9:bC (aW x.v.ae x.v.last).1 (aW x.v.ae x.v.last).2.1 b=9:=by simpa using h9
     have ho:=rf (BW g2) (p:=b) (.inl e9)
     have bP:=kz o1 (aW x.v.ae x.v.last).2.1 b
     have eQ:=o2.trans (gU (aW x.v.ae x.v.last).1 (aW x.v.ae x.v.last).2.1 b)
     have hle:=qm bP
     have ft:=hx.on bP eQ
     obtain⟨t1,t2,t3,t4⟩:=NY n (x:=x.on (bD (aW x.v.ae x.v.last).1 (aW x.v.ae x.v.last).2.1 b)) (a:=a) (b:=b) ft eL (ha.kd (sL a) fun _ g=>g) (bU.kd (sL [])) hr (by rw[dt];exact eQ.size.symm) (by simp only[WV.on];omega)
     refine⟨fun L=>(sL L).trans (t1 L),t2,fun h=> ?_,t4⟩
     obtain⟨s1,s2,s3,s4⟩:=t3 h
     refine⟨by rw[s1,KY];rfl,s2,fun hf je=>s3 (by rw[←hf];exact(sL []).mJ) ((k3 je).prog (by rw[(k1 []).mJ];exact hf) h1),s4⟩
structure Sf(x:WV)(bs:List (List UInt8))(y:WV)(e:Int):Prop where
 kd:Kd [] x.v.ae y.v.ae
 len:y.v.at_.length=x.v.at_.length
 aY:e=0→eV y.v∧cj y.v=bs
 err:e≠0→(e=7∨e=9∨(e=1∧Dh y.v.ae))∨(eV y.v∧cj y.v=cj x.v)
 vC:e≠0→x.v.ae.aR=[]→eV y.v∧cj y.v=cj x.v
 any: ∃u:VV,eV u∧u.ae=y.v.ae∧u.at_.length=x.v.at_.length∧(cj u=cj x.v∨cj u=bs)
 off:e=7→y.v.ae.off=true
theorem NZ{v:VV}{c:CV}(hp:Pl v.ae v.at_)(k:Kd v.at_ v.ae c):cj {v with ae:=c}=cj v:=Da hp k fun _ h=>h
theorem Sf.data{x:WV}(h:eV x.v){c:CV}(k:Kp x.v.at_ x.v.ae c){e:Int}{bs:List (List UInt8)}(sJ:e=0→bs=cj x.v)(ho:e=7→c.off=true):Sf x bs (x.on c) e:=by
 have h2:eV (x.on c).v∧cj (x.on c).v=cj x.v:=⟨h.kp k,NZ h.pl k.toKd⟩
 exact⟨k.toKd.sub fun _ h=>absurd h List.not_mem_nil,rfl,fun g=>⟨h2.1,by rw[sJ g];exact h2.2⟩,fun _=> .inr h2,fun _ _=>h2,⟨_,h2.1,rfl,rfl, .inl h2.2⟩,ho⟩
theorem Sf.trans{x y z:WV}{bs:List (List UInt8)}{e:Int}(h:Sf x (cj x.v) y 0)(g:Sf y bs z e):Sf x bs z e:=by
 have hb:=(h.aY rfl).2
 refine⟨h.kd.trans g.kd,g.len.trans h.len,g.aY,fun he=> ?_,fun he hf=> ?_,?_,g.off⟩
 ·
  rw[←hb];exact g.err he
 ·
  rw[←hb];exact g.vC he (by rw[h.kd.mJ];exact hf)
 ·
  rw[←hb,←h.len];exact g.any
theorem Hr{x:WV}{a:List Int}(hx:cO x)(h:eV x.v)(bU:gZ x.v.ae)(ha:Pl x.v.ae a)(dD:a.length=x.v.at_.length):Sf x (a.map (dY x.v.ae)) (dI x a).1 (dI x a).2∧((dI x a).2=0→(dI x a).1.v.at_=a):=by
 rw[dI]
 by_cases h0:(cN ⟨x.v.gen+1,a⟩ x.v.ae.size).2≠0
 ·
  rw[if_pos h0]
  refine⟨?_,fun g=>absurd g h0⟩
  have:=Sf.data (x:=x) h (.cX _ _) (e:=(cN ⟨x.v.gen+1,a⟩ x.v.ae.size).2) (bs:=a.map (dY x.v.ae)) (fun g=>absurd g h0) (fun g=>by
   rw[cN]at g
   split at g
   ·
    rcases wS ⟨2,max 0 ((a.length:Int) -1),x.v.gen+1,fZ a⟩ x.v.ae.size with q|q
    ·
     rw[q]at g;cases g
    ·
     rw[q]at g;cases g
   ·
    cases g)
  rw[KX]at this;exact this
 ·
  rw[if_neg h0]
  have hm:=ZN (by simpa using h0)
  obtain⟨t1,t2,t3,t4⟩:=NY ((cI -x.v.ae.ops).toNat+1) (b:=(cN ⟨x.v.gen+1,a⟩ x.v.ae.size).1) hx (h.wv a) ha bU (ZM hm) (Nr hm) (by omega)
  generalize gf ((cI -x.v.ae.ops).toNat+1) x a (cN ⟨x.v.gen+1,a⟩ x.v.ae.size).1=W at*
  have rF:cj ⟨W.1.v.ae,a,x.v.gen+1,0⟩=a.map (dY x.v.ae):=Da ha (t1 a) fun _ g=>g
  have mK:cj ⟨W.1.v.ae,x.v.at_,x.v.gen,x.v.last⟩=cj x.v:=NZ h.pl (t1 x.v.at_)
  have fw:=h.pl.kd (t1 x.v.at_) fun _ g=>g
  have oH:=ha.kd (t1 a) fun _ g=>g
  have aan:qF x.v.gen a x.v.ae:=fun k k0 k1 e=>by
   have:=(NO h.bears h.roots).2 k k0 k1 (by rw[e])
   rw[e,h.gen]at this
   simp only at this;omega
  refine⟨⟨t1 [],?_,fun g=> ?_,fun g=> ?_,fun g hf=> ?_,?_,t4⟩,fun g=>(t2 g).2⟩
  ·
   by_cases g:W.2=0
   ·
    rw[(t2 g).2,dD]
   ·
    rw[(t3 g).1];rfl
  ·
   obtain⟨q1,q2⟩:=t2 g
   refine⟨q1,?_⟩
   show W.1.v.at_.map (dY W.1.v.ae)=_
   rw[q2];exact rF
  ·
   exact .inl (t3 g).2.2.2
  ·
   obtain⟨q1,q2,q3,_⟩:=t3 g
   have:=q2.NQ fw (q3 hf aan)
   rw[q1]
   exact⟨this,mK⟩
  ·
   by_cases g:W.2=0
   ·
    obtain⟨q1,q2⟩:=t2 g
    refine⟨W.1.v,q1,rfl,by rw[q2,dD], .inr ?_⟩
    show W.1.v.at_.map (dY W.1.v.ae)=_
    rw[q2];exact rF
   ·
    obtain⟨q1,q2,_⟩:=t3 g
    obtain⟨u,hu,hc,Di⟩:=q2.some fw oH
    rcases Di with rfl|⟨e1,e2⟩
    ·
     exact⟨_,hu,rfl,rfl, .inl mK⟩
    ·
     refine⟨u,hu,hc,by rw[e1,dD], .inr ?_⟩
     show u.at_.map (dY u.ae)=_
     rw[e1,hc];exact rF
open Go.aC
theorem Sf.by{x y:WV}{bs:List (List UInt8)}{e:Int}(h:Sf x bs y e)(b:Bool):Sf x bs {y with beyond:=b} e:=⟨h.kd,h.len,h.aY,h.err,h.vC,h.any,h.off⟩
theorem Sf.cE{x y:WV}{bs:List (List UInt8)}{e:Int}{b:Bool}(h:Sf {x with beyond:=b} bs y e):Sf x bs y e:=⟨h.kd,h.len,h.aY,h.err,h.vC,h.any,h.off⟩
theorem Sf.ne{x y:WV}{bs:List (List UInt8)}{e:Int}(h:Sf x (cj x.v) y e)(he:e≠0):Sf x bs y e:=
 ⟨h.kd,h.len,fun g=>absurd g he,h.err,h.vC,by
  obtain⟨u,h1,h2,h3,h4⟩:=h.any
  exact⟨u,h1,h2,h3, .inl (h4.elim id id)⟩,h.off⟩
theorem Sf.stay{x:WV}(h:eV x.v){e:Int}(he:e≠7):Sf x (cj x.v) x e:=by
 have:=Sf.data (x:=x) h (.cX _ _) (e:=e) (bs:=cj x.v) (fun _=>rfl) (fun g=>absurd g he)
 rw[KX]at this;exact this
theorem Sf.zero{x y:WV}{bs:List (List UInt8)}{e:Int}(h:Sf x bs y e)(h0:e≠0)(h7:e≠7)(h9:e≠9)(h1:e≠1):Sf x (cj x.v) y 0:=by
 have hr:eV y.v∧cj y.v=cj x.v:=(h.err h0).resolve_left fun g=>by
  rcases g with g|g|g
  ·
   exact h7 g
  ·
   exact h9 g
  ·
   exact h1 g.1
 exact⟨h.kd,h.len,fun _=>hr,fun g=>absurd rfl g,fun g=>absurd rfl g,⟨y.v,hr.1,rfl,h.len, .inl hr.2⟩,fun g=>absurd g (by decide)⟩
theorem aao{x:WV}{src to:Int}(hx:cO x)(h:eV x.v)(bU:gZ x.v.ae)(lH:2≤src)(nq:0≤to→to≠src)(ht:0≤to→2≤to∧to<x.v.ae.blocks.length∧(aj x.v.ae to).bad=false):
  Sf x (cj x.v) (cU x src to).1 (cU x src to).2.2∧((cU x src to).2.1=true→(cU x src to).2.2=0∧jT (cU x src to).1.v.at_ x.v.ae src)∧((cU x src to).2.2=6→(cU x src to).1=x.on (cU x src to).1.v.ae):=by
 have hp:1≤x.v.ae.pages:=by have:=hx.pages;omega
 obtain⟨t1,t2,t3,t4⟩:=Df lH nq hp x.v.at_ 0 (c:=x.v.ae) (a:=x.v.at_) hx.ae h.pl (.cX _ _) h.pl rfl ht rfl (fun _ _=>rfl) (fun j n hj=>by omega) rfl
 rw[cU]
 split
 ·
  rename_i e he
  exact⟨Sf.data h t1 (fun _=>rfl) (fun g=>t3 (by rw[he];exact congrArg some g)),fun g=>absurd (show false=true from g) (by simp),fun _=>rfl⟩
 ·
  rename_i he
  obtain⟨g1,g2,g3,g4⟩:=t2 he
  have ft:=hx.on (t1.ok hx.ae) t1.bS
  have hw:=Hr ft (h.kp t1) (bU.kd t1.toKd) g1 g3
  have hs:=Sf.data h t1 (e:=0) (bs:=cj x.v) (fun _=>rfl) (fun g=>absurd g (by decide))
  have l6:=hw.1
  rw[show List.map (dY (x.on (bV x.v src to x.v.at_ 0 x.v.ae x.v.at_).c).v.ae) (bV x.v src to x.v.at_ 0 x.v.ae x.v.at_).a=cj x.v from g2]at l6
  refine⟨hs.trans l6,fun g=> ?_,fun g=>absurd g (Fu _ _)⟩
  simp only[decide_eq_true_eq]at g
  refine⟨g,?_⟩
  rw[hw.2 g];exact g4
theorem aap{c:CV}{l:List ax}{fl:List Int}(hd:pN c fl l):Kp fl c (bT c l).1∧((bT c l).2.2=7→(bT c l).1.off=true)∧((bT c l).2.2=0→ ∃(j:Nat) (x:ax),(bT c l).2.1=(j:Int)+2∧l[j]? =some x∧x.bad=false):=by
 rw[bT]
 by_cases h1:(kY c l).2=true
 ·
  rw[if_pos h1]
  obtain⟨x,hx,k1,_,_,k4,_⟩:=nf (fun x h=>(qk h).1) h1
  exact⟨.cX _ _,fun h=>absurd (show(0:Int)=7 from h) (by decide),fun _=>⟨_,x,by show(kY c l).1+2=(((kY c l).1.toNat:Nat):Int)+2;rw[Int.toNat_of_nonneg (show 0≤(kY c l).1 from k4)],hx,k1⟩⟩
 ·
  rw[if_neg h1]
  by_cases h2:(ja c l).2=true
  ·
   rw[if_pos h2]
   obtain⟨x,hx,k1,_,_,k4,_⟩:=nf (fun x h=>(kB h).1) h2
   obtain⟨d1,d2⟩:=Dc hd h2
   exact⟨vB (by show 2≤(ja c l).1+2;change 0≤(ja c l).1 at d2;omega) d1,Ac,fun _=>⟨_,x,by show(ja c l).1+2=(((ja c l).1.toNat:Nat):Int)+2;rw[Int.toNat_of_nonneg (show 0≤(ja c l).1 from k4)],hx,k1⟩⟩
  ·
   rw[if_neg h2]
   by_cases h3:(jb c l).2=true
   ·
    rw[if_pos h3]
    obtain⟨x,hx,k1,_,_,k4,_⟩:=nf (fun x h=>(kB h).1) h3
    obtain⟨d1,d2⟩:=Dc hd h3
    exact⟨vB (by show 2≤(jb c l).1+2;change 0≤(jb c l).1 at d2;omega) d1,Ac,fun _=>⟨_,x,by show(jb c l).1+2=(((jb c l).1.toNat:Nat):Int)+2;rw[Int.toNat_of_nonneg (show 0≤(jb c l).1 from k4)],hx,k1⟩⟩
   ·
    rw[if_neg h3]
    exact⟨.cX _ _,fun h=>absurd (show(6:Int)=7 from h) (by decide),fun h=>absurd (show(6:Int)=0 from h) (by decide)⟩
theorem Hs{e:Int}(h:iZ e=7):e=7:=by rw[iZ]at h;split at h<;>omega
theorem N1{x:WV}{l:List ax}{i:Int}(hx:cO x)(h:eV x.v)(bU:gZ x.v.ae)(ht:kb x.v.ae l)(hd:pN x.v.ae x.v.at_ l)(h0:0≤i)(hi:i<l.length):
  Sf x (cj x.v) (eZ x l i).1 (eZ x l i).2∧((eZ x l i).2=6→(eZ x l i).1=x.on (eZ x l i).1.v.ae):=by
 obtain⟨k1,k2,k3⟩:=aap (hd.set i.toNat)
 have fQ: ∀{e:Int},(e=7→(bT x.v.ae (l.set i.toNat bj)).1.off=true)→Sf x (cj x.v) (x.on (bT x.v.ae (l.set i.toNat bj)).1) e:=fun ho=>Sf.data h k1 (fun _=>rfl) ho
 rw[eZ]
 by_cases nY:(cJ x.v.ae l i).2≠0
 ·
  rw[if_pos nY]
  refine⟨fQ fun g=>k2 ?_,fun _=>rfl⟩
  have g:=Hs g
  rw[cJ]at g
  split at g
  ·
   cases g
  ·
   exact g
 ·
  rw[if_neg nY]
  have Ht:(cJ x.v.ae l i).2=0:=by simpa using nY
  have lJ:=B4 (i:=i) hx.ae ht Ht
  have ft:=hx.on (k1.ok hx.ae) k1.bS
  have bW:0≤(cJ x.v.ae l i).1→(cJ x.v.ae l i).1≠i+2:=fun hn e=>by
   have ea:oF x.v.ae l i=false:=by
    cases hq:oF x.v.ae l i with
    |false=>rfl
    |true=>rw[cJ,if_pos hq]at hn;exact absurd (show(0:Int)≤ -1 from hn) (by decide)
   rw[cJ,if_neg (by rw[ea];simp)]at e Ht
   obtain⟨j,z,e1,e2,e3⟩:=k3 Ht
   have:j=i.toNat:=by omega
   rw[this,List.getElem?_set_self (by omega)]at e2
   obtain rfl:=Option.some.inj e2;cases e3
  obtain⟨m1,m2,m3⟩:=aao (x:=x.on (bT x.v.ae (l.set i.toNat bj)).1) (src:=i+2) (to:=(cJ x.v.ae l i).1) ft (h.kp k1) (bU.kd k1.toKd) (by omega) bW (fun hn=>by
   have:=lJ hn
   exact⟨this.1,by simp only[WV.on];rw[k1.bS.len];exact this.2.1,this.2.2⟩)
  have mok:=B2 (x:=x.on (bT x.v.ae (l.set i.toNat bj)).1) (src:=i+2) (to:=(cJ x.v.ae l i).1) ft (fun hn=>by
   have:=lJ hn
   exact⟨this.1,by simp only[WV.on];rw[k1.bS.len];exact this.2.1,this.2.2⟩)
  have Hu:Sf x (cj x.v) (x.on (bT x.v.ae (l.set i.toNat bj)).1) 0:=fQ fun g=>absurd g (by decide)
  rw[(Hu.aY rfl).2]at m1
  generalize cU (x.on (bT x.v.ae (l.set i.toNat bj)).1) (i+2) (cJ x.v.ae l i).1=M at*
  by_cases h1:M.2.1=false∨(l.getD i.toNat dH).used=x.v.ae.pages
  ·
   rw[if_pos h1]
   exact⟨Hu.trans m1,fun g=>by rw[m3 g,KY];rfl⟩
  ·
   rw[if_neg h1]
   have hdn:M.2.1=true:=by
    cases hq:M.2.1 with
    |true=>rfl
    |false=>exact absurd (.inl hq) h1
   obtain⟨e0,hdd⟩:=m2 hdn
   rw[e0]at m1
   have hR:=m1.aY rfl
   have aaq:jT M.1.v.at_ M.1.v.ae (i+2):=hdd.bS m1.kd.bS
   have hc:=vB (c:=M.1.v.ae) (by omega) aaq
   have N2:=Sf.data (x:=M.1) hR.1 hc (e:=iZ (cy M.1.v.ae (i+2)).2) (bs:=cj M.1.v) (fun _=>rfl) (fun g=>Ac (Hs g))
   have aar:=Hu.trans m1
   rw[hR.2]at N2
   exact⟨aar.trans N2,fun g=>absurd (B3 g) (K3 _ _)⟩
theorem Hv{x:WV}{l:List ax}(h:eV x.v)(hd:pN x.v.ae x.v.at_ l):Sf x (cj x.v) (jM x l).1 (jM x l).2:=by
 rw[jM];split
 ·
  exact Sf.stay h (e:=6) (by decide)
 ·
  rename_i hq
  obtain⟨d1,d2⟩:=Dc hd (show(mw x.v.ae l).2=true by simpa using hq)
  exact Sf.data h (vB (by show 2≤(mw x.v.ae l).1+2;change 0≤(mw x.v.ae l).1 at d2;omega) d1) (fun _=>rfl) (fun g=>Ac (Hs g))
theorem pN.bS{c d:CV}{fl:List Int}{l:List ax}(h:pN c fl l)(g:dw c d):pN d fl l:=fun i x hx hb hl=>(h i x hx hb hl).bS g
theorem aas{x:WV}(hx:cO x)(h:eV x.v)(bU:gZ x.v.ae):Sf x (cj x.v) (et x).1 (et x).2:=by
 have ht:kb x.v.ae (cV x):=u5 _ _
 have hd:pN x.v.ae x.v.at_ (cV x):=Db _ _
 rw[et];split
 ·
  rename_i hv
  have Dj:=Fl (l:=cV x) hv.1
  obtain⟨r1,r2⟩:=N1 (i:=(qt x).1) hx h bU ht hd Dj.1 Dj.2
  split
  ·
   exact r1
  ·
   rename_i h6
   have wU:(eZ x (cV x) (qt x).1).2=6:=by simpa using h6
   have hz:=r1.zero (by omega) (by omega) (by omega) (by omega)
   have e:=r2 wU
   have hR:=hz.aY rfl
   have kC:(eZ x (cV x) (qt x).1).1.v.at_=x.v.at_:=by rw[e];rfl
   have:=Hv hR.1 (l:=cV x) (by rw[kC];exact hd.bS hz.kd.bS)
   rw[hR.2]at this
   exact hz.trans this
 ·
  exact Hv h hd
theorem N3: ∀(n:Nat) {x:WV} {need:Int},cO x→eV x.v→gZ x.v.ae→Sf x (cj x.v) (lW n x need).1 (lW n x need).2
 |0,x,need,hx,h,bU=>Sf.stay h (e:=0) (by decide)
 |n+1,x,need,hx,h,bU=>by
  have hc:=aas hx h bU
  have hco:=B5 hx
  rw[lW]
  split
  ·
   exact Sf.stay h (e:=0) (by decide)
  ·
   split
   ·
    exact(Sf.stay h (e:=0) (by decide)).by true
   ·
    split
    ·
     rename_i h0
     rw[h0]at hc
     have hR:=hc.aY rfl
     have:=N3 n (need:=need) hco.1.ok hR.1 (bU.kd hc.kd)
     rw[hR.2]at this
     exact hc.trans this
    ·
     split
     ·
      exact hc
     ·
      rename_i h6
      have wU:(et x).2=6:=by simpa using h6
      have hz:=hc.zero (by omega) (by omega) (by omega) (by omega)
      have hR:=hz.aY rfl
      split
      ·
       exact hz.by true
      ·
       have:=Sf.stay (x:=(et x).1) hR.1 (e:=5) (by decide)
       rw[hR.2]at this
       exact hz.trans this
theorem N4{x:WV}{need:Int}(hx:cO x)(h:eV x.v)(bU:gZ x.v.ae):Sf x (cj x.v) (jN x need).1 (jN x need).2:=N3 _ hx h bU
theorem N5{x:WV}{l:List (Int×List UInt8)}(hx:cO x)(h:eV x.v)(bU:gZ x.v.ae)(ib: ∀y∈l,0≤y.1):Sf x (rJ (cj x.v) l) (gz x l).1 (gz x l).2:=by
 have hs:Sf x (cj x.v) (cA x l).1 (cA x l).2:=(N4 (x:={x with beyond:=false}) (need:=kZ l) (hx.by false) h bU).cE
 have ho:=B6 (l:=l) hx
 rw[gz]
 by_cases h0:(cA x l).2≠0
 ·
  rw[if_pos h0];exact hs.ne h0
 ·
  rw[if_neg h0]
  rw[show(cA x l).2=0 by simpa using h0]at hs
  have hR:=hs.aY rfl
  obtain⟨t1,t2,t3⟩:=De (v:=(cA x l).1.v) (aE:=(cA x l).1.beyond) l (c:=(cA x l).1.v.ae) (a:=(cA x l).1.v.at_) ho.ok.ae (by have:=ho.ok.qo;omega) hR.1.pl hR.1.pl ib
  by_cases h1:(fF x l).2.2≠0
  ·
   rw[if_pos h1]
   exact hs.trans (Sf.data hR.1 t1 (fun g=>absurd g h1) t3)
  ·
   rw[if_neg h1]
   obtain⟨g1,g2,g3⟩:=t2 (Classical.not_not.1 h1)
   have ft:=ho.ok.on (t1.ok ho.ok.ae) t1.bS
   have hw:=(Hr ft (hR.1.kp t1) ((bU.kd hs.kd).kd t1.toKd) g1 g3).1
   have e:List.map (dY (fF x l).1) (fF x l).2.1=rJ (cj x.v) l:=by rw[←hR.2];exact g2
   have hd:=Sf.data (x:=(cA x l).1) hR.1 t1 (e:=0) (bs:=cj (cA x l).1.v) (fun _=>rfl) (fun g=>absurd g (by decide))
   have eL:Sf ((cA x l).1.on (fF x l).1) (rJ (cj x.v) l) (dI ((cA x l).1.on (fF x l).1) (fF x l).2.1).1 (dI ((cA x l).1.on (fF x l).1) (fF x l).2.1).2:=by rw[←e];exact hw
   exact hs.trans (Sf.trans hd eL)
theorem N6{l:List (Int×List UInt8)}(ib: ∀y∈l,0≤y.1): ∀(n:Nat) {x:WV},cO x→eV x.v→gZ x.v.ae→x.v.ae.blocks.length<n+lp x.v.ae→Sf x (rJ (cj x.v) l) (ni n x l).1 (ni n x l).2
 |0,x,hx,h,bU,hn=>by have:=K6 x.v.ae;omega
 |n+1,x,hx,h,bU,hn=>by
  have hb:=N5 (l:=l) hx h bU ib
  have ho:=Fy (l:=l) hx
  rw[ni]
  split
  ·
   rename_i h5
   rw[h5.1]at hb
   have hz:=hb.zero (by decide) (by decide) (by decide) (by decide)
   have hR:=hz.aY rfl
   have:=N6 ib n ho.ok hR.1 (bU.kd hz.kd) (by have:=ho.bS.len;omega)
   rw[hR.2]at this
   exact hz.trans this
  ·
   exact hb
theorem N7{v:VV}{l:List (Int×List UInt8)}(h:eV v)(bU:gZ v.ae):Sf ⟨v,false⟩ (rJ (cj v) l) ⟨(fo v l).1,false⟩ (fo v l).2:=by
 rw[fo]
 split
 ·
  exact(Sf.stay (x:=⟨v,false⟩) h (e:=1) (by decide)).ne (by decide)
 ·
  rename_i h1
  have N8:=Classical.not_not.1 h1
  split
  ·
   rename_i ho
   have:=Sf.data (x:=⟨v,false⟩) h (.cX _ _) (e:=7) (bs:=rJ (cj v) l) (fun g=>absurd g (by decide)) (fun _=>ho)
   exact this
  ·
   have ib: ∀y∈l,0≤y.1:=fun y hy=>by
    obtain⟨j,hj⟩:=List.getElem?_of_mem hy
    have:=zj.1 N8.2.2 j (List.getElem?_eq_some_iff.1 hj).1
    rw[rr,show l.getD j (0,[])=y by simp[List.getD,hj],Bool.and_eq_true,rp,Bool.and_eq_true,Bool.and_eq_true,decide_eq_true_eq]at this
    exact this.1.1.1
   have:=N6 ib (v.ae.blocks.length+1) (x:=⟨v,false⟩) (B7 N8.1) h bU (by show v.ae.blocks.length<_;omega)
   exact this.by false
open Go.aC
theorem aat{t:List Rt}(h:dr t=true): ∀l:List Ch,dr (k7 t l).1=true:=by
 intro l
 induction l generalizing t with
 |nil=>exact h
 |cons c r ih=>
  rw[k7]
  split
  ·
   exact ih (Zm h c)
  ·
   exact h
theorem aau{t:List Rt}(h:dr t=true)(l:List Ch):dr (cH t l)=true:=by
 rw[cH];split
 ·
  exact aat h l
 ·
  exact h
def powC(c:CV):CV:={c with off:=false}
theorem eV.on{v:VV}(h:eV v)(b:Bool):eV {v with ae:={v.ae with off:=b}}:=by
 obtain⟨h1,h2,h3,h4,h5,h6,h7⟩:=h
 exact⟨h1,h2,h3,h4,h5,h6,h7⟩
theorem N9{v:VV}(h:eV v):bw (powC v.ae)=(⟨powC v.ae,v.at_,v.gen,v.last⟩,0):=by
 have h2:=xO.2 (h.on false)
 rw[kx]at h2
 simp only[Bool.and_eq_true,decide_eq_true_eq]at h2
 obtain⟨⟨⟨g1,g2⟩,g3⟩,g4⟩:=h2
 have hc:=LV g1
 change(bw (powC v.ae)).2=0 at g1
 change(bw (powC v.ae)).1.gen=v.gen at g2
 change(bw (powC v.ae)).1.last=v.last at g3
 change(bw (powC v.ae)).1.at_=v.at_ at g4
 change(bw (powC v.ae)).1.ae=powC v.ae at hc
 generalize bw (powC v.ae)=F at*
 obtain⟨⟨f1,f2,f3,f4⟩,f5⟩:=F
 simp only at g1 g2 g3 g4 hc
 subst g1 g2 g3 g4 hc;rfl
structure iQ(f:FV):Prop where
 rt:eV f.an
 iN:eG f.an.ae≠0
 ids:(f.an.at_.length:Int)=dK f.an.ae
 Hw:jP (cj f.an)=0
 eq:f.table=jd (cj f.an)
theorem Oa{v:VV}(h:eV v)(hm:eG v.ae≠0)(hi:(v.at_.length:Int)=dK v.ae)(ht:jP (cj v)=0):dg (powC v.ae)=(⟨⟨powC v.ae,v.at_,v.gen,v.last⟩,jd (cj v)⟩,0)∧jA (powC v.ae)=cj v:=by
 have hf:=N9 h
 have:=Ck (c:=powC v.ae) hm (by rw[hf]) (by rw[hf];exact hi) (by rw[hf];exact ht)
 rw[hf]at this
 exact this
theorem iQ.load{f:FV}(h:iQ f):dg (powC f.an.ae)=(⟨⟨powC f.an.ae,f.an.at_,f.an.gen,f.an.last⟩,f.table⟩,0)∧jA (powC f.an.ae)=cj f.an:=by
 rw[h.eq];exact Oa h.rt h.iN h.ids h.Hw
theorem uc{f:FV}:gh f=true↔iQ f:=by
 constructor
 ·
  intro h
  rw[T8]at h
  simp only[Bool.and_eq_true,decide_eq_true_eq]at h
  obtain⟨⟨h1,h2⟩,h3⟩:=h
  obtain⟨g0,g1,g2,g3⟩:=Cl h1
  have hr:=xO.1 h2
  have hf:=N9 hr
  change(bw (powC f.an.ae)).2=0 at g1
  change(((bw (powC f.an.ae)).1.at_.length:Nat):Int)=_ at g2
  change jP (cj (bw (powC f.an.ae)).1)=0 at g3
  rw[hf]at g2 g3
  refine⟨hr,g0,g2,g3,?_⟩
  rw[←h3]
  exact congrArg (fun z:FV×Int=>z.1.table) (Oa hr g0 g2 g3).1
 ·
  intro h
  rw[FT]
  change(dg (powC f.an.ae)).2=0∧f.an.gen=(dg (powC f.an.ae)).1.an.gen∧f.an.last=(dg (powC f.an.ae)).1.an.last∧f.an.at_=(dg (powC f.an.ae)).1.an.at_∧f.table=(dg (powC f.an.ae)).1.table
  rw[h.load.1]
  exact⟨rfl,rfl,rfl,rfl,rfl⟩
theorem iQ.right{f:FV}(h:iQ f):dr f.table=true:=by rw[h.eq];exact T9 h.Hw
theorem Hx{c d:CV}(h:dw c d):eG d=eG c∧dK d=dK c:=by
 rw[eG,eG,dK,dK,h.len,h.pages,h.size];exact⟨rfl,rfl⟩
theorem Ob: ∀(l:List (Int×List UInt8)) (bs:List (List UInt8)) (i:Nat),l.Pairwise (fun p q=>p.1≠q.1)→(∀p∈l,0≤p.1)→(rJ bs l)[i]? =match l.find? fun p=>decide (p.1=(i:Int))with
  |some p=>if i<bs.length then some p.2 else none
  |none=>bs[i]?
 |[],bs,i,_,_=>rfl
 |p::r,bs,i,hw,h0=>by
  obtain⟨l6,eL⟩:=List.pairwise_cons.1 hw
  have ih:=Ob r (bs.set p.1.toNat p.2) i eL fun q hq=>h0 q (List.mem_cons_of_mem _ hq)
  have hp0:=h0 p List.mem_cons_self
  show(rJ (bs.set p.1.toNat p.2) r)[i]? =_
  rw[ih,List.find?_cons]
  by_cases e:p.1=(i:Int)
  ·
   have hn:(r.find? fun q=>decide (q.1=(i:Int)))=none:=List.find?_eq_none.2 fun q hq=>by
    rw[decide_eq_true_eq];intro e2;exact l6 q hq (by rw[e,e2])
   rw[hn,decide_eq_true e]
   simp only
   rw[List.getElem?_set,if_pos (by omega)]
   by_cases hl:i<bs.length
   ·
    rw[if_pos (by omega),if_pos hl]
   ·
    rw[if_neg (by omega),if_neg hl]
  ·
   rw[decide_eq_false e]
   simp only
   cases hf:r.find? fun q=>decide (q.1=(i:Int))with
   |some q=>simp only;rw[List.length_set]
   |none=>simp only;rw[List.getElem?_set_ne (by omega)]
theorem Oc{a b:List (List UInt8)}(hl:a.length=b.length):rJ a (eu a b)=b:=by
 have hs:=CZ a b (max a.length b.length)
 have hpw:(eu a b).Pairwise fun p q=>p.1≠q.1:=hs.imp fun h=>by omega
 have hm: ∀p∈eu a b,∃i:Nat,i<max a.length b.length∧p=((i:Int),b.getD i [])∧ ¬a.getD i []=b.getD i []:=fun p hp=>G9 hp
 refine List.ext_getElem? fun i=> ?_
 rw[Ob (eu a b) a i hpw fun p hp=>by obtain⟨j,_,rfl,_⟩:=hm p hp;exact Int.natCast_nonneg _]
 cases hf:(eu a b).find? fun p=>decide (p.1=(i:Int))with
 |some p=>
  obtain⟨j,h1,h2,h3⟩:=hm p (List.mem_of_find?_eq_some hf)
  have e:=List.find?_some hf
  rw[decide_eq_true_eq,h2]at e
  simp only at e
  have e':j=i:=by omega
  subst e'
  simp only
  by_cases hi:j<a.length
  ·
   rw[if_pos hi,h2,List.getElem?_eq_getElem (by omega)]
   simp[List.getD,show j<b.length by omega]
  ·
   rw[if_neg hi,List.getElem?_eq_none (by omega)]
 |none=>
  simp only
  rcases Nat.lt_or_ge i a.length with hi|hi
  ·
   have je:=List.find?_eq_none.1 hf
   have hq:a.getD i []=b.getD i []:=by
    apply Classical.byContradiction
    intro bW
    have ko:((i:Int),b.getD i [])∈eu a b:=by
     rw[eu,mz]
     exact List.mem_filterMap.2 ⟨i,List.mem_range.2 (by omega),by rw[rv,if_neg bW]⟩
    have:=je _ ko
    simp at this
   simp only[List.getD,List.getElem?_eq_getElem hi,List.getElem?_eq_getElem (show i<b.length by omega),Option.getD_some]at hq
   rw[List.getElem?_eq_getElem hi,List.getElem?_eq_getElem (show i<b.length by omega),hq]
  ·
   rw[List.getElem?_eq_none hi,List.getElem?_eq_none (by omega)]
structure Af(f:FV)(t:List Rt)(o:FV)(e:Int):Prop where
 kd:Kd [] f.an.ae o.an.ae
 aY:e=0→iQ o∧o.table=t
 bad:e≠0→o.table=f.table
 err:e≠0→(e=7∨e=9∨(e=1∧Dh o.an.ae))∨iQ o
 vC:e≠0→f.an.ae.aR=[]→iQ o
 any: ∃g:FV,iQ g∧g.an.ae=o.an.ae∧(g.table=f.table∨g.table=t)
 off:e=7→o.an.ae.off=true
theorem xQ{f:FV}{l:List Ch}(h:iQ f):tD f l=if eG f.an.ae<(cH f.table l).length then 5 else 0:=by
 have hr:=aau h.right l
 have hm:iN (dK f.an.ae) (dv f.an.ae.size)=eG f.an.ae:=rfl
 rw[tD,jc,if_neg,hm]
 rintro(g|g)
 ·
  rw[hr]at g;cases g
 ·
  exact h.iN g
theorem Od{f:FV}{l:List Ch}(h:iQ f)(he:dS f.table l≠0):cY f l=(f,dS f.table l):=LW (uc.2 h) he
theorem Oe{f:FV}{l:List Ch}(h:iQ f)(he:dS f.table l=0)(hm:eG f.an.ae<(cH f.table l).length):cY f l=(f,5):=by
 have:=xQ (l:=l) h
 rw[if_pos hm]at this
 rw[LX (uc.2 h) he (by rw[this];decide),this]
theorem qG{f:FV}(h:iQ f):dZ f=cj f.an:=h.load.2
theorem Hy{f:FV}{l:List Ch}(h:iQ f)(he:dS f.table l=0)(hm: ¬eG f.an.ae<(cH f.table l).length)(hc:eu (dZ f) (dy f l)=[]):cY f l=(f,0)∧cH f.table l=f.table:=by
 have hE:=xQ (l:=l) h
 rw[if_neg hm]at hE
 have hlen:(dZ f).length=(dy f l).length:=by
  have:=(z8 hE).1
  have h2:=h.ids
  rw[qG h,w7]
  have:((dy f l).length:Int)=dK f.an.ae:=this
  omega
 have heq:=(YO hlen).1 hc
 have ht:jd (dy f l)=cH f.table l:=(M8 hE).1
 have e:cH f.table l=f.table:=by
  rw[←ht,←heq,qG h];exact h.eq.symm
 rw[LY (uc.2 h) he hE hc,e]
 exact⟨rfl,rfl⟩
theorem Of{f:FV}{l:List Ch}(h:iQ f)(bU:gZ f.an.ae)(he:dS f.table l=0)(hm: ¬eG f.an.ae<(cH f.table l).length):Af f (cH f.table l) (cY f l).1 (cY f l).2:=by
 have hE:=xQ (l:=l) h
 rw[if_neg hm]at hE
 by_cases hc:eu (dZ f) (dy f l)=[]
 ·
  obtain⟨e1,e2⟩:=Hy h he hm hc
  rw[e1,e2]
  exact⟨.cX _ _,fun _=>⟨h,rfl⟩,fun g=>absurd rfl g,fun g=>absurd rfl g,fun g=>absurd rfl g,⟨f,h,rfl, .inl rfl⟩,fun g=>absurd (show(0:Int)=7 from g) (by decide)⟩
 ·
  have hlen:(dZ f).length=(dy f l).length:=by
   have:=(z8 hE).1
   have h2:=h.ids
   rw[qG h,w7]
   have:((dy f l).length:Int)=dK f.an.ae:=this
   omega
  have hs:=N7 (l:=eu (dZ f) (dy f l)) h.rt bU
  rw[←qG h,Oc hlen]at hs
  have ht:=M8 hE
  rw[Cq (uc.2 h) he hE hc]
  generalize fo f.an (eu (dZ f) (dy f l))=W at*
  have eQ:=Hx hs.kd.bS
  change eG W.1.ae=eG f.an.ae∧dK W.1.ae=dK f.an.ae at eQ
  have Hz:W.1.at_.length=f.an.at_.length:=hs.len
  have mK:cj (⟨f.an,false⟩:WV).v=dZ f:=(qG h).symm
  have mk: ∀{u:VV} {t:List Rt},eV u→dw f.an.ae u.ae→u.at_.length=f.an.at_.length→jP (cj u)=0→t=jd (cj u)→iQ ⟨u,t⟩:=fun hu hk hl hte aav=>by
   have:=Hx hk
   exact⟨hu,by show eG _≠0;rw[this.1];exact h.iN,by show(_:Int)=dK _;rw[this.2,hl];exact h.ids,hte,aav⟩
  have hold:jP (dZ f)=0∧f.table=jd (dZ f):=by rw[qG h];exact⟨h.Hw,h.eq⟩
  refine⟨hs.kd,fun g=> ?_,fun g=> ?_,fun g=> ?_,fun g hf=> ?_,?_,hs.off⟩
  ·
   obtain⟨q1,q2⟩:=hs.aY g
   change eV W.1 at q1
   change cj W.1=dy f l at q2
   simp only at g
   refine⟨mk q1 hs.kd.bS Hz (by rw[q2];exact ht.2) (by rw[if_neg (fun k=>k g),q2];exact ht.1.symm),by rw[if_neg (fun k=>k g)]⟩
  ·
   simp only at g⊢;rw[if_pos g]
  ·
   simp only at g
   refine(hs.err g).imp id fun q=> ?_
   rw[mK]at q
   exact mk q.1 hs.kd.bS Hz (by rw[show cj W.1=dZ f from q.2];exact hold.1) (by rw[if_pos g,show cj W.1=dZ f from q.2];exact hold.2)
  ·
   simp only at g
   have q:=hs.vC g hf
   rw[mK]at q
   exact mk q.1 hs.kd.bS Hz (by rw[show cj W.1=dZ f from q.2];exact hold.1) (by rw[if_pos g,show cj W.1=dZ f from q.2];exact hold.2)
  ·
   obtain⟨u,q1,q2,q3,q4⟩:=hs.any
   change u.ae=W.1.ae at q2
   have nr:dw f.an.ae u.ae:=by rw[q2];exact hs.kd.bS
   rw[mK]at q4
   rcases q4 with q4|q4
   ·
    exact⟨⟨u,f.table⟩,mk q1 nr q3 (by rw[q4];exact hold.1) (by rw[q4];exact hold.2),q2, .inl rfl⟩
   ·
    exact⟨⟨u,cH f.table l⟩,mk q1 nr q3 (by rw[q4];exact ht.2) (by rw[q4];exact ht.1.symm),q2, .inr rfl⟩
open Go.aC
theorem gZ.nil{c:CV}(h:c.aR=[]):gZ c:=fun f hf=>by rw[h]at hf;cases hf
theorem iQ.small{f:cm}(h:iQ (bE f)):dQ f.an.ae∧f.an.at_.xs.length≤1000000∧f.table.xs.length≤1000000:=by
 have hk:=(fv.1 h.rt.bears).1
 have hw:=(B7 (b:=false) (xO.2 h.rt)).ka
 have ht:=Bw h.right
 change f.an.at_.xs.length≤64 at hw
 change f.table.xs.length≤256 at ht
 exact⟨ph hk,by omega,by omega⟩
theorem iQ.Og{f:FV}(h:iQ f):gh f=true:=uc.2 h
theorem aaw(t:List Rt)(c:List Ch):(k7 t c).2=0∨(k7 t c).2=1∨(k7 t c).2=5∨(k7 t c).2=6:=by
 induction c generalizing t with
 |nil=>exact .inl rfl
 |cons x r ih=>
  rw[k7]
  split
  ·
   exact ih _
  ·
   show fq t x=0∨fq t x=1∨fq t x=5∨fq t x=6
   rw[fq];repeat' split
   all_goals decide
theorem aax(t:List Rt)(l:List Ch):dS t l=0∨dS t l=1∨dS t l=5∨dS t l=6:=by
 rw[dS];split
 ·
  exact aaw t l
 ·
  exact .inr (.inl rfl)
theorem aay(t:List Rt)(l:List Ch):dS t l≠7:=by have:=aax t l;omega
theorem aaz{f:FV}(h:iQ f)(hf:f.an.ae.aR=[])(ho:f.an.ae.off=false)(l:List Ch):
  iQ (cY f l).1∧(cY f l).1.an.ae.aR=[]∧(cY f l).1.an.ae.off=false∧((cY f l).2=0→dS f.table l=0∧(cY f l).1.table=cH f.table l)∧((cY f l).2≠0→(cY f l).1.table=f.table)∧
   ((cY f l).2≠7)∧(dS f.table l≠0→cY f l=(f,dS f.table l)):=by
 have hE7:=aay f.table l
 by_cases he:dS f.table l=0
 ·
  by_cases hm:eG f.an.ae<(cH f.table l).length
  ·
   rw[Oe h he hm]
   exact⟨h,hf,ho,fun g=>absurd (show(5:Int)=0 from g) (by decide),fun _=>rfl,show(5:Int)≠7 by decide,fun g=>absurd he g⟩
  ·
   have ha:=Of h (.nil hf) he hm
   have lA:=ha.kd.on ho (by rw[hf];intro x hx;cases hx)
   refine⟨?_,ha.kd.mJ.trans hf,lA,fun g=>⟨he,(ha.aY g).2⟩,ha.bad,fun g=> ?_,fun g=>absurd he g⟩
   ·
    by_cases g:(cY f l).2=0
    ·
     exact(ha.aY g).1
    ·
     exact ha.vC g hf
   ·
    have:=ha.off g;rw[lA]at this;cases this
 ·
  rw[Od h he]
  exact⟨h,hf,ho,fun g=>absurd g he,fun _=>rfl,hE7,fun _=>rfl⟩
end Go.Kb
namespace Go.Proofs.YtaipiecplldinaaGreat
open Go.aC Go.Kb
open Go.RowKit
structure FH where
 f:cm
 h:Sl Rt
def HA(x:FH):Array Value:= #[.int .i64 x.f.an.ae.pages, .int .i64 x.f.an.ae.size,x.f.an.ae.blocks.sv.val, .int .i64 x.f.an.ae.ops, .bool x.f.an.ae.off,x.f.an.ae.aR.sv.val,x.f.an.at_.sv.val, .int .u64 x.f.an.gen.toNat, .int .i64 x.f.an.last,x.f.table.sv.val,x.h.sv.val]
instance:bu HA 11:=⟨fun _=>rfl,fun x=>by
 simp only[HA,List.all_toArray,List.all_cons,List.all_nil,Sv.one,qZ,q9,Bool.and_self]⟩
instance:Deep FH where
 c:=11
 cells:=HA
 size:=bu.size
 one:=bu.one
 aY h x:=Deep.aY h x.f∧Deep.aY h x.h
 cd x:= .two (Deep.cd x.f) (Deep.cd x.h)
 iT h x hs:=⟨Deep.iT h x.f hs.1,Deep.iT h x.h hs.2.1⟩
 mono w w' x hg hb:=⟨Deep.mono w w' x.f hg.1 hb,Deep.mono w w' x.h hg.2 hb⟩
instance:eR FH where
 reach x k:=eR.reach x.f k∨eR.reach x.h k
 congr h h' x e hg:=⟨eR.congr h h' x.f (fun k hk=>e k (.inl hk)) hg.1,eR.congr h h' x.h (fun k hk=>e k (.inr hk)) hg.2⟩
instance {w0:World}{L:List ai}{x:FH}[q:aU w0 L x]:aU w0 L x.f:=⟨fun w hw=>(q.h w hw).1⟩
instance {w0:World}{L:List ai}{x:FH}[q:aU w0 L x]:aU w0 L x.h:=⟨fun w hw=>(q.h w hw).2⟩
theorem Oh{w0 w:World}{L:List ai}{f:cm}{a:Sl Rt}(h:Mem w0 (fz f::fz a::L) w):Mem w0 (fz (⟨f,a⟩:FH)::L) w:=by
 refine Mem.freeze (es:=[fz f,fz a]) (⟨f,a⟩:FH) ⟨h.sat (fz f) (by simp),h.sat (fz a) (by simp)⟩ (fun k hk=> ?_) h
 rcases hk with hk|hk
 ·
  exact⟨fz f,by simp,hk⟩
 ·
  exact⟨fz a,by simp,hk⟩
theorem aaA{w0 w:World}{L:List ai}{f:cm}(h:Mem w0 (fz f::L) w):Mem w0 (fz (⟨f,⟨Sv.none,[]⟩⟩:FH)::L) w:=
 Oh ((vd (a:=⟨Sv.none,[]⟩) (Mem.dP ay 19 h)).perm (List.Perm.swap _ _ _))
theorem aaB{w0 w:World}{L:List ai}{s:FH}(h:Mem w0 (fz s::L) w):Mem w0 (fz s.h::L) w:=
 Mem.freeze (es:=[fz s]) s.h (h.sat (fz s) (by simp)).2 (fun k hk=>⟨fz s,by simp, .inr hk⟩) h
end Go.Proofs.YtaipiecplldinaaGreat
namespace Go.Kb
open Go.aC
theorem Oi{P Q:Nat→Bool}{j0:Nat}(hp:P j0=false)(hq: ∀j,Q j=(P j||decide (j=j0))): ∀n,((List.range n).filter Q).length=((List.range n).filter P).length+(if j0<n then 1 else 0)
 |0=>by simp
 |n+1=>by
  have ih:=Oi hp hq n
  rw[List.range_succ,List.filter_append,List.filter_append,List.length_append,List.length_append,ih]
  by_cases e:n=j0
  ·
   have h1:Q n=true:=by rw[hq n,decide_eq_true e,Bool.or_true]
   have h2:P n=false:=by rw[e];exact hp
   rw[List.filter_cons_of_pos h1,List.filter_cons_of_neg (by rw[h2];simp),if_neg (by omega),if_pos (by omega)];simp
  ·
   have h1:Q n=P n:=by rw[hq n,decide_eq_false e,Bool.or_false]
   have h2:([n].filter Q).length=([n].filter P).length:=by simp[List.filter_cons,h1]
   rw[h2]
   by_cases h:j0<n
   ·
    rw[if_pos h,if_pos (by omega)];omega
   ·
    rw[if_neg h,if_neg (by omega)];omega
def cL(pages:Int)(fl:List Int)(i:Nat):Nat:=((List.range pages.toNat).filter fun j:Nat=>fl.contains (((i:Int)+2)*pages+j+1)).length
theorem ud{pages:Int}{fl gl:List Int}{i:Nat}(h: ∀n:Int,(n -1)/pages=(i:Int)+2→(n∈fl↔n∈gl))(hp:1≤pages):cL pages fl i=cL pages gl i:=by
 rw[cL,cL]
 congr 1
 refine List.filter_congr fun j hj=> ?_
 have iz:=List.mem_range.1 hj
 have hd:(((i:Int)+2)*pages+j+1 -1)/pages=(i:Int)+2:=by
  rw[Int.add_sub_cancel,Int.add_comm,Int.add_mul_ediv_right _ _ (by omega),Int.ediv_eq_zero_of_lt (by omega) (by omega),Int.zero_add]
 rw[Bool.eq_iff_iff,List.contains_iff_mem,List.contains_iff_mem]
 exact h _ hd
theorem aaC{pages n:Int}(hp:1≤pages){i:Nat}(hb:(n -1)/pages=(i:Int)+2): ∃j:Nat,j<pages.toNat∧n=((i:Int)+2)*pages+j+1∧(n -1)%pages=j:=by
 have h0:0≤(n -1)%pages:=Int.emod_nonneg _ (by omega)
 have h1:(n -1)%pages<pages:=Int.emod_lt_of_pos _ (by omega)
 have h2:=Int.mul_ediv_add_emod (n -1) pages
 rw[hb,Int.mul_comm]at h2
 exact⟨((n -1)%pages).toNat,by omega,by omega,by omega⟩
theorem HB{pages n:Int}{fl gl:List Int}{i0:Nat}(hp:1≤pages)(hb:(n -1)/pages=(i0:Int)+2)(hn:n∉fl)(h: ∀m,m∈gl↔m∈fl∨m=n)(i:Nat):cL pages gl i=cL pages fl i+(if i=i0 then 1 else 0):=by
 by_cases e:i=i0
 ·
  subst e
  obtain⟨j0,Dk,en,_⟩:=aaC hp hb
  rw[if_pos rfl,cL,cL]
  have:=Oi (P:=fun j:Nat=>fl.contains (((i:Int)+2)*pages+j+1)) (Q:=fun j:Nat=>gl.contains (((i:Int)+2)*pages+j+1)) (j0:=j0) (by
   rw[←en]
   cases hc:fl.contains n with
   |false=>rfl
   |true=>exact absurd (List.contains_iff_mem.1 hc) hn) (fun j=>by
   rw[Bool.eq_iff_iff,Bool.or_eq_true,List.contains_iff_mem,List.contains_iff_mem,decide_eq_true_eq,h,en]
   constructor
   ·
    rintro(g|g)
    ·
     exact .inl g
    ·
     exact .inr (by omega)
   ·
    rintro(g|g)
    ·
     exact .inl g
    ·
     exact .inr (by rw[g])) pages.toNat
  rw[if_pos Dk]at this;exact this
 ·
  rw[if_neg e,Nat.add_zero]
  refine ud (fun m hm=> ?_) hp
  rw[h]
  constructor
  ·
   rintro(g|g)
   ·
    exact g
   ·
    rw[g,hb]at hm;omega
  ·
   exact .inl
theorem Oj{pages:Int}{l:List Int}(hp:1≤pages)(i:Nat)(h: ∀n∈l,n=0∨1≤n): ∀k,k≤l.length→ju pages l k i=cL pages (l.take k) i
 |0,_=>by
  rw[cL,List.filter_eq_nil_iff.2 (fun j _=>by simp)];simp[ju]
 |k+1,hk=>by
  have ih:=Oj hp i h k (by omega)
  obtain⟨y,hy⟩: ∃y,l[k]? =some y:=⟨_,List.getElem?_eq_getElem (by omega)⟩
  have ko: ∀m,m∈l.take (k+1)↔m∈l.take k∨m=y:=fun m=>by
   rw[List.take_add_one,hy,List.mem_append];simp
  rw[y8,ih,nL hy]
  have rB:lT l k=(decide (y≠0)&& !(l.take k).contains y):=by rw[lT,nL hy]
  by_cases h0:y=0
  ·
   rw[rB,decide_eq_false (fun g=>g h0),Bool.false_and,Bool.false_and,if_neg (by simp),Nat.add_zero]
   refine ud (fun m hm=> ?_) hp
   rw[ko]
   refine⟨.inl,fun g=>g.elim id fun g=> ?_⟩
   exfalso
   rw[g,h0]at hm
   have:((0:Int) -1)/pages<0:=Int.ediv_neg_of_neg_of_pos (by decide) (by omega)
   omega
  ·
   by_cases hc:(l.take k).contains y=true
   ·
    rw[rB,hc,Bool.not_true,Bool.and_false,Bool.false_and,if_neg (by simp),Nat.add_zero]
    refine ud (fun m _=> ?_) hp
    rw[ko]
    exact⟨.inl,fun g=>g.elim id fun g=>by rw[g];exact List.contains_iff_mem.1 hc⟩
   ·
    have hn:y∉l.take k:=fun g=>hc (List.contains_iff_mem.2 g)
    have hcf:(l.take k).contains y=false:=by simpa using hc
    rw[rB,hcf,decide_eq_true h0,Bool.not_false,Bool.and_self,Bool.true_and]
    by_cases hb:(y -1)/pages=(i:Int)+2
    ·
     rw[decide_eq_true hb,if_pos rfl,HB hp hb hn ko i,if_pos rfl]
    ·
     rw[decide_eq_false hb,if_neg (by simp),Nat.add_zero]
     refine ud (fun m hm=> ?_) hp
     rw[ko]
     exact⟨.inl,fun g=>g.elim id fun g=>by rw[g]at hm;exact absurd hm hb⟩
theorem Dl{pages:Int}{l:List Int}(hp:1≤pages)(i:Nat)(h: ∀n∈l,n=0∨1≤n):ju pages l l.length i=cL pages l i:=by
 have:=Oj hp i h l.length (Nat.le_refl _)
 rwa [List.take_length]at this
def Std(c:CV)(fl:List Int):Prop:= ∀n∈fl,n≠0→jJ c (n -1)=true
theorem Pl.lD{c:CV}{a:List Int}(h:Pl c a):Std c a:=fun _ hn h0=>h.place hn h0
theorem Std.append{c:CV}{a b:List Int}(h:Std c a)(g:Std c b):Std c (a++b):=fun n hn=>(List.mem_append.1 hn).elim (h n) (g n)
theorem Std.pos{c:CV}{fl:List Int}(h:Std c fl)(hp:1≤c.pages): ∀n∈fl,n=0∨1≤n:=fun n hn=>by
 by_cases h0:n=0
 ·
  exact .inl h0
 ·
  right
  have:=(lj.1 (h n hn h0)).1
  apply Classical.byContradiction
  intro bp
  have:(n -1)/c.pages<0:=Int.ediv_neg_of_neg_of_pos (by omega) (by omega)
  omega
theorem Std.kd{c d:CV}{fl L:List Int}(h:Std c fl)(k:Kd L c d)(hs: ∀n∈fl,n∈L):Std d fl:=fun n hn h0=>(k.nm n (hs n hn) h0 (h n hn h0)).1
def nt(c:CV)(fl:List Int)(i:Nat):ax:=if(aj c ((i:Int)+2)).bad=true then bj else⟨cL c.pages fl i,(aj c ((i:Int)+2)).used,(aj c ((i:Int)+2)).aS,false⟩
theorem vD{c:CV}{fl:List Int}(hp:1≤c.pages)(h:Std c fl):av c fl=(List.range (c.blocks.length -2)).map (nt c fl):=by
 rw[av,iD,jv,List.map_map]
 refine List.map_congr_left fun i _=> ?_
 simp only[Function.comp]
 rw[Dl hp i (h.pos hp),nc,nt,rb]
 split
 ·
  rfl
 ·
  rename_i hb
  have:(aj c ((i:Int)+2)).bad=false:=by simpa using hb
  rw[this]
theorem Ol{c:CV}{fl:List Int}(hp:1≤c.pages)(h:Std c fl)(i:Nat)(hu:0≤(aj c ((i:Int)+2)).used):(cL c.pages fl i:Int)≤(aj c ((i:Int)+2)).used:=by
 have lG: ∀j,j∈(List.range c.pages.toNat).filter (fun j:Nat=>fl.contains (((i:Int)+2)*c.pages+j+1))→j<(aj c ((i:Int)+2)).used.toNat:=fun j hj=>by
  obtain⟨h1,h2⟩:=List.mem_filter.1 hj
  have iz:=List.mem_range.1 h1
  have hm:=List.contains_iff_mem.1 h2
  have h0:0≤((i:Int)+2)*c.pages:=Int.mul_nonneg (by omega) (by omega)
  have bU:=lj.1 (h _ hm (by omega))
  have hd:(((i:Int)+2)*c.pages+j+1 -1)/c.pages=(i:Int)+2:=by
   rw[Int.add_sub_cancel,Int.add_comm,Int.add_mul_ediv_right _ _ (by omega),Int.ediv_eq_zero_of_lt (by omega) (by omega),Int.zero_add]
  have r9:(((i:Int)+2)*c.pages+j+1 -1)%c.pages=j:=by
   rw[Int.add_sub_cancel,Int.add_comm,Int.add_mul_emod_self_right,Int.emod_eq_of_lt (by omega) (by omega)]
  rw[hd,r9]at bU
  omega
 have key: ∀(n m:Nat) (P:Nat→Bool),(∀j,j∈(List.range n).filter P→j<m)→((List.range n).filter P).length≤m:=by
  intro n m P
  induction n generalizing m with
  |zero=>intro _;simp
  |succ n ih=>
   intro hs
   rw[List.range_succ,List.filter_append,List.length_append]
   by_cases hP:P n=true
   ·
    have hm:n<m:=hs n (List.mem_filter.2 ⟨List.mem_range.2 (by omega),hP⟩)
    have:=ih n fun j hj=>List.mem_range.1 (List.mem_filter.1 hj).1
    simp only[List.filter_cons,List.filter_nil,hP,if_true,List.length_cons,List.length_nil]
    omega
   ·
    have:=ih m fun j hj=>hs j (by rw[List.range_succ,List.filter_append];exact List.mem_append_left _ hj)
    simp only[List.filter_cons,List.filter_nil,hP]
    simpa using this
 have:=key c.pages.toNat (aj c ((i:Int)+2)).used.toNat _ lG
 rw[cL];omega
theorem rL{c:CV}{fl:List Int}(hp:1≤c.pages)(h:Std c fl)(i:Nat):cL c.pages fl i=0↔jT fl c ((i:Int)+2):=by
 constructor
 ·
  intro h0
  rw[←Dl hp i (h.pos hp)]at h0
  exact NF h0
 ·
  intro hd
  rw[cL,List.length_eq_zero_iff,List.filter_eq_nil_iff]
  intro j hj hc
  have iz:=List.mem_range.1 hj
  have hm:=List.contains_iff_mem.1 hc
  have h0:0≤((i:Int)+2)*c.pages:=Int.mul_nonneg (by omega) (by omega)
  refine hd _ hm (by omega) ?_
  rw[Int.add_sub_cancel,Int.add_comm,Int.add_mul_ediv_right _ _ (by omega),Int.ediv_eq_zero_of_lt (by omega) (by omega),Int.zero_add]
theorem HC{c d:CV}{fl gl:List Int}{i0:Nat}{x:ax}(hp:1≤c.pages)(h:Std c fl)(hg:Std d gl)(hk:dw c d)(ho: ∀i:Nat,i≠i0→aj d ((i:Int)+2)=aj c ((i:Int)+2)∧cL c.pages gl i=cL c.pages fl i)(hx:nt d gl i0=x):av d gl=(av c fl).set i0 x:=by
 rw[vD (by rw[hk.pages];exact hp) hg,vD hp h,hk.len]
 refine List.ext_getElem? fun i=> ?_
 rw[List.getElem?_set]
 by_cases e:i0=i
 ·
  subst e
  rw[if_pos rfl,List.length_map,List.length_range,List.getElem?_map]
  by_cases hi:i0<c.blocks.length -2
  ·
   rw[List.getElem?_range hi,if_pos hi,Option.map_some,hx]
  ·
   rw[if_neg hi,List.getElem?_eq_none (by simpa using hi)];rfl
 ·
  rw[if_neg e,List.getElem?_map,List.getElem?_map]
  by_cases hi:i<c.blocks.length -2
  ·
   rw[List.getElem?_range hi,Option.map_some,Option.map_some]
   obtain⟨o1,o2⟩:=ho i (fun g=>e g.symm)
   rw[nt,nt,o1,hk.pages,o2]
  ·
   rw[List.getElem?_eq_none (by simpa using hi)];rfl
theorem HD{c d:CV}{fl gl:List Int}(hp:1≤c.pages)(h:Std c fl)(hg:Std d gl)(hk:dw c d)(ho: ∀i:Nat,(aj d ((i:Int)+2)).bad=(aj c ((i:Int)+2)).bad∧(aj d ((i:Int)+2)).used=(aj c ((i:Int)+2)).used∧(aj d ((i:Int)+2)).aS=(aj c ((i:Int)+2)).aS∧((aj c ((i:Int)+2)).bad=false→cL c.pages gl i=cL c.pages fl i)):av d gl=av c fl:=by
 rw[vD (by rw[hk.pages];exact hp) hg,vD hp h,hk.len]
 refine List.map_congr_left fun i _=> ?_
 obtain⟨o1,o2,o3,o4⟩:=ho i
 rw[nt,nt,o1,o2,o3,hk.pages]
 by_cases hb:(aj c ((i:Int)+2)).bad=true
 ·
  rw[if_pos hb,if_pos hb]
 ·
  rw[if_neg hb,if_neg hb,o4 (by simpa using hb)]
theorem sM{c:CV}{fl:List Int}{i:Nat}{x:ax}(hp:1≤c.pages)(h:Std c fl)(hx:(av c fl)[i]? =some x):x=nt c fl i∧i<c.blocks.length -2:=by
 rw[vD hp h,List.getElem?_map]at hx
 obtain⟨j,hj,rfl⟩:=Option.map_eq_some_iff.1 hx
 obtain⟨hl,e⟩:=List.getElem?_eq_some_iff.1 hj
 rw[List.getElem_range]at e
 rw[List.length_range]at hl
 exact⟨by rw[e],hl⟩
theorem HE{c:CV}{fl:List Int}{i:Nat}(hb:(aj c ((i:Int)+2)).bad=false):nt c fl i=⟨cL c.pages fl i,(aj c ((i:Int)+2)).used,(aj c ((i:Int)+2)).aS,false⟩:=by rw[nt,if_neg (by rw[hb];simp)]
theorem HF{c:CV}{fl:List Int}(hk:aT c=true)(h:Std c fl)(h2:3≤c.blocks.length):ky (av c fl) c.pages=true:=by
 have hd:=eF hk
 have dt:=kA c fl
 refine qg.2 ⟨by omega,by omega,by omega,by omega,fun x hx=> ?_⟩
 obtain⟨i,hi⟩:=List.getElem?_of_mem hx
 obtain⟨rfl,eP⟩:=sM (by omega) h hi
 have oE:cI=1099511627776:=rfl
 rw[nt]
 split
 ·
  exact pq.2 (by simp only[bj];omega)
 ·
  have hb:=dX.1 (qj hk (b:=(i:Int)+2) (by omega) (by omega))
  have:=Ol (by omega) h i hb.2.1
  exact pq.2 ⟨by simp only;omega,this,hb.2.2.1,hb.2.2.2.1,hb.2.2.2.2.1⟩
theorem xR{R:ax→Bool}{l:List ax}{p:Int}(h:ky l p=true):ky (bR R l) p=true:=by
 obtain⟨h1,h2,h3,h4,h5⟩:=qg.1 h
 refine qg.2 ⟨by rw[tu];exact h1,by rw[tu];exact h2,h3,h4,fun x hx=> ?_⟩
 obtain⟨y,hy,rfl⟩:=List.mem_map.1 hx
 rw[gJ]
 split
 ·
  have oE:cI=1099511627776:=rfl
  exact pq.2 (by simp only[bj];omega)
 ·
  exact h5 y hy
theorem aaD{l:List ax}{p:Int}(h:ky l p=true)(i:Nat):ky (l.set i bj) p=true:=by
 obtain⟨h1,h2,h3,h4,h5⟩:=qg.1 h
 refine qg.2 ⟨by rw[List.length_set];exact h1,by rw[List.length_set];exact h2,h3,h4,fun x hx=> ?_⟩
 rcases List.mem_or_eq_of_mem_set hx with g|rfl
 ·
  exact h5 x g
 ·
  have oE:cI=1099511627776:=rfl
  exact pq.2 (by simp only[bj];omega)
theorem Dm{c:CV}{b k:Int}{p:List UInt8}(h:bC c b p=0)(hk:k.toNat≠b.toNat):aj (bD c b p) k=aj c k:=by
 obtain⟨h1,_,_,_,e⟩:=nM h
 obtain⟨_,h3,h4⟩:=gv.1 (iW.1 h1).1
 rw[e,gR,rI (by omega),if_neg hk]
theorem Al{c:CV}{b:Int}{p:List UInt8}(h:bC c b p=0):(aj (bD c b p) b).used=(aj c b).used+1∧(aj (bD c b p) b).aS=(aj c b).aS∧(aj (bD c b p) b).bad=false:=by
 obtain⟨h1,_,h3,_,e⟩:=nM h
 rw[e,gR,oD (iW.1 h1).1]
 exact⟨rfl,rfl,h3⟩
theorem Om{c:CV}{fl gl:List Int}{i0:Nat}{pg:List UInt8}(hk:aT c=true)(h:Std c fl)(hz:bC c ((i0:Int)+2) pg=0)(hm: ∀m,m∈gl↔m∈fl∨m=((i0:Int)+2)*c.pages+(aj c ((i0:Int)+2)).used+1):
  av (bD c ((i0:Int)+2) pg) gl=(av c fl).set i0 ⟨cL c.pages fl i0+1,(aj c ((i0:Int)+2)).used+1,(aj c ((i0:Int)+2)).aS,false⟩∧Std (bD c ((i0:Int)+2) pg) gl:=by
 have hd:=eF hk
 have eQ:=gU c ((i0:Int)+2) pg
 obtain⟨q1,q2,q3,q4⟩:=Dd (L:=fl) (by omega) hz
 have fw:=iW.1 (nM hz).1
 have hb:(((i0:Int)+2)*c.pages+(aj c ((i0:Int)+2)).used+1 -1)/c.pages=(i0:Int)+2:=by
  rw[Int.add_sub_cancel,Int.add_comm,Int.add_mul_ediv_right _ _ (by omega),Int.ediv_eq_zero_of_lt fw.2.1 fw.2.2.1,Int.zero_add]
 have hn:((i0:Int)+2)*c.pages+(aj c ((i0:Int)+2)).used+1∉fl:=fun gL=>by
  have:=h _ gL (by omega)
  rw[Int.add_sub_cancel,q4]at this;cases this
 have hS:Std (bD c ((i0:Int)+2) pg) gl:=fun m r9 h0=>by
  rcases(hm m).1 r9 with g|g
  ·
   exact h.kd (C7 (L:=fl)) (fun _ k=>k) m g h0
  ·
   rw[g,Int.add_sub_cancel];exact q1
 have hl:=HB (by omega) hb hn hm
 obtain⟨a1,a2,a3⟩:=Al hz
 refine⟨HC (by omega) h hS eQ (fun i hi=>⟨Dm hz (by omega),by rw[hl i,if_neg hi];rfl⟩) ?_,hS⟩
 rw[HE a3,eQ.pages,hl i0,if_pos rfl,a1,a2];rfl
theorem On: ∀(n:Nat) {c:CV} {b:Int},(eY n c b).2=0→(∀k:Int,k.toNat≠b.toNat→aj (eY n c b).1 k=aj c k)∧(aj (eY n c b).1 b).used=0∧(aj (eY n c b).1 b).aS=(aj c b).aS+1∧(aj (eY n c b).1 b).bad=false
 |0,c,b,h=>by
  obtain⟨e1,_,e3,e4,e5⟩:=zg h
  have hh:=(nJ.1 e1).1
  obtain⟨_,h3,h4⟩:=gv.1 hh
  show(∀k:Int,k.toNat≠b.toNat→aj (da c b) k=aj c k)∧(aj (da c b) b).used=0∧(aj (da c b) b).aS=(aj c b).aS+1∧(aj (da c b) b).bad=false
  rw[e5]
  refine⟨fun k hk=>by rw[jZ,rI (by omega),if_neg hk],?_⟩
  rw[jZ,oD hh,e4]
  exact⟨rfl,rfl,e3⟩
 |n+1,c,b,h=>by
  rw[eY]at h⊢
  by_cases h0:bC c b (gT c)≠0
  ·
   rw[if_pos h0]at h;exact absurd h h0
  ·
   rw[if_neg h0]at h⊢
   have pe:bC c b (gT c)=0:=by simpa using h0
   obtain⟨g1,g2,g3,g4⟩:=On n h
   exact⟨fun k hk=>(g1 k hk).trans (Dm pe hk),g2,by rw[g3,(Al pe).2.1],g4⟩
theorem Dn{c:CV}{fl:List Int}{i0:Nat}(hk:aT c=true)(h:Std c fl)(hd:jT fl c ((i0:Int)+2))(hz:(cy c ((i0:Int)+2)).2=0):av (cy c ((i0:Int)+2)).1 fl=(av c fl).set i0 ⟨0,0,(aj c ((i0:Int)+2)).aS+1,false⟩∧Std (cy c ((i0:Int)+2)).1 fl:=by
 have hdm:=eF hk
 have kp:=vB (L:=fl) (c:=c) (b:=(i0:Int)+2) (by omega) hd
 have hS:=h.kd kp.toKd fun _ g=>g
 obtain⟨z1,z2,z3,z4⟩:=On _ hz
 change∀k:Int,k.toNat≠((i0:Int)+2).toNat→aj (cy c ((i0:Int)+2)).1 k=aj c k at z1
 change(aj (cy c ((i0:Int)+2)).1 ((i0:Int)+2)).used=0 at z2
 change(aj (cy c ((i0:Int)+2)).1 ((i0:Int)+2)).aS=_ at z3
 change(aj (cy c ((i0:Int)+2)).1 ((i0:Int)+2)).bad=false at z4
 refine⟨HC (by omega) h hS kp.bS (fun i hi=>⟨z1 _ (by omega),rfl⟩) ?_,hS⟩
 rw[HE z4,kp.bS.pages,z2,z3,(rL (by omega) h i0).2 hd];rfl
open Go.aC
structure Ok(n:Nat)(c:CV):Prop where
 ok:fB c=true
 nb: ∀b:Int,(aj c b).bad=false
 off:c.off=false
 cut: ∀f∈c.aR,f.fail=true→f.cut=true
 ops:c.ops+n<cI
 aS: ∀b:Int,(aj c b).aS+n<cI
theorem Ok.mono{n m:Nat}{c:CV}(h:Ok n c)(hm:m≤n):Ok m c:=⟨h.ok,h.nb,h.off,h.cut,by have:=h.ops;omega,fun b=>by have:=h.aS b;omega⟩
theorem Ok.Aj{n:Nat}{c:CV}(h:Ok n c)(hs:(bn c).2=true):(bn c).1.cut=true:=by
 rw[bn]at hs⊢
 cases hf:c.aR.find? fun f=>decide (f.op=c.ops)with
 |none=>rw[hf]at hs;cases hs
 |some x=>
  rw[hf]at hs
  simp only[Bool.or_eq_true]at hs
  exact hs.elim id fun g=>h.cut x (List.mem_of_find?_eq_some hf) g
theorem Ok.ae{n:Nat}{c:CV}(h:Ok n c):aT c=true:=(fv.1 h.ok).1
theorem Oo{c d:CV}(h:fB c=true)(hk:aT d=true)(hl:dw c d):fB d=true:=by
 obtain⟨h1,h2,h3,h4⟩:=fv.1 h
 exact fv.2 ⟨hk,by rw[hl.len];exact h2,by rw[hl.pages];exact h3,by rw[hl.size];exact h4⟩
theorem Ok.prog{n:Nat}{c:CV}{b:Int}{p:List UInt8}(h:Ok (n+1) c)(h0:0≤b)(h1:b<c.blocks.length)(hu:(aj c b).used<c.pages)(hl:(p.length:Int)=c.size):(bC c b p=0∧Ok n (bD c b p))∨bC c b p=7:=by
 have hh:fY c b=true:=gv.2 ⟨h.ae,h0,h1⟩
 have mK:=dX.1 (oB hh)
 have Oq:=h.ops
 have fw:mq c b (aj c b).used p=true:=iW.2 ⟨hh,mK.2.1,hu,hl,by omega⟩
 by_cases hs:(bn c).2=true
 ·
  right
  rw[bC,jq,if_pos fw,if_neg (by rw[h.off];simp),if_neg (by rw[h.nb b];simp),if_pos hs,kt,if_pos (h.Aj hs)]
 ·
  left
  have hz:bC c b p=0:=by
   rw[bC,jq,if_pos fw,if_neg (by rw[h.off];simp),if_neg (by rw[h.nb b];simp),if_neg hs]
  refine⟨hz,?_⟩
  have e:=(nM hz).2.2.2.2
  have hf:(bD c b p).aR=c.aR:=by rw[e];rfl
  have ho:(bD c b p).ops=c.ops+1:=by rw[e];rfl
  have lA:(bD c b p).off=false:=by rw[e,gR,(show(bn c).2=false by simpa using hs)];rfl
  have kC:=Al hz
  have qE: ∀k:Int,(aj (bD c b p) k).bad=false∧(aj (bD c b p) k).aS=(aj c k).aS:=fun k=>by
   by_cases hk:k.toNat=b.toNat
   ·
    have e1:aj (bD c b p) k=aj (bD c b p) b:=by simp only[aj,hk]
    have e2:aj c k=aj c b:=by simp only[aj,hk]
    rw[e1,e2];exact⟨kC.2.2,kC.2.1⟩
   ·
    rw[Dm hz hk];exact⟨h.nb k,rfl⟩
  exact⟨Oo h.ok (kz h.ae b p) (gU c b p),fun k=>(qE k).1,lA,by rw[hf];exact h.cut,by rw[ho];omega,fun k=>by rw[(qE k).2];have:=h.aS k;omega⟩
theorem Ok.erase{n:Nat}{c:CV}{b:Int}(h:Ok (n+1) c)(h0:0≤b)(h1:b<c.blocks.length):(dF c b=0∧Ok n (da c b))∨dF c b=7:=by
 have hh:fY c b=true:=gv.2 ⟨h.ae,h0,h1⟩
 have Oq:=h.ops
 have hwb:=h.aS b
 have Ot:m0 c b=true:=nJ.2 ⟨hh,by omega,by omega⟩
 by_cases hs:(bn c).2=true
 ·
  right
  rw[dF,if_pos Ot,if_neg (by rw[h.off];simp),if_neg (by rw[h.nb b];simp),if_pos hs,kt,if_pos (h.Aj hs)]
 ·
  left
  have hz:dF c b=0:=by
   rw[dF,if_pos Ot,if_neg (by rw[h.off];simp),if_neg (by rw[h.nb b];simp),if_neg hs]
  refine⟨hz,?_⟩
  have e:=(zg hz).2.2.2.2
  have hf:(da c b).aR=c.aR:=by rw[e];rfl
  have ho:(da c b).ops=c.ops+1:=by rw[e];rfl
  have lA:(da c b).off=false:=by rw[e,jZ,(show(bn c).2=false by simpa using hs)];rfl
  obtain⟨_,h3,h4⟩:=gv.1 hh
  have qE: ∀k:Int,(aj (da c b) k).bad=false∧(aj (da c b) k).aS≤(aj c k).aS+1:=fun k=>by
   rw[e,jZ,rI (by omega)]
   split
   ·
    rename_i hk
    have e2:aj c k=aj c b:=by simp only[aj,hk]
    rw[e2];exact⟨h.nb b,by simp only;omega⟩
   ·
    exact⟨h.nb k,by omega⟩
  exact⟨Oo h.ok (za h.ae b) (tr c b),fun k=>(qE k).1,lA,by rw[hf];exact h.cut,by rw[ho];omega,fun k=>by have:=(qE k).2;have:=h.aS k;omega⟩
theorem aaE{c:CV}(h:fB c=true):((gT c).length:Int)=c.size:=by
 obtain⟨h1,_,_,h4⟩:=fv.1 h
 have hd:=eF h1
 have hf:lR c.size=true:=qd.2 ⟨h4,by omega⟩
 exact Aa (pj.2 ⟨hf, .inl rfl,by decide,by decide,by show(0:Nat)<_;omega,by rw[dv,if_pos hf];simp only[List.length_nil];omega⟩)
theorem Ok.clear{n:Nat}: ∀(m:Nat) {c:CV} {b:Int},Ok (n+(m+1)) c→0≤b→b<c.blocks.length→(m:Int)≤c.pages -(aj c b).used→((eY m c b).2=0∧Ok n (eY m c b).1)∨(eY m c b).2=7
 |0,c,b,h,h0,h1,hm=>h.erase h0 h1
 |m+1,c,b,h,h0,h1,hm=>by
  rcases h.prog (n:=n+(m+1)) (p:=gT c) h0 h1 (by omega) (aaE h.ok)with⟨e,g⟩|e
  ·
   rw[eY,if_neg (by rw[e];simp)]
   have eQ:=gU c b (gT c)
   exact Ok.clear m g h0 (by rw[eQ.len];exact h1) (by rw[eQ.pages,(Al e).1];omega)
  ·
   right;rw[eY,if_pos (by rw[e];decide)];exact e
theorem Ok.Dp{n:Nat}{c:CV}{b:Int}(h:Ok (n+17) c)(h0:0≤b)(h1:b<c.blocks.length):((cy c b).2=0∧Ok n (cy c b).1)∨(cy c b).2=7:=by
 have hd:=eF h.ae
 have mK:=dX.1 (qj h.ae h0 h1)
 have hf:dG c b=c.pages -(aj c b).used:=by rw[dG,if_neg (by rw[h.nb b];simp)]
 exact Ok.clear (n:=n) (dG c b).toNat (h.mono (by omega)) h0 h1 (by omega)
theorem Ok.root{n:Nat}{c:CV}{last:Int}(h:Ok (n+1) c)(hl:last=0∨last=1):((aW c last).2.2=0∧Ok n (aW c last).1)∨(aW c last).2.2=7:=by
 have h4:=(fv.1 h.ok).2.1
 rw[aW]
 split
 ·
  exact .inl ⟨rfl,h.mono (by omega)⟩
 ·
  split
  ·
   exact .inl ⟨rfl,h.mono (by omega)⟩
  ·
   split
   ·
    rename_i hb;rw[h.nb]at hb;cases hb
   ·
    exact h.erase (by omega) (by omega)
structure Dq(c:CV)(g:Nat)(a:List Int):Prop where
 gen:g+1<281474976710656
 len:(a.length:Int)≤jt c.size
 num: ∀x∈a,0≤x∧x≤65535
theorem Dq.put{c:CV}{g:Nat}{a:List Int}(h:Dq c g a)(hb:fB c=true):(cN ⟨g+1,a⟩ c.size).2=0∧((cN ⟨g+1,a⟩ c.size).1.length:Int)=c.size:=by
 obtain⟨h1,_,_,h4⟩:=fv.1 hb
 have hd:=eF h1
 have hf:lR c.size=true:=qd.2 ⟨h4,by omega⟩
 have hm:mu ⟨g+1,a⟩ c.size=true:=tn.2 ⟨by rw[dv,if_pos hf];omega,h.gen,h.len,fun x hx=>y4.2 (h.num x hx)⟩
 refine⟨?_,Nr hm⟩
 rw[cN,if_pos hm,c8,if_pos (Hi hm)]
theorem Ou{n:Nat}{x:WV}{a:List Int}(hx:cO x)(h:Ok (n+2) x.v.ae)(hr:Dq x.v.ae x.v.gen a):((dI x a).2=0∧Ok n (dI x a).1.v.ae∧(dI x a).1.v.at_=a∧(dI x a).1.v.gen=x.v.gen+1∧(∀i:Nat,aj (dI x a).1.v.ae ((i:Int)+2)=aj x.v.ae ((i:Int)+2))∧(dI x a).1.beyond=x.beyond)∨(dI x a).2=7:=by
 obtain⟨p1,p2⟩:=hr.put h.ok
 have Oq:=h.ops
 have hl:=hx.last
 have h4:=(fv.1 h.ok).2.1
 rw[dI,if_neg (by rw[p1];simp)]
 obtain⟨m,hm⟩: ∃m,(cI -x.v.ae.ops).toNat+1=m+1:=⟨_,rfl⟩
 rw[hm,gf]
 rcases Ok.root (n:=n+1) (last:=x.v.last) h hl with⟨e,g⟩|e
 ·
  rw[if_neg (by rw[e];simp)]
  have bP:=BX (c:=x.v.ae) (last:=x.v.last) h.ae hl
  have ql:=(bP.2.2.2 e).1
  have aaF:=aaG (c:=x.v.ae) (last:=x.v.last) h.ae hl e
  rcases g.prog (n:=n) (b:=(aW x.v.ae x.v.last).2.1) (p:=(cN ⟨x.v.gen+1,a⟩ x.v.ae.size).1) (by omega) (by rw[bP.2.1.len];omega) (by
   rw[dG,if_neg (by rw[g.nb];simp)]at aaF;omega) (by rw[bP.2.1.size];exact p2)with⟨e2,g2⟩|e2
  ·
   rw[if_pos e2]
   left
   refine⟨rfl,g2,rfl,rfl,fun i=> ?_,rfl⟩
   show aj (bD (aW x.v.ae x.v.last).1 (aW x.v.ae x.v.last).2.1 _) ((i:Int)+2)=_
   rw[Dm e2 (by omega)]
   exact aaH hl i
  ·
   right
   rw[if_neg (by rw[e2];decide),if_pos (by rw[e2];decide)];exact e2
 ·
  right
  rw[if_pos (by rw[e];decide)];exact e
where
 aaG {c:CV} {last:Int} (hk:aT c=true) (hl:last=0∨last=1) (he:(aW c last).2.2=0):0<dG (aW c last).1 (aW c last).2.1:=by
  rw[aW]at he⊢
  by_cases h1:0<dG c last
  ·
   rw[if_pos h1];exact h1
  ·
   rw[if_neg h1]at he⊢
   by_cases h2:0<dG c (1 -last)
   ·
    rw[if_pos h2];exact h2
   ·
    rw[if_neg h2]at he⊢
    by_cases h3:(aj c (1 -last)).bad=true
    ·
     rw[if_pos h3]at he;cases he
    ·
     rw[if_neg h3]at he⊢
     obtain⟨e1,e2,e3,e4,e5⟩:=zg he
     have hh:=(nJ.1 e1).1
     have hd:=eF hk
     show 0<dG (da c (1 -last)) (1 -last)
     rw[e5,dG,jZ,oD hh,e4,e3]
     simp only[Bool.false_eq_true,if_false];omega
 aaH {c:CV} {last:Int} (hl:last=0∨last=1) (i:Nat):aj (aW c last).1 ((i:Int)+2)=aj c ((i:Int)+2):=by
  rw[aW]
  split
  ·
   rfl
  ·
   split
   ·
    rfl
   ·
    split
    ·
     rfl
    ·
     show aj (da c (1 -last)) ((i:Int)+2)=_
     rw[da,iE]
     split
     ·
      rw[ku]
      split
      ·
       rename_i hm
       have hh:fY (fA c (1 -last)) (1 -last)=true:=by
        cases hq:fY (fA c (1 -last)) (1 -last)with
        |true=>rfl
        |false=>rw[m7,if_neg (by rw[hq];simp)]at hm;cases hm
       obtain⟨_,h3,h4⟩:=gv.1 hh
       have:=rI (c:=fA c (1 -last)) (o:=(fA c (1 -last)).ops) (f:=(fA c (1 -last)).off) (B:={aj (fA c (1 -last)) (1 -last)with bad:=true}) (show(1 -last).toNat<(fA c (1 -last)).blocks.length by omega) ((i:Int)+2)
       rw[if_neg (by omega)]at this
       rw[this,xN (by omega)]
      ·
       rw[xN (by omega)]
     ·
      rw[xN (by omega)]
open Go.aC
def jU(p:Int)(x:ax):Nat:=if x.bad=true then 0 else if x.live=0 then(if 0<x.used∧x.used<p then 1 else 0)else(x.used -x.live).toNat
def nu(p:Int)(l:List ax):Nat:=(l.map (jU p)).sum
theorem Ov{f:ax→Nat}: ∀{l:List ax} {i:Nat} {x y:ax},l[i]? =some y→((l.set i x).map f).sum+f y=(l.map f).sum+f x
 |[],i,x,y,h=>by simp at h
 |z::r,0,x,y,h=>by
  obtain rfl:z=y:=by simpa using h
  simp only[List.set_cons_zero,List.map_cons,List.sum_cons];omega
 |z::r,i+1,x,y,h=>by
  have:=Ov (f:=f) (l:=r) (i:=i) (x:=x) (y:=y) (by simpa using h)
  simp only[List.set_cons_succ,List.map_cons,List.sum_cons];omega
theorem Am{p:Int}{l:List ax}{i:Nat}{x y:ax}(h:l[i]? =some y):nu p (l.set i x)+jU p y=nu p l+jU p x:=Ov h
theorem Ow{f:ax→Nat}: ∀{l:List ax},(∀x∈l,f x=0)→(l.map f).sum=0
 |[],_=>rfl
 |z::r,h=>by
  rw[List.map_cons,List.sum_cons,h z List.mem_cons_self,Ow fun x hx=>h x (List.mem_cons_of_mem _ hx)]
theorem aaI{b:List UInt8}(h:(cr b).2=0)(hk:(cr b).1.kind≠0):kv (cr b).1 b.length=true:=by
 rw[cr]at h hk⊢
 by_cases h1:lR b.length=false
 ·
  rw[if_pos h1]at h;cases h
 ·
  rw[if_neg h1]at h hk⊢
  by_cases h2:iX b=true
  ·
   rw[if_pos h2]at hk;exact absurd rfl hk
  ·
   rw[if_neg h2]at h hk⊢
   by_cases h3:de (uV b)≠lP (kV b)
   ·
    rw[if_pos h3]at h;cases h
   ·
    rw[if_neg h3]at h hk⊢
    by_cases h4:na b=false
    ·
     rw[if_pos h4]at h;cases h
    ·
     rw[if_neg h4]at h hk⊢
     by_cases h5:tm (mr b)=false
     ·
      rw[if_pos h5]at h;cases h
     ·
      rw[if_neg h5]
      have hf:na b=true:=by simpa using h4
      rw[na,Bool.and_eq_true,decide_eq_true_eq]at hf
      obtain⟨m1,m2,m3,m4,m5,m6⟩:=pj.1 hf.2
      exact pj.2 ⟨m1,m2,m3,m4,m5,by
       have:((b.drop 10).take (10+gI b -10)).length≤gI b:=by rw[List.length_take];omega
       show(((b.drop 10).take (10+gI b -10)).length:Int)≤_;omega⟩
theorem Ok.tell{n:Nat}{c:CV}{fl:List Int}(h:Ok n c)(i:Nat):nt c fl i=⟨cL c.pages fl i,(aj c ((i:Int)+2)).used,(aj c ((i:Int)+2)).aS,false⟩:=HE (h.nb _)
theorem Ok.get{n:Nat}{c:CV}{fl:List Int}(h:Ok n c)(hs:Std c fl){i:Nat}(hi:i<c.blocks.length -2):(av c fl)[i]? =some ⟨cL c.pages fl i,(aj c ((i:Int)+2)).used,(aj c ((i:Int)+2)).aS,false⟩:=by
 have hd:=eF h.ae
 rw[vD (by omega) hs,List.getElem?_map,List.getElem?_range hi,Option.map_some,h.tell]
theorem Ok.getD{n:Nat}{c:CV}{fl:List Int}(h:Ok n c)(hs:Std c fl){i:Nat}(hi:i<c.blocks.length -2):(av c fl).getD i dH=⟨cL c.pages fl i,(aj c ((i:Int)+2)).used,(aj c ((i:Int)+2)).aS,false⟩:=by
 have:=h.get hs hi
 simp only[List.getD,this,Option.getD_some]
theorem Ok.xS{n:Nat}{c:CV}(h:Ok n c){i:Nat}(hi:i<c.blocks.length -2):0≤(aj c ((i:Int)+2)).used∧(aj c ((i:Int)+2)).used≤c.pages:=by
 have hb:=dX.1 (qj h.ae (b:=(i:Int)+2) (by omega) (by omega))
 exact⟨hb.2.1,hb.2.2.1⟩
theorem Ok.Ox{n:Nat}{c:CV}{fl:List Int}(h:Ok n c)(hs:Std c fl){i:Nat}(hi:i<c.blocks.length -2):(cL c.pages fl i:Int)≤(aj c ((i:Int)+2)).used:=by
 have hd:=eF h.ae
 exact Ol (by omega) hs i (h.xS hi).1
theorem Oy(l:List ax): ∀k,0<(fN l k).2→(fN l k).1.toNat<k∧(l.getD (fN l k).1.toNat dH).bad=false∧(l.getD (fN l k).1.toNat dH).live≠0∧(fN l k).2=(l.getD (fN l k).1.toNat dH).used -(l.getD (fN l k).1.toNat dH).live
 |0,h=>by simp[fN]at h
 |k+1,h=>by
  have ih:=Oy l k
  rw[fN,tw]at h⊢
  by_cases h1:(l.getD k dH).bad=true∨(l.getD k dH).live=0∨cI≤(l.getD k dH).aS
  ·
   rw[if_pos h1]at h⊢
   obtain⟨i1,i2⟩:=ih h
   exact⟨by omega,i2⟩
  ·
   rw[if_neg h1]at h⊢
   by_cases h2:(fN l k).2<(l.getD k dH).used -(l.getD k dH).live
   ·
    rw[if_pos h2]
    simp only[Int.toNat_natCast]
    exact⟨by omega,by
     cases hb:(l.getD k dH).bad with
     |false=>rfl
     |true=>exact absurd (.inl hb) h1,fun g=>h1 (.inr (.inl g)),trivial⟩
   ·
    rw[if_neg h2]at h⊢
    obtain⟨i1,i2⟩:=ih h
    exact⟨by omega,i2⟩
theorem Oz(l:List ax){j:Nat}(h1:(l.getD j dH).bad=false)(h2:(l.getD j dH).live≠0)(h3:(l.getD j dH).aS<cI): ∀k,j<k→(l.getD j dH).used -(l.getD j dH).live≤(fN l k).2
 |0,h=>by omega
 |k+1,h=>by
  rw[fN,tw]
  by_cases e:j=k
  ·
   subst e
   rw[if_neg (by rintro(g|g|g);rw[h1]at g;cases g;exact h2 g;omega)]
   split
   ·
    exact Int.le_refl _
   ·
    omega
  ·
   have ih:=Oz l h1 h2 h3 k (by omega)
   split
   ·
    exact ih
   ·
    split
    ·
     simp only;omega
    ·
     exact ih
theorem aaJ{n:Nat}{c:CV}{fl:List Int}(h:Ok n c)(hs:Std c fl)(hv:(gy (av c fl) c.pages).2=true):
  ∃i:Nat,(gy (av c fl) c.pages).1=i∧i<c.blocks.length -2∧0<cL c.pages fl i∧(cL c.pages fl i:Int)<(aj c ((i:Int)+2)).used:=by
 have hd:=eF h.ae
 have Dj:=Fl hv
 rw[kA]at Dj
 refine⟨(gy (av c fl) c.pages).1.toNat,by omega,by omega,?_⟩
 have lE:=h.getD hs (i:=(gy (av c fl) c.pages).1.toNat) (by omega)
 rw[gy]at hv lE⊢
 by_cases h1:(qi (av c fl) c.pages).2=true
 ·
  rw[if_pos h1]at lE⊢
  obtain⟨f1,f2,f3,f4⟩:=wM h1
  simp only at lE⊢
  change uY c.pages ((av c fl).getD (qi (av c fl) c.pages).1.toNat dH)=true at f4
  rw[lE,uY]at f4
  simp only[Bool.false_eq_true,if_false,Bool.and_eq_true,decide_eq_true_eq]at f4
  omega
 ·
  rw[if_neg h1]at hv lE⊢
  simp only[decide_eq_true_eq]at hv lE⊢
  obtain⟨_,s1,s2,s3⟩:=Oy _ _ hv
  rw[lE]at s2 s3
  simp only at s2 s3
  omega
theorem aaK{n:Nat}{c:CV}{fl:List Int}(h:Ok n c)(hs:Std c fl){j:Nat}(hj:j<c.blocks.length -2)(h1:0<cL c.pages fl j)(h2:(cL c.pages fl j:Int)<(aj c ((j:Int)+2)).used):(gy (av c fl) c.pages).2=true:=by
 rw[gy]
 split
 ·
  rfl
 ·
  have lE:=h.getD hs hj
  have:=Oz (av c fl) (j:=j) (by rw[lE]) (by rw[lE];simp only;omega) (by rw[lE];have:=h.aS ((j:Int)+2);simp only;omega) (av c fl).length (by rw[kA];exact hj)
  rw[lE]at this
  simp only[decide_eq_true_eq]at this⊢
  omega
theorem xT{R:ax→Bool}{x:ax}(h:x.bad=false)(hR:R x=true):gJ R x=x:=by
 rw[gJ,if_neg]
 rintro(g|g)
 ·
  rw[h]at g;cases g
 ·
  rw[hR]at g;cases g
theorem Dr{α:Type}{l:List α}{i:Nat}{x:α}(h:l[i]? =some x):l.set i x=l:=tl h
theorem aaL{n:Nat}{c:CV}{fl:List Int}{i j:Nat}(h:Ok (n+17) c)(hs:Std c fl)(hj:j<c.blocks.length -2)(cn:j≠i)(hd0:cL c.pages fl j=0):
  (∃(t:Nat) (w:Int),t≠i∧t<c.blocks.length -2∧cL c.pages fl t=0∧(bT c ((av c fl).set i bj)).2=((t:Int)+2,0)∧Ok n (bT c ((av c fl).set i bj)).1∧av (bT c ((av c fl).set i bj)).1 fl=(av c fl).set t ⟨0,0,w,false⟩∧Kp fl c (bT c ((av c fl).set i bj)).1)∨(bT c ((av c fl).set i bj)).2.2=7:=by
 have hd:=eF h.ae
 have hw0:=HF h.ae hs (by omega)
 have hw:=aaD hw0 i
 have hgj:=h.get hs hj
 have ko:(⟨cL c.pages fl j,(aj c ((j:Int)+2)).used,(aj c ((j:Int)+2)).aS,false⟩:ax)∈(av c fl).set i bj:=by
  refine List.mem_of_getElem? (i:=j) ?_
  rw[List.getElem?_set_ne (fun e=>cn e.symm)];exact hgj
 have HG:=h.xS hj
 have hwo:=h.aS ((j:Int)+2)
 have OA: ∀{k:Nat} {x:ax},((av c fl).set i bj)[k]? =some x→x.bad=false→k≠i∧k<c.blocks.length -2∧x=⟨cL c.pages fl k,(aj c ((k:Int)+2)).used,(aj c ((k:Int)+2)).aS,false⟩:=fun{k x} hx hb=>by
  have hk:k≠i:=fun e=>by
   rw[e,List.getElem?_set]at hx
   rw[if_pos rfl]at hx
   split at hx
   ·
    obtain rfl:=Option.some.inj hx;cases hb
   ·
    cases hx
  rw[List.getElem?_set_ne (fun e=>hk e.symm)]at hx
  obtain⟨rfl,hl⟩:=sM (by omega) hs hx
  exact⟨hk,hl,h.tell k⟩
 have OB: ∀{d:Int×Bool},(∃x,((av c fl).set i bj)[d.1.toNat]? =some x∧x.bad=false∧x.live=0)→0≤d.1→
   ((∃(t:Nat) (w:Int),t≠i∧t<c.blocks.length -2∧cL c.pages fl t=0∧(d.1+2,(cy c (d.1+2)).2)=((t:Int)+2,0)∧Ok n (cy c (d.1+2)).1∧av (cy c (d.1+2)).1 fl=(av c fl).set t ⟨0,0,w,false⟩∧Kp fl c (cy c (d.1+2)).1)∨(cy c (d.1+2)).2=7):=fun{d} hx h0=>by
  obtain⟨x,hx,hb,hl⟩:=hx
  obtain⟨k1,k2,k3⟩:=OA hx hb
  rw[k3]at hl
  simp only at hl
  have e:d.1=((d.1.toNat:Nat):Int):=by omega
  rw[e]
  have lq:=(rL (by omega) hs d.1.toNat).1 (by omega)
  rcases h.Dp (b:=((d.1.toNat:Nat):Int)+2) (by omega) (by omega)with⟨z,g⟩|z
  ·
   left
   exact⟨d.1.toNat,_,k1,k2,by omega,by rw[z],g,(Dn h.ae hs lq z).1,vB (by omega) lq⟩
  ·
   exact .inr z
 rw[bT]
 by_cases hA:(kY c ((av c fl).set i bj)).2=true
 ·
  rw[if_pos hA]
  left
  obtain⟨x,hx,a1,a2,a3,a4,a5⟩:=nf (fun x h=>(qk h).1) hA
  have yM:((av c fl).set i bj)[(kY c ((av c fl).set i bj)).1.toNat]? =some x:=hx
  change 0≤(kY c ((av c fl).set i bj)).1 at a4
  generalize kY c ((av c fl).set i bj)=T at*
  obtain⟨k1,k2,k3⟩:=OA yM a1
  simp only[px,decide_eq_true_eq]at a2
  rw[k3]at a2
  simp only at a2
  have MM:=h.Ox hs k2
  have lh:cL c.pages fl T.1.toNat=0:=by omega
  refine⟨T.1.toNat,(aj c ((T.1.toNat:Int)+2)).aS,k1,k2,lh,by simp only;rw[Int.toNat_of_nonneg a4],h.mono (by omega),?_, .cX _ _⟩
  refine(Dr ?_).symm
  have:=h.get hs k2
  rw[lh,a2]at this
  exact this
 ·
  rw[if_neg hA]
  have HH:=re (xR (R:=px) hw) (show(fj (bR px ((av c fl).set i bj)) c.pages (ln c.pages) [wJ,qf]).2=false by simpa[kY,eE]using hA)
  have zF:(aj c ((j:Int)+2)).used≠0:=fun e=>by
   have:=HH _ (List.mem_map_of_mem (f:=gJ px) ko)
   rw[xT rfl (by simp[px,e]),ln]at this
   simp only[Bool.not_false,Bool.true_and,decide_eq_false_iff_not]at this
   omega
  have Ds:kW ⟨cL c.pages fl j,(aj c ((j:Int)+2)).used,(aj c ((j:Int)+2)).aS,false⟩=true:=by
   simp only[kW,hd0,Bool.not_false,Bool.true_and,Bool.and_eq_true,decide_eq_true_eq]
   exact⟨rfl,by omega⟩
  by_cases hB:(ja c ((av c fl).set i bj)).2=true
  ·
   rw[if_pos hB]
   obtain⟨x,hx,a1,a2,a3,a4,a5⟩:=nf (fun x h=>(kB h).1) hB
   exact OB (d:=ja c ((av c fl).set i bj)) ⟨x,hx,a1,(kB a3).2.1⟩ a4
  ·
   rw[if_neg hB]
   have HI:=re (xR (R:=qp c.pages) hw) (show(fj (bR (qp c.pages) ((av c fl).set i bj)) c.pages kW [qf]).2=false by simpa[ja,eK]using hB)
   have hup:(aj c ((j:Int)+2)).used≠c.pages:=fun e=>by
    have:=HI _ (List.mem_map_of_mem (f:=gJ (qp c.pages)) ko)
    rw[xT rfl (by simp[qp,e]),Ds]at this
    cases this
   by_cases hD:(jb c ((av c fl).set i bj)).2=true
   ·
    rw[if_pos hD]
    obtain⟨x,hx,a1,a2,a3,a4,a5⟩:=nf (fun x h=>(kB h).1) hD
    exact OB (d:=jb c ((av c fl).set i bj)) ⟨x,hx,a1,(kB a3).2.1⟩ a4
   ·
    exfalso
    have lO:=re (xR (R:=qq) hw) (show(fj (bR qq ((av c fl).set i bj)) c.pages kW [qf]).2=false by simpa[jb,eK]using hD)
    have:=lO _ (List.mem_map_of_mem (f:=gJ qq) ko)
    rw[xT rfl (by simp only[qq,decide_eq_true_eq];omega),Ds]at this
    cases this
open Go.aC
def Dt(p:Int)(b:Int)(n:Int):Bool:=decide (0<n)&&decide ((n -1)/p=b)
def rM(p:Int)(b:Int)(l:List Int):Nat:=(l.filter (Dt p b)).length
theorem aaM(P:Int→Bool): ∀(l:List Int),((List.range l.length).filter fun j=>P (l.getD j 0)).length=(l.filter P).length:=by
 intro l
 have key: ∀k,k≤l.length→((List.range k).filter fun j=>P (l.getD j 0)).length=((l.take k).filter P).length:=by
  intro k
  induction k with
  |zero=>intro _;simp
  |succ k ih=>
   intro hk
   have hy:=List.getElem?_eq_getElem (show k<l.length by omega)
   rw[List.range_succ,List.filter_append,List.length_append,ih (by omega),List.take_add_one,hy,List.filter_append,List.length_append,nL hy|>fun e=>(show(List.filter (fun j=>P (l.getD j 0)) [k]).length=(List.filter P [l[k]]).length by
    have:l.getD k 0=l[k]:=e
    simp only[List.filter_cons,List.filter_nil,this];split<;>rfl)]
   rfl
 have:=key l.length (Nat.le_refl _)
 rwa [List.take_length]at this
theorem aaN{v:VV}(h:eV v)(i:Nat):rM v.ae.pages ((i:Int)+2) v.at_=cL v.ae.pages v.at_ i:=by
 have hp:1≤v.ae.pages:=by have:=(fv.1 h.bears).2.2.1;omega
 rw[←Dl hp i (h.pl.lD.pos hp),Tu (xO.2 h) i,FC,rM]
 exact(aaM (Dt v.ae.pages ((i:Int)+2)) v.at_).symm
theorem OC{c:CV}{fl:List Int}(hk:aT c=true)(h:Std c fl): ∀x∈fl,0≤x∧x≤65535:=fun x hx=>by
 have hd:=eF hk
 rcases h.pos (by omega) x hx with h0|h1
 ·
  omega
 ·
  have hp:=lj.1 (h x hx (by omega))
  have:=Fc (n:=x) hd.2.2.1 hd.2.2.2.1 hd.2.1 hp.2.1
  omega
theorem aaO{c:CV}(hb:fB c=true){i n:Int}(h:lS c i n=true):kv (cr (bJ c (n -1))).1 c.size=true∧(cr (bJ c (n -1))).1.id=i∧iC c n=(cr (bJ c (n -1))).1.body:=by
 obtain⟨h1,h2,h3,h4⟩:=Ad h
 obtain⟨p1,p2,p3⟩:=lj.1 h1
 obtain⟨k1,_,k3,_⟩:=fv.1 hb
 have mK:=dX.1 (qj k1 (b:=(n -1)/c.pages) (by omega) p2)
 have h0:0≤(n -1)%c.pages:=Int.emod_nonneg _ (by omega)
 have hj:((n -1)%c.pages).toNat<(aj c ((n -1)/c.pages)).pages.length:=by omega
 have hl:((bJ c (n -1)).length:Int)=c.size:=by
  rw[bJ]
  simp only[List.getD]
  rw[List.getElem?_eq_getElem hj]
  exact mK.2.2.2.2.2 _ (List.getElem_mem hj)
 refine⟨?_,h4,by rw[iC,if_pos h2]⟩
 have:=aaI h2 (by rw[h3];decide)
 rwa [hl]at this
theorem HJ{v:VV}{src:Int}{t:Nat}(wu:(t:Int)+2≠src)(hg:v.gen+1<281474976710656): ∀(l:List Int) (id:Nat) {n:Nat} {c:CV} {a:List Int} {m:Nat} {w:Int},Ok (n+l.length) c→dw v.ae c→t<c.blocks.length -2→Pl c v.at_→Std c a→a.length=v.at_.length→v.at_.drop id=l→(∀j,id≤j→a[j]? =v.at_[j]?)→(∀(j:Nat) (y:Int),v.at_[j]? =some y→(y=0∨(y -1)/v.ae.pages≠src)→a[j]? =some y)→
  cL c.pages (v.at_++a) t=m→(aj c ((t:Int)+2)).used=m→(m:Int)+rM c.pages src l≤c.pages→
  ((bV v src ((t:Int)+2) l id c a).e=none∧Ok n (bV v src ((t:Int)+2) l id c a).c∧Std (bV v src ((t:Int)+2) l id c a).c (bV v src ((t:Int)+2) l id c a).a∧
   (∃m' w':Int,av (bV v src ((t:Int)+2) l id c a).c (v.at_++(bV v src ((t:Int)+2) l id c a).a)=(av c (v.at_++a)).set t ⟨m',m',w',false⟩)∧
   (∀(j:Nat) (y:Int),v.at_[j]? =some y→(y=0∨(y -1)/v.ae.pages≠src)→(bV v src ((t:Int)+2) l id c a).a[j]? =some y))∨(bV v src ((t:Int)+2) l id c a).e=some 7
 |[],id,n,c,a,m,w,h,eQ,ht,hv,ha,dD,hl,ic,dz,nR,zB,HK=>by
  left
  refine⟨rfl,h,ha,⟨m,(aj c ((t:Int)+2)).aS,?_⟩,dz⟩
  have:=h.get (fl:=v.at_++a) (hv.lD.append ha) ht
  rw[nR,zB]at this
  exact(Dr this).symm
 |y::r,id,n,c,a,m,w,h,eQ,ht,hv,ha,dD,hl,ic,dz,nR,zB,HK=>by
  have hy:v.at_[id]? =some y:=by
   have:=congrArg (fun l:List Int=>l[0]?) hl
   simpa using this
  have hr:v.at_.drop (id+1)=r:=by rw[←List.drop_drop,hl];rfl
  have hp:=eQ.pages
  have hd:=eF h.ae
  rw[bV]
  by_cases h1:y=0∨(y -1)/v.ae.pages≠src
  ·
   rw[if_pos h1]
   refine HJ wu hg r (id+1) (n:=n) (w:=w) (h.mono (by simp only[List.length_cons];omega)) eQ ht hv ha dD hr (fun j hj=>ic j (by omega)) dz nR zB ?_
   have:rM c.pages src (y::r)=rM c.pages src r:=by
    rw[rM,List.filter_cons_of_neg];rfl
    simp only[Dt,Bool.and_eq_true,decide_eq_true_eq]
    rintro⟨g1,g2⟩
    rcases h1 with g|g
    ·
     omega
    ·
     rw[←hp]at g;exact g g2
   rw[←this];exact HK
  ·
   rw[if_neg h1]
   have me:y≠0:=fun e=>h1 (.inl e)
   have hys:(y -1)/c.pages=src:=by rw[hp];exact Classical.not_not.1 fun e=>h1 (.inr e)
   have Cr:1≤y:=(hv.lD.pos (by omega) y (List.mem_of_getElem? hy)).resolve_left me
   have hb:cf c v.at_ a src ((t:Int)+2)=((t:Int)+2,true):=by rw[cf,if_neg (by omega)]
   rw[hb,if_neg (by simp)]
   have sF:=hv.1 id y hy me
   obtain⟨y1,y2,y3⟩:=aaO h.ok sF
   obtain⟨z1,z2,z3,z4,z5,z6⟩:=pj.1 y1
   rw[y2]at z3 z4
   have xP:kv ⟨1,id,((v.gen:Int)+1).toNat,iC c y⟩ c.size=true:=pj.2 ⟨z1, .inl rfl,z3,z4,by simp only;omega,by rw[y3];exact z6⟩
   have HL:dJ c ((v.gen:Int)+1) id y=((dJ c ((v.gen:Int)+1) id y).1,0):=by
    rw[dJ,c8,if_pos xP]
   have bU:((dJ c ((v.gen:Int)+1) id y).1.length:Int)=c.size:=Aa xP
   rw[if_neg (by rw[HL];simp)]
   have aaP:rM c.pages src (y::r)=rM c.pages src r+1:=by
    rw[rM,List.filter_cons_of_pos];rfl
    simp only[Dt,Bool.and_eq_true,decide_eq_true_eq]
    exact⟨by omega,hys⟩
   rw[aaP]at HK
   rcases h.prog (n:=n+r.length) (b:=(t:Int)+2) (p:=(dJ c ((v.gen:Int)+1) id y).1) (by omega) (by omega) (by omega) bU with⟨z,g⟩|z
   ·
    rw[if_neg (by rw[z];simp)]
    have e2:(t:Int)+2=((t:Nat):Int)+2:=rfl
    generalize hN:((t:Int)+2)*v.ae.pages+(aj c ((t:Int)+2)).used+1=N
    have ko: ∀k,k∈v.at_++a.set id N↔k∈v.at_++a∨k=((t:Int)+2)*c.pages+(aj c ((t:Int)+2)).used+1:=fun k=>by
     rw[hp,hN,List.mem_append,List.mem_append]
     have ib:id<a.length:=by rw[dD];exact(List.getElem?_eq_some_iff.1 hy).1
     constructor
     ·
      rintro(q|q)
      ·
       exact .inl (.inl q)
      ·
       rcases List.mem_or_eq_of_mem_set q with q|q
       ·
        exact .inl (.inr q)
       ·
        exact .inr q
     ·
      rintro((q|q)|q)
      ·
       exact .inl q
      ·
       obtain⟨j,hj⟩:=List.getElem?_of_mem q
       by_cases e:j=id
       ·
        rw[e,ic id (Nat.le_refl _)]at hj
        exact .inl (List.mem_of_getElem? hj)
       ·
        right
        exact List.mem_of_getElem? (i:=j) (by rw[List.getElem?_set_ne (fun g=>e g.symm)];exact hj)
      ·
       right
       rw[q]
       exact List.mem_of_getElem? (i:=id) (by rw[List.getElem?_set_self ib])
    obtain⟨b1,b2⟩:=Om h.ae (hv.lD.append ha) z ko
    have sL:=C7 (L:=v.at_) (c:=c) (b:=(t:Int)+2) (p:=(dJ c ((v.gen:Int)+1) id y).1)
    have nr:=gU c ((t:Int)+2) (dJ c ((v.gen:Int)+1) id y).1
    have fw:=iW.1 (nM z).1
    have kC:=Al z
    have eO:(((t:Int)+2)*c.pages+(aj c ((t:Int)+2)).used+1 -1)/c.pages=(t:Int)+2:=by
     rw[Int.add_sub_cancel,Int.add_comm,Int.add_mul_ediv_right _ _ (by omega),Int.ediv_eq_zero_of_lt fw.2.1 fw.2.2.1,Int.zero_add]
    have aaQ:((t:Int)+2)*c.pages+(aj c ((t:Int)+2)).used+1∉v.at_++a:=fun gL=>by
     have wR:0≤((t:Int)+2)*c.pages:=Int.mul_nonneg (by omega) (by omega)
     have:=hv.lD.append ha _ gL (by have:=fw.2.1;omega)
     rw[Int.add_sub_cancel,(Dd (L:=[]) (by omega) z).2.2.2]at this;cases this
    have OD:=HB (by omega) eO aaQ ko t
    rw[if_pos rfl,nR]at OD
    have ih:=HJ wu hg r (id+1) (n:=n) (w:=w) (m:=m+1) (a:=a.set id N) g (eQ.trans nr) (by rw[nr.len];exact ht) (hv.kd sL fun _ q=>q) (fun k hk=>b2 k (List.mem_append_right _ hk)) (by rw[List.length_set,dD]) hr (fun j hj=>by rw[List.getElem?_set_ne (by omega)];exact ic j (by omega)) (fun j q hq Di=>by
     by_cases e:j=id
     ·
      rw[e,hy]at hq
      obtain rfl:=Option.some.inj hq
      exact absurd Di h1
     ·
      rw[List.getElem?_set_ne (fun g=>e g.symm)];exact dz j q hq Di) (by rw[nr.pages];exact OD) (by rw[kC.1,zB];rfl) (by rw[nr.pages];omega)
    rcases ih with⟨i1,i2,i3,⟨m',w',i4⟩,i5⟩|i1
    ·
     left
     refine⟨i1,i2,i3,⟨m',w',?_⟩,i5⟩
     rw[i4,b1,List.set_set]
    ·
     exact .inr i1
   ·
    right
    rw[if_pos (by rw[z];decide)]
    show some (iZ (bC c ((t:Int)+2) (dJ c ((v.gen:Int)+1) id y).1))=some 7
    rw[z];rfl
structure Lv(n:Nat)(x:WV):Prop where
 ok:Ok n x.v.ae
 wr:cO x
 rt:eV x.v
 pl:gZ x.v.ae
 ka:(x.v.at_.length:Int)≤jt x.v.ae.size
 half:2*(x.v.at_.length:Int)≤((x.v.ae.blocks.length:Int) -4)*x.v.ae.pages
 idle: ∃j,j<x.v.ae.blocks.length -2∧cL x.v.ae.pages x.v.at_ j=0
theorem Lv.mono{n m:Nat}{x:WV}(h:Lv n x)(hm:m≤n):Lv m x:=⟨h.ok.mono hm,h.wr,h.rt,h.pl,h.ka,h.half,h.idle⟩
def lF(x:WV):Nat:=nu x.v.ae.pages (av x.v.ae x.v.at_)
theorem Lv.next{n m:Nat}{x y:WV}(h:Lv m x)(s:Sf x (cj x.v) y 0)(o:cO y)(k:Ok n y.v.ae)(hi: ∃j,j<y.v.ae.blocks.length -2∧cL y.v.ae.pages y.v.at_ j=0):Lv n y:=
 ⟨k,o,(s.aY rfl).1,h.pl.kd s.kd,by rw[s.len,s.kd.bS.size];exact h.ka,by rw[s.len,s.kd.bS.len,s.kd.bS.pages];exact h.half,hi⟩
theorem aaR{n:Nat}{x:WV}{i:Nat}(h:Lv (n+100) x)(hg:x.v.gen+2<281474976710656)(hi:i<x.v.ae.blocks.length -2)(h0:0<cL x.v.ae.pages x.v.at_ i)(h1:(cL x.v.ae.pages x.v.at_ i:Int)<(aj x.v.ae ((i:Int)+2)).used):
  ((eZ x (cV x) i).2=0∧Lv n (eZ x (cV x) i).1∧lF (eZ x (cV x) i).1<lF x∧(eZ x (cV x) i).1.v.gen=x.v.gen+1)∨(eZ x (cV x) i).2=7:=by
 obtain⟨j,hj,Dk⟩:=h.idle
 have cn:j≠i:=fun e=>by rw[e]at Dk;omega
 have hd:=eF h.ok.ae
 have iF:=h.rt.pl.lD
 have ei:x.v.at_.length≤64:=h.wr.ka
 have lb:=N1 (l:=cV x) (i:=(i:Int)) h.wr h.rt h.pl (u5 _ _) (Db _ _) (by omega) (by rw[show(cV x).length=_ from kA _ _];omega)
 have lJ:=Fv (l:=cV x) (i:=(i:Int)) h.wr (u5 _ _)
 have pO:=lb.1
 have OE:=h.ok.get (fl:=x.v.at_) iF hi
 have lE:(cV x).getD i dH=_:=h.ok.getD (fl:=x.v.at_) iF hi
 rcases aaL (n:=n+83) (i:=i) h.ok iF hj cn Dk with⟨t,w,t1,t2,t3,t4,t5,t6,t7⟩|tz
 ·
  have dD:oF x.v.ae (cV x) i=false:=by
   rw[oF,show(bT x.v.ae ((cV x).set (i:Int).toNat bj)).2.2=0 from congrArg Prod.snd t4];rfl
  have nq:cJ x.v.ae (cV x) i=((t:Int)+2,0):=by
   rw[cJ,if_neg (by rw[dD];simp)];exact t4
  rw[eZ,nq]at pO lJ⊢
  rw[if_neg (by simp)]at pO lJ⊢
  have aF:(i:Int).toNat=i:=rfl
  rw[aF]at pO lJ⊢
  change Ok (n+83) (bT x.v.ae ((cV x).set i bj)).1 at t5
  change av (bT x.v.ae ((cV x).set i bj)).1 x.v.at_=(cV x).set t ⟨0,0,w,false⟩at t6
  change Kp x.v.at_ x.v.ae (bT x.v.ae ((cV x).set i bj)).1 at t7
  generalize(bT x.v.ae ((cV x).set i bj)).1=c1 at*
  have An:=h.rt.kp t7
  have eQ:=t7.bS
  have vZ:rM c1.pages ((i:Int)+2) x.v.at_=cL x.v.ae.pages x.v.at_ i:=by rw[eQ.pages];exact aaN h.rt i
  have HG:=h.ok.xS hi
  have xU:Std c1 x.v.at_:=An.pl.lD
  have rE:av c1 (x.v.at_++x.v.at_)=(cV x).set t ⟨0,0,w,false⟩:=by
   rw[←t6]
   exact HD (by rw[eQ.pages];omega) xU (xU.append xU) (.cX _) fun k=>⟨rfl,rfl,rfl,fun _=>ud (fun m _=>by rw[List.mem_append];exact or_self_iff) (by rw[eQ.pages];omega)⟩
  have Gn:t<c1.blocks.length -2:=by rw[eQ.len];exact t2
  have vY:=t5.get (fl:=x.v.at_++x.v.at_) (xU.append xU) Gn
  rw[rE,List.getElem?_set_self (by rw[show(cV x).length=_ from kA _ _];exact t2)]at vY
  have OF:=Option.some.inj vY
  have xz:(aj c1 ((t:Int)+2)).used=0:=(congrArg ax.used OF).symm
  have AV:cL c1.pages (x.v.at_++x.v.at_) t=0:=by have:=congrArg ax.live OF;simp only at this;omega
  have OG:=HJ (v:=x.v) (src:=(i:Int)+2) (t:=t) (by omega) (by omega) x.v.at_ 0 (n:=n+19) (c:=c1) (a:=x.v.at_) (m:=0) (w:=w) (t5.mono (by omega)) eQ Gn An.pl xU rfl rfl (fun _ _=>rfl) (fun _ _ q _=>q) AV xz (by rw[vZ,eQ.pages];omega)
  have hmk:=Df (v:=(x.on c1).v) (src:=(i:Int)+2) (to:=(t:Int)+2) (by omega) (fun _=>by omega) (by show 1≤c1.pages;rw[eQ.pages];omega) (x.on c1).v.at_ 0 (c:=(x.on c1).v.ae) (a:=(x.on c1).v.at_) (t7.ok h.ok.ae) An.pl (.cX _ _) An.pl rfl (fun _=>⟨by omega,by show(t:Int)+2<c1.blocks.length;omega,t5.nb _⟩) rfl (fun _ _=>rfl) (fun j n hj=>by omega) rfl
  have jW:bV x.v ((i:Int)+2) ((t:Int)+2) x.v.at_ 0 c1 x.v.at_=bV (x.on c1).v ((i:Int)+2) ((t:Int)+2) (x.on c1).v.at_ 0 (x.on c1).v.ae (x.on c1).v.at_:=by
   exact aaS (v:=x.v) (u:=(x.on c1).v) eQ.pages.symm rfl rfl _ _ _ _
  rw[jW]at OG
  rcases OG with⟨e1,e2,e3,⟨m',w',e4⟩,e5⟩|e1
  ·
   obtain⟨k1,k2,_,_⟩:=hmk
   obtain⟨k3,k4,k5,k6⟩:=k2 e1
   have Du:cU (x.on c1) ((i:Int)+2) ((t:Int)+2)=((dI ((x.on c1).on (bV (x.on c1).v ((i:Int)+2) ((t:Int)+2) (x.on c1).v.at_ 0 (x.on c1).v.ae (x.on c1).v.at_).c) (bV (x.on c1).v ((i:Int)+2) ((t:Int)+2) (x.on c1).v.at_ 0 (x.on c1).v.ae (x.on c1).v.at_).a).1,decide ((dI ((x.on c1).on (bV (x.on c1).v ((i:Int)+2) ((t:Int)+2) (x.on c1).v.at_ 0 (x.on c1).v.ae (x.on c1).v.at_).c) (bV (x.on c1).v ((i:Int)+2) ((t:Int)+2) (x.on c1).v.at_ 0 (x.on c1).v.ae (x.on c1).v.at_).a).2=0),(dI ((x.on c1).on (bV (x.on c1).v ((i:Int)+2) ((t:Int)+2) (x.on c1).v.at_ 0 (x.on c1).v.ae (x.on c1).v.at_).c) (bV (x.on c1).v ((i:Int)+2) ((t:Int)+2) (x.on c1).v.at_ 0 (x.on c1).v.ae (x.on c1).v.at_).a).2):=by
    rw[cU,e1]
   generalize hM:bV (x.on c1).v ((i:Int)+2) ((t:Int)+2) (x.on c1).v.at_ 0 (x.on c1).v.ae (x.on c1).v.at_=M at*
   have nr:=eQ.trans k1.bS
   have ft:cO ((x.on c1).on M.c):=(h.wr.on (t7.ok h.ok.ae) eQ).on e2.ae k1.bS
   have aaT:Dq ((x.on c1).on M.c).v.ae ((x.on c1).on M.c).v.gen M.a:=⟨by show x.v.gen+1<_;omega,by rw[show M.a.length=x.v.at_.length from k5,show((x.on c1).on M.c).v.ae.size=x.v.ae.size from nr.size];exact h.ka,OC e2.ae e3⟩
   rcases Ou (n:=n+17) ft (e2.mono (by omega)) aaT with⟨w1,w2,w3,w4,w5,w6⟩|w1
   ·
    have Ao:=Hr (a:=M.a) ft (by
     have:=An.kp k1
     exact this) ((h.pl.kd t7.toKd).kd k1.toKd) k3 k5
    have hRW:=(Ao.1.aY w1).1
    have rN:dw x.v.ae (dI ((x.on c1).on M.c) M.a).1.v.ae:=nr.trans Ao.1.kd.bS
    rw[Du]at pO lJ⊢
    simp only[w1,decide_true]at pO lJ⊢
    generalize hW:(dI ((x.on c1).on M.c) M.a).1=W at*
    have Ap:Std W.v.ae M.a:=by have:=hRW.pl.lD;rwa [w3]at this
    have OH:av W.v.ae M.a=((cV x).set t ⟨m',m',w',false⟩).set i ⟨0,(aj x.v.ae ((i:Int)+2)).used,(aj x.v.ae ((i:Int)+2)).aS,false⟩:=by
     have OI:av M.c (x.v.at_++M.a)=(cV x).set t ⟨m',m',w',false⟩:=by
      rw[e4,rE,List.set_set]
     have Aq:Std M.c (x.v.at_++M.a):=(h.rt.pl.lD.kd t7.toKd (fun _ q=>q)|>.kd k1.toKd fun _ q=>q).append e3
     have OJ:=e2.get (fl:=x.v.at_++M.a) Aq (i:=i) (by rw[nr.len];exact hi)
     rw[OI,List.getElem?_set_ne t1,show(cV x)[i]? =_ from OE]at OJ
     have OK:=Option.some.inj OJ
     have nV:1≤M.c.pages:=by rw[nr.pages];omega
     rw[←OI]
     refine HC nV Aq Ap (by have:=Ao.1.kd.bS;exact this) (fun k hk=>⟨w5 k,ud (fun q hq=> ?_) nV⟩) ?_
     ·
      rw[List.mem_append]
      refine⟨.inr,fun g=>g.elim (fun g=> ?_) id⟩
      obtain⟨z,hz⟩:=List.getElem?_of_mem g
      have:=e5 z q hz (.inr (by rw[←nr.pages,hq];omega))
      exact List.mem_of_getElem? this
     ·
      have lq:jT M.a W.v.ae ((i:Int)+2):=by
       have:jT M.a c1 ((i:Int)+2):=k6
       exact this.bS (k1.bS.trans Ao.1.kd.bS)
      have:=(rL (by rw[rN.pages];omega) Ap i).2 lq
      rw[w2.tell,this,w5 i]
      have u1:=congrArg ax.used OK
      have u2:=congrArg ax.aS OK
      simp only at u1 u2
      rw[show(aj ((x.on c1).on M.c).v.ae ((i:Int)+2)).used=_ from u1.symm,show(aj ((x.on c1).on M.c).v.ae ((i:Int)+2)).aS=_ from u2.symm];rfl
    have hgt:(cV x)[t]? =_:=h.ok.get (fl:=x.v.at_) iF t2
    have kG:=Am (p:=x.v.ae.pages) (x:=⟨m',m',w',false⟩) hgt
    have aji:jU x.v.ae.pages ⟨m',m',w',false⟩=0:=by
     rw[jU];simp only[Bool.false_eq_true,if_false]
     split
     ·
      rename_i e;rw[if_neg (by omega)]
     ·
      omega
    have OL:((cV x).set t ⟨m',m',w',false⟩)[i]? =_:=(List.getElem?_set_ne t1).trans OE
    have Gl:1≤jU x.v.ae.pages ⟨cL x.v.ae.pages x.v.at_ i,(aj x.v.ae ((i:Int)+2)).used,(aj x.v.ae ((i:Int)+2)).aS,false⟩:=by
     rw[jU];simp only[Bool.false_eq_true,if_false]
     rw[if_neg (by omega)];omega
    have HM:cL W.v.ae.pages W.v.at_ i=0:=by
     have lq:jT M.a W.v.ae ((i:Int)+2):=by
      have:jT M.a c1 ((i:Int)+2):=k6
      exact this.bS (k1.bS.trans Ao.1.kd.bS)
     rw[w3];exact(rL (by rw[rN.pages];omega) Ap i).2 lq
    have OM:i<W.v.ae.blocks.length -2:=by rw[rN.len];exact hi
    by_cases ON:(aj x.v.ae ((i:Int)+2)).used=x.v.ae.pages
    ·
     rw[lE]at pO lJ⊢
     rw[if_pos (.inr ON)]at pO lJ⊢
     left
     refine⟨rfl,h.next pO lJ.1.ok (w2.mono (by omega)) ⟨i,OM,HM⟩,?_,w4⟩
     rw[lF,lF,rN.pages,w3,OH]
     have iK:=Am (p:=x.v.ae.pages) (x:=⟨0,(aj x.v.ae ((i:Int)+2)).used,(aj x.v.ae ((i:Int)+2)).aS,false⟩) OL
     have OO:jU x.v.ae.pages ⟨0,(aj x.v.ae ((i:Int)+2)).used,(aj x.v.ae ((i:Int)+2)).aS,false⟩=0:=by
      rw[jU];simp only[Bool.false_eq_true,if_false,if_true]
      rw[if_neg (by omega)]
     change _<nu x.v.ae.pages (cV x)
     omega
    ·
     rw[lE]at pO lJ⊢
     rw[if_neg (by rintro(g|g);cases g;exact ON g)]at pO lJ⊢
     rcases w2.Dp (n:=n) (b:=(i:Int)+2) (by omega) (by omega)with⟨q1,q2⟩|q1
     ·
      simp only[q1]at pO lJ⊢
      left
      have lq:jT M.a W.v.ae ((i:Int)+2):=(rL (by rw[rN.pages];omega) Ap i).1 (by rw[←w3];exact HM)
      obtain⟨b1,b2⟩:=Dn w2.ae Ap lq q1
      have kc:=(tt ((i:Int)+2) w2.ae).2
      refine⟨rfl,h.next pO lJ.1.ok q2 ⟨i,by show i<(cy W.v.ae _).1.blocks.length -2;rw[kc.len];exact OM,by show cL (cy W.v.ae ((i:Int)+2)).1.pages W.v.at_ i=0;rw[kc.pages];exact HM⟩,?_,w4⟩
      show nu (cy W.v.ae ((i:Int)+2)).1.pages (av (cy W.v.ae ((i:Int)+2)).1 W.v.at_)<_
      rw[w3,b1,OH,kc.pages,rN.pages,List.set_set]
      have iK:=Am (p:=x.v.ae.pages) (x:=⟨0,0,(aj W.v.ae ((i:Int)+2)).aS+1,false⟩) OL
      have OO:jU x.v.ae.pages ⟨0,0,(aj W.v.ae ((i:Int)+2)).aS+1,false⟩=0:=by
       rw[jU];simp
      change _<nu x.v.ae.pages (cV x)
      omega
     ·
      right
      simp only[q1];rfl
   ·
    right
    rw[Du]
    have hnz: ¬(dI ((x.on c1).on M.c) M.a).2=0:=by rw[w1];decide
    rw[if_pos (.inl (decide_eq_false hnz))]
    exact w1
  ·
   right
   have Du:cU (x.on c1) ((i:Int)+2) ((t:Int)+2)=((x.on c1).on (bV (x.on c1).v ((i:Int)+2) ((t:Int)+2) (x.on c1).v.at_ 0 (x.on c1).v.ae (x.on c1).v.at_).c,false,7):=by
    rw[cU,e1]
   rw[Du,if_pos (.inl rfl)]
 ·
  right
  have OP:(bT x.v.ae ((cV x).set (i:Int).toNat bj)).2.2=7:=tz
  have dD:oF x.v.ae (cV x) i=false:=by rw[oF,OP];rfl
  have nq:(cJ x.v.ae (cV x) i).2=7:=by rw[cJ,if_neg (by rw[dD];simp)];exact OP
  rw[eZ,if_pos (by rw[nq];decide),nq];rfl
where
 aaS {v u:VV} {src to:Int} (h1:v.ae.pages=u.ae.pages) (h2:v.at_=u.at_) (h3:v.gen=u.gen) (l:List Int): ∀(id:Nat) (c:CV) (a:List Int),bV v src to l id c a=bV u src to l id c a:=by
  induction l with
  |nil=>intro id c a;rfl
  |cons n r ih=>
   intro id c a
   rw[bV,bV,h1,h2,h3,ih,ih]
open Go.aC
theorem aaU{n:Nat}{x:WV}{j:Nat}(h:Lv (n+17) x)(hj:j<x.v.ae.blocks.length -2)(h0:cL x.v.ae.pages x.v.at_ j=0)(h1:0<(aj x.v.ae ((j:Int)+2)).used)(h2:(aj x.v.ae ((j:Int)+2)).used<x.v.ae.pages):
  ((jM x (cV x)).2=0∧Lv n (jM x (cV x)).1∧lF (jM x (cV x)).1<lF x∧(jM x (cV x)).1.v.gen=x.v.gen)∨(jM x (cV x)).2=7:=by
 have hd:=eF h.ok.ae
 have iF:=h.rt.pl.lD
 have hw:=HF h.ok.ae iF (by omega)
 have hg:=h.ok.get (fl:=x.v.at_) iF hj
 have hwo:=h.ok.aS ((j:Int)+2)
 have lb:=Hv (l:=cV x) h.rt (Db _ _)
 have nq:=Fw (l:=cV x) h.wr (u5 _ _)
 have hD:(mw x.v.ae (cV x)).2=true:=by
  cases hq:(mw x.v.ae (cV x)).2 with
  |true=>rfl
  |false=>
   have:=re (xR (R:=lV x.v.ae.pages) hw) hq _ (List.mem_map_of_mem (f:=gJ (lV x.v.ae.pages)) (List.mem_of_getElem? hg))
   rw[xT rfl (by simp only[lV,Bool.and_eq_true,decide_eq_true_eq];omega)]at this
   have Ds:kW ⟨cL x.v.ae.pages x.v.at_ j,(aj x.v.ae ((j:Int)+2)).used,(aj x.v.ae ((j:Int)+2)).aS,false⟩=true:=by
    simp only[kW,h0,Bool.not_false,Bool.true_and,Bool.and_eq_true,decide_eq_true_eq]
    exact⟨rfl,h1⟩
   rw[Ds]at this;cases this
 obtain⟨z,hz,a1,a2,a3,a4,a5⟩:=nf (fun x h=>(kB h).1) (show(fj (bR (lV x.v.ae.pages) (cV x)) x.v.ae.pages kW [qf]).2=true from hD)
 have nZ:(cV x)[(mw x.v.ae (cV x)).1.toNat]? =some z:=hz
 change 0≤(mw x.v.ae (cV x)).1 at a4
 rw[jM,if_neg (by rw[hD];simp)]at lb nq⊢
 generalize mw x.v.ae (cV x)=T at*
 obtain⟨e1,e2⟩:=sM (by omega) iF nZ
 rw[h.ok.tell]at e1
 have lh:=(kB a3).2.1
 have zF:=(kB a3).2.2
 rw[lV,Bool.and_eq_true,decide_eq_true_eq]at a2
 have xz:=a2.1
 rw[e1]at lh zF xz
 simp only at lh zF xz
 have eT:T.1=((T.1.toNat:Nat):Int):=by omega
 rw[eT]at lb nq⊢
 have lq:=(rL (by omega) iF T.1.toNat).1 (by omega)
 rcases h.ok.Dp (n:=n) (b:=((T.1.toNat:Nat):Int)+2) (by omega) (by omega)with⟨q1,q2⟩|q1
 ·
  left
  simp only[q1]at lb nq⊢
  obtain⟨b1,b2⟩:=Dn h.ok.ae iF lq q1
  have kc:=(tt (((T.1.toNat:Nat):Int)+2) h.ok.ae).2
  refine⟨rfl,h.next lb nq.1.ok q2 ⟨T.1.toNat,by show _<(cy x.v.ae _).1.blocks.length -2;rw[kc.len];exact e2,by show cL (cy x.v.ae _).1.pages x.v.at_ _=0;rw[kc.pages];omega⟩,?_,rfl⟩
  show nu (cy x.v.ae (((T.1.toNat:Nat):Int)+2)).1.pages (av (cy x.v.ae (((T.1.toNat:Nat):Int)+2)).1 x.v.at_)<nu x.v.ae.pages (av x.v.ae x.v.at_)
  rw[b1,kc.pages]
  have iK:=Am (p:=x.v.ae.pages) (x:=⟨0,0,(aj x.v.ae (((T.1.toNat:Nat):Int)+2)).aS+1,false⟩) nZ
  have OO:jU x.v.ae.pages ⟨0,0,(aj x.v.ae (((T.1.toNat:Nat):Int)+2)).aS+1,false⟩=0:=by
   rw[jU];simp
  have nQ:jU x.v.ae.pages z=1:=by
   rw[e1,jU];simp only[Bool.false_eq_true,if_false]
   rw[if_pos lh,if_pos ⟨zF,xz⟩]
  change nu x.v.ae.pages ((cV x).set _ _)<nu x.v.ae.pages (cV x)
  omega
 ·
  right;simp only[q1];rfl
theorem aaV{p:Int}{l:List ax}(h:0<nu p l): ∃(i:Nat) (x:ax),l[i]? =some x∧jU p x≠0:=by
 apply Classical.byContradiction
 intro hn
 have:nu p l=0:=Ow fun x hx=>by
  obtain⟨i,hi⟩:=List.getElem?_of_mem hx
  apply Classical.byContradiction
  intro bW
  exact hn ⟨i,x,hi,bW⟩
 omega
theorem aaW{n:Nat}{x:WV}(h:Lv (n+100) x)(hg:x.v.gen+2<281474976710656)(hP:0<lF x):
  ((et x).2=0∧Lv n (et x).1∧lF (et x).1<lF x∧(et x).1.v.gen≤x.v.gen+1)∨(et x).2=7:=by
 have hd:=eF h.ok.ae
 have iF:=h.rt.pl.lD
 have xw:u3 x.v.gen=false:=decide_eq_false (by omega)
 rw[et]
 by_cases hv:(qt x).2=true
 ·
  rw[if_pos ⟨hv,xw⟩]
  obtain⟨i,v1,v2,v3,v4⟩:=aaJ h.ok iF hv
  have v1':(qt x).1=i:=v1
  rw[v1']
  rcases aaR h hg v2 v3 v4 with⟨r1,r2,r3,r4⟩|r1
  ·
   rw[if_pos (by rw[r1];decide)]
   exact .inl ⟨r1,r2,r3,by omega⟩
  ·
   rw[if_pos (by rw[r1];decide)];exact .inr r1
 ·
  rw[if_neg (fun g=>hv g.1)]
  obtain⟨i,z,hz,bW⟩:=aaV hP
  obtain⟨e1,e2⟩:=sM (by omega) iF hz
  rw[h.ok.tell]at e1
  have hu:=h.ok.xS e2
  rw[e1,jU]at bW
  simp only[Bool.false_eq_true,if_false]at bW
  by_cases hl:cL x.v.ae.pages x.v.at_ i=0
  ·
   rw[if_pos (by omega)]at bW
   have hb:0<(aj x.v.ae ((i:Int)+2)).used∧(aj x.v.ae ((i:Int)+2)).used<x.v.ae.pages:=by
    apply Classical.byContradiction
    intro hn
    rw[if_neg hn]at bW;exact bW rfl
   rcases aaU (h.mono (by omega:n+17≤n+100)) e2 hl hb.1 hb.2 with⟨r1,r2,r3,r4⟩|r1
   ·
    exact .inl ⟨r1,r2,r3,by omega⟩
   ·
    exact .inr r1
  ·
   rw[if_neg (by omega)]at bW
   exact absurd (aaK h.ok iF e2 (by omega) (by omega)) hv
def iG(p:Int)(x:ax):Int:=if x.bad=true then 0 else j9 p x
def kJ(p:Int)(x:ax):Int:=if x.bad=true then 0 else if x.live=0 then j9 p x else 0
def nv(l:List Int):Int:=l.foldl max 0
theorem Dv{M:Int}(l:List Int): ∀s:Int,l.foldl max s≤M↔s≤M∧ ∀x∈l,x≤M:=by
 induction l with
 |nil=>intro s;simp
 |cons y r ih=>
  intro s
  rw[List.foldl_cons,ih,Int.max_le]
  simp only[List.mem_cons,forall_eq_or_imp]
  exact and_assoc
theorem aaX{p:Int}(l:List ax)(h: ∀x∈l,0≤j9 p x): ∀s:Int×Int,0≤s.2→l.foldl (qn p) s=(s.1+fk (l.map (iG p)),(l.map (kJ p)).foldl max s.2):=by
 induction l with
 |nil=>intro s _;simp[fk]
 |cons y r ih=>
  intro s hs
  have ih':=ih fun x hx=>h x (List.mem_cons_of_mem _ hx)
  have hy:=h y List.mem_cons_self
  rw[List.foldl_cons]
  have bA:0≤(qn p s y).2:=by
   rw[qn];split
   ·
    exact hs
   ·
    simp only;split<;>omega
  rw[ih' _ bA,List.map_cons,List.map_cons,List.foldl_cons,fk]
  rw[qn,iG,kJ]
  by_cases hb:y.bad=true
  ·
   rw[if_pos hb,if_pos hb,if_pos hb]
   rw[Int.zero_add,Int.max_eq_left hs]
  ·
   rw[if_neg hb,if_neg hb,if_neg hb]
   by_cases hl:y.live=0
   ·
    rw[if_pos hl,if_pos hl,Int.add_assoc]
   ·
    rw[if_neg hl,if_neg hl,Int.max_eq_left hs,Int.add_assoc]
theorem OQ{c:CV}{fl:List Int}(hk:aT c=true):jx c fl=(fk ((av c fl).map (iG c.pages)) -nv ((av c fl).map (kJ c.pages)),fk ((av c fl).map (iG c.pages))):=by
 have:=aaX (p:=c.pages) (av c fl) (fun x hx=>(BU (rk hk hx) hk).1) (0,0) (Int.le_refl _)
 rw[jx,fm,this,nv]
 simp only[Int.zero_add]
theorem OR{f:ax→Int}: ∀{l:List ax} {i:Nat} {x y:ax},l[i]? =some y→fk ((l.set i x).map f)=fk (l.map f) -f y+f x
 |[],i,x,y,h=>by simp at h
 |z::r,0,x,y,h=>by
  obtain rfl:z=y:=by simpa using h
  simp only[List.set_cons_zero,List.map_cons,fk];omega
 |z::r,i+1,x,y,h=>by
  have:=OR (f:=f) (l:=r) (i:=i) (x:=x) (y:=y) (by simpa using h)
  simp only[List.set_cons_succ,List.map_cons,fk];omega
theorem aaY{pages:Int}{l:List Int}: ∀(D k:Nat),((List.range D).map fun i=>ju pages l k i).sum≤k:=by
 have step: ∀(D:Nat) (P:Bool) (b:Int),((List.range D).map fun i:Nat=>if P&&decide (b=(i:Int)+2)then 1 else 0).sum≤(if 2≤b∧b<(D:Int)+2 then 1 else 0):=by
  intro D P b
  induction D with
  |zero=>simp
  |succ D ih=>
   rw[List.range_succ,List.map_append,List.sum_append]
   simp only[List.map_cons,List.map_nil,List.sum_cons,List.sum_nil,Nat.add_zero]
   by_cases e:b=(D:Int)+2
   ·
    have hc:(if 2≤b∧b<(D:Int)+2 then 1 else 0)=0:=if_neg (by omega)
    have tV:(if 2≤b∧b<((D+1:Nat):Int)+2 then 1 else 0)=1:=if_pos (by omega)
    have xE:(if P&&decide (b=(D:Int)+2)then 1 else 0)≤1:=by split<;>omega
    rw[hc]at ih
    rw[tV];omega
   ·
    have xE:(if P&&decide (b=(D:Int)+2)then 1 else 0)=0:=if_neg (by simp[e])
    have W9:(if 2≤b∧b<(D:Int)+2 then 1 else 0)≤(if 2≤b∧b<((D+1:Nat):Int)+2 then 1 else 0):=by
     by_cases g:2≤b∧b<(D:Int)+2
     ·
      rw[if_pos g,if_pos (by omega)];exact Nat.le_refl _
     ·
      rw[if_neg g];exact Nat.zero_le _
    rw[xE];omega
 intro D k
 induction k with
 |zero=>
  have: ∀i∈List.range D,ju pages l 0 i=0:=fun i _=>by simp[ju]
  rw[List.map_congr_left this]
  have: ∀n:Nat,((List.range n).map fun _:Nat=>(0:Nat)).sum=0:=fun n=>by
   induction n with
   |zero=>rfl
   |succ n ih=>rw[List.range_succ,List.map_append,List.sum_append,ih];rfl
  rw[this];exact Nat.le_refl _
 |succ k ih=>
  have: ∀i∈List.range D,ju pages l (k+1) i=ju pages l k i+(if lT l k&&decide ((l.getD k 0 -1)/pages=(i:Int)+2)then 1 else 0):=fun i _=>y8 pages l k i
  rw[List.map_congr_left this]
  have DV: ∀(f g:Nat→Nat) (n:Nat),((List.range n).map fun i=>f i+g i).sum=((List.range n).map f).sum+((List.range n).map g).sum:=fun f g n=>by
   induction n with
   |zero=>rfl
   |succ n ih=>
    rw[List.range_succ,List.map_append,List.map_append,List.map_append,List.sum_append,List.sum_append,List.sum_append,ih]
    simp only[List.map_cons,List.map_nil,List.sum_cons,List.sum_nil];omega
  have e:=DV (fun i=>ju pages l k i) (fun i=>if lT l k&&decide ((l.getD k 0 -1)/pages=(i:Int)+2)then 1 else 0) D
  have h2:=step D (lT l k) ((l.getD k 0 -1)/pages)
  have h1:(if 2≤(l.getD k 0 -1)/pages∧(l.getD k 0 -1)/pages<(D:Int)+2 then 1 else 0)≤1:=by split<;>omega
  refine Nat.le_trans (Nat.le_of_eq e) ?_
  exact Nat.add_le_add ih (Nat.le_trans h2 h1)
theorem aaZ{c:CV}{fl:List Int}{f:ax→Int}{g:Nat→Int}(hp:1≤c.pages)(hs:Std c fl)(h: ∀i,i<c.blocks.length -2→f (nt c fl i)=g i):fk ((av c fl).map f)=fk ((List.range (c.blocks.length -2)).map g):=by
 rw[vD hp hs,List.map_map]
 congr 1
 refine List.map_congr_left fun i hi=> ?_
 exact h i (List.mem_range.1 hi)
theorem OS(p:Int)(f:Nat→Nat): ∀D:Nat,fk ((List.range D).map fun i=>p -(f i:Int))=(D:Int)*p -(((List.range D).map f).sum:Nat)
 |0=>by simp[fk]
 |D+1=>by
  have ih:=OS p f D
  rw[List.range_succ,List.map_append,List.map_append,Kz,List.sum_append,ih]
  simp only[List.map_cons,List.map_nil,fk,List.sum_cons,List.sum_nil]
  rw[show((D+1:Nat):Int)*p=(D:Int)*p+p by rw[Int.natCast_add,Int.add_mul];omega]
  omega
theorem aa0{n:Nat}{x:WV}(h:Lv n x)(hP:lF x=0){need:Int}(hn:need≤x.v.at_.length):need≤(jx x.v.ae x.v.at_).1:=by
 have hd:=eF h.ok.ae
 have hp:1≤x.v.ae.pages:=by omega
 have iF:=h.rt.pl.lD
 have hz: ∀i,i<x.v.ae.blocks.length -2→jU x.v.ae.pages (nt x.v.ae x.v.at_ i)=0:=fun i hi=>by
  apply Classical.byContradiction
  intro bW
  have hg:=h.ok.get (fl:=x.v.at_) iF hi
  rw[←h.ok.tell]at hg
  have:=Am (p:=x.v.ae.pages) (x:=bj) hg
  have hb:jU x.v.ae.pages bj=0:=rfl
  change nu x.v.ae.pages (av x.v.ae x.v.at_)=0 at hP
  omega
 have vY: ∀i,i<x.v.ae.blocks.length -2→j9 x.v.ae.pages (nt x.v.ae x.v.at_ i)=x.v.ae.pages -(cL x.v.ae.pages x.v.at_ i:Nat):=fun i hi=>by
  have h0:=hz i hi
  have hu:=h.ok.xS hi
  have hl:=h.ok.Ox iF hi
  rw[h.ok.tell,jU]at h0
  rw[h.ok.tell,j9]
  simp only[Bool.false_eq_true,if_false]at h0⊢
  by_cases lh:(cL x.v.ae.pages x.v.at_ i:Int)=0
  ·
   rw[if_pos lh]at h0
   have hb: ¬(0<(aj x.v.ae ((i:Int)+2)).used∧(aj x.v.ae ((i:Int)+2)).used<x.v.ae.pages):=fun g=>by rw[if_pos g]at h0;cases h0
   split
   ·
    omega
   ·
    omega
  ·
   rw[if_neg lh]at h0
   rw[if_neg (fun g=>lh g.1)];omega
 rw[OQ h.ok.ae]
 simp only
 have aa1:fk ((av x.v.ae x.v.at_).map (iG x.v.ae.pages))=((x.v.ae.blocks.length -2:Nat):Int)*x.v.ae.pages -(((List.range (x.v.ae.blocks.length -2)).map fun i=>cL x.v.ae.pages x.v.at_ i).sum:Nat):=by
  rw[aaZ hp iF (g:=fun i=>x.v.ae.pages -(cL x.v.ae.pages x.v.at_ i:Nat)) fun i hi=>by
   rw[iG,if_neg (by rw[h.ok.tell];simp)];exact vY i hi]
  exact OS _ _ _
 have xI:((List.range (x.v.ae.blocks.length -2)).map fun i=>cL x.v.ae.pages x.v.at_ i).sum≤x.v.at_.length:=by
  have:=aaY (pages:=x.v.ae.pages) (l:=x.v.at_) (x.v.ae.blocks.length -2) x.v.at_.length
  rwa [List.map_congr_left fun i _=>Dl hp i (iF.pos hp)]at this
 have ajj:nv ((av x.v.ae x.v.at_).map (kJ x.v.ae.pages))≤x.v.ae.pages:=by
  refine(Dv _ 0).2 ⟨by omega,fun z hz=> ?_⟩
  obtain⟨y,hy,rfl⟩:=List.mem_map.1 hz
  have:=BU (rk h.ok.ae hy) h.ok.ae
  rw[kJ];split
  ·
   omega
  ·
   split<;>omega
 have ajk:=h.half
 have hB:=h.wr.len
 generalize x.v.ae.pages=p at*
 generalize((List.range (x.v.ae.blocks.length -2)).map fun i=>cL p x.v.at_ i).sum=S at*
 have e:((x.v.ae.blocks.length -2:Nat):Int)*p=((x.v.ae.blocks.length:Int) -4)*p+2*p:=by
  rw[←Int.add_mul];congr 1;omega
 rw[aa1,e]
 omega
open Go.aC
theorem OT: ∀(k:Nat) {n:Nat} {x:WV} {need:Int},lF x<k→Lv (n+100*(lF x+1)) x→x.v.gen+lF x+2<281474976710656→need≤x.v.at_.length→
  ((lW k x need).2=0∧Lv n (lW k x need).1∧need≤(jx (lW k x need).1.v.ae (lW k x need).1.v.at_).1∧(lW k x need).1.v.gen≤x.v.gen+lF x)∨(lW k x need).2=7
 |0,n,x,need,hk,h,hg,hn=>by omega
 |k+1,n,x,need,hk,h,hg,hn=>by
  rw[lW]
  by_cases h1:need≤(jx x.v.ae x.v.at_).1
  ·
   rw[if_pos h1];exact .inl ⟨rfl,h.mono (by omega),h1,by simp only;omega⟩
  ·
   rw[if_neg h1]
   have bU:rj x.v.ae x.v.last=x.v.ae.pages:=by
    rw[rj,if_neg (by rw[h.ok.nb];simp),if_neg (by rw[h.ok.nb];simp)]
   rw[if_neg (fun g=>by have:=h.wr.pages;omega)]
   have hP:0<lF x:=by
    apply Classical.byContradiction
    intro h0
    exact h1 (aa0 h (by omega) hn)
   rcases aaW (n:=n+100*lF x) (h.mono (by omega)) (by omega) hP with⟨c1,c2,c3,c4⟩|c1
   ·
    rw[if_pos c1]
    have kC:=(B5 h.wr).1.u4
    rcases OT k (n:=n) (need:=need) (x:=(et x).1) (by omega) (c2.mono (by omega)) (by omega) (by rw[kC];exact hn)with⟨s1,s2,s3,s4⟩|s1
    ·
     exact .inl ⟨s1,s2,s3,by omega⟩
    ·
     exact .inr s1
   ·
    rw[if_neg (by rw[c1];decide),if_pos (by rw[c1];decide)];exact .inr c1
theorem aa2{p:Int}(hp:p≤16){l:List ax}(h: ∀x∈l,x.used≤p∧0≤x.live):nu p l≤16*l.length:=by
 unfold nu
 induction l with
 |nil=>simp
 |cons z r ih=>
  have:=ih fun x hx=>h x (List.mem_cons_of_mem _ hx)
  have hz:=h z List.mem_cons_self
  rw[List.map_cons,List.sum_cons,List.length_cons]
  have:jU p z≤16:=by
   rw[jU];split
   ·
    omega
   ·
    split
    ·
     split<;>omega
    ·
     omega
  omega
theorem aa3{x:WV}(h:cO x):lF x≤480:=by
 have hd:=eF h.ae
 have:=aa2 hd.2.2.2.1 (l:=av x.v.ae x.v.at_) fun z hz=>by
  have t:=rk h.ae hz
  exact⟨t.wQ,t.KN⟩
 rw[kA]at this
 unfold lF;omega
theorem aa4{n:Nat}{x:WV}{need:Int}(h:Lv (n+50000) x)(hg:x.v.gen+500<281474976710656)(hn:need≤x.v.at_.length):
  ((jN x need).2=0∧Lv n (jN x need).1∧need≤(jx (jN x need).1.v.ae (jN x need).1.v.at_).1∧(jN x need).1.v.gen≤x.v.gen+480)∨(jN x need).2=7:=by
 have hP:=aa3 h.wr
 have ho:=h.ok.ops
 rcases OT ((cI -x.v.ae.ops).toNat+1) (n:=n) (x:=x) (need:=need) (by omega) (h.mono (by omega)) (by omega) hn with⟨s1,s2,s3,s4⟩|s1
 ·
  exact .inl ⟨s1,s2,s3,by rw[jN];omega⟩
 ·
  exact .inr s1
def pP(c:CV)(fl:List Int):Int:=(jx c fl).1
theorem Ar{c:CV}{fl:List Int}(hk:aT c=true):pP c fl=fk ((av c fl).map (iG c.pages)) -nv ((av c fl).map (kJ c.pages)):=by
 rw[pP,OQ hk]
theorem HN{l:List Int}{x:Int}(h:x∈l):x≤nv l:=((Dv (M:=nv l) l 0).1 (Int.le_refl _)).2 x h
theorem OU(l:List Int):0≤nv l:=((Dv (M:=nv l) l 0).1 (Int.le_refl _)).1
theorem aa5{p:Int}{l:List ax}{i:Nat}{x y:ax}(h:l[i]? =some y)(hn:iG p x=iG p y -1)(hm:kJ p x≤kJ p y):fk (l.map (iG p)) -nv (l.map (kJ p)) -1≤fk ((l.set i x).map (iG p)) -nv ((l.set i x).map (kJ p)):=by
 have hs:=OR (f:=iG p) (x:=x) h
 have:nv ((l.set i x).map (kJ p))≤nv (l.map (kJ p)):=by
  refine(Dv _ 0).2 ⟨OU _,fun z hz=> ?_⟩
  obtain⟨w,hw,rfl⟩:=List.mem_map.1 hz
  rcases List.mem_or_eq_of_mem_set hw with g|rfl
  ·
   exact HN (List.mem_map_of_mem g)
  ·
   exact Int.le_trans hm (HN (List.mem_map_of_mem (List.mem_of_getElem? h)))
 omega
theorem aa6{l:List ax}{j:Nat}{x:ax}(h:l[j]? =some x)(hb:x.bad=false)(hl:x.live=0):1≤dx l:=by
 rw[dx]
 refine List.length_pos_of_mem (a:=x) (List.mem_filter.2 ⟨List.mem_of_getElem? h,?_⟩)
 rw[hb,hl];rfl
theorem aa7{l:List ax}(h:1≤dx l): ∃(j:Nat) (x:ax),l[j]? =some x∧x.bad=false∧x.live=0:=by
 obtain⟨x,hx⟩:=List.exists_mem_of_length_pos (show 0<_ from h)
 obtain⟨h1,h2⟩:=List.mem_filter.1 hx
 simp only[Bool.and_eq_true,Bool.not_eq_true',decide_eq_true_eq]at h2
 obtain⟨j,hj⟩:=List.getElem?_of_mem h1
 exact⟨j,x,hj,h2.1,h2.2⟩
theorem OV{x y:ax}(hx:x.live≠0): ∀{l:List ax} {i:Nat},l[i]? =some y→dx l≤dx (l.set i x)+1
 |[],i,h=>by simp at h
 |z::r,0,h=>by
  simp only[List.set_cons_zero,dx,List.filter_cons]
  split<;>split<;>simp<;>omega
 |z::r,i+1,h=>by
  have:=OV hx (l:=r) (i:=i) (by simpa using h)
  simp only[dx]at this
  simp only[List.set_cons_succ,dx,List.filter_cons]
  split
  ·
   simp only[List.length_cons];omega
  ·
   exact this
theorem OW{x y:ax}(hx:x.live≠0)(hy:y.live≠0): ∀{l:List ax} {i:Nat},l[i]? =some y→dx (l.set i x)=dx l
 |[],i,h=>by simp at h
 |z::r,0,h=>by
  obtain rfl:z=y:=by simpa using h
  simp only[List.set_cons_zero,dx,List.filter_cons,hx,hy,decide_false,Bool.and_false]
  rfl
 |z::r,i+1,h=>by
  have:=OW hx hy (l:=r) (i:=i) (by simpa using h)
  simp only[dx]at this
  simp only[List.set_cons_succ,dx,List.filter_cons]
  split
  ·
   simp only[List.length_cons];omega
  ·
   exact this
theorem OX{p M:Int}: ∀{l:List ax},(∀x∈l,x.bad=false∧(x.live≠0→iG p x≤0)∧(x.live=0→iG p x≤M))→fk (l.map (iG p))≤(dx l:Int)*M
 |[],_=>by simp[fk,dx]
 |z::r,h=>by
  have ih:=OX (l:=r) fun x hx=>h x (List.mem_cons_of_mem _ hx)
  obtain⟨z1,z2,z3⟩:=h z List.mem_cons_self
  simp only[dx]at ih
  simp only[List.map_cons,fk,dx,List.filter_cons,z1,Bool.not_false,Bool.true_and]
  by_cases hl:z.live=0
  ·
   rw[decide_eq_true hl,if_pos rfl,List.length_cons,Int.natCast_add,Int.add_mul]
   have:=z3 hl;omega
  ·
   rw[decide_eq_false hl]
   have:=z2 hl
   simp only[Bool.false_eq_true,if_false];omega
theorem aa8{n:Nat}{c:CV}{fl:List Int}{aE:Bool}{p:PV}(h:Ok (n+18) c)(hs:Std c fl)(h3:3≤c.blocks.length)(hc:1≤pP c fl)(hm:kv p c.size=true):
  ((cT c fl aE p).2.2=0∧Ok n (cT c fl aE p).1∧ ∀gl:List Int,(∀k,k∈gl↔k∈fl∨k=(cT c fl aE p).2.1)→(1≤dx (av c fl)→1≤dx (av (cT c fl aE p).1 gl))∧pP c fl -1≤pP (cT c fl aE p).1 gl∧Std (cT c fl aE p).1 gl)∨(cT c fl aE p).2.2=7:=by
 have hd:=eF h.ae
 have HL:(c8 p c.size).2=0:=by rw[c8,if_pos hm]
 have bU:((c8 p c.size).1.length:Int)=c.size:=Aa hm
 rw[cT,if_neg (by rw[HL];simp)]
 generalize(c8 p c.size).1=b at*
 rw[Ar h.ae]at hc
 have key: ∀{i:Nat} {d:CV} (y:ax),Ok (n+1) d→dw c d→Std d fl→i<c.blocks.length -2→av d fl=(av c fl).set i y→y.bad=false→y.used<c.pages→(∀z,(av c fl)[i]? =some z→z.bad=false∧iG c.pages y=iG c.pages z∧(y.live=0→z.live=0)∧(y.live≠0→y.live=z.live))→
   (dx (av c fl)≥1→y.live=0→2≤dx (av c fl))→
   ((bC d ((i:Int)+2) b=0∧Ok n (bD d ((i:Int)+2) b)∧ ∀gl:List Int,(∀k,k∈gl↔k∈fl∨k=((i:Int)+2)*c.pages+(aj d ((i:Int)+2)).used+1)→(1≤dx (av c fl)→1≤dx (av (bD d ((i:Int)+2) b) gl))∧pP c fl -1≤pP (bD d ((i:Int)+2) b) gl∧Std (bD d ((i:Int)+2) b) gl)∨bC d ((i:Int)+2) b=7):=by
  intro i d y bP eQ OY hi hb hyb hyu hz ib
  have lE:=bP.get OY (i:=i) (by rw[eQ.len];exact hi)
  have eP:i<(av c fl).length:=by rw[kA];exact hi
  rw[hb,List.getElem?_set_self eP]at lE
  have ey:=Option.some.inj lE
  have hu:(aj d ((i:Int)+2)).used=y.used:=by rw[ey]
  have xI:(cL d.pages fl i:Int)=y.live:=by rw[ey]
  obtain⟨z,nP⟩: ∃z,(av c fl)[i]? =some z:=⟨_,List.getElem?_eq_getElem eP⟩
  obtain⟨z1,z2,z3,z4⟩:=hz z nP
  rcases bP.prog (n:=n) (b:=(i:Int)+2) (p:=b) (by omega) (by rw[eQ.len];omega) (by rw[hu,eQ.pages];exact hyu) (by rw[eQ.size];exact bU)with⟨e,g⟩|e
  ·
   left
   refine⟨e,g,fun gl vi=> ?_⟩
   obtain⟨b1,b2⟩:=Om (gl:=gl) bP.ae OY e (by rw[eQ.pages];exact vi)
   rw[hb,List.set_set]at b1
   have nr:=eQ.trans (gU d ((i:Int)+2) b)
   have tO:((cL d.pages fl i:Int)+1)≠0:=by omega
   refine⟨fun h1=> ?_,?_,b2⟩
   ·
    rw[b1]
    by_cases me:y.live=0
    ·
     have:=ib h1 me
     have:=OV (x:=⟨(cL d.pages fl i:Int)+1,(aj d ((i:Int)+2)).used+1,(aj d ((i:Int)+2)).aS,false⟩) tO nP
     omega
    ·
     rw[OW (x:=⟨(cL d.pages fl i:Int)+1,(aj d ((i:Int)+2)).used+1,(aj d ((i:Int)+2)).aS,false⟩) tO (by rw[←z4 me];exact me) nP];exact h1
   ·
    rw[Ar h.ae,Ar g.ae,b1,nr.pages]
    refine aa5 nP ?_ ?_
    ·
     rw[←z2,iG,iG,if_neg (by simp),if_neg (by rw[hyb];simp),j9,j9]
     simp only
     rw[if_neg (fun g=>tO g.1)]
     by_cases me:y.live=0∧c.pages -y.used=0
     ·
      omega
     ·
      rw[if_neg me];omega
    ·
     rw[kJ,if_neg (by simp),if_neg tO,kJ,if_neg (by rw[z1];simp)]
     split
     ·
      have:=BU (rk h.ae (List.mem_of_getElem? nP)) h.ae
      exact this.1
     ·
      exact Int.le_refl _
  ·
   exact .inr e
 obtain⟨m,hm'⟩: ∃m,(cI -c.ops).toNat+1=m+1:=⟨_,rfl⟩
 rw[hm',ia]
 suffices main:(∃(i:Nat) (d:CV),bk c fl aE=(d,(i:Int)+2,0)∧((bC d ((i:Int)+2) b=0∧Ok n (bD d ((i:Int)+2) b)∧ ∀gl:List Int,(∀k,k∈gl↔k∈fl∨k=((i:Int)+2)*c.pages+(aj d ((i:Int)+2)).used+1)→(1≤dx (av c fl)→1≤dx (av (bD d ((i:Int)+2) b) gl))∧pP c fl -1≤pP (bD d ((i:Int)+2) b) gl∧Std (bD d ((i:Int)+2) b) gl)∨bC d ((i:Int)+2) b=7))∨ ∃(d:CV) (b0:Int),bk c fl aE=(d,b0,7) by
  rcases main with⟨i,d,he,aa9⟩|⟨d,b0,he⟩
  ·
   rw[he]
   simp only[if_true]
   rcases aa9 with⟨r1,r2,r3⟩|r1
   ·
    rw[if_pos r1]
    exact .inl ⟨rfl,r2,r3⟩
   ·
    rw[if_neg (by rw[r1];decide),if_pos (by rw[r1];decide)]
    exact .inr r1
  ·
   rw[he,if_neg (show ¬(7:Int)=0 by decide),if_pos (show(7:Int)≠9 by decide)]
   exact .inr rfl
 have hw:=HF h.ae hs h3
 by_cases hA:(kX c fl).2=true
 ·
  obtain⟨z,hz,a1,a2,a3,a4,a5⟩:=nf (fun x h=>(qk h).1) hA
  have nZ:(av c fl)[(kX c fl).1.toNat]? =some z:=hz
  change 0≤(kX c fl).1 at a4
  obtain⟨e1,e2⟩:=sM (by omega) hs nZ
  have ov:bk c fl aE=(c,(((kX c fl).1.toNat:Nat):Int)+2,0):=by rw[bk,if_pos hA,Int.toNat_of_nonneg a4]
  simp only[pt,decide_eq_true_eq]at a2
  refine .inl ⟨_,_,ov,key z (h.mono (by omega)) (.cX _) hs e2 (Dr nZ).symm a1 (qk a3).2 (fun w hw=> ?_) (fun _ g=>absurd g (by omega))⟩
  obtain rfl:=Option.some.inj (nZ.symm.trans hw)
  exact⟨a1,rfl,id,fun _=>rfl⟩
 ·
  have HH:=re (xR (R:=pt) hw) (show(fj (bR pt (av c fl)) c.pages (ln c.pages) [wJ,qf]).2=false by simpa[kX,eE]using hA)
  have hG: ∀x∈av c fl,x.bad=false∧(x.live≠0→iG c.pages x≤0)∧(x.live=0→iG c.pages x≤nv ((av c fl).map (kJ c.pages))):=fun x hx=>by
   obtain⟨j,hj⟩:=List.getElem?_of_mem hx
   obtain⟨e1,e2⟩:=sM (by omega) hs hj
   rw[h.tell]at e1
   have dL:x.bad=false:=by rw[e1]
   have BD:0≤x.live:=by rw[e1];simp only;omega
   refine⟨dL,fun hl=> ?_,fun hl=> ?_⟩
   ·
    have:=HH _ (List.mem_map_of_mem (f:=gJ pt) hx)
    rw[xT dL (by simp only[pt,decide_eq_true_eq];omega),ln,dL]at this
    simp only[Bool.not_false,Bool.true_and,decide_eq_false_iff_not]at this
    rw[iG,if_neg (by rw[dL];simp),j9,if_neg (fun g=>hl g.1)];omega
   ·
    have:kJ c.pages x=iG c.pages x:=by
     have OZ: ¬x.bad=true:=by rw[dL];simp
     rw[kJ,iG,if_neg OZ,if_neg OZ,if_pos hl]
    rw[←this]
    exact HN (List.mem_map_of_mem hx)
  have O0:2≤dx (av c fl):=by
   have hr:=OX hG
   have h0:=OU ((av c fl).map (kJ c.pages))
   apply Classical.byContradiction
   intro hn
   have hle:(dx (av c fl):Int)*nv ((av c fl).map (kJ c.pages))≤1*nv ((av c fl).map (kJ c.pages)):=Int.mul_le_mul_of_nonneg_right (by omega) h0
   omega
  have bW: ¬(dx (av c fl)=0∨(dx (av c fl)=1∧aE=false)):=by rintro(g|g)<;>omega
  by_cases hB:(jw c fl).2=true
  ·
   obtain⟨z,hz,a1,a2,a3,a4,a5⟩:=nf (fun x h=>(qk h).1) hB
   have nZ:(av c fl)[(jw c fl).1.toNat]? =some z:=hz
   change 0≤(jw c fl).1 at a4
   obtain⟨e1,e2⟩:=sM (by omega) hs nZ
   have ov:bk c fl aE=(c,(((jw c fl).1.toNat:Nat):Int)+2,0):=by rw[bk,if_neg hA,if_neg bW,if_pos hB,Int.toNat_of_nonneg a4]
   refine .inl ⟨_,_,ov,key z (h.mono (by omega)) (.cX _) hs e2 (Dr nZ).symm a1 (qk a3).2 (fun w hw=> ?_) (fun _ _=>O0)⟩
   obtain rfl:=Option.some.inj (nZ.symm.trans hw)
   exact⟨a1,rfl,id,fun _=>rfl⟩
  ·
   have hfd:=NG h.ae h3 (by omega) hB
   have HI:=re (xR (R:=fM) hw) (show(fj (bR fM (av c fl)) c.pages (ln c.pages) [wJ,qf]).2=false by simpa[jw,eE]using hB)
   obtain⟨z,hz,a1,a2,a3,a4,a5⟩:=nf (fun x h=>(kB h).1) hfd
   have nZ:(av c fl)[(iL c fl).toNat]? =some z:=hz
   change 0≤iL c fl at a4
   obtain⟨e1,e2⟩:=sM (by omega) hs nZ
   have oK:=(kB a3).2.1
   have hzu:c.pages≤z.used:=by
    have:=HI _ (List.mem_map_of_mem (f:=gJ fM) (List.mem_of_getElem? nZ))
    rw[xT a1 a2,ln,a1]at this
    simp only[Bool.not_false,Bool.true_and,decide_eq_false_iff_not]at this
    omega
   have HG:=h.xS e2
   rw[h.tell]at e1
   have lq:=(rL (by omega) hs (iL c fl).toNat).1 (by rw[e1]at oK;simp only at oK;omega)
   have eD:iL c fl+2=(((iL c fl).toNat:Nat):Int)+2:=by rw[Int.toNat_of_nonneg a4]
   rcases h.Dp (n:=n+1) (b:=(((iL c fl).toNat:Nat):Int)+2) (by omega) (by omega)with⟨q1,q2⟩|q1
   ·
    have ov:bk c fl aE=((cy c ((((iL c fl).toNat:Nat):Int)+2)).1,(((iL c fl).toNat:Nat):Int)+2,0):=by rw[bk,if_neg hA,if_neg bW,if_neg hB,eD,q1]
    obtain⟨b1,b2⟩:=Dn h.ae hs lq q1
    refine .inl ⟨_,_,ov,key _ q2 (tt _ h.ae).2 b2 e2 b1 rfl (by simp only;omega) (fun w hw=> ?_) (fun _ _=>O0)⟩
    obtain rfl:=Option.some.inj (nZ.symm.trans hw)
    refine⟨a1,?_,fun _=>oK,fun g=>absurd rfl g⟩
    have ajl:z.used≤c.pages:=by rw[e1];exact HG.2
    rw[iG,if_neg (by simp),iG,if_neg (by rw[a1];simp),j9,j9,if_neg (show ¬((0:Int)=0∧c.pages -0=0) by omega),if_pos ⟨oK,by omega⟩]
    simp only;omega
   ·
    right
    have ov:bk c fl aE=((cy c ((((iL c fl).toNat:Nat):Int)+2)).1,(((iL c fl).toNat:Nat):Int)+2,7):=by rw[bk,if_neg hA,if_neg bW,if_neg hB,eD,q1]
    exact⟨_,_,ov⟩
open Go.aC
theorem O1{c:CV}{fl gl:List Int}(hk:aT c=true)(h:av c gl=av c fl):pP c gl=pP c fl:=by rw[Ar hk,Ar hk,h]
theorem HO{v:VV}{aE:Bool}(hg:v.gen+1<281474976710656)(O2:v.at_.length≤64): ∀(l:List (Int×List UInt8)) {n:Nat} {c:CV} {a:List Int},Ok (n+18*l.length) c→3≤c.blocks.length→Pl c v.at_→Std c a→a.length=v.at_.length→l.Pairwise (fun p q=>p.1≠q.1)→
    (∀x∈l,0≤x.1∧x.1<v.at_.length∧(x.2.length:Int)≤dv c.size)→(∀x∈l,a[x.1.toNat]? =v.at_[x.1.toNat]?)→(kZ l:Int)≤pP c (v.at_++a)→1≤dx (av c (v.at_++a))→
    ((fV v aE l c a).2.2=0∧Ok n (fV v aE l c a).1∧Std (fV v aE l c a).1 (fV v aE l c a).2.1∧1≤dx (av (fV v aE l c a).1 (v.at_++(fV v aE l c a).2.1)))∨(fV v aE l c a).2.2=7
  |[],n,c,a,h,h3,hv,ha,dD,hp,hi,hs,hc,ib=> .inl ⟨rfl,h,ha,ib⟩
  |x::r,n,c,a,h,h3,hv,ha,dD,hp,hi,hs,hc,ib=>by
   obtain⟨kG,iK⟩:=List.pairwise_cons.1 hp
   obtain⟨x0,x1,x2⟩:=hi x List.mem_cons_self
   have hd:=eF h.ae
   have O3:x.1.toNat<v.at_.length:=by omega
   obtain⟨y,hy⟩: ∃y,v.at_[x.1.toNat]? =some y:=⟨_,List.getElem?_eq_getElem O3⟩
   have Ge:a[x.1.toNat]? =some y:=(hs x List.mem_cons_self).trans hy
   have Ah: ∀{k N:Int},k∈a→k∈v.at_∨k∈a.set x.1.toNat N:=fun{k N} hk=>by
      obtain⟨j,hj⟩:=List.getElem?_of_mem hk
      by_cases e:j=x.1.toNat
      ·rw[e,Ge]at hj
       obtain rfl:=Option.some.inj hj
       exact .inl (List.mem_of_getElem? hy)
      ·right
       exact List.mem_of_getElem? (i:=j) (by rw[List.getElem?_set_ne (fun g=>e g.symm)];exact hj)
   have O4: ∀{N:Int},∀q∈r,(a.set x.1.toNat N)[q.1.toNat]? =v.at_[q.1.toNat]? :=fun{N} q hq=>by
      have h0:=(hi q (List.mem_cons_of_mem _ hq)).1
      have bW:=kG q hq
      rw[List.getElem?_set_ne (by omega)]
      exact hs q (List.mem_cons_of_mem _ hq)
   rw[fV]
   by_cases h0:x.2.length=0
   ·rw[if_pos h0]
    have HP:kZ (x::r)=kZ r:=by
        rw[kZ,List.filter_cons_of_neg (by simp[h0])];rfl
    have bA:Std c (a.set x.1.toNat 0):=fun k hk mn=>by
        rcases List.mem_or_eq_of_mem_set hk with g|g
        ·exact ha k g mn
        ·exact absurd g mn
    have sJ:av c (v.at_++a.set x.1.toNat 0)=av c (v.at_++a):=by
        refine HD (by omega) (hv.lD.append ha) (hv.lD.append bA) (.cX _) fun i=>⟨rfl,rfl,rfl,fun _=>ud (fun k hk=> ?_) (by omega)⟩
        have mn:k≠0:=fun e=>by
          rw[e]at hk
          have:((0:Int) -1)/c.pages<0:=Int.ediv_neg_of_neg_of_pos (by decide) (by omega)
          omega
        rw[List.mem_append,List.mem_append]
        constructor
        ·rintro(g|g)
         ·exact .inl g
         ·rcases List.mem_or_eq_of_mem_set g with g|g
          ·exact .inr g
          ·exact absurd g mn
        ·rintro(g|g)
         ·exact .inl g
         ·exact Ah g
    exact HO hg O2 r (h.mono (by simp only[List.length_cons];omega)) h3 hv bA (by rw[List.length_set,dD]) iK (fun q hq=>hi q (List.mem_cons_of_mem _ hq)) O4 (by rw[O1 h.ae sJ,←HP];exact hc) (by rw[sJ];exact ib)
   ·rw[if_neg h0]
    have HP:kZ (x::r)=kZ r+1:=by
        rw[kZ,List.filter_cons_of_pos (by rw[decide_eq_true_eq];omega)];rfl
    rw[HP]at hc
    obtain⟨k1,_,_,k4⟩:=fv.1 h.ok
    have xP:kv (gW v x) c.size=true:=pj.2 ⟨qd.2 ⟨k4,by omega⟩, .inl rfl,x0,by show x.1<64;omega,hg,x2⟩
    have mi:=(NH (c:=c) (fl:=v.at_++a) (aE:=aE) (p:=gW v x) h.ae h3).1
    rcases aa8 (n:=n+18*r.length) (c:=c) (fl:=v.at_++a) (aE:=aE) (p:=gW v x) (h.mono (by simp only[List.length_cons];omega)) (hv.lD.append ha) h3 (by omega) xP with⟨p1,p2,p3⟩|p1
    ·rw[if_neg (by rw[p1];simp)]
     generalize cT c (v.at_++a) aE (gW v x)=P at*
     obtain⟨q1,q2,q3⟩:=p3 (v.at_++a.set x.1.toNat P.2.1) (fun k=>by
          rw[List.mem_append,List.mem_append]
          constructor
          ·rintro(g|g)
           ·exact .inl (.inl g)
           ·rcases List.mem_or_eq_of_mem_set g with g|g
            ·exact .inl (.inr g)
            ·exact .inr g
          ·rintro((g|g)|g)
           ·exact .inl g
           ·exact Ah g
           ·right
            rw[g]
            exact List.mem_of_getElem? (i:=x.1.toNat) (by rw[List.getElem?_set_self (by rw[dD];exact O3)]))
     exact HO hg O2 r p2 (by rw[mi.bS.len];exact h3) (hv.kd mi.toKd fun _ g=>List.mem_append_left _ g) (fun k hk=>q3 k (List.mem_append_right _ hk)) (by rw[List.length_set,dD]) iK (fun q hq=>by
          obtain⟨z0,z1,z2⟩:=hi q (List.mem_cons_of_mem _ hq)
          exact⟨z0,z1,by rw[mi.bS.size];exact z2⟩) O4 (by omega) (q1 ib)
    ·right
     rw[if_pos (by rw[p1];decide)];exact p1
structure Items(v:VV)(l:List (Int×List UInt8)):Prop where
  ne:l.Pairwise fun p q=>p.1≠q.1
  it: ∀x∈l,0≤x.1∧x.1<v.at_.length∧(x.2.length:Int)≤dv v.ae.size
  len:l.length≤v.at_.length
theorem aba(l:List (Int×List UInt8)):kZ l≤l.length:=List.length_filter_le _ _
theorem Lv.by{n:Nat}{x:WV}(h:Lv n x)(b:Bool):Lv n {x with beyond:=b}:=⟨h.ok,h.wr.by b,h.rt,h.pl,h.ka,h.half,h.idle⟩
theorem abb{n:Nat}{x:WV}{l:List (Int×List UInt8)}(h:Lv (n+60000) x)(hg:x.v.gen+600<281474976710656)(hl:Items x.v l):
    ((gz x l).2=0∧Lv n (gz x l).1∧(gz x l).1.v.gen≤x.v.gen+481)∨(gz x l).2=7:=by
  have hf:=h.wr.ka
  have lQ:=hl.len
  have tO:=aba l
  have lb:=N5 (l:=l) h.wr h.rt h.pl fun y hy=>(hl.it y hy).1
  have mK:=Fy (l:=l) h.wr
  have vt:Sf x (cj x.v) (cA x l).1 (cA x l).2:=(N4 (x:={x with beyond:=false}) (need:=kZ l) (h.wr.by false) h.rt h.pl).cE
  have gX:=B6 (l:=l) h.wr
  rw[gz]at lb mK⊢
  rcases aa4 (n:=n+2000) (x:={x with beyond:=false}) (need:=kZ l) (h.by false|>.mono (by omega)) (by show x.v.gen+500<_;omega) (by show(kZ l:Int)≤x.v.at_.length;omega)with⟨s1,s2,s3,s4⟩|s1
  ·change(cA x l).2=0 at s1
   change Lv (n+2000) (cA x l).1 at s2
   change(kZ l:Int)≤(jx (cA x l).1.v.ae (cA x l).1.v.at_).1 at s3
   change(cA x l).1.v.gen≤x.v.gen+480 at s4
   rw[if_neg (by rw[s1];simp)]at lb mK⊢
   have hlen:=vt.len
   have fc:=vt.kd.bS
   have hd:=eF s2.ok.ae
   have h3:3≤(cA x l).1.v.ae.blocks.length:=by have:=s2.wr.qo;omega
   have iF:=s2.rt.pl.lD
   have sJ:av (cA x l).1.v.ae ((cA x l).1.v.at_++(cA x l).1.v.at_)=av (cA x l).1.v.ae (cA x l).1.v.at_:=
      HD (by omega) iF (iF.append iF) (.cX _) fun i=>⟨rfl,rfl,rfl,fun _=>ud (fun k _=>by rw[List.mem_append];exact or_self_iff) (by omega)⟩
   have abc:1≤dx (av (cA x l).1.v.ae (cA x l).1.v.at_):=by
      obtain⟨j,j1,j2⟩:=s2.idle
      exact aa6 (s2.ok.get iF j1) rfl (by simp only;omega)
   have nH:=HO (v:=(cA x l).1.v) (aE:=(cA x l).1.beyond) (by omega) (by omega) l (n:=n+2) (c:=(cA x l).1.v.ae) (a:=(cA x l).1.v.at_) (s2.ok.mono (by omega)) h3 s2.rt.pl iF rfl hl.ne (fun y hy=>by
      obtain⟨z0,z1,z2⟩:=hl.it y hy
      exact⟨z0,by rw[hlen];exact z1,by rw[fc.size];exact z2⟩) (fun _ _=>rfl) (by rw[O1 s2.ok.ae sJ];exact s3) (by rw[sJ];exact abc)
   have mh:=De (v:=(cA x l).1.v) (aE:=(cA x l).1.beyond) l (c:=(cA x l).1.v.ae) (a:=(cA x l).1.v.at_) s2.ok.ae h3 s2.rt.pl s2.rt.pl (fun y hy=>(hl.it y hy).1)
   change _∨(fF x l).2.2=7 at nH
   rcases nH with⟨i1,i2,i3,i4⟩|i1
   ·change(fF x l).2.2=0 at i1
    change Ok (n+2) (fF x l).1 at i2
    change Std (fF x l).1 (fF x l).2.1 at i3
    change 1≤dx (av (fF x l).1 ((cA x l).1.v.at_++(fF x l).2.1))at i4
    rw[if_neg (by rw[i1];simp)]at lb mK⊢
    obtain⟨t1,t2,t3⟩:=mh
    obtain⟨t4,t5,t6⟩:=t2 i1
    change Kp (cA x l).1.v.at_ (cA x l).1.v.ae (fF x l).1 at t1
    change(fF x l).2.1.length=(cA x l).1.v.at_.length at t6
    have ft:cO ((cA x l).1.on (fF x l).1):=s2.wr.on i2.ae t1.bS
    rcases Ou (n:=n) ft i2 ⟨by show(cA x l).1.v.gen+1<_;omega,by rw[t6,show((cA x l).1.on (fF x l).1).v.ae.size=(cA x l).1.v.ae.size from t1.bS.size];exact s2.ka,OC i2.ae i3⟩with⟨w1,w2,w3,w4,w5,w6⟩|w1
    ·left
     rw[w1]at lb
     refine⟨w1,⟨w2,mK.ok,(lb.aY rfl).1,h.pl.kd lb.kd,by rw[lb.len,lb.kd.bS.size];exact h.ka,by rw[lb.len,lb.kd.bS.len,lb.kd.bS.pages];exact h.half,?_⟩,by rw[w4];show(cA x l).1.v.gen+1≤_;omega⟩
     obtain⟨j,z,hz,z1,z2⟩:=aa7 i4
     have Aq:Std (fF x l).1 ((cA x l).1.v.at_++(fF x l).2.1):=(iF.kd t1.toKd fun _ g=>g).append i3
     obtain⟨e1,e2⟩:=sM (by rw[t1.bS.pages];omega) Aq hz
     have rN:dw (fF x l).1 (dI ((cA x l).1.on (fF x l).1) (fF x l).2.1).1.v.ae:=(Fj ft (abd i3 (by show 1≤(fF x l).1.pages;rw[t1.bS.pages];omega)) t6).1.bS
     refine⟨j,by rw[rN.len];exact e2,?_⟩
     rw[i2.tell]at e1
     rw[e1]at z2
     simp only at z2
     have lq:=(rL (by rw[t1.bS.pages];omega) Aq j).1 (by omega)
     have hS:=(lb.aY rfl).1.pl.lD
     refine(rL (by rw[rN.pages,t1.bS.pages];omega) hS j).2 ?_
     rw[w3]
     intro k hk mn
     rw[rN.pages]
     exact lq k (List.mem_append_right _ hk) mn
    ·exact .inr w1
   ·right
    rw[if_pos (by rw[i1];decide)];exact i1
  ·right
   change(cA x l).2=7 at s1
   rw[if_pos (by rw[s1];decide)];exact s1
where
  abd {c:CV} {a:List Int} (h:Std c a) (hp:1≤c.pages):gV c a:=fun k hk=>by
    by_cases h0:k=0
    ·exact .inl h0
    ·obtain⟨q1,q2,_⟩:=lj.1 (h k hk h0)
     exact .inr ⟨(h.pos hp k hk).resolve_left h0,q1,q2⟩
theorem abe{v:VV}{l:List (Int×List UInt8)}(h:Items v l):py v l=true:=by
  refine zj.2 fun i hi=> ?_
  have hx:=List.getElem?_eq_getElem hi
  obtain⟨z0,z1,z2⟩:=h.it l[i] (List.getElem_mem hi)
  rw[rr,show l.getD i (0,[])=l[i] by simp[List.getD,hi],Bool.and_eq_true,rp,Bool.and_eq_true,Bool.and_eq_true,decide_eq_true_eq,decide_eq_true_eq,decide_eq_true_eq]
  refine⟨⟨⟨z0,z1⟩,z2⟩,?_⟩
  rw[Bool.not_eq_true']
  cases hc:((l.take i).map Prod.fst).contains l[i].1 with
  |false=>rfl
  |true=>
   exfalso
   obtain⟨p,hp,e⟩:=List.mem_map.1 (List.contains_iff_mem.1 hc)
   obtain⟨j,hj,e2⟩:=List.mem_take_iff_getElem.1 hp
   have:=List.pairwise_iff_getElem.1 h.ne j i (by omega) hi (by omega)
   rw[e2]at this
   exact this e
theorem abf{n:Nat}{v:VV}{l:List (Int×List UInt8)}(h:Lv (n+60000) ⟨v,false⟩)(hg:v.gen+600<281474976710656)(hl:Items v l):
    ((fo v l).2=0∧Lv n ⟨(fo v l).1,false⟩∧(fo v l).1.gen≤v.gen+481)∨(fo v l).2=7:=by
  have hb:=abb (l:=l) h hg hl
  have e:ni (v.ae.blocks.length+1) ⟨v,false⟩ l=gz ⟨v,false⟩ l:=by
    rw[ni,if_neg]
    rintro⟨g,_⟩
    rcases hb with⟨b1,_⟩|b1
    ·rw[b1]at g;cases g
    ·rw[b1]at g;cases g
  rw[fo,if_neg (fun g=>g ⟨xO.2 h.rt,by omega,abe hl⟩),if_neg (by have:=h.ok.off;rw[show(⟨v,false⟩:WV).v.ae=v.ae from rfl]at this;rw[this];simp),e]
  rcases hb with⟨b1,b2,b3⟩|b1
  ·exact .inl ⟨b1,b2.by false,b3⟩
  ·exact .inr b1
theorem abg{n:Nat}{f:FV}(h:iQ f)(k:Ok n f.an.ae)(hp:gZ f.an.ae)(hi: ∃j,j<f.an.ae.blocks.length -2∧cL f.an.ae.pages f.an.at_ j=0):Lv n ⟨f.an,false⟩:=by
  have ib:=h.ids
  have hc:dK f.an.ae≤jt f.an.ae.size∧dK f.an.ae≤qu f.an.ae.blocks.length f.an.ae.pages/2:=by rw[dK,tC];omega
  have hl:qu f.an.ae.blocks.length f.an.ae.pages≤((f.an.ae.blocks.length:Int) -4)*f.an.ae.pages:=by
    have h4:=(fv.1 h.rt.bears).2.1
    have hd:=eF k.ae
    rw[qu];split
    ·exact Int.mul_nonneg (by omega) (by omega)
    ·exact Int.le_refl _
  exact⟨k,B7 (xO.2 h.rt),h.rt,hp,by show(f.an.at_.length:Int)≤jt f.an.ae.size;omega,by show 2*(f.an.at_.length:Int)≤((f.an.ae.blocks.length:Int) -4)*f.an.ae.pages;omega,hi⟩
theorem abh(t:List Rt){room:Int}(hr:0≤room)(id:Nat):((pz t (room/20).toNat id).length:Int)≤room:=by
  have:=FD t (room/20).toNat id
  omega
theorem abi{n:Nat}{f:FV}{l:List Ch}(h:iQ f)(k:Lv (n+60000) ⟨f.an,false⟩)(hg:f.an.gen+600<281474976710656)(he:dS f.table l=0)(hm: ¬eG f.an.ae<(cH f.table l).length):
    ((cY f l).2=0∧Lv n ⟨(cY f l).1.an,false⟩∧(cY f l).1.an.gen≤f.an.gen+481)∨(cY f l).2=7:=by
  have hE:=xQ (l:=l) h
  rw[if_neg hm]at hE
  by_cases hc:eu (dZ f) (dy f l)=[]
  ·rw[(Hy h he hm hc).1]
   exact .inl ⟨rfl,k.mono (by omega),by simp only;omega⟩
  ·have hlen:(dZ f).length=(dy f l).length:=by
      have:=(z8 hE).1
      have h2:=h.ids
      rw[qG h,w7]
      have:((dy f l).length:Int)=dK f.an.ae:=this
      omega
   have xe:(dZ f).length=f.an.at_.length:=by rw[qG h,w7]
   have abj:Items f.an (eu (dZ f) (dy f l)):=by
      refine⟨(CZ (dZ f) (dy f l) _).imp fun g=>by omega,fun x hx=> ?_,?_⟩
      ·obtain⟨i,i1,rfl,i3⟩:=G9 hx
       refine⟨Int.natCast_nonneg _,by simp only;omega,?_⟩
       obtain⟨_,_,_,e⟩:=G8 hE
       have hi:i<(dy f l).length:=by omega
       have ko:(dy f l).getD i []∈dy f l:=by
          simp only[List.getD,List.getElem?_eq_getElem hi,Option.getD_some];exact List.getElem_mem hi
       rw[show dy f l=kD (cH f.table l) (dK f.an.ae).toNat (dv f.an.ae.size/20).toNat from e]at ko⊢
       rw[kD]at ko⊢
       obtain⟨j,_,hj⟩:=List.mem_map.1 ko
       simp only
       rw[←hj]
       exact abh _ (by rw[dv];split;·rename_i hf;have:=qd.1 hf;omega
                       ·exact Int.le_refl _) j
      ·have:=Ce (dZ f) (dy f l) (max (dZ f).length (dy f l).length)
       rw[eu];omega
   rw[Cq (uc.2 h) he hE hc]
   exact abf k hg abj
open Go.aC
def xV(n p:Nat):CV×Int:=nI ((n:Int)+5) ((p:Int)+2) 64
def qH(n p:Nat):FV×Int:=nO (xV n p).1
def HQ(f:FV):Bool:=gh f&&decide (f.table=[])&&f.an.ae.blocks.all (fun b=> !b.bad&&decide (b.aS=0))&&decide (f.an.ae.ops≤10)&& !f.an.ae.off&&decide (f.an.ae.aR=[])&&decide (f.an.gen≤10)&&f.an.at_.all (fun n=>decide (n=0))&&decide (eu (dZ f) (dy f [])=[])
def O5(n p:Nat):Bool:=decide ((xV n p).2=0)&&decide ((qH n p).2=0)&&HQ (qH n p).1&&aT (xV n p).1&&decide ((qH n p).1.an.ae.blocks.length=n+5)&&decide ((qH n p).1.an.ae.pages=(p:Int)+2)&&decide ((qH n p).1.an.ae.size=64)
theorem abk: ∀n,n<8→ ∀p,p<7→O5 n p=true:=by decide+kernel
open Go.aC
structure Rm(k:Nat)(f:FV):Prop where
 fb:iQ f
 lv:Lv k ⟨f.an,false⟩
 mJ:f.an.ae.aR=[]
 off:f.an.ae.off=false
 gen:f.an.gen+k<281474976710656
 can:eu (dZ f) (dy f [])=[]
 ka:(f.table.length:Int)≤eG f.an.ae
theorem Rm.mono{k m:Nat}{f:FV}(h:Rm k f)(hm:m≤k):Rm m f:=⟨h.fb,h.lv.mono hm,h.mJ,h.off,Nat.lt_of_le_of_lt (Nat.add_le_add_left hm _) h.gen,h.can,h.ka⟩
theorem abl{f:FV}(h:HQ f=true):Rm 1000000000 f∧f.table=[]:=by
 simp only[HQ,Bool.and_eq_true,decide_eq_true_eq,List.all_eq_true,Bool.not_eq_true']at h
 obtain⟨⟨⟨⟨⟨⟨⟨⟨h1,h2⟩,h3⟩,h4⟩,h5⟩,h6⟩,h7⟩,h8⟩,h9⟩:=h
 have vE:=uc.1 h1
 have oE:cI=1099511627776:=rfl
 have eO: ∀b:Int,(aj f.an.ae b).bad=false∧(aj f.an.ae b).aS=0:=fun b=>by
  rcases Nat.lt_or_ge b.toNat f.an.ae.blocks.length with hl|hl
  ·
   have hm:aj f.an.ae b∈f.an.ae.blocks:=by
    simp only[aj,List.getD,List.getElem?_eq_getElem hl,Option.getD_some];exact List.getElem_mem hl
   exact h3 _ hm
  ·
   simp only[aj,List.getD,List.getElem?_eq_none hl,Option.getD_none];exact⟨rfl,rfl⟩
 have h4l:4≤(f.an.ae.blocks.length:Int):=(fv.1 vE.rt.bears).2.1
 have hp:2≤f.an.ae.pages:=(fv.1 vE.rt.bears).2.2.1
 have bP:Ok 1000000000 f.an.ae:=⟨vE.rt.bears,fun b=>(eO b).1,h5,(by rw[h6];exact fun x hx=>absurd hx List.not_mem_nil),by omega,fun b=>by rw[(eO b).2];omega⟩
 refine⟨⟨vE,abg vE bP (.nil h6) ⟨0,by omega,?_⟩,h6,h5,Nat.lt_of_le_of_lt (Nat.add_le_add_right h7 _) (by decide),h9,?_⟩,h2⟩
 ·
  refine(rL (by omega) vE.rt.pl.lD 0).2 fun k hk mn=> ?_
  exact absurd (h8 k hk) mn
 ·
  rw[h2]
  have hm:=vE.iN
  have:0≤eG f.an.ae:=by
   rw[eG,pC,iN];split
   ·
    omega
   ·
    rename_i g
    have hi:=FU f.an.ae
    have h0:0≤dv f.an.ae.size/20:=by omega
    have h1:0≤tC f.an.ae.blocks.length f.an.ae.pages f.an.ae.size*(dv f.an.ae.size/20):=Int.mul_nonneg (by omega) h0
    omega
  simpa using this
theorem abm{n p:Nat}(hn:n<8)(hp:p<7):(xV n p).2=0∧aT (xV n p).1=true∧(qH n p).2=0∧Rm 1000000000 (qH n p).1∧(qH n p).1.table=[]∧eG (qH n p).1.an.ae=pC ((n:Int)+5) ((p:Int)+2) 64:=by
 have h:=abk n hn p hp
 simp only[O5,Bool.and_eq_true,decide_eq_true_eq]at h
 obtain⟨⟨⟨⟨⟨⟨h1,h2⟩,h3⟩,h4⟩,h5⟩,h6⟩,h7⟩:=h
 obtain⟨g1,g2⟩:=abl h3
 refine⟨h1,h4,h2,g1,g2,?_⟩
 rw[eG,h5,h6,h7];rfl
theorem abn{g k:Nat}(h:g+(k+60000)<281474976710656):g+600<281474976710656:=Nat.lt_of_le_of_lt (Nat.add_le_add_left (Nat.le_trans (by decide:600≤60000) (Nat.le_add_left _ _)) g) h
theorem abo{g g2 k:Nat}(h:g+(k+60000)<281474976710656)(h2:g2≤g+481):g2+k<281474976710656:=Nat.lt_of_le_of_lt (by omega:g2+k≤g+(k+60000)) h
theorem Rm.step{k:Nat}{f:FV}{l:List Ch}(h:Rm (k+60000) f)(he:dS f.table l=0)(hm: ¬eG f.an.ae<(cH f.table l).length):(cY f l).2=0∧Rm k (cY f l).1∧(cY f l).1.table=cH f.table l∧eG (cY f l).1.an.ae=eG f.an.ae:=by
 obtain⟨q1,q2,q3,q4,q5,q6,q7⟩:=aaz h.fb h.mJ h.off l
 have hg:=h.gen
 have xI:=h.lv
 have hg2:f.an.gen+600<281474976710656:=abn h.gen
 have dD:=abi (n:=k) h.fb xI hg2 he hm
 have a1:(cY f l).2=0:=by
  rcases dD with g|g
  ·
   exact g.1
  ·
   exact absurd g q6
 have a23:Lv k ⟨(cY f l).1.an,false⟩∧(cY f l).1.an.gen≤f.an.gen+481:=by
  rcases dD with g|g
  ·
   exact g.2
  ·
   exact absurd g q6
 obtain⟨a2,a3⟩:=a23
 have O6:=Of h.fb (.nil h.mJ) he hm
 have hc:=Hx O6.kd.bS
 have ht:=(q4 a1).2
 refine⟨a1,⟨q1,a2,q2,q3,abo h.gen a3,?_,by rw[ht,hc.1];omega⟩,ht,hc.1⟩
 have hE:=xQ (l:=l) h.fb
 rw[if_neg hm]at hE
 have CR:=xQ (l:=[]) q1
 have O7:cH (cY f l).1.table []=(cY f l).1.table:=by rw[cH];split<;>rfl
 rw[O7,ht,hc.1,if_neg hm]at CR
 have xF:dy (cY f l).1 []=dy f l:=by
  rw[dy,dy,O7,ht,hc.2,O6.kd.bS.size]
 by_cases O8:eu (dZ f) (dy f l)=[]
 ·
  obtain⟨e1,e2⟩:=Hy h.fb he hm O8
  rw[e1];exact h.can
 ·
  have hold:dZ (cY f l).1=dy f l:=by
   rw[qG q1]
   have hlen:(dZ f).length=(dy f l).length:=by
    have:=(z8 hE).1
    have h2:=h.fb.ids
    rw[qG h.fb,w7]
    have:((dy f l).length:Int)=dK f.an.ae:=this
    omega
   have hs:=N7 (l:=eu (dZ f) (dy f l)) h.fb.rt (.nil h.mJ)
   rw[←qG h.fb,Oc hlen]at hs
   have ew:=Cq (uc.2 h.fb) he hE O8
   rw[ew]at a1⊢
   exact(hs.aY a1).2
  rw[hold,xF]
  exact M9 _
def xW(t:List Rt)(l:List Ch)(m:Int):Int:=if dS t l=0∧m<(cH t l).length then 5 else dS t l
theorem Rm.done{k:Nat}{f:FV}(h:Rm (k+60000) f)(l:List Ch):(cY f l).2=xW f.table l (eG f.an.ae)∧Rm k (cY f l).1∧((cY f l).2=0→(cY f l).1.table=cH f.table l)∧((cY f l).2≠0→(cY f l).1=f)∧eG (cY f l).1.an.ae=eG f.an.ae:=by
 rw[xW]
 by_cases he:dS f.table l=0
 ·
  by_cases hm:eG f.an.ae<(cH f.table l).length
  ·
   rw[Oe h.fb he hm,if_pos ⟨he,hm⟩]
   exact⟨rfl,h.mono (by omega),fun g=>absurd (show(5:Int)=0 from g) (by decide),fun _=>rfl,rfl⟩
  ·
   obtain⟨a1,a2,a3,a4⟩:=h.step he hm
   rw[if_neg (fun g=>hm g.2),he]
   exact⟨a1,a2,fun _=>a3,fun g=>absurd a1 g,a4⟩
 ·
  rw[Od h.fb he,if_neg (fun g=>he g.1)]
  exact⟨rfl,h.mono (by omega),fun g=>absurd g he,fun _=>rfl,rfl⟩
end Go.Kb
namespace Go.Proofs.YtaipiecplldinaaGreat
open Go.aC Go.Kb
open Go.RowKit
theorem abp(w:World)(b:UInt8)(p:UInt8)(l:Sl (Sl Ch))(hl:Deep.aY (hp w) l):Calls Tryz.prog 6 #[.int .u8 (b.toNat:Nat), .int .u8 (p.toNat:Nat),l.sv.val] w fun e w'=>e= .returned (.bool true)∧Mem w [] w':=by
 have oM:cg w l:=⟨hl⟩
 have dt:=hl.1.bd
 obtain⟨n1,n2,n3,n4,n5,n6⟩:=abm (n:=(b.toNat%8)) (p:=(p.toNat%7)) (by omega) (by omega)
 refine ba (args:=[_,_,_]) Tryz.func6 rfl Tryz.ntmps6 rfl ?_
 change Cw _ _ _ _ _ [(0, .int .u8 (b.toNat:Nat)),(1, .int .u8 (p.toNat:Nat)),(2,l.sv.val)] []
 refine Gc ?_
 refine Gs ?_
 refine Gc ?_
 iterate 2 refine Gs ?_
 refine Gc ?_
 refine au rfl (fun h0=> ?_) (fun h0=> ?_)
 ·
  exfalso;simp at h0
 ·
  replace h0:=bz h0
  refine Gc ?_
  iterate 3 refine Gs ?_
  refine Gc ?_
  refine au rfl (fun h1=> ?_) (fun h1=> ?_)
  ·
   replace h1:=bz h1
   refine Gc ?_
   refine Gs ?_
   refine Gc ?_
   refine aq (.inl rfl) (aI rfl (ak rfl)) (fun w1 hw=> ?_)
   exact⟨congrArg (fun b=>Ending.returned (Value.bool b)) (rfl),ah.mem hw⟩
  ·
   replace h1:=bz h1
   refine Gc ?_
   refine Gs ?_
   refine ag (yx (p:=b.toNat) (q:=8) rfl rfl rfl rfl (by omega)) ?_
   refine ag (pS rfl (by simp only[nb];omega)) ?_
   iterate 2 refine Gs ?_
   refine ag (yx (p:=p.toNat) (q:=7) rfl rfl rfl rfl (by omega)) ?_
   refine ag (pS rfl (by simp only[nb];omega)) ?_
   iterate 3 refine Gs ?_
   refine Gc ?_
   iterate 2 refine Gs ?_
   refine bq rfl trivial fun k8 CM=> ?_
   have zW:cv k8=(xV (b.toNat%8) (p.toNat%7)).1:=CM
   have z35:(nI ((((b.toNat%8):Nat):Int)+5) ((((p.toNat%7):Nat):Int)+2) 64).2=0:=n1
   have abq:dQ k8:=ph (by rw[zW];exact n2)
   refine Gs ?_
   refine ag (aV (v:= .agg (aB k8)) rfl rfl) ?_
   refine ag (aV (v:= .int .i64 ((nI ((((b.toNat%8:Nat)):Int)+5) ((((p.toNat%7:Nat)):Int)+2) 64).2)) rfl rfl) ?_
   refine bK fun b9=> ?_
   iterate 2 refine Gs ?_
   refine Gc ?_
   refine Gs ?_
   refine bq rfl abq fun sN abr=> ?_
   have zX:bE sN=(qH (b.toNat%8) (p.toNat%7)).1:=by rw[abr,zW];rfl
   have z40:(nO (cv k8)).2=0:=by rw[zW];exact n3
   have w40:Rm 1000000000 (bE sN):=by rw[zX];exact n4
   have t40:sN.table.xs=[]:=by rw[show sN.table.xs=(qH (b.toNat%8) (p.toNat%7)).1.table from congrArg FV.table zX,n5]
   refine Gs ?_
   refine ag (aV (v:= .agg (bO sN)) rfl rfl) ?_
   refine ag (aV (v:= .int .i64 ((nO (cv k8)).2)) rfl rfl) ?_
   refine bK fun jf=> ?_
   iterate 2 refine Gs ?_
   refine Gc ?_
   iterate 3 refine Gs ?_
   iterate 2 refine Gg ?_
   refine Gs ?_
   refine Gc ?_
   refine au rfl (fun h2=> ?_) (fun h2=> ?_)
   ·
    exfalso;rw[z35,z40]at h2;simp at h2
   ·
    replace h2:=bz h2
    refine Gc ?_
    refine Gs ?_
    refine Gc ?_
    refine Gs ?_
    refine Gc ?_
    refine ca (X:=Nat×FH) (fun zz=>[(14, .int .i64 (zz.1:Nat)),(11, .pointer (some ⟨jf,0,none⟩)),(13,zz.2.h.sv.val),(2,l.sv.val),(7, .int .i64 (((b.toNat%8)+5):Nat)),(8, .int .i64 (((p.toNat%7)+2):Nat))]) (fun zz=>[ar jf (bO zz.2.f) 54,fz zz.2,ar b9 (aB k8) 25]) (fun zz=>zz.1≤l.xs.length∧Rm (60000*(l.xs.length -zz.1)) (bE zz.2.f)∧zz.2.h.xs=zz.2.f.table.xs∧eG (bE zz.2.f).an.ae=pC (((b.toNat%8)+5:Nat):Int) (((p.toNat%7)+2:Nat):Int) 64) (fun zz=>l.xs.length -zz.1) (0,⟨sN,⟨Sv.none,[]⟩⟩) ⟨Nat.zero_le _,w40.mono (by first|omega|(simp only[];omega)),t40.symm,by rw[zX];exact n6⟩ (Sub.cons rfl (Sub.cons rfl (Sub.cons rfl (Sub.cons rfl (Sub.cons rfl (Sub.cons rfl (Sub.nil _))))))) (fun w hw=>ah.mem (aaA (f:=sN) (ah.mem hw:Mem _ [fz sN,ar jf (bO sN) 54,ar b9 (aB k8) 25] _))) ?_
    rintro⟨i,s⟩ ⟨bh,aF,bt,cS⟩
    dsimp only
    simp only at bh aF bt cS
    have kf:=aF.fb.small
    have nF:s.h.xs.length≤1000000:=by rw[bt];exact kf.2.2
    refine Gc ?_
    iterate 4 refine Gs ?_
    refine Gc ?_
    refine au rfl (fun h3=> ?_) (fun h3=> ?_)
    ·
     replace h3:=bz h3
     obtain⟨y,hy⟩:=get_some (xs:=l.xs) (i:=i) (by omega)
     have vj:Mb y l:=⟨List.mem_of_getElem? hy⟩
     refine Gc ?_
     iterate 2 refine Gs ?_
     refine ag (bg rfl rfl i rfl (by omega)) ?_
     refine ag (bL (j:=0) rfl i hy rfl (by decide)) ?_
     have ajm:Mb y _:=⟨List.mem_of_getElem? hy⟩
     iterate 2 refine Gs ?_
     refine Gc ?_
     refine au rfl (fun h4=> ?_) (fun h4=> ?_)
     ·
      replace h4:=bz h4
      refine Gc ?_
      refine Gs ?_
      refine Gc ?_
      refine aq (.inl rfl) (aI rfl (ak rfl)) (fun w1 hw=> ?_)
      exact⟨congrArg (fun b=>Ending.returned (Value.bool b)) (rfl),ah.mem hw⟩
     ·
      replace h4:=bz h4
      refine Gc ?_
      iterate 3 refine Gs ?_
      refine ag (bg rfl rfl i rfl (by omega)) ?_
      refine ag (bL (j:=0) rfl i hy rfl (by decide)) ?_
      have ajn:Mb y _:=⟨List.mem_of_getElem? hy⟩
      refine bq rfl nF fun mI xH=> ?_
      refine Gs ?_
      refine ag (aV (v:=mI.val) rfl rfl) ?_
      refine ag (aV (v:= .int .i64 (dS s.h.xs y.xs)) rfl rfl) ?_
      iterate 2 refine Gs ?_
      iterate 2 refine Gi ?_
      refine vV (X:=Int) (fun zz=>[(16, .int .i64 zz),(2,l.sv.val),(7, .int .i64 (((b.toNat%8)+5):Nat)),(8, .int .i64 (((p.toNat%7)+2):Nat)),(11, .pointer (some ⟨jf,0,none⟩)),(13,s.h.sv.val),(14, .int .i64 (i:Nat)),(15,mI.val)]) (fun zz=>[own ay 19 mI (cH s.h.xs y.xs),ar jf (bO s.f) 54,fz s,ar b9 (aB k8) 25]) (fun zz=>zz=xW s.f.table.xs y.xs (pC (((b.toNat%8)+5:Nat):Int) (((p.toNat%7)+2:Nat):Int) 64)) ?_ ?_
      ·
       refine Gc ?_
       iterate 3 refine Gs ?_
       iterate 4 refine Gg ?_
       refine gN rfl rfl rfl (fun hg=>cC (dA (aG hg rfl) (dA (aG hg rfl) (dA rfl gE))) trivial) ?_
       refine Gg ?_
       refine Gs ?_
       refine Gc ?_
       refine au rfl (fun h5=> ?_) (fun h5=> ?_)
       ·
        replace h5:=bz h5
        have HR:xW s.f.table.xs y.xs (pC (((b.toNat%8)+5:Nat):Int) (((p.toNat%7)+2:Nat):Int) 64)=5:=if_pos ⟨by rw[←bt];exact h5.1,by rw[←bt];omega⟩
        refine Gi ?_
        refine Gs ?_
        refine Gi ?_
        exact oZ 5 HR.symm (Sub.cons rfl (Sub.cons rfl (Sub.cons rfl (Sub.cons rfl (Sub.cons rfl (Sub.cons rfl (Sub.cons rfl (Sub.cons rfl (Sub.nil _))))))))) (fun w hw=>ah.mem hw)
       ·
        replace h5:=bz h5
        have HR:xW s.f.table.xs y.xs (pC (((b.toNat%8)+5:Nat):Int) (((p.toNat%7)+2:Nat):Int) 64)=dS s.h.xs y.xs:=by
         rw[xW,if_neg,bt]
         rintro⟨g1,g2⟩
         rw[←bt]at g1 g2
         rcases h5 with h|h
         ·
          exact h g1
         ·
          omega
        refine Gi ?_
        exact oZ (dS s.h.xs y.xs) HR.symm (Sub.cons rfl (Sub.cons rfl (Sub.cons rfl (Sub.cons rfl (Sub.cons rfl (Sub.cons rfl (Sub.cons rfl (Sub.cons rfl (Sub.nil _))))))))) (fun w hw=>ah.mem hw)
      ·
       rintro e hj
       refine Gi ?_
       refine qa [5,9,10,2009,4005] [[],[],[],[],[],[],[5],[5],[5],[],[5,9],[5,9,10]] [0,1,2,3,4,5,6,7,8,9,10,11] [own ay 19 mI (cH s.h.xs y.xs),ar jf (bO s.f) 54,fz s,ar b9 (aB k8) 25] [(9,kR Tryz.prog 54)] (by kernel_rfl) (fun _ hw=>ah.mem hw) (by kernel_rfl) (by kernel_rfl) ?_
       refine al rfl (fI rfl) ?_
       refine al rfl (aD rfl) ?_
       refine al rfl (aD rfl) ?_
       refine al rfl (bg rfl rfl i rfl (by omega)) ?_
       refine al rfl (bL (j:=0) rfl i hy rfl (by decide)) ?_
       have Y8:Mb y _:=⟨List.mem_of_getElem? hy⟩
       refine sd rfl rfl kf (fun e x w hw=>ah.mem hw) (Cert.one (i:=9) rfl rfl rfl jX (Cert.none rfl)) fun oQ abt=>⟨fun _ hw=>ah.mem hw,?_⟩
       have bA:=Rm.done (k:=60000*(l.xs.length -(i+1))) (aF.mono (by omega)) y.xs
       rw[←abt]at bA
       obtain⟨q0,q1,q2,q3,q5⟩:=bA
       have q4:=q1.fb.Og
       have q6:(cY (bE s.f) y.xs).2=e:=by rw[q0,cS,hj];rfl
       have q7:=q1.fb.small
       have q8:e≠0→bE oQ=bE s.f:=fun g=>q3 (by rw[q6];exact g)
       refine al rfl (aD rfl) ?_
       refine al rfl (aV (v:= .agg (bO oQ)) rfl rfl) ?_
       refine al rfl (aV (v:= .int .i64 ((cY (bE s.f) y.xs).2)) rfl rfl) ?_
       refine oy (m:=kR Tryz.prog 54) rfl rfl jX (Cert.none rfl) fun xX=> ?_
       change Ln _ _ _ _ _ _ _ _ (cw _ _ (.pointer (some ⟨xX,0,none⟩))) (ar xX (bO ly) 54::_) _
       refine dE rfl (ox rfl rfl ⟨fun _ hw=>ah.mem hw,?_⟩)
       refine al rfl (bl rfl) ?_
       refine Gc ?_
       iterate 4 refine Gs ?_
       iterate 2 refine Gg ?_
       refine bZ rfl rfl rfl (fun hg=>(Ry.yl (aD (aG hg rfl)))) ?_
       refine od rfl rfl rfl (fun hg=>(Ry.yl (fI rfl))) ?_
       refine od rfl rfl rfl (fun hg=>(Ry.yl (fI rfl))) ?_
       refine od rfl rfl rfl (fun hg=>cC (dA (aG hg rfl) (dA (aG hg rfl) gE)) trivial) ?_
       refine od rfl rfl rfl (fun hg=>(Ry.yl (iR (aG hg rfl)))) ?_
       refine bZ rfl rfl rfl (fun hg=>(Ry.yl (vK (aG hg rfl) (vS hg rfl) rfl))) ?_
       iterate 2 refine Gs ?_
       refine bZ rfl rfl rfl (fun hg=>(Ry.yl (fI rfl))) ?_
       refine bZ rfl rfl rfl (fun hg=>cC (dA (aG hg rfl) gE) trivial) ?_
       refine bZ rfl rfl rfl (fun hg=>(Ry.yl (iR (aG hg rfl)))) ?_
       refine Gs ?_
       refine Gc ?_
       refine au rfl (fun h6=> ?_) (fun h6=> ?_)
       ·
        exfalso;by_cases zT:e=0
        ·
         simp[q6,q4,zT]at h6
        ·
         simp[q6,zT,q8 zT,aF.fb.Og]at h6
       ·
        replace h6:=bz h6
        iterate 2 refine Gi ?_
        refine vV (X:=Sl Rt) (fun zz=>[(13,zz.sv.val),(2,l.sv.val),(7, .int .i64 (((b.toNat%8)+5):Nat)),(8, .int .i64 (((p.toNat%7)+2):Nat)),(11, .pointer (some ⟨jf,0,none⟩)),(14, .int .i64 (i:Nat)),(17, .pointer (some ⟨xX,0,none⟩))]) (fun zz=>[fz zz,fz oQ,ar xX (bO oQ) 54,ar jf (bO s.f) 54,ar b9 (aB k8) 25]) (fun zz=>zz.xs=oQ.table.xs) ?_ ?_
        ·
         refine Gc ?_
         iterate 2 refine Gs ?_
         refine Gc ?_
         refine au rfl (fun h7=> ?_) (fun h7=> ?_)
         ·
          replace h7:=bz h7
          have HS:e=0:=q6.symm.trans h7
          have r2:=q2 (q6.trans HS)
          refine Gi ?_
          iterate 2 refine Gs ?_
          refine Gi ?_
          exact oZ (⟨mI,cH s.h.xs y.xs⟩:Sl Rt) (by show cH s.h.xs y.xs=_;rw[bt];exact r2.symm) (Sub.cons rfl (Sub.cons rfl (Sub.cons rfl (Sub.cons rfl (Sub.cons rfl (Sub.cons rfl (Sub.cons rfl (Sub.nil _)))))))) (fun w hw=>ah.mem (vd (a:=(⟨mI,cH s.h.xs y.xs⟩:Sl Rt)) (ah.mem hw:Mem _ [own ay 19 mI (cH s.h.xs y.xs),fz oQ,ar xX (bO oQ) 54,ar jf (bO s.f) 54,ar b9 (aB k8) 25] _)))
         ·
          replace h7:=bz h7
          have HS:e≠0:=fun g=>h7 (q6.trans g)
          have r2:=q8 HS
          refine Gi ?_
          exact oZ s.h (by rw[bt];exact(congrArg FV.table r2).symm) (Sub.cons rfl (Sub.cons rfl (Sub.cons rfl (Sub.cons rfl (Sub.cons rfl (Sub.cons rfl (Sub.cons rfl (Sub.nil _)))))))) (fun w hw=>ah.mem (aaB (ah.mem hw:Mem _ [fz s,fz oQ,ar xX (bO oQ) 54,ar jf (bO s.f) 54,ar b9 (aB k8) 25] _)))
        ·
         rintro u hk
         have hul:u.xs.length≤1000000:=by rw[hk];exact q7.2.2
         refine Gc ?_
         iterate 3 refine Gs ?_
         refine fy (cC rfl (by omega)) ?_
         refine Gs ?_
         refine Gc ?_
         refine au rfl (fun h8=> ?_) (fun h8=> ?_)
         ·
          exfalso;simp[hk]at h8
         ·
          replace h8:=bz h8
          refine Gc ?_
          iterate 2 refine Gs ?_
          refine Gc ?_
          iterate 3 refine Gs ?_
          refine Gi ?_
          exact bx (x:=(i,s)) (i+1,⟨oQ,u⟩) ⟨by first|omega|(simp only[];omega),q1,hk,q5.trans cS⟩ (by simp only;omega) (Sub.cons rfl (Sub.cons rfl (Sub.cons rfl (Sub.cons rfl (Sub.cons rfl (Sub.cons rfl (Sub.nil _))))))) (fun w hw=>ah.mem (Oh (f:=oQ) (a:=u) (ah.mem hw:Mem _ [fz oQ,fz u,ar jf (bO oQ) 54,ar b9 (aB k8) 25] _)))
    ·
     replace h3:=bz h3
     refine Gc ?_
     refine Gs ?_
     refine Gc ?_
     refine aq (.inl rfl) (aI rfl (ak rfl)) (fun w1 hw=> ?_)
     exact⟨congrArg (fun b=>Ending.returned (Value.bool b)) (rfl),ah.mem hw⟩
open Go.aC Go.Kb
open Go.RowKit
end Go.Proofs.YtaipiecplldinaaGreat
namespace Go.aC
open Go.ChangeShapes Go.WideShapes Go.ChangeAt Go.RowKit Go.Kb
variable {H:Type} {enc:TypeId×Value→H} {P:Program}
theorem O9(hl:laidOutB P=true){W W':World}{sp:Nat→Bool}: ∀{ts:List TypeId} {vs:List Value} {ds:List (DataW H)} {ps:List MemPlace},
  (∀t∈ts,P.readableRec t=true∧t<P.types.size)→DataW.TrodAll enc P W 0 (fun _=>true) true ts vs ds ps→(∀p∈ps,W.sameAt W' p)→(∀p∈ps,sp p.block=true)→
  DataW.TrodAll enc P W' 0 sp true ts vs ds ps
 |[],_,_,_,_,h,_,_=>by
  obtain⟨rfl,rfl,rfl⟩:=trodAll_nil h
  exact rfl
 |t::_,_,_,_,ht,h,hs,hp=>by
  obtain⟨v,Pa,d,Pb,a,b,rfl,rfl,rfl,h1,h2⟩:=trodAll_cons h
  exact⟨a,b,WideElems.Trod_stays hl (ht t (by simp)).1 (ht t (by simp)).2 h1 (fun p h=>hs p (by simp[h])) (fun p h=>hp p (by simp[h])),
   O9 hl (fun t h=>ht t (by simp[h])) h2 (fun p h=>hs p (by simp[h])) (fun p h=>hp p (by simp[h])),rfl⟩
theorem HT{W:World}{b:Nat}{sp:Nat→Bool}{hd:Bool}: ∀{ts:List TypeId} {vs:List Value} {ds:List (DataW H)} {ps:List MemPlace},
  DataW.TrodAll enc P W b sp hd ts vs ds ps→vs.length=ts.length∧ds.length=ts.length
 |[],_,_,_,h=>by
  obtain⟨rfl,rfl,rfl⟩:=trodAll_nil h
  exact⟨rfl,rfl⟩
 |_::_,_,_,_,h=>by
  obtain⟨v,Pa,d,Pb,a,b,rfl,rfl,rfl,h1,h2⟩:=trodAll_cons h
  have:=HT h2
  simp[this.1,this.2]
theorem abu(hl:laidOutB P=true){f:Func}{s:ChangeSpec}{apart fresh handsOn:Bool}{W W':World}{args:Array Value}{ds gs:List (DataW H)}{before:List MemPlace}{tb:TypeId}
  (hp:f.params.toList.all (fun t=>P.readableRec t&&decide (t<P.types.size))=true) (hr:f.resultTypes= #[tb]) (hb:P.underlying tb=some .bool) (hv:s.vars=[])
  (HU: ∀ds:List (DataW H),ds.length=f.params.size→s.fn H ds={results:=[.lit (.bool true)],args:=ds})
  (hW:DataW.Whole enc P f.params.toList s.vars apart W args.toList ds gs before) (Pc:Below W.heap.size W W'):
  s.post enc P f apart fresh handsOn false W args (.bool true) W':=by
 have bp:=hW.lt
 have hW0:=hW
 obtain⟨p,q,hA,hV,rfl,lL,ct⟩:=hW
 rw[hv]at hV
 obtain⟨rfl,rfl⟩:=trodVars_none hV
 have hlen:=HT hA
 have e1:s.fn H (ds++[])={results:=[.lit (.bool true)],args:=ds}:=by rw[List.append_nil];exact HU ds (by rw[hlen.2];simp)
 have lr: ∀t∈f.params.toList,P.readableRec t=true∧t<P.types.size:=fun t ht=>by
  simpa using List.all_eq_true.1 hp t ht
 refine⟨ds,[],p++[],[],p,[],hW0,?_,?_,?_,Pc.frame _,fun h=>by cases h⟩
 ·
  rw[e1,hr];exact trodAll_mk1 (shut_bool hb true)
 ·
  rw[e1]
  exact O9 hl lr hA (fun x hx=>Pc.same (bp x (by simp[hx]))) (fun x hx=>by simpa using bp x (by simp[hx]))
 ·
  rw[e1,hv];exact rfl
theorem abv{w:World}{b:Nat}{e:TypeId}{v:Value}(he:P.underlying e=some (.int .u8))(h:Cell.okWide P w .any b e v): ∃n:Nat,n<256∧v= .int .u8 n:=by
 cases v with
 |int k n=>
  simp only[Cell.okWide,he,Cell.ok,IntKind.has]at h
  obtain⟨rfl,h1,h2⟩:=h
  have a1:(0:Int)≤n:=h1
  have a2:n≤(255:Int):=h2
  exact⟨n.toNat,by omega,by rw[Int.toNat_of_nonneg a1]⟩
 |_=>simp[Cell.okWide,he,Cell.ok]at h
theorem abw{w:World}{b:Nat}{t:TypeId}{v:Value}(he:P.underlying t=some (.int .u8))(h:Value.okWide P w .any b t v): ∃n:Nat,n<256∧v= .int .u8 n:=by
 unfold Value.okWide at h
 rw[he]at h
 exact abv he h
theorem Pd{α:Type}{l:List α}(h:l.length=3): ∃a b c,l=[a,b,c]:=match l,h with|[a,b,c],_=>⟨a,b,c,rfl⟩
theorem Pe{w:World}{b:Nat}{t:TypeId}{v:Value}(he:P.underlying t=some (.int .u8))(h:Value.okWide P w .any b t v): ∃n:UInt8,v= .int .u8 n.toNat:=by
 obtain⟨n,hn,rfl⟩:=abw he h
 exact⟨UInt8.ofNat n,by simp;omega⟩
open Go.ChangeShapes Go.WideShapes Go.ChangeAt Go.RowKit Go.Kb
variable {P:Program}
theorem HV{α:Type}{p:Nat→α→Prop}: ∀{n:Nat},(∀i,i<n→ ∃x,p i x)→ ∃l:List α,l.length=n∧ ∀i x,l[i]? =some x→p i x
 |0,_=>⟨[],rfl,fun i x h=>by simp at h⟩
 |n+1,h=>by
  obtain⟨l,hl,hp⟩:=HV (n:=n) fun i hi=>h i (by omega)
  obtain⟨x,hx⟩:=h n (by omega)
  refine⟨l++[x],by simp[hl],fun i y hy=> ?_⟩
  by_cases hi:i<n
  ·
   rw[List.getElem?_append_left (by omega)]at hy;exact hp i y hy
  ·
   have:i=n:=by
    have:=(List.getElem?_eq_some_iff.1 hy).1
    rw[List.length_append,hl]at this;simp at this;omega
   subst this
   rw[List.getElem?_append_right (by omega),hl]at hy
   have:x=y:=by simpa using hy
   exact this▸hx
class kK(P:Program)(t:TypeId)(τ:Type)[Deep τ]:Prop where
 sz:P.cellsOf t=Deep.c τ
 h: ∀{H:Type} {enc:TypeId×Value→H} {w:World} {fuel:Nat} {cs:List Value} {d:DataW H} {ps:List MemPlace},DataW.trod enc P w 0 (fun _=>true) true fuel t cs=some (d,ps)→(∀n∈d.weights P t,n≤reachBytes)→
  ∃x:τ,(Deep.cells x).toList=cs∧Deep.aY (hp w) x
theorem abx{w:World}{b:Nat}{a:Addr}{n:Nat}{cs:List Value}(h:w.cells? b a n=some cs):cs.length=n∧ ∀j,j<n→w.cell? (a.add j)=cs[j]? :=by
 unfold World.cells? at h
 split at h
 ·
  have hl:=mapM_some_length h
  refine⟨by simpa using hl,fun j hj=> ?_⟩
  exact mapM_some_get h j j (by simp[hj])
 ·
  cases h
theorem HW{H:Type}{e:TypeId}{n:Nat}: ∀{l:List (DataW H)} {d:DataW H},d∈l→n∈d.weights P e→n∈DataW.weightsAll P e l
 |x::l,d,hd,hn=>by
  rw[DataW.weightsAll]
  rcases List.mem_cons.1 hd with rfl|hd
  ·
   exact List.mem_append_left _ hn
  ·
   exact List.mem_append_right _ (HW hd hn)
theorem HX{H:Type}{n:Nat}: ∀{ts:List TypeId} {l:List (DataW H)} {i:Nat} {t:TypeId} {d:DataW H},ts[i]? =some t→l[i]? =some d→n∈d.weights P t→n∈DataW.weightsEach P ts l
 |[],_,i,_,_,h,_,_=>by simp at h
 |_::_,[],i,_,_,_,h,_=>by simp at h
 |t0::ts,d0::l,0,t,d,ht,hd,hn=>by
  obtain rfl:t0=t:=by simpa using ht
  obtain rfl:d0=d:=by simpa using hd
  rw[DataW.weightsEach];exact List.mem_append_left _ hn
 |t0::ts,d0::l,i+1,t,d,ht,hd,hn=>by
  rw[DataW.weightsEach];exact List.mem_append_right _ (HX (i:=i) (by simpa using ht) (by simpa using hd) hn)
theorem aby:reachBytes≤140737488355328:=by decide
theorem uD{t e:TypeId}{τ:Type}[Deep τ](hu:P.underlying t=some (.slice e))(mT:Nat.ble 1 (P.bytesOf e)=true)(hc:1≤Deep.c τ)(hs:P.cellsOf t=1)[o:kK P e τ]:kK P t (Sl τ):=⟨hs,fun{H enc w fuel cs d ps} h hw=>by
 have hb:1≤P.bytesOf e:=Nat.le_of_ble_eq_true mT
 rcases Go.Deep.open_slice hu h with⟨rfl,_⟩|⟨a,len,cap,m,n,D,Pl,rfl,_,hl,_,hm,hx,Bd⟩
 ·
  exact⟨⟨Sv.none,[]⟩,rfl,uG⟩
 ·
  simp only[if_true]at hm
  subst hm
  have hd:d= .slice ((List.range len).map D) ((List.range (m -len)).map fun j=>D (len+j)):=congrArg Prod.fst hx
  subst hd
  simp only[DataW.weights,hu,List.length_map,List.length_range]at hw
  have uB:m≤140737488355328:=by
   have h1:=hw _ (List.mem_cons_self ..)
   have h2:(len+(m -len))*1≤(len+(m -len))*P.bytesOf e:=Nat.mul_le_mul_left _ hb
   have:=aby;omega
  have Pf: ∀i,i<m→ ∃cs',(cs'.length=Deep.c τ∧ ∀j,j<Deep.c τ→w.cell? ((a.add (i*Deep.c τ)).add j)=cs'[j]?)∧DataW.trod enc P w 0 (fun _=>true) true n e cs'=some (D i,Pl i):=fun i hi=>by
   obtain⟨cs',h1,h2⟩:=Bd i hi
   rw[o.sz]at h1
   exact⟨cs',abx h1,h2⟩
  have Pg:0<m→a.spot=none:=fun hm=>by
   obtain⟨cs',⟨h1,h2⟩,_⟩:=Pf 0 hm
   have h3:=h2 0 (by omega)
   have e0:(a.add (0*Deep.c τ)).add 0=a:=by simp[Addr.add]
   rw[e0,List.getElem?_eq_getElem (by omega)]at h3
   unfold World.cell? at h3
   split at h3
   ·
    split at h3
    ·
     cases h3
    ·
     rename_i hs;simpa using hs
   ·
    cases h3
  obtain⟨l,lQ,Dw⟩:=HV (p:=fun i (x:τ)=>(∀j,j<Deep.c τ→w.cell? ((a.add (i*Deep.c τ)).add j)=(Deep.cells x)[j]?)∧Deep.aY (hp w) x) (n:=len) fun i hi=>by
   obtain⟨cs',⟨h1,h2⟩,h3⟩:=Pf i (by omega)
   obtain⟨x,ng,jL⟩:=o.h h3 (fun k hk=>hw k (List.mem_cons_of_mem _ (List.mem_append_left _ (HW (List.mem_map.2 ⟨i,List.mem_range.2 hi,rfl⟩) hk))))
   refine⟨x,fun j hj=> ?_,jL⟩
   rw[h2 j hj,←ng];simp
  refine⟨⟨⟨false,a.block,a.off,len,m,a.spot⟩,l⟩,rfl,⟨⟨(fun h=>by cases h),hl,by simp only;omega,Pg⟩,by simp[lQ],fun i x hi j hj=> ?_⟩,fun x hx=> ?_⟩
  ·
   have eP:i<len:=by rw[←lQ];exact(List.getElem?_eq_some_iff.1 hi).1
   have h1:=(Dw i x hi).1 j hj
   have hs:=Pg (by omega)
   have ea:(a.add (i*Deep.c τ)).add j=⟨a.block,a.off+i*Deep.c τ+j,none⟩:=by
    obtain⟨ab,ao,asp⟩:=a
    simp only at hs
    subst hs
    rw[Addr.gp,Addr.gp]
   rw[ea,qP]at h1
   exact h1
  ·
   obtain⟨i,hi⟩:=List.getElem?_of_mem hx
   exact(Dw i x hi).2⟩
theorem vF{H:Type}{enc:TypeId×Value→H}{w:World}{fuel:Nat}{t:TypeId}{cs:List Value}{d:DataW H}{ps:List MemPlace}{fs:Array Field}(hu:P.underlying t=some (.struct fs))(h:DataW.trod enc P w 0 (fun _=>true) true fuel t cs=some (d,ps))(hw: ∀n∈d.weights P t,n≤reachBytes)
  {i tf off:Nat} (mf:(fs[i]?).map (fun f=>(f.type,f.offset))=some (tf,off)) (τ:Type) [Deep τ] [o:kK P tf τ]:cs.length=P.cellsOf t∧ ∃x:τ,(Deep.cells x).toList=(cs.drop off).take (Deep.c τ)∧Deep.aY (hp w) x:=by
 obtain⟨f,hf,e⟩:=Option.map_eq_some_iff.1 mf
 obtain⟨rfl,rfl⟩:=Prod.mk.inj e
 obtain⟨xs,n,_,hx,hl,hlen,hg⟩:=DataW.trod_struct hu h
 have h1:=hg i f hf
 have hi:i<xs.length:=by rw[hlen];exact(Array.getElem?_eq_some_iff.1 hf).1
 rw[List.getElem?_eq_getElem hi,o.sz]at h1
 have hd:d= .agg (xs.map (·.1)):=congrArg Prod.fst hx
 subst hd
 obtain⟨x,ng,jL⟩:=o.h (d:=xs[i].1) (ps:=xs[i].2) h1 (fun k hk=>hw k (by
  simp only[DataW.weights,hu]
  exact HX (i:=i) (t:=f.type) (d:=xs[i].1) (by
   have:fs.toList[i]? =some f:=by simpa using hf
   rw[List.getElem?_map,this];rfl) (by simp[hi]) hk))
 exact⟨hl,x,ng,jL⟩
theorem abz{H:Type}{enc:TypeId×Value→H}{w:World}{fuel:Nat}{t e:TypeId}{m:Nat}{cs:List Value}{d:DataW H}{ps:List MemPlace}(hu:P.underlying t=some (.array m e))(h:DataW.trod enc P w 0 (fun _=>true) true fuel t cs=some (d,ps))(hw: ∀n∈d.weights P t,n≤reachBytes)
  (τ:Type) [Deep τ] [o:kK P e τ]:cs.length=P.cellsOf t∧ ∀i,i<m→ ∃x:τ,(Deep.cells x).toList=(cs.drop (i*Deep.c τ)).take (Deep.c τ)∧Deep.aY (hp w) x:=by
 cases fuel with
 |zero=>simp[DataW.trod]at h
 |succ n=>
  unfold DataW.trod at h
  rw[hu]at h
  split at h<;>simp_all
  rename_i m' e' heq
  obtain⟨hl,xs,gP,hd⟩:=h
  obtain⟨rfl,rfl⟩:=heq
  intro i hi
  have hlen:=mapM_some_length gP
  have nx:i<xs.length:=by simpa[hlen]using hi
  have h1:=mapM_some_get gP i i (by simp[hi])
  rw[List.getElem?_eq_getElem nx,o.sz]at h1
  obtain⟨rfl,-⟩:=hd
  exact o.h (d:=xs[i].1) (ps:=xs[i].2) h1 (fun k hk=>hw k (by
   simp only[DataW.weights,hu]
   exact HW (List.mem_map_of_mem (List.getElem_mem nx)) hk))
theorem HY{α:Type}{cs:List α}{a b:Nat}(h:cs.length=a+b):(cs.drop 0).take a++(cs.drop a).take b=cs:=by
 rw[List.drop_zero,List.take_of_length_le (l:=cs.drop a) (by rw[List.length_drop];omega),List.take_append_drop]
theorem abA{α:Type}{cs:List α}{a b c:Nat}(h:cs.length=a+b+c):(cs.drop 0).take a++(cs.drop a).take b++(cs.drop (a+b)).take c=cs:=by
 have h1:=HY (cs:=cs) (a:=a+b) (b:=c) (by omega)
 conv=>rhs;rw[←h1]
 congr 1
 rw[List.drop_zero,List.take_add]
def HZ(n:Int):Array Value:= #[.int .i64 n]
instance:bu HZ 1:=⟨fun _=>rfl,fun _=>by simp[HZ,Value.oneCell']⟩
instance:Deep Int:=Deep.flat HZ 1
def As(n:UInt16):Array Value:= #[.int .u16 n.toNat]
instance:bu As 1:=⟨fun _=>rfl,fun _=>by simp[As,Value.oneCell']⟩
instance:Deep UInt16:=Deep.flat As 1
def Dx(b:Bool):Array Value:= #[.bool b]
instance:bu Dx 1:=⟨fun _=>rfl,fun _=>by simp[Dx,Value.oneCell']⟩
instance:Deep Bool:=Deep.flat Dx 1
theorem abB{t:TypeId}(hu:P.underlying t=some (.int .i64))(hs:P.cellsOf t=1):kK P t Int:=⟨hs,fun h _=>by
 obtain⟨n,rfl,_,_⟩:=DataW.trod_int hu h
 exact⟨n,rfl,trivial⟩⟩
theorem abC{t:TypeId}(hu:P.underlying t=some (.int .u8))(hs:P.cellsOf t=1):kK P t UInt8:=⟨hs,fun h _=>by
 obtain⟨n,rfl,_,hw⟩:=DataW.trod_int hu h
 simp only[Lit.wf,Bool.and_eq_true,decide_eq_true_eq]at hw
 have h1:(0:Int)≤n:=hw.1
 have h2:n≤(255:Int):=hw.2
 refine⟨UInt8.ofNat n.toNat,?_,trivial⟩
 have:((UInt8.ofNat n.toNat).toNat:Int)=n:=by simp;omega
 show(aM (UInt8.ofNat n.toNat)).toList=_
 simp only[aM,this]⟩
theorem abD{t:TypeId}(hu:P.underlying t=some (.int .u16))(hs:P.cellsOf t=1):kK P t UInt16:=⟨hs,fun h _=>by
 obtain⟨n,rfl,_,hw⟩:=DataW.trod_int hu h
 simp only[Lit.wf,Bool.and_eq_true,decide_eq_true_eq]at hw
 have h1:(0:Int)≤n:=hw.1
 have h2:n≤(65535:Int):=hw.2
 refine⟨UInt16.ofNat n.toNat,?_,trivial⟩
 have:((UInt16.ofNat n.toNat).toNat:Int)=n:=by simp;omega
 show(As (UInt16.ofNat n.toNat)).toList=_
 simp only[As,this]⟩
theorem open_bool{t:TypeId}(hu:P.underlying t=some .bool)(hs:P.cellsOf t=1):kK P t Bool:=⟨hs,fun h _=>by
 obtain⟨n,rfl,_⟩:=DataW.trod_bool hu h
 exact⟨n,rfl,trivial⟩⟩
theorem abE{H:Type}{enc:TypeId×Value→H}{w:World}{b:Nat}{t e:TypeId}{τ:Type}[Deep τ][o:kK P t (Sl τ)](hu:P.underlying t=some (.slice e)){v:Value}{d:DataW H}{ps:List MemPlace}(hv:Value.okWide P w .any b t v)(h:DataW.Trod enc P w 0 (fun _=>true) true t v d ps)(hw: ∀n∈d.weights P t,n≤reachBytes):
  ∃x:Sl τ,v=x.sv.val∧Deep.aY (hp w) x:=by
 obtain⟨fuel,h⟩:=h
 obtain⟨x,h1,h2⟩:=o.h h hw
 refine⟨x,?_,h2⟩
 have hc:v.cells= #[v]:=by
  unfold Value.okWide at hv
  rw[hu]at hv
  unfold Cell.okWide at hv
  rw[hu]at hv
  cases v<;>simp_all[Cell.ok,Value.cells]
 rw[hc]at h1
 have:[x.sv.val]=[v]:=h1
 simpa using this.symm
structure Arg(H:Type)(enc:TypeId×Value→H)(P:Program)(W:World)(b:Nat)(t:TypeId)(v:Value):Prop where
 ok:Value.okWide P W .any b t v
 trod: ∃d ps,DataW.Trod enc P W 0 (fun _=>true) true t v d ps∧ ∀n∈d.weights P t,n≤reachBytes
theorem Arg.sl{H:Type}{enc:TypeId×Value→H}{W:World}{b:Nat}{t e:TypeId}{v:Value}(h:Arg H enc P W b t v)(hu:P.underlying t=some (.slice e))(τ:Type)[Deep τ][o:kK P t (Sl τ)]: ∃x:Sl τ,v=x.sv.val∧Deep.aY (hp W) x:=by
 obtain⟨d,ps,h1,h2⟩:=h.trod
 exact abE hu h.ok h1 h2
theorem Ph{H:Type}{enc:TypeId×Value→H}{W:World}{sp:Nat→Bool}{hd:Bool}: ∀{ts:List TypeId} {vs:List Value} {ds:List (DataW H)} {ps:List MemPlace},DataW.TrodAll enc P W 0 sp hd ts vs ds ps→ ∀(j:Nat) (t:TypeId) (v:Value),ts[j]? =some t→vs[j]? =some v→
  ∃d p,ds[j]? =some d∧DataW.Trod enc P W 0 sp hd t v d p
 |[],_,_,_,h,j,_,_,ht,_=>by simp at ht
 |t0::ts,vs,ds,ps,h,j,t,v,ht,hv=>by
  obtain⟨v0,Pa,d0,Pb,a,b,rfl,rfl,rfl,h1,h2⟩:=trodAll_cons h
  cases j with
  |zero=>
   obtain rfl:t0=t:=by simpa using ht
   obtain rfl:v0=v:=by simpa using hv
   exact⟨d0,a,rfl,h1⟩
  |succ j=>exact Ph h2 j t v (by simpa using ht) (by simpa using hv)
theorem abF{H:Type}{enc:TypeId×Value→H}{C:Checked}{os:Os}{f:FuncId}{fn:Func}{s:ChangeSpec}{conds:List PathCond}{apart fresh handsOn:Bool}{tb:TypeId}
  (own:ownKnob C.prog.godebug=none) (started:os.Started) (abG:C.prog.inits.idxOf? f=none) (abH:C.prog.funcs[f]? =some fn)
  (wit: ∃(w:World) (tape:Tape) (i:Input),w.os=os∧(w.forCall tape i).Shaped C.prog∧i.vars=[]∧Input.okWide C.prog (w.forCall tape i) .any w.heap.size f i∧
   s.pre6 enc C.prog fn conds apart (w.forCall tape i).memory i.args∧({}:Assume).holds C.prog (lone (Frame.enter C.prog f i.args .normal) [] (w.forCall tape i)))
  (hl:laidOutB C.prog=true) (hp:fn.params.toList.all (fun t=>C.prog.readableRec t&&decide (t<C.prog.types.size))=true) (hr:fn.resultTypes= #[tb]) (hb:C.prog.underlying tb=some .bool)
  (hv:s.vars=[]) (HU: ∀ds:List (DataW H),ds.length=fn.params.size→s.fn H ds={results:=[.lit (.bool true)],args:=ds})
  (abI: ∀(W:World) (base:Nat) (vs:List Value),vs.length=fn.params.size→(∀(j:Nat) t v,fn.params[j]? =some t→vs[j]? =some v→Arg H enc C.prog W base t v)→
   Calls C.prog f vs.toArray W fun e W'=>e= .returned (.bool true)∧Mem W [] W'):
  ReturnsInHanded {} C os f .any (s.pre6 enc C.prog fn conds apart) (s.post enc C.prog fn apart fresh handsOn false):=by
 refine returnsInHanded_of_change_shaped own started abG abH wit ?_
 intro W base args ds gs before abJ hW _ oU _ _
 have hlen:args.toList.length=fn.params.size:=by
  obtain⟨p,q,hA,_⟩:=hW
  rw[(HT hA).1];simp
 have h:=abI W base args.toList hlen (fun j t v h1 h2=>⟨abJ j t v h1 (by simpa using h2),by
  obtain⟨p,q,hA,_⟩:=hW
  obtain⟨d,pp,hd,ht⟩:=Ph hA j t v (by simpa using h1) h2
  refine⟨d,pp,ht,fun n hn=> ?_⟩
  have hh:=List.all_eq_true.1 oU n (HX (i:=j) (t:=t) (d:=d) (by rw[List.getElem?_append_left (by have:=(Array.getElem?_eq_some_iff.1 h1).1;simpa using this)];simpa using h1)
   (by rw[List.getElem?_append_left (List.getElem?_eq_some_iff.1 hd).1];exact hd) hn)
  simpa using hh⟩)
 rw[Array.toArray_toList]at h
 exact h.mono fun e W' hh=>⟨_,hh.1,abu hl hp hr hb hv HU hW hh.2.below⟩
end Go.aC
namespace Go.Proofs.YtaipiecplldinaaGreat
open Go.aC Go.Kb
instance op3:kK Tryz.prog 3 Int:=abB Tryz.underlying3 (by kernel_rfl)
instance op4:kK Tryz.prog 4 Bool:=open_bool Tryz.underlying4 (by kernel_rfl)
instance op5:kK Tryz.prog 5 UInt8:=abC Tryz.underlying5 (by kernel_rfl)
instance ajo:kK Tryz.prog 66 UInt16:=abD Tryz.underlying66 (by kernel_rfl)
instance:bu cW 16:=⟨gH,fun k=>(inferInstance:fW (cW k) 16).one⟩
instance:Deep Key:=Deep.flat cW 16
instance:bu c6 18:=⟨oq,fun k=>(inferInstance:fW (c6 k) 18).one⟩
instance:Deep dh:=Deep.flat c6 18
instance ajp:kK Tryz.prog 56 Key:=⟨by kernel_rfl,fun h hw=>by
 obtain⟨hl,he⟩:=abz Tryz.underlying56 h hw UInt8
 rw[show Tryz.prog.cellsOf 56=16 from by kernel_rfl]at hl
 obtain⟨l,lQ,Dw⟩:=HV (p:=fun i (x:UInt8)=>_) he
 refine⟨oo fun i=>(l.getD i 0).toNat,?_,trivial⟩
 refine List.ext_getElem? fun i=> ?_
 rw[Array.getElem?_toList]
 rcases Nat.lt_or_ge i 16 with hi|hi
 ·
  have hx:l[i]? =some (l.getD i 0):=oh (by omega)
  have h1:=congrArg (·[0]?) (Dw i _ hx).1
  simp only[List.getElem?_take,List.getElem?_drop]at h1
  rw[if_pos (by decide),show i*Deep.c UInt8+0=i from Nat.mul_one i]at h1
  have h3:some (Value.int .u8 (l.getD i 0).toNat)=_:=h1
  have e8:(l.getD i 0).toNat%2^8=(l.getD i 0).toNat:=Nat.mod_eq_of_lt (l.getD i 0).toNat_lt
  show(cW _)[i]? =_
  rw[lM _ _ hi,yE _ _ hi,e8,←h3]
 ·
  show(cW _)[i]? =_
  rw[IX _ _ hi,List.getElem?_eq_none (by omega)]⟩
instance ajq:kK Tryz.prog 65 dh:=⟨by kernel_rfl,fun h hw=>by
 obtain⟨hl,x0,h0,-⟩:=vF Tryz.underlying65 h hw (i:=0) (tf:=3) (off:=0) rfl Int
 obtain⟨-,x1,h1,-⟩:=vF Tryz.underlying65 h hw (i:=1) (tf:=3) (off:=1) rfl Int
 obtain⟨-,x2,h2,-⟩:=vF Tryz.underlying65 h hw (i:=2) (tf:=56) (off:=2) rfl Key
 refine⟨⟨x0,x1,x2⟩,?_,trivial⟩
 refine Eq.trans ?_ (abA (a:=1) (b:=1) (c:=16) (hl.trans (by kernel_rfl)))
 rw[show(Deep.cells (⟨x0,x1,x2⟩:dh)).toList=(Deep.cells x0).toList++(Deep.cells x1).toList++(Deep.cells x2).toList from by show(c6 _).toList=_;unfold c6;rw[Array.toList_append];rfl,h0,h1,h2]
 rfl⟩
instance ajr:kK Tryz.prog 68 Rt:=⟨by kernel_rfl,fun h hw=>by
 obtain⟨hl,x0,h0,-⟩:=vF Tryz.underlying68 h hw (i:=0) (tf:=65) (off:=0) rfl dh
 obtain⟨-,x1,h1,-⟩:=vF Tryz.underlying68 h hw (i:=1) (tf:=66) (off:=18) rfl UInt16
 refine⟨⟨x0,x1⟩,?_,trivial⟩
 refine Eq.trans ?_ (HY (a:=18) (b:=1) (hl.trans (by kernel_rfl)))
 rw[show(Deep.cells (⟨x0,x1⟩:Rt)).toList=(Deep.cells x0).toList++(Deep.cells x1).toList from by show(ay _).toList=_;unfold ay;rw[Array.toList_append];rfl,h0,h1]
 rfl⟩
end Go.Proofs.YtaipiecplldinaaGreat
namespace Go.aC
open Go.RowKit Go.Kb
open Go.RowKit Go.Kb
end Go.aC
namespace Go.Proofs.YtaipiecplldinaaGreat
open Go.aC Go.Kb
open Go.ChangeShapes Go.WideShapes Go.ChangeAt Go.RowKit
open Go.aC Go.Kb
open Go.ChangeShapes Go.WideShapes Go.ChangeAt Go.RowKit
open Go.aC Go.Kb
instance (priority:=high) ajs:Deep Bool:=Deep.flat Dx 1
instance ajt:kK Tryz.prog 91 Ch:=⟨by kernel_rfl,fun h hw=>by
 obtain⟨hl,x0,h0,-⟩:=vF Tryz.underlying91 h hw (i:=0) (tf:=68) (off:=0) rfl Rt
 obtain⟨-,x1,h1,-⟩:=vF Tryz.underlying91 h hw (i:=1) (tf:=4) (off:=19) rfl Bool
 refine⟨⟨x0,x1⟩,?_,trivial⟩
 refine Eq.trans ?_ (HY (a:=19) (b:=1) (hl.trans (by kernel_rfl)))
 rw[show(Deep.cells (⟨x0,x1⟩:Ch)).toList=(Deep.cells x0).toList++(Deep.cells x1).toList from by show(fO _).toList=_;unfold fO;rw[Array.toList_append];rfl,h0,h1]
 rfl⟩
instance aju:kK Tryz.prog 76 (Sl Ch):=uD Tryz.underlying76 (by kernel_rfl) (by decide) (by kernel_rfl)
instance ajv:kK Tryz.prog 88 (Sl (Sl Ch)):=uD Tryz.underlying88 (by kernel_rfl) (by decide) (by kernel_rfl)
open Go.aC Go.Kb Go.ChangeShapes Go.WideShapes Go.ChangeAt Go.RowKit
theorem Tryz.own:ownKnob Tryz.prog.godebug=none:=by kernel_rfl
theorem Tryz.laidOut:laidOutB Tryz.prog=true:=by kernel_rfl
set_option maxRecDepth 100000 in
theorem abK{H:Type}{enc:TypeId×Value→H}(W:World)(base:Nat)(vs:List Value)(hl:vs.length=3)(h: ∀(j:Nat) t v,Tryz.f6.params[j]? =some t→vs[j]? =some v→Arg H enc Tryz.prog W base t v):
  Calls Tryz.prog 6 vs.toArray W fun e W'=>e= .returned (.bool true)∧Mem W [] W':=by
 rw[Tryz.params6]at h
 obtain⟨v0,v1,v2,rfl⟩:=Pd hl
 obtain⟨x0,rfl⟩:=Pe (t:=5) Tryz.underlying5 (h 0 5 v0 rfl rfl).ok
 obtain⟨x1,rfl⟩:=Pe (t:=5) Tryz.underlying5 (h 1 5 v1 rfl rfl).ok
 obtain⟨x2,rfl,g2⟩:=(h 2 88 v2 rfl rfl).sl Tryz.underlying88 (Sl Ch)
 exact abp W x0 x1 x2 g2
set_option maxRecDepth 100000 in
theorem abL(os:Os)(started:os.Started)(H:Type)(enc:TypeId×Value→H):
  ReturnsInHanded {} Tryz.checked os 6 .any (Rows.fibRoomSpec.pre6 enc Tryz.prog Tryz.f6 Rows.fibRoomRow.domain false) (Rows.fibRoomSpec.post enc Tryz.prog Tryz.f6 false true false false):=
 abF (C:=Tryz.checked) Tryz.own started (by kernel_rfl) Tryz.func6
  (ChangeSpec.witness6 (enc:=enc) (C:=Tryz.checked) false ⟨#[],#[.int .u8 0, .int .u8 0, .slice none 0 0],[]⟩ 24 (by kernel_rfl) (by kernel_rfl) (by kernel_rfl) (by kernel_rfl))
  Tryz.laidOut (by kernel_rfl) rfl Tryz.underlying4 rfl (fun ds hd=>by obtain⟨d0,d1,d2,rfl⟩:=Pd (hd.trans (by kernel_rfl));rfl)
  (fun W base vs hl h=>abK W base vs (hl.trans (by kernel_rfl)) h)
theorem fibRoom_holds:Rows.FibRoomSaid:=
 OpenClaim.holds_of_wide 6 Tryz.f6 rfl rfl rfl rfl rfl rfl rfl ⟨rfl,rfl,rfl,rfl,rfl⟩ rfl rfl rfl rfl rfl (by kernel_rfl) Tryz.func6 (by kernel_rfl)
  (of_decide_eq_true (by kernel_rfl)) (by unfold Func.isWrapper;first|(rw[if_pos (by decide+kernel)];kernel_rfl)|(rw[if_neg (by decide+kernel)];exact⟨rfl,rfl⟩))
  (fun os started H enc _=>abL os started H enc)
end Go.Proofs.YtaipiecplldinaaGreat

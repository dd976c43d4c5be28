/- The law FibRefines holds: whatever is on a chip, by whomever it was laid: if it is mounted, each batch that is done makes of its table what the table of the routes would be, one that is not changes nothing, and every key finds what that table tells. It holds of all arguments that can be read; its arguments read behind the call as they did. -/
import Derived.Test.YtaipiecplldinaaGreatB6
import Derived.Test.YtaipiecplldinaaGreatB1
import Derived.ProofKit
import Derived.Deep.Slices
import Derived.HandedShaped
import Derived.Test.YtaipiecplldinaaGreatB3
import Derived.Test.YtaipiecplldinaaGreatB2
import Derived.Test.YtaipiecplldinaaGreatB5
import Derived.Test.YtaipiecplldinaaGreatRows
set_option maxRecDepth 20000
set_option linter.unusedSimpArgs false
set_option linter.unusedVariables false
namespace Go.Kb
open Go.aB
def hG(c:CV):Prop:= ∀f∈c.aS,f.mask=0∨f.mask=255
theorem hG.kd{L:List Int}{c d:CV}(h:hG c)(k:Kd L c d):hG d:=by unfold hG;rw[k.pw];exact h
theorem hG.LY{c:CV}(h:hG c)(hs:(bw c).2=true):(bw c).1.mask=0∨(bw c).1.mask=255:=by
 rw[bw]at hs⊢
 cases hf:c.aS.find? fun f=>decide (f.op=c.ops)with
 |none=>rw[hf]at hs;cases hs
 |some x=>exact h x (List.mem_of_find?_eq_some hf)
theorem LZ(p:List UInt8):cI 0 p=p:=by
 rw[cI]
 conv=>rhs;rw[←List.map_id p]
 exact List.map_congr_left fun x _=>by simp
theorem L3(p:List UInt8):iM (cI 255 p)=true:=by
 refine xI.2 fun x hx=> ?_
 obtain⟨y,_,rfl⟩:=List.mem_map.1 hx
 apply UInt8.eq_of_toBitVec_eq
 show y.toBitVec|||255#8=255#8
 exact BitVec.or_allOnes
theorem FG{p:List UInt8}(h:iM p=true):(bA p).2≠0:=by
 rw[bA]
 by_cases h1:mG p.length=false
 ·
  rw[if_pos (by rw[cE,if_pos h1];decide)];rw[cE,if_pos h1];decide
 ·
  have e:cE p=(iL,0):=by rw[cE,if_neg h1,if_pos h]
  rw[e,if_neg (by decide),if_pos (show(iL,(0:Int)).1.kind=0 from rfl)];decide
theorem XN(n:Int):iM (fL n)=true:=xI.2 fun _ hx=>List.eq_of_mem_replicate hx
theorem qo{c:CV}(hb:fY c=true){k:Nat}(hk:(k:Int)<2*c.ae):((ak c 0).ae++(ak c 1).ae).getD k []=bO c k:=by
 obtain⟨l0,l1⟩:=yN hb
 have hp:2≤c.ae:=(iN.1 hb).2.2.1
 rw[bO]
 by_cases h:(k:Int)<c.ae
 ·
  rw[Int.ediv_eq_zero_of_lt (by omega) h,Int.emod_eq_of_lt (by omega) h,Int.toNat_natCast]
  simp only[List.getD]
  rw[List.getElem?_append_left (by omega)]
 ·
  have e1:(k:Int)/c.ae=1:=by
   have:(k:Int)=(k -c.ae)+1*c.ae:=by omega
   rw[this,Int.add_mul_ediv_right _ _ (by omega),Int.ediv_eq_zero_of_lt (by omega) (by omega)];rfl
  have e2:(k:Int)%c.ae=k -c.ae:=by
   have:(k:Int)=(k -c.ae)+1*c.ae:=by omega
   rw[this,Int.add_mul_emod_self_right,Int.emod_eq_of_lt (by omega) (by omega)];omega
  rw[e1,e2]
  simp only[List.getD]
  rw[List.getElem?_append_right (by omega)]
  congr 2
  omega
theorem L4{c:CV}(hb:fY c=true){i:Int}(h0:0≤i)(h1:i<2*c.ae)(hi:(bA (bO c i)).2=0)(hH: ∀k,0≤k→k<2*c.ae→(bA (bO c k)).2=0→ ¬((bA (bO c i)).1.gen<(bA (bO c k)).1.gen∨((bA (bO c k)).1.gen=(bA (bO c i)).1.gen∧i<k))):
  bL c=(i,(bA (bO c i)).1,0):=by
 obtain⟨l0,l1⟩:=yN hb
 obtain⟨n,rfl⟩: ∃n:Nat,i=n:=⟨i.toNat,by omega⟩
 have hl:((ak c 0).ae++(ak c 1).ae).length=(ak c 0).ae.length+(ak c 1).ae.length:=List.length_append
 have hn:n<((ak c 0).ae++(ak c 1).ae).length:=by omega
 have:=Jo hn (AJ.2 ⟨by rw[qo hb h1];exact hi,fun k hk hv=>by
  rw[qo hb h1,qo hb (by omega)]
  rw[qo hb (by omega)]at hv
  have:=hH k (by omega) (by omega) hv
  omega⟩)
 rw[bL,this,qo hb h1]
theorem L5{c:CV}(hb:fY c=true)(h:(bL c).2.2=0):bA (bO c (bL c).1)=((bL c).2.1,0)∧ ∀k,0≤k→k<2*c.ae→(bA (bO c k)).2=0→ ¬((bL c).2.1.gen<(bA (bO c k)).1.gen∨((bA (bO c k)).1.gen=(bL c).2.1.gen∧(bL c).1<k)):=by
 obtain⟨l0,l1⟩:=yN hb
 have hl:((ak c 0).ae++(ak c 1).ae).length=(ak c 0).ae.length+(ak c 1).ae.length:=List.length_append
 by_cases hex: ∃i,i<((ak c 0).ae++(ak c 1).ae).length∧tW ((ak c 0).ae++(ak c 1).ae) i=true
 ·
  obtain⟨i,hi,L6⟩:=hex
  have e:=Jo hi L6
  obtain⟨g1,g2⟩:=AJ.1 L6
  rw[qo hb (by omega)]at e g1
  rw[bL,e]
  refine⟨by rw[←g1],fun k k0 k1 hv=> ?_⟩
  obtain⟨n,rfl⟩: ∃n:Nat,k=n:=⟨k.toNat,by omega⟩
  have:=g2 n (by omega) (by rw[qo hb k1];exact hv)
  rw[qo hb k1,qo hb (by omega)]at this
  simp only;omega
 ·
  have:=QI (l:=(ak c 0).ae++(ak c 1).ae) fun i hi=>by
   cases hq:tW ((ak c 0).ae++(ak c 1).ae) i with
   |false=>rfl
   |true=>exact absurd ⟨i,hi,hq⟩ hex
  rw[bL,this]at h
  simp only at h
  split at h<;>cases h
structure Wv(g:Nat)(at_:List Int)(last:Int)(a:List Int)(c:CV):Prop where
 bears:fY c=true
 vT: ∃i:Int,0≤i∧i<2*c.ae∧bA (bO c i)=(⟨g,at_⟩,0)∧i/c.ae=last∧i%c.ae<(ak c last).used∧
  ∀k,0≤k→k<2*c.ae→(bA (bO c k)).2=0→(bA (bO c k)).1.gen<g∨((bA (bO c k)).1.gen=g∧k≤i)∨(bA (bO c k)=(⟨g+1,a⟩,0)∧k%c.ae<(ak c (k/c.ae)).used)
theorem eN.wv{x:VV}(h:eN x)(a:List Int):Wv x.gen x.at_ x.last a x.ah:=by
 obtain⟨h1,h2⟩:=L5 h.bears h.roots
 have hr:=LP h.bears
 refine⟨h.bears,(bL x.ah).1,hr.1,hr.2,?_,h.last,by rw[←h.last];exact h.used,fun k k0 k1 hv=> ?_⟩
 ·
  rw[h1,←h.at_,←h.gen]
 ·
  have:=h2 k k0 k1 hv
  rw[h.gen]at this
  omega
theorem Wv.step{g:Nat}{at_ a:List Int}{last:Int}{c d:CV}(h:Wv g at_ last a c)(hb:fY d=true)(hP:d.ae=c.ae)
  (hl: ∀i,0≤i→i/c.ae=last→i%c.ae<(ak c last).used→bO d i=bO c i∧i%c.ae<(ak d last).used)
  (hk: ∀k,0≤k→k<2*c.ae→(bA (bO d k)).2=0→(bO d k=bO c k∧(k%c.ae<(ak c (k/c.ae)).used→k%c.ae<(ak d (k/c.ae)).used))∨(bA (bO d k)=(⟨g+1,a⟩,0)∧k%c.ae<(ak d (k/c.ae)).used)):Wv g at_ last a d:=by
 obtain⟨i,i0,i1,i2,i3,i4,i5⟩:=h.vT
 obtain⟨e1,e2⟩:=hl i i0 i3 i4
 refine⟨hb,i,i0,by rw[hP];exact i1,by rw[e1];exact i2,by rw[hP];exact i3,by rw[hP];exact e2,fun k k0 k1 hv=> ?_⟩
 rw[hP]at k1⊢
 rcases hk k k0 k1 hv with⟨q1,q2⟩|q
 ·
  rw[q1]at hv⊢
  rcases i5 k k0 k1 hv with r|r|r
  ·
   exact .inl r
  ·
   exact .inr (.inl r)
  ·
   exact .inr (.inr ⟨r.1,q2 r.2⟩)
 ·
  exact .inr (.inr q)
theorem Wv.L7{g:Nat}{at_ a:List Int}{last:Int}{c:CV}(h:Wv g at_ last a c)(hp:Pl c at_)(gL: ∀k,0≤k→k<2*c.ae→bA (bO c k)≠(⟨g+1,a⟩,0)):eN ⟨c,at_,g,last⟩:=by
 obtain⟨i,i0,i1,i2,i3,i4,i5⟩:=h.vT
 have e:=L4 h.bears i0 i1 (by rw[i2]) (fun k k0 k1 hv=>by
  rw[i2]
  rcases i5 k k0 k1 hv with r|r|r
  ·
   simp only;omega
  ·
   simp only;omega
  ·
   exact absurd r.1 (gL k k0 k1))
 rw[i2]at e
 exact⟨h.bears,by show(bL c).2.2=0;rw[e],by show(bL c).1%c.ae<(ak c ((bL c).1/c.ae)).used;rw[e];simp only;rw[i3];exact i4,hp,by show(bL c).2.1.at_=at_;rw[e],by show(bL c).2.1.gen=g;rw[e],by show(bL c).1/c.ae=last;rw[e];exact i3⟩
theorem L8{P:Int→Prop}{m:Int}: ∀(n:Nat),(∃k,0≤k∧k<m∧P k∧m -k≤n)→ ∃i,0≤i∧i<m∧P i∧ ∀k,k<m→P k→k≤i
 |0,⟨k,_,h1,_,h3⟩=>by omega
 |n+1,⟨k,h0,h1,h2,h3⟩=>by
  by_cases h: ∃j,0≤j∧j<m∧P j∧m -j≤n
  ·
   exact L8 n h
  ·
   refine⟨k,h0,h1,h2,fun j hj hP=> ?_⟩
   apply Classical.byContradiction
   intro bo
   exact h ⟨j,by omega,hj,hP,by omega⟩
theorem Wv.L9{g:Nat}{at_ a:List Int}{last:Int}{c:CV}(h:Wv g at_ last a c)(hp:Pl c a){k0:Int}(q0:0≤k0)(q1:k0<2*c.ae)(q2:bA (bO c k0)=(⟨g+1,a⟩,0)):
  ∃i,eN ⟨c,a,g+1,i/c.ae⟩∧0≤i∧i<2*c.ae∧bA (bO c i)=(⟨g+1,a⟩,0)∧ ∀k,k<2*c.ae→bA (bO c k)=(⟨g+1,a⟩,0)→k≤i:=by
 obtain⟨i,i0,i1,i2,i3⟩:=L8 (P:=fun k=>bA (bO c k)=(⟨g+1,a⟩,0)) (m:=2*c.ae) (2*c.ae -k0).toNat ⟨k0,q0,q1,q2,by omega⟩
 obtain⟨j,j0,j1,j2,j3,j4,j5⟩:=h.vT
 have e:=L4 h.bears i0 i1 (by rw[i2]) (fun k k0 k1 hv=>by
  rw[i2]
  rcases j5 k k0 k1 hv with r|r|r
  ·
   simp only;omega
  ·
   simp only;omega
  ·
   have:=i3 k k1 r.1
   rw[r.1];simp only;omega)
 rw[i2]at e
 have hu:i%c.ae<(ak c (i/c.ae)).used:=by
  rcases j5 i i0 i1 (by rw[i2])with r|r|r
  ·
   rw[i2]at r;simp only at r;omega
  ·
   rw[i2]at r;simp only at r;omega
  ·
   exact r.2
 exact⟨i,⟨h.bears,by show(bL c).2.2=0;rw[e],by show(bL c).1%c.ae<(ak c ((bL c).1/c.ae)).used;rw[e];exact hu,hp,by show(bL c).2.1.at_=a;rw[e],by show(bL c).2.1.gen=g+1;rw[e],by show(bL c).1/c.ae=_;rw[e]⟩,i0,i1,i2,i3⟩
theorem Wv.some{g:Nat}{at_ a:List Int}{last:Int}{c:CV}(h:Wv g at_ last a c)(h1:Pl c at_)(h2:Pl c a): ∃u,eN u∧u.ah=c∧(u=⟨c,at_,g,last⟩∨(u.at_=a∧u.gen=g+1)):=by
 by_cases hex: ∃k,0≤k∧k<2*c.ae∧bA (bO c k)=(⟨g+1,a⟩,0)
 ·
  obtain⟨k,k0,k1,k2⟩:=hex
  obtain⟨i,hi,_⟩:=h.L9 h2 k0 k1 k2
  exact⟨_,hi,rfl, .inr ⟨rfl,rfl⟩⟩
 ·
  exact⟨_,h.L7 h1 fun k k0 k1 e=>hex ⟨k,k0,k1,e⟩,rfl, .inl rfl⟩
theorem rr{c:CV}{b e k:Int}:(ak (hY c b e) k).ae=(ak c k).ae∧(ak (hY c b e) k).used=(ak c k).used:=by
 rw[hY];split
 ·
  exact LD
 ·
  exact⟨rfl,rfl⟩
theorem BG{c:CV}{b e k:Int}:bO (hY c b e) k=bO c k:=by
 rw[bO,bO,(Ar c b e).ae,rr.1]
theorem Ma{c:CV}{b k:Int}(bZ:hG c)(hk:0≤k)(hp:1≤c.ae)(qm:k/c.ae=b)(hv:(bA (bO (dF c b) k)).2=0):bO (dF c b) k=bO c k∧(k%c.ae<(ak c b).used→k%c.ae<(ak (dF c b) b).used):=by
 rw[dF,BG]at hv⊢
 rw[rr.2]
 by_cases h:mE c b=true∧c.off=false∧(ak c b).bad=false
 ·
  have hh:=(oN.1 h.1).1
  have e:gn c b=k9 c b:=if_pos h
  have eb:ak (k9 c b) b={ak c b with used:=if(bw c).2=true then c.ae else 0,bp:=(ak c b).bp+1,ae:=oO c (ak c b).ae}:=pU hh
  have lr:0≤k%c.ae:=Int.emod_nonneg _ (by omega)
  have re:k%c.ae<c.ae:=Int.emod_lt_of_pos _ (by omega)
  have ym:=(ez.1 (nS hh)).1
  have yR:bO (k9 c b) k=(oO c (ak c b).ae).getD (k%c.ae).toNat []:=by
   show(ak (k9 c b) (k/c.ae)).ae.getD _ []=_
   rw[qm,eb];rfl
  obtain⟨x,hx⟩: ∃x,(ak c b).ae[(k%c.ae).toNat]? =some x:=⟨_,List.getElem?_eq_getElem (by omega)⟩
  have ec:bO c k=x:=by rw[bO,qm];simp[List.getD,hx]
  rw[e]at hv⊢
  rw[yR,oO]at hv⊢
  by_cases hs:(bw c).2=true
  ·
   rw[if_pos hs]at hv⊢
   have eg:((ak c b).ae.map (cI (bw c).1.mask)).getD (k%c.ae).toNat []=cI (bw c).1.mask x:=by simp[List.getD,hx]
   rw[eg]at hv⊢
   rcases bZ.LY hs with m|m
   ·
    rw[m,LZ,ec,eb]
    exact⟨rfl,fun _=>by simp only;rw[if_pos hs];exact re⟩
   ·
    rw[m]at hv;exact absurd hv (FG (L3 x))
  ·
   rw[if_neg hs]at hv
   have eg:((ak c b).ae.map fun _=>fL c.size).getD (k%c.ae).toNat []=fL c.size:=by simp[List.getD,hx]
   rw[eg]at hv
   exact absurd hv (FG (XN _))
 ·
  rw[gn,if_neg h];exact⟨rfl,id⟩
theorem Wv.erase{g:Nat}{at_ a:List Int}{last:Int}{c:CV}(h:Wv g at_ last a c)(bZ:hG c){b:Int}(hb:b≠last)(nC:0≤b)(tB:0≤last):Wv g at_ last a (dF c b):=by
 have hP:=(tK c b).ae
 have hp:2≤c.ae:=(iN.1 h.bears).2.2.1
 have mM:fY (dF c b)=true:=by
  obtain⟨h1,h2,h3,h4⟩:=iN.1 h.bears
  exact iN.2 ⟨As h1 b,by rw[(tK c b).len];exact h2,by rw[hP];exact h3,by rw[(tK c b).size];exact h4⟩
 have yS: ∀k,0≤k→k≠b→(ak (dF c b) k).ae=(ak c k).ae∧(ak (dF c b) k).used=(ak c k).used:=fun k k0 hk=>by
  rw[dF,rr.1,rr.2,Fy (by omega)];exact⟨rfl,rfl⟩
 refine h.step mM hP (fun i i0 i1 i2=> ?_) fun k k0 k1 hv=> .inl ?_
 ·
  obtain⟨e1,e2⟩:=yS last tB (fun e=>hb e.symm)
  exact⟨by rw[bO,bO,hP,i1,e1],by rw[e2];exact i2⟩
 ·
  by_cases e:k/c.ae=b
  ·
   have:=Ma bZ k0 (by omega) e hv
   rw[e];exact this
  ·
   obtain⟨e1,e2⟩:=yS (k/c.ae) (Int.ediv_nonneg k0 (by omega)) e
   exact⟨by rw[bO,bO,hP,e1],by rw[e2];exact id⟩
theorem XO{c:CV}{b k:Int}{p:List UInt8}(bZ:hG c)(hk:0≤k)(hp:1≤c.ae)(qm:k/c.ae=b)(hv:(bA (bO (bU c b p) k)).2=0):
  (bO (bU c b p) k=bO c k∧(k%c.ae<(ak c b).used→k%c.ae<(ak (bU c b p) b).used))∨(bO (bU c b p) k=p∧k%c.ae<(ak (bU c b p) b).used):=by
 rw[bU,BG]at hv⊢
 rw[rr.2]
 by_cases h:lQ c b (ak c b).used p=true∧c.off=false∧(ak c b).bad=false∧(ak c b).used=(ak c b).used
 ·
  obtain⟨hh,u0,u1,_,_⟩:=j7.1 h.1
  have e:ff c b (ak c b).used p=hQ c b (ak c b).used p:=if_pos h
  have eb:ak (hQ c b (ak c b).used p) b={ak c b with used:=(ak c b).used+1,ae:=(ak c b).ae.set (ak c b).used.toNat (lS c p)}:=pU hh
  have lr:0≤k%c.ae:=Int.emod_nonneg _ (by omega)
  have re:k%c.ae<c.ae:=Int.emod_lt_of_pos _ (by omega)
  have ym:=(ez.1 (nS hh)).1
  have yR:bO (hQ c b (ak c b).used p) k=((ak c b).ae.set (ak c b).used.toNat (lS c p)).getD (k%c.ae).toNat []:=by
   show(ak (hQ c b (ak c b).used p) (k/c.ae)).ae.getD _ []=_
   rw[qm,eb];rfl
  rw[e]at hv⊢
  rw[yR]at hv⊢
  by_cases hj:k%c.ae=(ak c b).used
  ·
   have eg:((ak c b).ae.set (ak c b).used.toNat (lS c p)).getD (k%c.ae).toNat []=lS c p:=by
    rw[hj];simp only[List.getD];rw[List.getElem?_set_self (by omega)];rfl
   rw[eg]at hv⊢
   right
   refine⟨?_,by rw[eb];simp only;omega⟩
   rw[lS]at hv⊢
   split
   ·
    rename_i hs
    rw[if_pos hs]at hv
    rcases bZ.LY hs with m|m
    ·
     rw[m]at hv;exact absurd hv (FG (L3 p))
    ·
     rw[m];exact LZ p
   ·
    rfl
  ·
   left
   refine⟨?_,fun bo=>by rw[eb];simp only;omega⟩
   simp only[List.getD]
   rw[List.getElem?_set_ne (by omega),bO,qm];rfl
 ·
  left;rw[ff,if_neg h];exact⟨rfl,id⟩
theorem XP{c:CV}{b k:Int}{p:List UInt8}(hp:1≤c.ae)(qm:k/c.ae=b)(hu:k%c.ae<(ak c b).used):bO (bU c b p) k=bO c k∧k%c.ae<(ak (bU c b p) b).used:=by
 rw[bU,BG,rr.2]
 by_cases h:lQ c b (ak c b).used p=true∧c.off=false∧(ak c b).bad=false∧(ak c b).used=(ak c b).used
 ·
  obtain⟨hh,u0,u1,_,_⟩:=j7.1 h.1
  have e:ff c b (ak c b).used p=hQ c b (ak c b).used p:=if_pos h
  have eb:ak (hQ c b (ak c b).used p) b={ak c b with used:=(ak c b).used+1,ae:=(ak c b).ae.set (ak c b).used.toNat (lS c p)}:=pU hh
  have lr:0≤k%c.ae:=Int.emod_nonneg _ (by omega)
  have yR:bO (hQ c b (ak c b).used p) k=((ak c b).ae.set (ak c b).used.toNat (lS c p)).getD (k%c.ae).toNat []:=by
   show(ak (hQ c b (ak c b).used p) (k/c.ae)).ae.getD _ []=_
   rw[qm,eb];rfl
  rw[e,yR,eb]
  refine⟨?_,by simp only;omega⟩
  simp only[List.getD]
  rw[List.getElem?_set_ne (by omega),bO,qm];rfl
 ·
  rw[ff,if_neg h];exact⟨rfl,hu⟩
theorem Wv.prog{g:Nat}{at_ a:List Int}{last:Int}{c:CV}{p:List UInt8}(h:Wv g at_ last a c)(bZ:hG c){b:Int}(nC:0≤b)(tB:0≤last)(hr:bA p=(⟨g+1,a⟩,0)):Wv g at_ last a (bU c b p):=by
 have hP:=(iQ c b p).ae
 have hp:2≤c.ae:=(iN.1 h.bears).2.2.1
 have mM:fY (bU c b p)=true:=by
  obtain⟨h1,h2,h3,h4⟩:=iN.1 h.bears
  exact iN.2 ⟨ke h1 b p,by rw[(iQ c b p).len];exact h2,by rw[hP];exact h3,by rw[(iQ c b p).size];exact h4⟩
 have yS: ∀k,0≤k→k≠b→(ak (bU c b p) k).ae=(ak c k).ae∧(ak (bU c b p) k).used=(ak c k).used:=fun k k0 hk=>by
  rw[bU,rr.1,rr.2,LG (by omega)];exact⟨rfl,rfl⟩
 refine h.step mM hP (fun i i0 i1 i2=> ?_) fun k k0 k1 hv=> ?_
 ·
  by_cases e:last=b
  ·
   have:=XP (p:=p) (show 1≤c.ae by omega) (i1.trans e) (by rw[←e];exact i2)
   rw[e];exact this
  ·
   obtain⟨e1,e2⟩:=yS last tB e
   exact⟨by rw[bO,bO,hP,i1,e1],by rw[e2];exact i2⟩
 ·
  by_cases e:k/c.ae=b
  ·
   rcases XO bZ k0 (by omega) e hv with q|q
   ·
    left;rw[e];exact q
   ·
    right;rw[q.1,e];exact⟨hr,q.2⟩
  ·
   obtain⟨e1,e2⟩:=yS (k/c.ae) (Int.ediv_nonneg k0 (by omega)) e
   exact .inl ⟨by rw[bO,bO,hP,e1],by rw[e2];exact id⟩
open Go.aB
def BH(c:CV):Prop:=c8≤c.ops∨ ∃b,c8≤(ak c b).bp
def px(g:Nat)(a:List Int)(c:CV):Prop:= ∀k,0≤k→k<2*c.ae→bA (bO c k)≠(⟨g+1,a⟩,0)
theorem XQ{c:CV}(h:c.aS=[]):(bw c).2=false:=by rw[bw,h];rfl
theorem Mc{c:CV}{b:Int}{p:List UInt8}(h:c.aS=[])(he:bM c b p≠0):ff c b (ak c b).used p=c:=by
 rw[ff,if_neg]
 rintro⟨h1,h2,h3,h4⟩
 apply he
 rw[bM,jt,if_pos h1,if_neg (by rw[h2];simp),if_neg (by rw[h3];simp),if_neg (by rw[XQ h];simp)]
theorem px.erase{g:Nat}{a:List Int}{c:CV}(h:px g a c)(hb:fY c=true)(bZ:hG c){b:Int}(nC:0≤b):px g a (dF c b):=by
 have hP:=(tK c b).ae
 have hp:2≤c.ae:=(iN.1 hb).2.2.1
 intro k k0 k1 he
 rw[hP]at k1
 by_cases e:k/c.ae=b
 ·
  have:=(Ma bZ k0 (by omega) e (by rw[he])).1
  rw[this]at he;exact h k k0 k1 he
 ·
  have:bO (dF c b) k=bO c k:=by
   have hk:=Int.ediv_nonneg k0 (show 0≤c.ae by omega)
   rw[bO,bO,hP,dF,rr.1,Fy (by omega)]
  rw[this]at he;exact h k k0 k1 he
theorem XR{c:CV}{b:Int}(q:dH c b=1):mE c b=false:=by
 cases ho:mE c b with
 |false=>rfl
 |true=>
  exfalso
  rw[dH,if_pos ho]at q
  by_cases h1:c.off=true
  ·
   rw[if_pos h1]at q;cases q
  ·
   rw[if_neg h1]at q
   by_cases h2:(ak c b).bad=true
   ·
    rw[if_pos h2]at q;cases q
   ·
    rw[if_neg h2]at q
    by_cases h3:(bw c).2=true
    ·
     rw[if_pos h3,kr]at q;split at q<;>cases q
    ·
     rw[if_neg h3]at q;cases q
theorem XS{g:Nat}{at_ a:List Int}{last:Int}{c:CV}(h:Wv g at_ last a c)(bZ:hG c)(hl:last=0∨last=1):
  (∀L,Kd L c (bf c last).1)∧Wv g at_ last a (bf c last).1∧(px g a c→px g a (bf c last).1)∧((bf c last).2.2=7→(bf c last).1.off=true)∧
   ((bf c last).2.2=0→((bf c last).2.1=0∨(bf c last).2.1=1)∧0<eE (bf c last).1 (bf c last).2.1)∧((bf c last).2.2≠0→(bf c last).2.2=7∨(bf c last).2.2=9∨((bf c last).2.2=1∧BH (bf c last).1)):=by
 have hk:=(iN.1 h.bears).1
 have h4:=(iN.1 h.bears).2.1
 have z7: ∀{P:Prop},(0:Int)=7→P:=fun h=>absurd h (by decide)
 rw[bf]
 by_cases h1:0<eE c last
 ·
  rw[if_pos h1];exact⟨fun L=> .db _ _,h,id,fun h=>z7 h,fun _=>⟨hl,h1⟩,fun h=>absurd rfl h⟩
 ·
  rw[if_neg h1]
  by_cases h2:0<eE c (1 -last)
  ·
   rw[if_pos h2];exact⟨fun L=> .db _ _,h,id,fun h=>z7 h,fun _=>⟨by simp only;omega,h2⟩,fun h=>absurd rfl h⟩
  ·
   rw[if_neg h2]
   by_cases h3:(ak c (1 -last)).bad=true
   ·
    rw[if_pos h3];exact⟨fun L=> .db _ _,h,id,fun h=>absurd (show(9:Int)=7 from h) (by decide),fun h=>absurd (show(9:Int)=0 from h) (by decide),fun _=> .inr (.inl rfl)⟩
   ·
    rw[if_neg h3]
    refine⟨fun L=>Xx (by omega),h.erase bZ (by omega) (by omega) (by omega),fun g=>g.erase h.bears bZ (by omega),LM,fun he=>⟨by simp only;omega,?_⟩,fun he=> ?_⟩
    ·
     obtain⟨e1,e2,e3,e4,e5⟩:=I1 he
     have hh:=(oN.1 e1).1
     have hd:=kf hk
     show 0<eE (dF c (1 -last)) (1 -last)
     rw[e5,eE,k9,pU hh,e4,e3]
     simp only[Bool.false_eq_true,if_false];omega
    ·
     simp only at he
     rcases DI c (1 -last)with q|q|q|q
     ·
      exact absurd q he
     ·
      refine .inr (.inr ⟨q,?_⟩)
      simp only
      have gL:=XR q
      have XT:dF c (1 -last)=c:=by rw[dF,q,hY,if_neg (by decide),gn,if_neg (by rw[gL];simp)]
      rw[XT]
      have hh:gG c (1 -last)=true:=ir.2 ⟨hk,by omega,by omega⟩
      by_cases ho:c.ops<c8
      ·
       right
       refine⟨1 -last,?_⟩
       apply Classical.byContradiction
       intro hw
       rw[oN.2 ⟨hh,ho,by omega⟩]at gL;cases gL
      ·
       exact .inl (by omega)
     ·
      exact .inl q
     ·
      exact .inr (.inl q)
theorem XU{c:CV}{b:Int}{p:List UInt8}(hh:gG c b=true)(hf:0<eE c b)(hl:(p.length:Int)=c.size)(h:bM c b p=1):c8≤c.ops∧ff c b (ak c b).used p=c:=by
 have gL:lQ c b (ak c b).used p=false:=by
  cases ho:lQ c b (ak c b).used p with
  |false=>rfl
  |true=>
   rw[bM,jt,if_pos ho]at h
   split at h
   ·
    cases h
   ·
    split at h
    ·
     cases h
    ·
     split at h
     ·
      rw[kr]at h;split at h<;>cases h
     ·
      cases h
 have hu:=(ez.1 (nS hh)).2.1
 have hb:=Ay hf
 rw[eE,if_neg (by rw[hb];simp)]at hf
 refine⟨?_,by rw[ff,if_neg (by rw[gL];simp)]⟩
 apply Classical.byContradiction
 intro hw
 rw[j7.2 ⟨hh,hu,by omega,hl,by omega⟩]at gL;cases gL
theorem px.prog{g:Nat}{a:List Int}{c:CV}{b:Int}{p:List UInt8}(h:px g a c)(hf:c.aS=[])(he:bM c b p≠0):px g a (bU c b p):=by
 intro k k0 k1 e
 rw[bU,BG,Mc hf he]at e
 rw[bU,(Ar _ _ _).ae,Mc hf he]at k1
 exact h k k0 k1 e
theorem Md{p:List UInt8}: ∀(l:List (List UInt8)) (m:Nat),m≤l.foldl (fun m p=>max m (jw p)) m∧(p∈l→jw p≤l.foldl (fun m p=>max m (jw p)) m)
 |[],m=>⟨Nat.le_refl _,fun h=>by cases h⟩
 |q::r,m=>by
  obtain⟨h1,h2⟩:=Md (p:=p) r (max m (jw q))
  refine⟨by rw[List.foldl_cons];omega,fun h=> ?_⟩
  rw[List.foldl_cons]
  rcases List.mem_cons.1 h with rfl|h
  ·
   omega
  ·
   exact h2 h
theorem FI{M:Nat}: ∀(l:List (List UInt8)) (m:Nat),m≤M→(∀p∈l,jw p≤M)→l.foldl (fun m p=>max m (jw p)) m≤M
 |[],m,h,_=>h
 |q::r,m,h,hp=>by
  rw[List.foldl_cons]
  exact FI r _ (by have:=hp q List.mem_cons_self;omega) fun p gl=>hp p (List.mem_cons_of_mem _ gl)
theorem Wv.last{g:Nat}{at_ a:List Int}{last:Int}{c:CV}(h:Wv g at_ last a c)(hp:Pl c a){b:Int}(hb:b=0∨b=1){k0:Int}(q0:0≤k0)(q1:k0/c.ae=b)(q2:bA (bO c k0)=(⟨g+1,a⟩,0)):
  eN ⟨c,a,g+1,if jx c 1=g+1 then 1 else b⟩:=by
 have kg:2≤c.ae:=(iN.1 h.bears).2.2.1
 obtain⟨l0,l1⟩:=yN h.bears
 have bo: ∀k:Int,k/c.ae<2→k<2*c.ae:=fun k hk=>by
  apply Classical.byContradiction
  intro hn
  have:2≤k/c.ae:=by
   have:=Int.ediv_le_ediv (show 0<c.ae by omega) (show 2*c.ae≤k by omega)
   rwa [Int.mul_ediv_cancel _ (by omega)]at this
  omega
 obtain⟨i,hR,i0,i1,i2,i3⟩:=h.L9 hp q0 (bo k0 (by omega)) q2
 have EM:i/c.ae=0∨i/c.ae=1:=by
  have h1:=Int.ediv_nonneg i0 (show 0≤c.ae by omega)
  have h2:i/c.ae<2:=Int.ediv_lt_of_lt_mul (by omega) i1
  omega
 have hle: ∀k,0≤k→k<2*c.ae→jw (bO c k)≤g+1:=fun k k0 k1=>by
  rw[jw]
  split
  ·
   rename_i hv
   obtain⟨j,_,_,_,_,_,j5⟩:=h.vT
   rcases j5 k k0 k1 hv with r|r|r
   ·
    omega
   ·
    omega
   ·
    rw[r.1];exact Nat.le_refl _
  ·
   omega
 have Me: ∀p∈(ak c 1).ae,∃k,c.ae≤k∧k<2*c.ae∧bO c k=p:=fun p sL=>by
  obtain⟨j,hj⟩:=List.getElem?_of_mem sL
  have iG:=(List.getElem?_eq_some_iff.1 hj).1
  refine⟨c.ae+j,by omega,by omega,?_⟩
  have:=qo h.bears (k:=(ak c 0).ae.length+j) (by omega)
  rw[show(((ak c 0).ae.length+j:Nat):Int)=c.ae+j by omega]at this
  rw[←this]
  simp only[List.getD]
  rw[List.getElem?_append_right (by omega),Nat.add_sub_cancel_left,hj];rfl
 have XV:i/c.ae=(if jx c 1=g+1 then 1 else b):=by
  rcases EM with e|e
  ·
   have eT:i<c.ae:=by
    apply Classical.byContradiction
    intro hn
    have:=Int.ediv_le_ediv (show 0<c.ae by omega) (show c.ae≤i by omega)
    rw[Int.ediv_self (by omega)]at this;omega
   have hg:jx c 1≤g:=by
    refine FI _ 0 (Nat.zero_le _) fun p sL=> ?_
    obtain⟨k,Ek,mZ,rfl⟩:=Me p sL
    rw[jw]
    split
    ·
     rename_i hv
     obtain⟨j,_,_,_,_,_,j5⟩:=h.vT
     rcases j5 k (by omega) mZ hv with r|r|r
     ·
      omega
     ·
      omega
     ·
      have:=i3 k mZ r.1;omega
    ·
     omega
   rw[if_neg (by omega),e]
   have agK:=i3 k0 (bo k0 (by omega)) q2
   have:k0/c.ae=0:=Int.ediv_eq_zero_of_lt q0 (by omega)
   omega
  ·
   have eT:c.ae≤i:=by
    apply Classical.byContradiction
    intro hn
    have:i/c.ae=0:=Int.ediv_eq_zero_of_lt i0 (by omega)
    omega
   have hg:jx c 1=g+1:=by
    have h1:jx c 1≤g+1:=FI _ 0 (Nat.zero_le _) fun p sL=>by
     obtain⟨k,Ek,mZ,rfl⟩:=Me p sL
     exact hle k (by omega) mZ
    have h2:bO c i∈(ak c 1).ae:=by
     rw[bO,e]
     have lr:0≤i%c.ae:=Int.emod_nonneg _ (by omega)
     have re:i%c.ae<c.ae:=Int.emod_lt_of_pos _ (by omega)
     have hj:(i%c.ae).toNat<(ak c 1).ae.length:=by omega
     simp only[List.getD]
     rw[List.getElem?_eq_getElem hj];exact List.getElem_mem hj
    have h3:=(Md (p:=bO c i) (ak c 1).ae 0).2 h2
    have h4:jw (bO c i)=g+1:=by rw[jw,if_pos (by rw[i2]),i2]
    have h5:jx c 1=(ak c 1).ae.foldl (fun m p=>max m (jw p)) 0:=rfl
    omega
   rw[if_pos hg,e]
 rw[←XV];exact hR
theorem Mf: ∀(n:Nat) {x:WV} {a:List Int} {b:List UInt8},cR x→Wv x.v.gen x.v.at_ x.v.last a x.v.ah→Pl x.v.ah a→hG x.v.ah→bA b=(⟨x.v.gen+1,a⟩,0)→(b.length:Int)=x.v.ah.size→(c8 -x.v.ah.ops).toNat<n→
  (∀L,Kd L x.v.ah (fO n x a b).1.v.ah)∧((fO n x a b).2=0→eN (fO n x a b).1.v∧(fO n x a b).1.v.at_=a)∧
  ((fO n x a b).2≠0→(fO n x a b).1=x.on (fO n x a b).1.v.ah∧Wv x.v.gen x.v.at_ x.v.last a (fO n x a b).1.v.ah∧(x.v.ah.aS=[]→px x.v.gen a x.v.ah→px x.v.gen a (fO n x a b).1.v.ah)∧
   ((fO n x a b).2=7∨(fO n x a b).2=9∨((fO n x a b).2=1∧BH (fO n x a b).1.v.ah)))∧((fO n x a b).2=7→(fO n x a b).1.v.ah.off=true)
 |0,x,a,b,_,_,_,_,_,_,hn=>by omega
 |n+1,x,a,b,hx,hw,ha,bZ,hr,dk,hn=>by
  have hl:=hx.last
  obtain⟨k1,k2,k3,k4,k5,k6⟩:=XS hw bZ hl
  obtain⟨o1,o2,o3,o4⟩:=DC (last:=x.v.last) hx.ah hl
  have tB:0≤x.v.last:=by omega
  rw[fO]
  by_cases h0:(bf x.v.ah x.v.last).2.2≠0
  ·
   rw[if_pos h0]
   exact⟨k1,fun h=>absurd h h0,fun _=>⟨rfl,k2,fun _ g=>k3 g,k6 h0⟩,k4⟩
  ·
   rw[if_neg h0]
   obtain⟨g1,g2⟩:=k5 (by simpa using h0)
   have XW:hG (bf x.v.ah x.v.last).1:=bZ.kd (k1 [])
   have hh:gG (bf x.v.ah x.v.last).1 (bf x.v.ah x.v.last).2.1=true:=by
    have:=(iN.1 k2.bears).2.1
    exact ir.2 ⟨o1,by omega,by omega⟩
   have nC:0≤(bf x.v.ah x.v.last).2.1:=by omega
   have dW:=k2.prog XW nC tB hr
   have uw: ∀L,Kd L x.v.ah (bU (bf x.v.ah x.v.last).1 (bf x.v.ah x.v.last).2.1 b):=fun L=>(k1 L).trans LF
   by_cases h1:bM (bf x.v.ah x.v.last).1 (bf x.v.ah x.v.last).2.1 b=0
   ·
    rw[if_pos h1]
    refine⟨uw,fun _=>⟨?_,rfl⟩,fun h=>absurd rfl h,fun h=>absurd (show(0:Int)=7 from h) (by decide)⟩
    have hz:=qP h1
    obtain⟨j1,j2,j3,j4,j5⟩:=j7.1 hz.1
    have hP:=(iQ (bf x.v.ah x.v.last).1 (bf x.v.ah x.v.last).2.1 b).ae
    generalize(bf x.v.ah x.v.last).1=c at*
    generalize(bf x.v.ah x.v.last).2.1=B at*
    have hd:(B*c.ae+(ak c B).used)/c.ae=B:=by
     rw[Int.add_comm,Int.add_mul_ediv_right _ _ (by omega),Int.ediv_eq_zero_of_lt j2 j3,Int.zero_add]
    have hm:(B*c.ae+(ak c B).used)%c.ae=(ak c B).used:=by
     rw[Int.add_comm,Int.add_mul_emod_self_right,Int.emod_eq_of_lt j2 j3]
    have ym:=(ez.1 (nS j1)).1
    have ph:bO (bU c B b) (B*c.ae+(ak c B).used)=b:=by
     rw[hz.2.2.2.2]
     show(ak _ ((B*c.ae+(ak c B).used)/c.ae)).ae.getD ((B*c.ae+(ak c B).used)%c.ae).toNat []=b
     rw[hd,hm,hQ,pU j1]
     simp only[List.getD]
     rw[List.getElem?_set_self (by omega),lS,hz.2.2.2.1];rfl
    have:0≤B*c.ae:=Int.mul_nonneg nC (by omega)
    exact dW.last (k0:=B*c.ae+(ak c B).used) (ha.kd (uw a) fun _ g=>g) g1 (by omega) (by rw[hP,hd]) (by rw[ph];exact hr)
   ·
    rw[if_neg h1]
    by_cases h9:bM (bf x.v.ah x.v.last).1 (bf x.v.ah x.v.last).2.1 b≠9
    ·
     rw[if_pos h9]
     refine⟨uw,fun h=>absurd h h1,fun _=>⟨rfl,dW,fun hf gL=>(k3 gL).prog (by rw[(k1 []).pw];exact hf) h1,?_⟩,BB⟩
     rcases xV (bf x.v.ah x.v.last).1 (bf x.v.ah x.v.last).2.1 (ak (bf x.v.ah x.v.last).1 (bf x.v.ah x.v.last).2.1).used b with q|q|q|q
     ·
      exact absurd q h1
     ·
      obtain⟨t1,t2⟩:=XU hh g2 (by rw[dk,o2.size]) q
      refine .inr (.inr ⟨q, .inl ?_⟩)
      simp only[WV.on]
      rw[bU,xP,t2];exact t1
     ·
      exact .inl q
     ·
      exact absurd q h9
    ·
     rw[if_neg h9]
     have e9:bM (bf x.v.ah x.v.last).1 (bf x.v.ah x.v.last).2.1 b=9:=by simpa using h9
     have ho:=pV (Ay g2) (p:=b) (.inl e9)
     have b0:=ke o1 (bf x.v.ah x.v.last).2.1 b
     have pM:=o2.trans (iQ (bf x.v.ah x.v.last).1 (bf x.v.ah x.v.last).2.1 b)
     have hle:=oW b0
     have fH:=hx.on b0 pM
     obtain⟨t1,t2,t3,t4⟩:=Mf n (x:=x.on (bU (bf x.v.ah x.v.last).1 (bf x.v.ah x.v.last).2.1 b)) (a:=a) (b:=b) fH dW (ha.kd (uw a) fun _ g=>g) (bZ.kd (uw [])) hr (by rw[dk];exact pM.size.symm) (by simp only[WV.on];omega)
     refine⟨fun L=>(uw L).trans (t1 L),t2,fun h=> ?_,t4⟩
     obtain⟨s1,s2,s3,s4⟩:=t3 h
     refine⟨by rw[s1,I7];rfl,s2,fun hf gL=>s3 (by rw[←hf];exact(uw []).pw) ((k3 gL).prog (by rw[(k1 []).pw];exact hf) h1),s4⟩
structure Sf(x:WV)(bs:List (List UInt8))(y:WV)(e:Int):Prop where
 kd:Kd [] x.v.ah y.v.ah
 len:y.v.at_.length=x.v.at_.length
 aY:e=0→eN y.v∧cg y.v=bs
 err:e≠0→(e=7∨e=9∨(e=1∧BH y.v.ah))∨(eN y.v∧cg y.v=cg x.v)
 ux:e≠0→x.v.ah.aS=[]→eN y.v∧cg y.v=cg x.v
 any: ∃u:VV,eN u∧u.ah=y.v.ah∧u.at_.length=x.v.at_.length∧(cg u=cg x.v∨cg u=bs)
 off:e=7→y.v.ah.off=true
theorem Mg{v:VV}{c:CV}(hp:Pl v.ah v.at_)(k:Kd v.at_ v.ah c):cg {v with ah:=c}=cg v:=BD hp k fun _ h=>h
theorem Sf.data{x:WV}(h:eN x.v){c:CV}(k:Kp x.v.at_ x.v.ah c){e:Int}{bs:List (List UInt8)}(Fb:e=0→bs=cg x.v)(ho:e=7→c.off=true):Sf x bs (x.on c) e:=by
 have h2:eN (x.on c).v∧cg (x.on c).v=cg x.v:=⟨h.kp k,Mg h.pl k.toKd⟩
 exact⟨k.toKd.sub fun _ h=>absurd h List.not_mem_nil,rfl,fun g=>⟨h2.1,by rw[Fb g];exact h2.2⟩,fun _=> .inr h2,fun _ _=>h2,⟨_,h2.1,rfl,rfl, .inl h2.2⟩,ho⟩
theorem Sf.trans{x y z:WV}{bs:List (List UInt8)}{e:Int}(h:Sf x (cg x.v) y 0)(g:Sf y bs z e):Sf x bs z e:=by
 have hb:=(h.aY rfl).2
 refine⟨h.kd.trans g.kd,g.len.trans h.len,g.aY,fun he=> ?_,fun he hf=> ?_,?_,g.off⟩
 ·
  rw[←hb];exact g.err he
 ·
  rw[←hb];exact g.ux he (by rw[h.kd.pw];exact hf)
 ·
  rw[←hb,←h.len];exact g.any
theorem Mh{x:WV}{a:List Int}(hx:cR x)(h:eN x.v)(bZ:hG x.v.ah)(ha:Pl x.v.ah a)(fK:a.length=x.v.at_.length):Sf x (a.map (dG x.v.ah)) (fC x a).1 (fC x a).2∧((fC x a).2=0→(fC x a).1.v.at_=a):=by
 rw[fC]
 by_cases h0:(cM ⟨x.v.gen+1,a⟩ x.v.ah.size).2≠0
 ·
  rw[if_pos h0]
  refine⟨?_,fun g=>absurd g h0⟩
  have:=Sf.data (x:=x) h (.db _ _) (e:=(cM ⟨x.v.gen+1,a⟩ x.v.ah.size).2) (bs:=a.map (dG x.v.ah)) (fun g=>absurd g h0) (fun g=>by
   rw[cM]at g
   split at g
   ·
    rcases vz ⟨2,max 0 ((a.length:Int) -1),x.v.gen+1,fA a⟩ x.v.ah.size with q|q
    ·
     rw[q]at g;cases g
    ·
     rw[q]at g;cases g
   ·
    cases g)
  rw[I6]at this;exact this
 ·
  rw[if_neg h0]
  have hm:=Xs (by simpa using h0)
  obtain⟨t1,t2,t3,t4⟩:=Mf ((c8 -x.v.ah.ops).toNat+1) (b:=(cM ⟨x.v.gen+1,a⟩ x.v.ah.size).1) hx (h.wv a) ha bZ (Xq hm) (Xr hm) (by omega)
  generalize fO ((c8 -x.v.ah.ops).toNat+1) x a (cM ⟨x.v.gen+1,a⟩ x.v.ah.size).1=W at*
  have qj:cg ⟨W.1.v.ah,a,x.v.gen+1,0⟩=a.map (dG x.v.ah):=BD ha (t1 a) fun _ g=>g
  have wq:cg ⟨W.1.v.ah,x.v.at_,x.v.gen,x.v.last⟩=cg x.v:=Mg h.pl (t1 x.v.at_)
  have g9:=h.pl.kd (t1 x.v.at_) fun _ g=>g
  have nu:=ha.kd (t1 a) fun _ g=>g
  have XX:px x.v.gen a x.v.ah:=fun k k0 k1 e=>by
   have:=(L5 h.bears h.roots).2 k k0 k1 (by rw[e])
   rw[e,h.gen]at this
   simp only at this;omega
  refine⟨⟨t1 [],?_,fun g=> ?_,fun g=> ?_,fun g hf=> ?_,?_,t4⟩,fun g=>(t2 g).2⟩
  ·
   by_cases g:W.2=0
   ·
    rw[(t2 g).2,fK]
   ·
    rw[(t3 g).1];rfl
  ·
   obtain⟨q1,q2⟩:=t2 g
   refine⟨q1,?_⟩
   show W.1.v.at_.map (dG W.1.v.ah)=_
   rw[q2];exact qj
  ·
   exact .inl (t3 g).2.2.2
  ·
   obtain⟨q1,q2,q3,_⟩:=t3 g
   have:=q2.L7 g9 (q3 hf XX)
   rw[q1]
   exact⟨this,wq⟩
  ·
   by_cases g:W.2=0
   ·
    obtain⟨q1,q2⟩:=t2 g
    refine⟨W.1.v,q1,rfl,by rw[q2,fK], .inr ?_⟩
    show W.1.v.at_.map (dG W.1.v.ah)=_
    rw[q2];exact qj
   ·
    obtain⟨q1,q2,_⟩:=t3 g
    obtain⟨u,hu,hc,XY⟩:=q2.some g9 nu
    rcases XY with rfl|⟨e1,e2⟩
    ·
     exact⟨_,hu,rfl,rfl, .inl wq⟩
    ·
     refine⟨u,hu,hc,by rw[e1,fK], .inr ?_⟩
     show u.at_.map (dG u.ah)=_
     rw[e1,hc];exact qj
open Go.aB
theorem Sf.by{x y:WV}{bs:List (List UInt8)}{e:Int}(h:Sf x bs y e)(b:Bool):Sf x bs {y with beyond:=b} e:=⟨h.kd,h.len,h.aY,h.err,h.ux,h.any,h.off⟩
theorem Sf.cC{x y:WV}{bs:List (List UInt8)}{e:Int}{b:Bool}(h:Sf {x with beyond:=b} bs y e):Sf x bs y e:=⟨h.kd,h.len,h.aY,h.err,h.ux,h.any,h.off⟩
theorem Sf.ne{x y:WV}{bs:List (List UInt8)}{e:Int}(h:Sf x (cg x.v) y e)(he:e≠0):Sf x bs y e:=
 ⟨h.kd,h.len,fun g=>absurd g he,h.err,h.ux,by
  obtain⟨u,h1,h2,h3,h4⟩:=h.any
  exact⟨u,h1,h2,h3, .inl (h4.elim id id)⟩,h.off⟩
theorem Sf.stay{x:WV}(h:eN x.v){e:Int}(he:e≠7):Sf x (cg x.v) x e:=by
 have:=Sf.data (x:=x) h (.db _ _) (e:=e) (bs:=cg x.v) (fun _=>rfl) (fun g=>absurd g he)
 rw[I6]at this;exact this
theorem Sf.zero{x y:WV}{bs:List (List UInt8)}{e:Int}(h:Sf x bs y e)(h0:e≠0)(h7:e≠7)(h9:e≠9)(h1:e≠1):Sf x (cg x.v) y 0:=by
 have hr:eN y.v∧cg y.v=cg x.v:=(h.err h0).resolve_left fun g=>by
  rcases g with g|g|g
  ·
   exact h7 g
  ·
   exact h9 g
  ·
   exact h1 g.1
 exact⟨h.kd,h.len,fun _=>hr,fun g=>absurd rfl g,fun g=>absurd rfl g,⟨y.v,hr.1,rfl,h.len, .inl hr.2⟩,fun g=>absurd g (by decide)⟩
theorem XZ{x:WV}{src to:Int}(hx:cR x)(h:eN x.v)(bZ:hG x.v.ah)(kF:2≤src)(yP:0≤to→to≠src)(ht:0≤to→2≤to∧to<x.v.ah.blocks.length∧(ak x.v.ah to).bad=false):
  Sf x (cg x.v) (cT x src to).1 (cT x src to).2.2∧((cT x src to).2.1=true→(cT x src to).2.2=0∧mn (cT x src to).1.v.at_ x.v.ah src)∧((cT x src to).2.2=6→(cT x src to).1=x.on (cT x src to).1.v.ah):=by
 have hp:1≤x.v.ah.ae:=by have:=hx.ae;omega
 obtain⟨t1,t2,t3,t4⟩:=FF kF yP hp x.v.at_ 0 (c:=x.v.ah) (a:=x.v.at_) hx.ah h.pl (.db _ _) h.pl rfl ht rfl (fun _ _=>rfl) (fun j n hj=>by omega) rfl
 rw[cT]
 split
 ·
  rename_i e he
  exact⟨Sf.data h t1 (fun _=>rfl) (fun g=>t3 (by rw[he];exact congrArg some g)),fun g=>absurd (show false=true from g) (by simp),fun _=>rfl⟩
 ·
  rename_i he
  obtain⟨g1,g2,g3,g4⟩:=t2 he
  have fH:=hx.on (t1.ok hx.ah) t1.di
  have hw:=Mh fH (h.kp t1) (bZ.kd t1.toKd) g1 g3
  have hs:=Sf.data h t1 (e:=0) (bs:=cg x.v) (fun _=>rfl) (fun g=>absurd g (by decide))
  have kU:=hw.1
  rw[show List.map (dG (x.on (cS x.v src to x.v.at_ 0 x.v.ah x.v.at_).c).v.ah) (cS x.v src to x.v.at_ 0 x.v.ah x.v.at_).a=cg x.v from g2]at kU
  refine⟨hs.trans kU,fun g=> ?_,fun g=>absurd g (DJ _ _)⟩
  simp only[decide_eq_true_eq]at g
  refine⟨g,?_⟩
  rw[hw.2 g];exact g4
theorem X0{c:CV}{l:List aD}{fl:List Int}(hd:ov c fl l):Kp fl c (cq c l).1∧((cq c l).2.2=7→(cq c l).1.off=true)∧((cq c l).2.2=0→ ∃(j:Nat) (x:aD),(cq c l).2.1=(j:Int)+2∧l[j]? =some x∧x.bad=false):=by
 rw[cq]
 by_cases h1:(mK c l).2=true
 ·
  rw[if_pos h1]
  obtain⟨x,hx,k1,_,_,k4,_⟩:=rY (fun x h=>(vt h).1) h1
  exact⟨.db _ _,fun h=>absurd (show(0:Int)=7 from h) (by decide),fun _=>⟨_,x,by show(mK c l).1+2=(((mK c l).1.toNat:Nat):Int)+2;rw[Int.toNat_of_nonneg (show 0≤(mK c l).1 from k4)],hx,k1⟩⟩
 ·
  rw[if_neg h1]
  by_cases h2:(jz c l).2=true
  ·
   rw[if_pos h2]
   obtain⟨x,hx,k1,_,_,k4,_⟩:=rY (fun x h=>(oV h).1) h2
   obtain⟨d1,d2⟩:=BF hd h2
   exact⟨yL (by show 2≤(jz c l).1+2;change 0≤(jz c l).1 at d2;omega) d1,yM,fun _=>⟨_,x,by show(jz c l).1+2=(((jz c l).1.toNat:Nat):Int)+2;rw[Int.toNat_of_nonneg (show 0≤(jz c l).1 from k4)],hx,k1⟩⟩
  ·
   rw[if_neg h2]
   by_cases h3:(jA c l).2=true
   ·
    rw[if_pos h3]
    obtain⟨x,hx,k1,_,_,k4,_⟩:=rY (fun x h=>(oV h).1) h3
    obtain⟨d1,d2⟩:=BF hd h3
    exact⟨yL (by show 2≤(jA c l).1+2;change 0≤(jA c l).1 at d2;omega) d1,yM,fun _=>⟨_,x,by show(jA c l).1+2=(((jA c l).1.toNat:Nat):Int)+2;rw[Int.toNat_of_nonneg (show 0≤(jA c l).1 from k4)],hx,k1⟩⟩
   ·
    rw[if_neg h3]
    exact⟨.db _ _,fun h=>absurd (show(6:Int)=7 from h) (by decide),fun h=>absurd (show(6:Int)=0 from h) (by decide)⟩
theorem FJ{e:Int}(h:iR e=7):e=7:=by rw[iR]at h;split at h<;>omega
theorem X1{x:WV}{l:List aD}{i:Int}(hx:cR x)(h:eN x.v)(bZ:hG x.v.ah)(ht:jB x.v.ah l)(hd:ov x.v.ah x.v.at_ l)(h0:0≤i)(hi:i<l.length):
  Sf x (cg x.v) (fD x l i).1 (fD x l i).2∧((fD x l i).2=6→(fD x l i).1=x.on (fD x l i).1.v.ah):=by
 obtain⟨k1,k2,k3⟩:=X0 (hd.set i.toNat)
 have fk: ∀{e:Int},(e=7→(cq x.v.ah (l.set i.toNat bK)).1.off=true)→Sf x (cg x.v) (x.on (cq x.v.ah (l.set i.toNat bK)).1) e:=fun ho=>Sf.data h k1 (fun _=>rfl) ho
 rw[fD]
 by_cases mS:(cL x.v.ah l i).2≠0
 ·
  rw[if_pos mS]
  refine⟨fk fun g=>k2 ?_,fun _=>rfl⟩
  have g:=FJ g
  rw[cL]at g
  split at g
  ·
   cases g
  ·
   exact g
 ·
  rw[if_neg mS]
  have FK:(cL x.v.ah l i).2=0:=by simpa using mS
  have zl:=AF (i:=i) hx.ah ht FK
  have fH:=hx.on (k1.ok hx.ah) k1.di
  have cD:0≤(cL x.v.ah l i).1→(cL x.v.ah l i).1≠i+2:=fun hn e=>by
   have ea:qS x.v.ah l i=false:=by
    cases hq:qS x.v.ah l i with
    |false=>rfl
    |true=>rw[cL,if_pos hq]at hn;exact absurd (show(0:Int)≤ -1 from hn) (by decide)
   rw[cL,if_neg (by rw[ea];simp)]at e FK
   obtain⟨j,z,e1,e2,e3⟩:=k3 FK
   have:j=i.toNat:=by omega
   rw[this,List.getElem?_set_self (by omega)]at e2
   obtain rfl:=Option.some.inj e2;cases e3
  obtain⟨m1,m2,m3⟩:=XZ (x:=x.on (cq x.v.ah (l.set i.toNat bK)).1) (src:=i+2) (to:=(cL x.v.ah l i).1) fH (h.kp k1) (bZ.kd k1.toKd) (by omega) cD (fun hn=>by
   have:=zl hn
   exact⟨this.1,by simp only[WV.on];rw[k1.di.len];exact this.2.1,this.2.2⟩)
  have mok:=AD (x:=x.on (cq x.v.ah (l.set i.toNat bK)).1) (src:=i+2) (to:=(cL x.v.ah l i).1) fH (fun hn=>by
   have:=zl hn
   exact⟨this.1,by simp only[WV.on];rw[k1.di.len];exact this.2.1,this.2.2⟩)
  have FL:Sf x (cg x.v) (x.on (cq x.v.ah (l.set i.toNat bK)).1) 0:=fk fun g=>absurd g (by decide)
  rw[(FL.aY rfl).2]at m1
  generalize cT (x.on (cq x.v.ah (l.set i.toNat bK)).1) (i+2) (cL x.v.ah l i).1=M at*
  by_cases h1:M.2.1=false∨(l.getD i.toNat gp).used=x.v.ah.ae
  ·
   rw[if_pos h1]
   exact⟨FL.trans m1,fun g=>by rw[m3 g,I7];rfl⟩
  ·
   rw[if_neg h1]
   have X2:M.2.1=true:=by
    cases hq:M.2.1 with
    |true=>rfl
    |false=>exact absurd (.inl hq) h1
   obtain⟨e0,X3⟩:=m2 X2
   rw[e0]at m1
   have hR:=m1.aY rfl
   have X4:mn M.1.v.at_ M.1.v.ah (i+2):=X3.di m1.kd.di
   have hc:=yL (c:=M.1.v.ah) (by omega) X4
   have Mi:=Sf.data (x:=M.1) hR.1 hc (e:=iR (dD M.1.v.ah (i+2)).2) (bs:=cg M.1.v) (fun _=>rfl) (fun g=>yM (FJ g))
   have X5:=FL.trans m1
   rw[hR.2]at Mi
   exact⟨X5.trans Mi,fun g=>absurd (AE g) (Je _ _)⟩
theorem Mj{x:WV}{l:List aD}(h:eN x.v)(hd:ov x.v.ah x.v.at_ l):Sf x (cg x.v) (lh x l).1 (lh x l).2:=by
 rw[lh];split
 ·
  exact Sf.stay h (e:=6) (by decide)
 ·
  rename_i hq
  obtain⟨d1,d2⟩:=BF hd (show(oY x.v.ah l).2=true by simpa using hq)
  exact Sf.data h (yL (by show 2≤(oY x.v.ah l).1+2;change 0≤(oY x.v.ah l).1 at d2;omega) d1) (fun _=>rfl) (fun g=>yM (FJ g))
theorem ov.di{c d:CV}{fl:List Int}{l:List aD}(h:ov c fl l)(g:dJ c d):ov d fl l:=fun i x hx hb hl=>(h i x hx hb hl).di g
theorem X6{x:WV}(hx:cR x)(h:eN x.v)(bZ:hG x.v.ah):Sf x (cg x.v) (eU x).1 (eU x).2:=by
 have ht:jB x.v.ah (mc x):=AA _ _
 have hd:ov x.v.ah x.v.at_ (mc x):=LR _ _
 rw[eU];split
 ·
  rename_i hv
  have Mk:=Ja (l:=mc x) hv.1
  obtain⟨r1,r2⟩:=X1 (i:=(qT x).1) hx h bZ ht hd Mk.1 Mk.2
  split
  ·
   exact r1
  ·
   rename_i h6
   have vB:(fD x (mc x) (qT x).1).2=6:=by simpa using h6
   have hz:=r1.zero (by omega) (by omega) (by omega) (by omega)
   have e:=r2 vB
   have hR:=hz.aY rfl
   have nr:(fD x (mc x) (qT x).1).1.v.at_=x.v.at_:=by rw[e];rfl
   have:=Mj hR.1 (l:=mc x) (by rw[nr];exact hd.di hz.kd.di)
   rw[hR.2]at this
   exact hz.trans this
 ·
  exact Mj h hd
theorem Ml: ∀(n:Nat) {x:WV} {need:Int},cR x→eN x.v→hG x.v.ah→Sf x (cg x.v) (p8 n x need).1 (p8 n x need).2
 |0,x,need,hx,h,bZ=>Sf.stay h (e:=0) (by decide)
 |n+1,x,need,hx,h,bZ=>by
  have hc:=X6 hx h bZ
  have X7:=DK hx
  rw[p8]
  split
  ·
   exact Sf.stay h (e:=0) (by decide)
  ·
   split
   ·
    exact(Sf.stay h (e:=0) (by decide)).by true
   ·
    split
    ·
     rename_i h0
     rw[h0]at hc
     have hR:=hc.aY rfl
     have:=Ml n (need:=need) X7.1.ok hR.1 (bZ.kd hc.kd)
     rw[hR.2]at this
     exact hc.trans this
    ·
     split
     ·
      exact hc
     ·
      rename_i h6
      have vB:(eU x).2=6:=by simpa using h6
      have hz:=hc.zero (by omega) (by omega) (by omega) (by omega)
      have hR:=hz.aY rfl
      split
      ·
       exact hz.by true
      ·
       have:=Sf.stay (x:=(eU x).1) hR.1 (e:=5) (by decide)
       rw[hR.2]at this
       exact hz.trans this
theorem X8{x:WV}{need:Int}(hx:cR x)(h:eN x.v)(bZ:hG x.v.ah):Sf x (cg x.v) (me x need).1 (me x need).2:=Ml _ hx h bZ
theorem X9{x:WV}{l:List (Int×List UInt8)}(hx:cR x)(h:eN x.v)(bZ:hG x.v.ah)(kO: ∀y∈l,0≤y.1):Sf x (qn (cg x.v) l) (iz x l).1 (iz x l).2:=by
 have hs:Sf x (cg x.v) (fu x l).1 (fu x l).2:=(X8 (x:={x with beyond:=false}) (need:=tV l) (hx.by false) h bZ).cC
 have ho:=DM (l:=l) hx
 rw[iz]
 by_cases h0:(fu x l).2≠0
 ·
  rw[if_pos h0];exact hs.ne h0
 ·
  rw[if_neg h0]
  rw[show(fu x l).2=0 by simpa using h0]at hs
  have hR:=hs.aY rfl
  obtain⟨t1,t2,t3⟩:=FE (v:=(fu x l).1.v) (aL:=(fu x l).1.beyond) l (c:=(fu x l).1.v.ah) (a:=(fu x l).1.v.at_) ho.ok.ah (by have:=ho.ok.p0;omega) hR.1.pl hR.1.pl kO
  by_cases h1:(kM x l).2.2≠0
  ·
   rw[if_pos h1]
   exact hs.trans (Sf.data hR.1 t1 (fun g=>absurd g h1) t3)
  ·
   rw[if_neg h1]
   obtain⟨g1,g2,g3⟩:=t2 (Classical.not_not.1 h1)
   have fH:=ho.ok.on (t1.ok ho.ok.ah) t1.di
   have hw:=(Mh fH (hR.1.kp t1) ((bZ.kd hs.kd).kd t1.toKd) g1 g3).1
   have e:List.map (dG (kM x l).1) (kM x l).2.1=qn (cg x.v) l:=by rw[←hR.2];exact g2
   have hd:=Sf.data (x:=(fu x l).1) hR.1 t1 (e:=0) (bs:=cg (fu x l).1.v) (fun _=>rfl) (fun g=>absurd g (by decide))
   have dW:Sf ((fu x l).1.on (kM x l).1) (qn (cg x.v) l) (fC ((fu x l).1.on (kM x l).1) (kM x l).2.1).1 (fC ((fu x l).1.on (kM x l).1) (kM x l).2.1).2:=by rw[←e];exact hw
   exact hs.trans (Sf.trans hd dW)
theorem Mm{l:List (Int×List UInt8)}(kO: ∀y∈l,0≤y.1): ∀(n:Nat) {x:WV},cR x→eN x.v→hG x.v.ah→x.v.ah.blocks.length<n+kv x.v.ah→Sf x (qn (cg x.v) l) (nq n x l).1 (nq n x l).2
 |0,x,hx,h,bZ,hn=>by have:=Jk x.v.ah;omega
 |n+1,x,hx,h,bZ,hn=>by
  have hb:=X9 (l:=l) hx h bZ kO
  have ho:=Jj (l:=l) hx
  rw[nq]
  split
  ·
   rename_i h5
   rw[h5.1]at hb
   have hz:=hb.zero (by decide) (by decide) (by decide) (by decide)
   have hR:=hz.aY rfl
   have:=Mm kO n ho.ok hR.1 (bZ.kd hz.kd) (by have:=ho.di.len;omega)
   rw[hR.2]at this
   exact hz.trans this
  ·
   exact hb
theorem Ya{v:VV}{l:List (Int×List UInt8)}(h:eN v)(bZ:hG v.ah):Sf ⟨v,false⟩ (qn (cg v) l) ⟨(fv v l).1,false⟩ (fv v l).2:=by
 rw[fv]
 split
 ·
  exact(Sf.stay (x:=⟨v,false⟩) h (e:=1) (by decide)).ne (by decide)
 ·
  rename_i h1
  have Mn:=Classical.not_not.1 h1
  split
  ·
   rename_i ho
   have:=Sf.data (x:=⟨v,false⟩) h (.db _ _) (e:=7) (bs:=qn (cg v) l) (fun g=>absurd g (by decide)) (fun _=>ho)
   exact this
  ·
   have kO: ∀y∈l,0≤y.1:=fun y hy=>by
    obtain⟨j,hj⟩:=List.getElem?_of_mem hy
    have:=AG.1 Mn.2.2 j (List.getElem?_eq_some_iff.1 hj).1
    rw[qV,show l.getD j (0,[])=y by simp[List.getD,hj],Bool.and_eq_true,qU,Bool.and_eq_true,Bool.and_eq_true,decide_eq_true_eq]at this
    exact this.1.1.1
   have:=Mm kO (v.ah.blocks.length+1) (x:=⟨v,false⟩) (DN Mn.1) h bZ (by show v.ah.blocks.length<_;omega)
   exact this.by false
open Go.aB
theorem Yb{t:List Rt}(h:dg t=true): ∀l:List Ch,dg (kh t l).1=true:=by
 intro l
 induction l generalizing t with
 |nil=>exact h
 |cons c r ih=>
  rw[kh]
  split
  ·
   exact ih (W0 h c)
  ·
   exact h
theorem Yc{t:List Rt}(h:dg t=true)(l:List Ch):dg (c0 t l)=true:=by
 rw[c0];split
 ·
  exact Yb h l
 ·
  exact h
def powC(c:CV):CV:={c with off:=false}
theorem eN.on{v:VV}(h:eN v)(b:Bool):eN {v with ah:={v.ah with off:=b}}:=by
 obtain⟨h1,h2,h3,h4,h5,h6,h7⟩:=h
 exact⟨h1,h2,h3,h4,h5,h6,h7⟩
theorem Mo{v:VV}(h:eN v):bt (powC v.ah)=(⟨powC v.ah,v.at_,v.gen,v.last⟩,0):=by
 have h2:=BE.2 (h.on false)
 rw[kc]at h2
 simp only[Bool.and_eq_true,decide_eq_true_eq]at h2
 obtain⟨⟨⟨g1,g2⟩,g3⟩,g4⟩:=h2
 have hc:=Ea g1
 change(bt (powC v.ah)).2=0 at g1
 change(bt (powC v.ah)).1.gen=v.gen at g2
 change(bt (powC v.ah)).1.last=v.last at g3
 change(bt (powC v.ah)).1.at_=v.at_ at g4
 change(bt (powC v.ah)).1.ah=powC v.ah at hc
 generalize bt (powC v.ah)=F at*
 obtain⟨⟨f1,f2,f3,f4⟩,f5⟩:=F
 simp only at g1 g2 g3 g4 hc
 subst g1 g2 g3 g4 hc;rfl
structure gx(f:FV):Prop where
 rt:eN f.av
 iT:gu f.av.ah≠0
 ids:(f.av.at_.length:Int)=dP f.av.ah
 FM:iU (cg f.av)=0
 eq:f.table=iB (cg f.av)
theorem Mp{v:VV}(h:eN v)(hm:gu v.ah≠0)(hi:(v.at_.length:Int)=dP v.ah)(ht:iU (cg v)=0):cB (powC v.ah)=(⟨⟨powC v.ah,v.at_,v.gen,v.last⟩,iB (cg v)⟩,0)∧iX (powC v.ah)=cg v:=by
 have hf:=Mo h
 have:=vI (c:=powC v.ah) hm (by rw[hf]) (by rw[hf];exact hi) (by rw[hf];exact ht)
 rw[hf]at this
 exact this
theorem gx.load{f:FV}(h:gx f):cB (powC f.av.ah)=(⟨⟨powC f.av.ah,f.av.at_,f.av.gen,f.av.last⟩,f.table⟩,0)∧iX (powC f.av.ah)=cg f.av:=by
 rw[h.eq];exact Mp h.rt h.iT h.ids h.FM
theorem yT{f:FV}:fP f=true↔gx f:=by
 constructor
 ·
  intro h
  rw[Rs]at h
  simp only[Bool.and_eq_true,decide_eq_true_eq]at h
  obtain⟨⟨h1,h2⟩,h3⟩:=h
  obtain⟨g0,g1,g2,g3⟩:=xZ h1
  have hr:=BE.1 h2
  have hf:=Mo hr
  change(bt (powC f.av.ah)).2=0 at g1
  change(((bt (powC f.av.ah)).1.at_.length:Nat):Int)=_ at g2
  change iU (cg (bt (powC f.av.ah)).1)=0 at g3
  rw[hf]at g2 g3
  refine⟨hr,g0,g2,g3,?_⟩
  rw[←h3]
  exact congrArg (fun z:FV×Int=>z.1.table) (Mp hr g0 g2 g3).1
 ·
  intro h
  rw[D9]
  change(cB (powC f.av.ah)).2=0∧f.av.gen=(cB (powC f.av.ah)).1.av.gen∧f.av.last=(cB (powC f.av.ah)).1.av.last∧f.av.at_=(cB (powC f.av.ah)).1.av.at_∧f.table=(cB (powC f.av.ah)).1.table
  rw[h.load.1]
  exact⟨rfl,rfl,rfl,rfl,rfl⟩
theorem Yd{c:CV}(h:(cB c).2=0):gx (cB c).1∧(cB c).1.av.ah=c∧c.off=false:=by
 obtain⟨g0,g1,g2,g3⟩:=xZ h
 have hc:=Ea g1
 have e:=(vI g0 g1 g2 g3).1
 have hr:=BE.1 (J0 g1)
 rw[e]
 exact⟨⟨hr,by rw[hc];exact g0,by rw[hc];exact g2,g3,rfl⟩,hc,JZ g1⟩
theorem gx.right{f:FV}(h:gx f):dg f.table=true:=by rw[h.eq];exact Ru h.FM
theorem Mq{c d:CV}(h:dJ c d):gu d=gu c∧dP d=dP c:=by
 rw[gu,gu,dP,dP,h.len,h.ae,h.size];exact⟨rfl,rfl⟩
theorem Mr: ∀(l:List (Int×List UInt8)) (bs:List (List UInt8)) (i:Nat),l.Pairwise (fun p q=>p.1≠q.1)→(∀p∈l,0≤p.1)→(qn bs l)[i]? =match l.find? fun p=>decide (p.1=(i:Int))with
  |some p=>if i<bs.length then some p.2 else none
  |none=>bs[i]?
 |[],bs,i,_,_=>rfl
 |p::r,bs,i,hw,h0=>by
  obtain⟨kU,dW⟩:=List.pairwise_cons.1 hw
  have ih:=Mr r (bs.set p.1.toNat p.2) i dW fun q hq=>h0 q (List.mem_cons_of_mem _ hq)
  have hp0:=h0 p List.mem_cons_self
  show(qn (bs.set p.1.toNat p.2) r)[i]? =_
  rw[ih,List.find?_cons]
  by_cases e:p.1=(i:Int)
  ·
   have hn:(r.find? fun q=>decide (q.1=(i:Int)))=none:=List.find?_eq_none.2 fun q hq=>by
    rw[decide_eq_true_eq];intro e2;exact kU q hq (by rw[e,e2])
   rw[hn,decide_eq_true e]
   simp only
   rw[List.getElem?_set,if_pos (by omega)]
   by_cases hl:i<bs.length
   ·
    rw[if_pos (by omega),if_pos hl]
   ·
    rw[if_neg (by omega),if_neg hl]
  ·
   rw[decide_eq_false e]
   simp only
   cases hf:r.find? fun q=>decide (q.1=(i:Int))with
   |some q=>simp only;rw[List.length_set]
   |none=>simp only;rw[List.getElem?_set_ne (by omega)]
theorem Ye{a b:List (List UInt8)}(hl:a.length=b.length):qn a (eV a b)=b:=by
 have hs:=Fm a b (max a.length b.length)
 have Yf:(eV a b).Pairwise fun p q=>p.1≠q.1:=hs.imp fun h=>by omega
 have hm: ∀p∈eV a b,∃i:Nat,i<max a.length b.length∧p=((i:Int),b.getD i [])∧ ¬a.getD i []=b.getD i []:=fun p hp=>Lg hp
 refine List.ext_getElem? fun i=> ?_
 rw[Mr (eV a b) a i Yf fun p hp=>by obtain⟨j,_,rfl,_⟩:=hm p hp;exact Int.natCast_nonneg _]
 cases hf:(eV a b).find? fun p=>decide (p.1=(i:Int))with
 |some p=>
  obtain⟨j,h1,h2,h3⟩:=hm p (List.mem_of_find?_eq_some hf)
  have e:=List.find?_some hf
  rw[decide_eq_true_eq,h2]at e
  simp only at e
  have e':j=i:=by omega
  subst e'
  simp only
  by_cases hi:j<a.length
  ·
   rw[if_pos hi,h2,List.getElem?_eq_getElem (by omega)]
   simp[List.getD,show j<b.length by omega]
  ·
   rw[if_neg hi,List.getElem?_eq_none (by omega)]
 |none=>
  simp only
  rcases Nat.lt_or_ge i a.length with hi|hi
  ·
   have gL:=List.find?_eq_none.1 hf
   have hq:a.getD i []=b.getD i []:=by
    apply Classical.byContradiction
    intro cD
    have zO:((i:Int),b.getD i [])∈eV a b:=by
     rw[eV,ll]
     exact List.mem_filterMap.2 ⟨i,List.mem_range.2 (by omega),by rw[qb,if_neg cD]⟩
    have:=gL _ zO
    simp at this
   simp only[List.getD,List.getElem?_eq_getElem hi,List.getElem?_eq_getElem (show i<b.length by omega),Option.getD_some]at hq
   rw[List.getElem?_eq_getElem hi,List.getElem?_eq_getElem (show i<b.length by omega),hq]
  ·
   rw[List.getElem?_eq_none hi,List.getElem?_eq_none (by omega)]
structure Af(f:FV)(t:List Rt)(o:FV)(e:Int):Prop where
 kd:Kd [] f.av.ah o.av.ah
 aY:e=0→gx o∧o.table=t
 bad:e≠0→o.table=f.table
 err:e≠0→(e=7∨e=9∨(e=1∧BH o.av.ah))∨gx o
 ux:e≠0→f.av.ah.aS=[]→gx o
 any: ∃g:FV,gx g∧g.av.ah=o.av.ah∧(g.table=f.table∨g.table=t)
 off:e=7→o.av.ah.off=true
theorem FN{f:FV}{l:List Ch}(h:gx f):sd f l=if gu f.av.ah<(c0 f.table l).length then 5 else 0:=by
 have hr:=Yc h.right l
 have hm:iT (dP f.av.ah) (dO f.av.ah.size)=gu f.av.ah:=rfl
 rw[sd,iA,if_neg,hm]
 rintro(g|g)
 ·
  rw[hr]at g;cases g
 ·
  exact h.iT g
theorem Yg{f:FV}{l:List Ch}(h:gx f)(he:et f.table l≠0):eG f l=(f,et f.table l):=J1 (yT.2 h) he
theorem Yh{f:FV}{l:List Ch}(h:gx f)(he:et f.table l=0)(hm:gu f.av.ah<(c0 f.table l).length):eG f l=(f,5):=by
 have:=FN (l:=l) h
 rw[if_pos hm]at this
 rw[J2 (yT.2 h) he (by rw[this];decide),this]
theorem wu{f:FV}(h:gx f):fQ f=cg f.av:=h.load.2
theorem Yi{f:FV}{l:List Ch}(h:gx f)(he:et f.table l=0)(hm: ¬gu f.av.ah<(c0 f.table l).length)(hc:eV (fQ f) (gK f l)=[]):eG f l=(f,0)∧c0 f.table l=f.table:=by
 have hE:=FN (l:=l) h
 rw[if_neg hm]at hE
 have hlen:(fQ f).length=(gK f l).length:=by
  have:=(Fl hE).1
  have h2:=h.ids
  rw[wu h,Eb]
  have:((gK f l).length:Int)=dP f.av.ah:=this
  omega
 have heq:=(Wn hlen).1 hc
 have ht:iB (gK f l)=c0 f.table l:=(Le hE).1
 have e:c0 f.table l=f.table:=by
  rw[←ht,←heq,wu h];exact h.eq.symm
 rw[J3 (yT.2 h) he hE hc,e]
 exact⟨rfl,rfl⟩
theorem Yj{f:FV}{l:List Ch}(h:gx f)(bZ:hG f.av.ah)(he:et f.table l=0)(hm: ¬gu f.av.ah<(c0 f.table l).length):Af f (c0 f.table l) (eG f l).1 (eG f l).2:=by
 have hE:=FN (l:=l) h
 rw[if_neg hm]at hE
 by_cases hc:eV (fQ f) (gK f l)=[]
 ·
  obtain⟨e1,e2⟩:=Yi h he hm hc
  rw[e1,e2]
  exact⟨.db _ _,fun _=>⟨h,rfl⟩,fun g=>absurd rfl g,fun g=>absurd rfl g,fun g=>absurd rfl g,⟨f,h,rfl, .inl rfl⟩,fun g=>absurd (show(0:Int)=7 from g) (by decide)⟩
 ·
  have hlen:(fQ f).length=(gK f l).length:=by
   have:=(Fl hE).1
   have h2:=h.ids
   rw[wu h,Eb]
   have:((gK f l).length:Int)=dP f.av.ah:=this
   omega
  have hs:=Ya (l:=eV (fQ f) (gK f l)) h.rt bZ
  rw[←wu h,Ye hlen]at hs
  have ht:=Le hE
  rw[J4 (yT.2 h) he hE hc]
  generalize fv f.av (eV (fQ f) (gK f l))=W at*
  have pM:=Mq hs.kd.di
  change gu W.1.ah=gu f.av.ah∧dP W.1.ah=dP f.av.ah at pM
  have FO:W.1.at_.length=f.av.at_.length:=hs.len
  have wq:cg (⟨f.av,false⟩:WV).v=fQ f:=(wu h).symm
  have mk: ∀{u:VV} {t:List Rt},eN u→dJ f.av.ah u.ah→u.at_.length=f.av.at_.length→iU (cg u)=0→t=iB (cg u)→gx ⟨u,t⟩:=fun hu hk hl Yk Ym=>by
   have:=Mq hk
   exact⟨hu,by show gu _≠0;rw[this.1];exact h.iT,by show(_:Int)=dP _;rw[this.2,hl];exact h.ids,Yk,Ym⟩
  have hold:iU (fQ f)=0∧f.table=iB (fQ f):=by rw[wu h];exact⟨h.FM,h.eq⟩
  refine⟨hs.kd,fun g=> ?_,fun g=> ?_,fun g=> ?_,fun g hf=> ?_,?_,hs.off⟩
  ·
   obtain⟨q1,q2⟩:=hs.aY g
   change eN W.1 at q1
   change cg W.1=gK f l at q2
   simp only at g
   refine⟨mk q1 hs.kd.di FO (by rw[q2];exact ht.2) (by rw[if_neg (fun k=>k g),q2];exact ht.1.symm),by rw[if_neg (fun k=>k g)]⟩
  ·
   simp only at g⊢;rw[if_pos g]
  ·
   simp only at g
   refine(hs.err g).imp id fun q=> ?_
   rw[wq]at q
   exact mk q.1 hs.kd.di FO (by rw[show cg W.1=fQ f from q.2];exact hold.1) (by rw[if_pos g,show cg W.1=fQ f from q.2];exact hold.2)
  ·
   simp only at g
   have q:=hs.ux g hf
   rw[wq]at q
   exact mk q.1 hs.kd.di FO (by rw[show cg W.1=fQ f from q.2];exact hold.1) (by rw[if_pos g,show cg W.1=fQ f from q.2];exact hold.2)
  ·
   obtain⟨u,q1,q2,q3,q4⟩:=hs.any
   change u.ah=W.1.ah at q2
   have Ms:dJ f.av.ah u.ah:=by rw[q2];exact hs.kd.di
   rw[wq]at q4
   rcases q4 with q4|q4
   ·
    exact⟨⟨u,f.table⟩,mk q1 Ms q3 (by rw[q4];exact hold.1) (by rw[q4];exact hold.2),q2, .inl rfl⟩
   ·
    exact⟨⟨u,c0 f.table l⟩,mk q1 Ms q3 (by rw[q4];exact ht.2) (by rw[q4];exact ht.1.symm),q2, .inr rfl⟩
open Go.aB
theorem hG.nil{c:CV}(h:c.aS=[]):hG c:=fun f hf=>by rw[h]at hf;cases hf
theorem gx.Yn{f:FV}(h:gx f)(ho:f.av.ah.off=false):cB f.av.ah=(f,0):=by
 have e:powC f.av.ah=f.av.ah:=by rw[powC,←ho]
 have:=h.load.1
 rw[e]at this
 exact this
theorem gx.small{f:cf}(h:gx (br f)):dC f.av.ah∧f.av.at_.xs.length≤1000000∧f.table.xs.length≤1000000:=by
 have hk:=(iN.1 h.rt.bears).1
 have hw:=(DN (b:=false) (BE.2 h.rt)).pZ
 have ht:=z3 h.right
 change f.av.at_.xs.length≤64 at hw
 change f.table.xs.length≤256 at ht
 exact⟨oP hk,by omega,by omega⟩
theorem gx.FP{f:FV}(h:gx f):fP f=true:=yT.2 h
theorem gx.Yo{f:FV}(h:gx f)(k:Key)(bits:Int):pd f k bits=qd f.table k bits∧pe f k bits=qe f.table k bits:=by
 rw[pd,pe,if_pos h.FP,if_pos h.FP];exact⟨rfl,rfl⟩
theorem Yp(t:List Rt)(c:List Ch):(kh t c).2=0∨(kh t c).2=1∨(kh t c).2=5∨(kh t c).2=6:=by
 induction c generalizing t with
 |nil=>exact .inl rfl
 |cons x r ih=>
  rw[kh]
  split
  ·
   exact ih _
  ·
   show eM t x=0∨eM t x=1∨eM t x=5∨eM t x=6
   rw[eM];repeat' split
   all_goals decide
theorem Yq(t:List Rt)(l:List Ch):et t l=0∨et t l=1∨et t l=5∨et t l=6:=by
 rw[et];split
 ·
  exact Yp t l
 ·
  exact .inr (.inl rfl)
theorem Yr(t:List Rt)(l:List Ch):et t l≠7:=by have:=Yq t l;omega
theorem Ys{f:FV}(h:gx f)(hf:f.av.ah.aS=[])(ho:f.av.ah.off=false)(l:List Ch):
  gx (eG f l).1∧(eG f l).1.av.ah.aS=[]∧(eG f l).1.av.ah.off=false∧((eG f l).2=0→et f.table l=0∧(eG f l).1.table=c0 f.table l)∧((eG f l).2≠0→(eG f l).1.table=f.table)∧
   ((eG f l).2≠7)∧(et f.table l≠0→eG f l=(f,et f.table l)):=by
 have Yt:=Yr f.table l
 by_cases he:et f.table l=0
 ·
  by_cases hm:gu f.av.ah<(c0 f.table l).length
  ·
   rw[Yh h he hm]
   exact⟨h,hf,ho,fun g=>absurd (show(5:Int)=0 from g) (by decide),fun _=>rfl,show(5:Int)≠7 by decide,fun g=>absurd he g⟩
  ·
   have ha:=Yj h (.nil hf) he hm
   have mP:=ha.kd.on ho (by rw[hf];intro x hx;cases hx)
   refine⟨?_,ha.kd.pw.trans hf,mP,fun g=>⟨he,(ha.aY g).2⟩,ha.bad,fun g=> ?_,fun g=>absurd he g⟩
   ·
    by_cases g:(eG f l).2=0
    ·
     exact(ha.aY g).1
    ·
     exact ha.ux g hf
   ·
    have:=ha.off g;rw[mP]at this;cases this
 ·
  rw[Yg h he]
  exact⟨h,hf,ho,fun g=>absurd g he,fun _=>rfl,Yt,fun _=>rfl⟩
end Go.Kb
namespace Go.Proofs.YtaipiecplldinaaGreat
open Go.aB Go.Kb
open Go.RowKit
structure FH where
 f:cf
 h:Sl Rt
def FQ(x:FH):Array Value:= #[.int .i64 x.f.av.ah.ae, .int .i64 x.f.av.ah.size,x.f.av.ah.blocks.sv.val, .int .i64 x.f.av.ah.ops, .bool x.f.av.ah.off,x.f.av.ah.aS.sv.val,x.f.av.at_.sv.val, .int .u64 x.f.av.gen.toNat, .int .i64 x.f.av.last,x.f.table.sv.val,x.h.sv.val]
instance:bx FQ 11:=⟨fun _=>rfl,fun x=>by
 simp only[FQ,List.all_toArray,List.all_cons,List.all_nil,Sv.one,pR,pS,Bool.and_self]⟩
instance:Deep FH where
 c:=11
 cells:=FQ
 size:=bx.size
 one:=bx.one
 aY h x:=Deep.aY h x.f∧Deep.aY h x.h
 bY x:= .two (Deep.bY x.f) (Deep.bY x.h)
 ik h x hs:=⟨Deep.ik h x.f hs.1,Deep.ik h x.h hs.2.1⟩
 mono w w' x hg hb:=⟨Deep.mono w w' x.f hg.1 hb,Deep.mono w w' x.h hg.2 hb⟩
instance:dZ FH where
 reach x k:=dZ.reach x.f k∨dZ.reach x.h k
 congr h h' x e hg:=⟨dZ.congr h h' x.f (fun k hk=>e k (.inl hk)) hg.1,dZ.congr h h' x.h (fun k hk=>e k (.inr hk)) hg.2⟩
instance {w0:World}{L:List aj}{x:FH}[q:aT w0 L x]:aT w0 L x.f:=⟨fun w hw=>(q.h w hw).1⟩
instance {w0:World}{L:List aj}{x:FH}[q:aT w0 L x]:aT w0 L x.h:=⟨fun w hw=>(q.h w hw).2⟩
theorem Yu{w0 w:World}{L:List aj}{f:cf}{a:Sl Rt}(h:Mem w0 (fz f::fz a::L) w):Mem w0 (fz (⟨f,a⟩:FH)::L) w:=by
 refine Mem.freeze (es:=[fz f,fz a]) (⟨f,a⟩:FH) ⟨h.sat (fz f) (by simp),h.sat (fz a) (by simp)⟩ (fun k hk=> ?_) h
 rcases hk with hk|hk
 ·
  exact⟨fz f,by simp,hk⟩
 ·
  exact⟨fz a,by simp,hk⟩
theorem Yv{w0 w:World}{L:List aj}{f:cf}(h:Mem w0 (fz f::L) w):Mem w0 (fz (⟨f,f.table⟩:FH)::L) w:=by
 refine Mem.freeze (es:=[fz f]) (⟨f,f.table⟩:FH) ⟨h.sat (fz f) (by simp),(h.sat (fz f) (by simp)).2⟩ (fun k hk=> ?_) h
 rcases hk with hk|hk
 ·
  exact⟨fz f,by simp,hk⟩
 ·
  exact⟨fz f,by simp, .inr hk⟩
theorem Yw{w0 w:World}{L:List aj}{s:FH}(h:Mem w0 (fz s::L) w):Mem w0 (fz s.h::L) w:=
 Mem.freeze (es:=[fz s]) s.h (h.sat (fz s) (by simp)).2 (fun k hk=>⟨fz s,by simp, .inr hk⟩) h
open Go.aB Go.Kb
open Go.RowKit
theorem Yx(w:World)(c:Cp)(l:Sl (Sl Ch))(k:Key)(bits:Int)(hc:Deep.aY (hp w) c)(hl:Deep.aY (hp w) l):Calls Tryz.prog 9 #[.agg (az c),l.sv.val, .agg (cn k), .int .i64 bits] w fun e w'=>e= .returned (.bool true)∧Mem w [] w':=by
 have iC:bV w c:=⟨hc⟩
 have nA:bV w l:=⟨hl⟩
 have dk:=hl.1.bd
 have E6:=hc.1.1.bd
 refine aX (args:=[_,_,_,_]) Tryz.func9 rfl Tryz.ntmps9 rfl ?_
 change Cw _ _ _ _ _ [(0, .agg (az c)),(1,l.sv.val),(2, .agg (cn k)),(3, .int .i64 bits)] []
 refine Gc ?_
 refine bR rfl fun b4=> ?_
 refine bR rfl fun b6=> ?_
 refine Gs ?_
 refine Gc ?_
 iterate 2 refine Gs ?_
 refine Gc ?_
 refine au rfl (fun h0=> ?_) (fun h0=> ?_)
 ·
  exfalso;simp at h0
 ·
  replace h0:=bz h0
  refine Gc ?_
  iterate 4 refine Gs ?_
  iterate 3 refine Gg ?_
  iterate 2 refine Gs ?_
  iterate 3 refine Gg ?_
  refine Gs ?_
  refine Gc ?_
  refine au rfl (fun h1=> ?_) (fun h1=> ?_)
  ·
   replace h1:=bz h1
   refine Gc ?_
   refine Gs ?_
   refine Gc ?_
   refine aq (.inl rfl) (aG rfl (al rfl)) (fun w1 hw=> ?_)
   exact⟨congrArg (fun b=>Ending.returned (Value.bool b)) (rfl),ai.mem hw⟩
  ·
   replace h1:=bz h1
   refine Gc ?_
   refine Gs ?_
   refine Gc ?_
   refine bS (X:=Nat) (fun zz=>[(9, .int .i64 (zz:Nat)),(1,l.sv.val),(3, .int .i64 bits),(4, .pointer (some ⟨b4,0,none⟩)),(6, .pointer (some ⟨b6,0,none⟩))]) (fun zz=>[ar b6 (cn k) 56,ar b4 (az c) 25]) (fun zz=>zz≤c.blocks.xs.length) (fun zz=>c.blocks.xs.length -zz) 0 (Nat.zero_le _) (Sub.cons rfl (Sub.cons rfl (Sub.cons rfl (Sub.cons rfl (Sub.cons rfl (Sub.nil _)))))) (fun w hw=>ai.mem hw) ?_
   rintro i bh
   refine Gc ?_
   iterate 5 refine Gs ?_
   refine Gc ?_
   refine au rfl (fun h2=> ?_) (fun h2=> ?_)
   ·
    replace h2:=bz h2
    obtain⟨B,hB⟩:=get_some (xs:=c.blocks.xs) (i:=i) (by omega)
    have n8:Mb B c.blocks:=⟨List.mem_of_getElem? hB⟩
    refine Gc ?_
    iterate 3 refine Gs ?_
    refine ag (bc rfl rfl i rfl (by omega)) ?_
    refine ag (aH rfl rfl) ?_
    refine ag (bF (j:=2) rfl i hB rfl (by decide)) ?_
    refine Gs ?_
    refine Gc ?_
    refine au rfl (fun h3=> ?_) (fun h3=> ?_)
    ·
     replace h3:=bz h3
     refine Gc ?_
     refine Gs ?_
     refine Gc ?_
     refine aq (.inl rfl) (aG rfl (al rfl)) (fun w1 hw=> ?_)
     exact⟨congrArg (fun b=>Ending.returned (Value.bool b)) (rfl),ai.mem hw⟩
    ·
     replace h3:=bz h3
     refine Gc ?_
     iterate 3 refine Gs ?_
     refine Gi ?_
     exact bu (x:=(i)) (i+1) (by first|omega|(simp only[];omega)) (by first|omega|(simp only[];omega)) (Sub.cons rfl (Sub.cons rfl (Sub.cons rfl (Sub.cons rfl (Sub.cons rfl (Sub.nil _)))))) (fun w hw=>ai.mem hw)
   ·
    replace h2:=bz h2
    refine Gc ?_
    refine Gs ?_
    refine dS (cs':=az (⟨c.ae,c.size,c.blocks,c.ops,c.off,⟨Sv.none,[]⟩⟩:Cp)) rfl rfl (by show 5<6;decide) (by first|rfl|exact Sv.one _) rfl ?_
    refine Gc ?_
    refine Gs ?_
    refine bn rfl trivial fun mj wg=> ?_
    have hcf:(cv (⟨c.ae,c.size,c.blocks,c.ops,c.off,⟨Sv.none,[]⟩⟩:Cp)).aS=[]:=rfl
    refine Gs ?_
    refine ag (aU (v:= .agg (bN mj)) rfl rfl) ?_
    refine ag (aU (v:= .int .i64 ((cB (cv (⟨c.ae,c.size,c.blocks,c.ops,c.off,⟨Sv.none,[]⟩⟩:Cp))).2)) rfl rfl) ?_
    refine bH fun lz=> ?_
    iterate 2 refine Gs ?_
    refine Gc ?_
    iterate 2 refine Gs ?_
    refine Gc ?_
    refine au rfl (fun h4=> ?_) (fun h4=> ?_)
    ·
     replace h4:=bz h4
     have Yy:mj.table.xs=[]:=by
      have:=congrArg FV.table wg
      rw[RB h4]at this
      exact this
     refine Gc ?_
     iterate 5 refine Gs ?_
     refine Gc ?_
     refine aq (.inl rfl) (aG rfl (al rfl)) (fun w1 hw=> ?_)
     exact⟨congrArg (fun b=>Ending.returned (Value.bool b)) ((by simp[Yy])),ai.mem hw⟩
    ·
     replace h4:=bz h4
     have Br:(cB (cv (⟨c.ae,c.size,c.blocks,c.ops,c.off,⟨Sv.none,[]⟩⟩:Cp))).2=0:=h4
     obtain⟨w1,w2,w3⟩:=Yd Br
     rw[←wg]at w1 w2
     have w4:dg mj.table.xs=true:=w1.right
     have w5:=w1.FP
     have w6:=w1.small
     have w7:(br mj).av.ah.aS=[]:=by rw[w2];rfl
     have w8:(br mj).av.ah.off=false:=by rw[w2];exact w3
     refine Gc ?_
     iterate 3 refine Gs ?_
     refine Gc ?_
     iterate 4 refine Gs ?_
     refine bQ rfl rfl rfl (fun hg=>(Ry.yl (eR rfl))) ?_
     refine bQ rfl rfl rfl (fun hg=>cy (dw (aF hg rfl) gg) trivial) ?_
     refine bQ rfl rfl rfl (fun hg=>(Ry.yl (ig (aF hg rfl)))) ?_
     refine Gs ?_
     refine Gc ?_
     refine au rfl (fun h5=> ?_) (fun h5=> ?_)
     ·
      exfalso;simp[w4,w5]at h5
     ·
      replace h5:=bz h5
      refine Gc ?_
      refine Gs ?_
      refine Gc ?_
      refine bS (X:=Nat×FH) (fun zz=>[(13, .int .i64 (zz.1:Nat)),(10, .pointer (some ⟨lz,0,none⟩)),(12,zz.2.h.sv.val),(1,l.sv.val),(3, .int .i64 bits),(6, .pointer (some ⟨b6,0,none⟩))]) (fun zz=>[ar lz (bN zz.2.f) 54,fz zz.2,ar b6 (cn k) 56,ar b4 (az (⟨c.ae,c.size,c.blocks,c.ops,c.off,⟨Sv.none,[]⟩⟩:Cp)) 25]) (fun zz=>zz.1≤l.xs.length∧gx (br zz.2.f)∧(br zz.2.f).av.ah.aS=[]∧(br zz.2.f).av.ah.off=false∧zz.2.h.xs=zz.2.f.table.xs) (fun zz=>l.xs.length -zz.1) (0,⟨mj,mj.table⟩) ⟨Nat.zero_le _,w1,w7,w8,rfl⟩ (Sub.cons rfl (Sub.cons rfl (Sub.cons rfl (Sub.cons rfl (Sub.cons rfl (Sub.cons rfl (Sub.nil _))))))) (fun w hw=>ai.mem (Yv (f:=mj) (ai.mem hw:Mem _ [fz mj,ar lz (bN mj) 54,ar b6 (cn k) 56,ar b4 (az (⟨c.ae,c.size,c.blocks,c.ops,c.off,⟨Sv.none,[]⟩⟩:Cp)) 25] _))) ?_
      rintro⟨i,s⟩ ⟨bh,aE,bB,cK,pn⟩
      dsimp only
      simp only at bh aE bB cK pn
      have jD:=aE.small
      have mC:s.h.xs.length≤1000000:=by rw[pn];exact jD.2.2
      refine Gc ?_
      iterate 4 refine Gs ?_
      refine Gc ?_
      refine au rfl (fun h6=> ?_) (fun h6=> ?_)
      ·
       replace h6:=bz h6
       obtain⟨y,hy⟩:=get_some (xs:=l.xs) (i:=i) (by omega)
       have su:Mb y l:=⟨List.mem_of_getElem? hy⟩
       refine Gc ?_
       iterate 2 refine Gs ?_
       refine ag (bc rfl rfl i rfl (by omega)) ?_
       refine ag (bF (j:=0) rfl i hy rfl (by decide)) ?_
       have agL:Mb y _:=⟨List.mem_of_getElem? hy⟩
       iterate 2 refine Gs ?_
       refine Gc ?_
       refine au rfl (fun h7=> ?_) (fun h7=> ?_)
       ·
        replace h7:=bz h7
        refine Gc ?_
        refine Gs ?_
        refine Gc ?_
        refine aq (.inl rfl) (aG rfl (al rfl)) (fun w1 hw=> ?_)
        exact⟨congrArg (fun b=>Ending.returned (Value.bool b)) (rfl),ai.mem hw⟩
       ·
        replace h7:=bz h7
        refine Gc ?_
        iterate 3 refine Gs ?_
        refine ag (bc rfl rfl i rfl (by omega)) ?_
        refine ag (bF (j:=0) rfl i hy rfl (by decide)) ?_
        have agM:Mb y _:=⟨List.mem_of_getElem? hy⟩
        refine bn rfl mC fun ql Un=> ?_
        refine Gs ?_
        refine ag (aU (v:=ql.val) rfl rfl) ?_
        refine ag (aU (v:= .int .i64 (et s.h.xs y.xs)) rfl rfl) ?_
        iterate 2 refine Gs ?_
        refine Gc ?_
        refine oJ [5,9,10,2009,4005] [[],[],[],[],[],[],[5],[5],[5],[],[5,9],[5,9,10]] [0,1,2,3,4,5,6,7,8,9,10,11] [ar lz (bN s.f) 54,fz s,ar b6 (cn k) 56,ar b4 (az (⟨c.ae,c.size,c.blocks,c.ops,c.off,⟨Sv.none,[]⟩⟩:Cp)) 25] [(9,j6 Tryz.prog 54)] (by kernel_rfl) (fun _ hw=>ai.mem hw) (by kernel_rfl) (by kernel_rfl) ?_
        refine an rfl (eR rfl) ?_
        refine an rfl (aC rfl) ?_
        refine an rfl (aC rfl) ?_
        refine an rfl (bc rfl rfl i rfl (by omega)) ?_
        refine an rfl (bF (j:=0) rfl i hy rfl (by decide)) ?_
        have agN:Mb y _:=⟨List.mem_of_getElem? hy⟩
        refine qH rfl rfl jD (fun e x w hw=>ai.mem hw) (Cert.one (i:=9) rfl rfl rfl jo (Cert.none rfl)) fun jG Yz=>⟨fun _ hw=>ai.mem hw,?_⟩
        have ha:=Ys aE bB cK y.xs
        rw[←Yz]at ha
        obtain⟨q1,q2,q3,q4,q5,q6,q7⟩:=ha
        have q8:=q1.Yn q3
        have q9:=q1.small
        have Mt:pd (br jG) k bits=qd jG.table.xs k bits∧pe (br jG) k bits=qe jG.table.xs k bits:=q1.Yo k bits
        refine an rfl (aC rfl) ?_
        refine an rfl (aU (v:= .agg (bN jG)) rfl rfl) ?_
        refine an rfl (aU (v:= .int .i64 ((eG (br s.f) y.xs).2)) rfl rfl) ?_
        refine nh (m:=j6 Tryz.prog 54) rfl rfl jo (Cert.none rfl) fun om=> ?_
        change Ln _ _ _ _ _ _ _ _ (cl _ _ (.pointer (some ⟨om,0,none⟩))) (ar om (bN kB) 54::_) _
        refine dr rfl (ng rfl rfl ⟨fun _ hw=>ai.mem hw,?_⟩)
        refine an rfl (bj rfl) ?_
        refine Gc ?_
        iterate 2 refine Gs ?_
        refine Gc ?_
        refine au rfl (fun h8=> ?_) (fun h8=> ?_)
        ·
         replace h8:=bz h8
         refine Gc ?_
         refine Gs ?_
         refine Gc ?_
         refine aq (.inl rfl) (aG rfl (al rfl)) (fun w1 hw=> ?_)
         exact⟨congrArg (fun b=>Ending.returned (Value.bool b)) (rfl),ai.mem hw⟩
        ·
         replace h8:=bz h8
         iterate 2 refine Gi ?_
         refine wT (X:=Sl Rt) (fun zz=>[(12,zz.sv.val),(1,l.sv.val),(3, .int .i64 bits),(6, .pointer (some ⟨b6,0,none⟩)),(10, .pointer (some ⟨lz,0,none⟩)),(13, .int .i64 (i:Nat)),(16, .pointer (some ⟨om,0,none⟩))]) (fun zz=>[fz zz,fz jG,ar om (bN jG) 54,ar lz (bN s.f) 54,ar b6 (cn k) 56,ar b4 (az (⟨c.ae,c.size,c.blocks,c.ops,c.off,⟨Sv.none,[]⟩⟩:Cp)) 25]) (fun zz=>zz.xs=jG.table.xs) ?_ ?_
         ·
          refine Gc ?_
          iterate 2 refine Gs ?_
          refine Gc ?_
          refine au rfl (fun h9=> ?_) (fun h9=> ?_)
          ·
           replace h9:=bz h9
           have FR:(eG (br s.f) y.xs).2=0:=h9
           obtain⟨r1,r2⟩:=q4 FR
           refine Gc ?_
           iterate 2 refine Gs ?_
           refine Gc ?_
           refine au rfl (fun kP=> ?_) (fun kP=> ?_)
           ·
            exfalso;rw[pn,show et s.f.table.xs y.xs=0 from r1]at kP;simp at kP
           ·
            replace kP:=bz kP
            refine Gc ?_
            iterate 2 refine Gs ?_
            refine Gi ?_
            exact pE (⟨ql,c0 s.h.xs y.xs⟩:Sl Rt) (by show c0 s.h.xs y.xs=_;rw[pn];exact r2.symm) (Sub.cons rfl (Sub.cons rfl (Sub.cons rfl (Sub.cons rfl (Sub.cons rfl (Sub.cons rfl (Sub.cons rfl (Sub.nil _)))))))) (fun w hw=>ai.mem (vJ (a:=(⟨ql,c0 s.h.xs y.xs⟩:Sl Rt)) (ai.mem hw:Mem _ [own ax 19 ql (c0 s.h.xs y.xs),fz jG,ar om (bN jG) 54,ar lz (bN s.f) 54,ar b6 (cn k) 56,ar b4 (az (⟨c.ae,c.size,c.blocks,c.ops,c.off,⟨Sv.none,[]⟩⟩:Cp)) 25] _)))
          ·
           replace h9:=bz h9
           have FR:(eG (br s.f) y.xs).2≠0:=h9
           have r2:=q5 FR
           refine Gi ?_
           exact pE s.h (by rw[pn];exact r2.symm) (Sub.cons rfl (Sub.cons rfl (Sub.cons rfl (Sub.cons rfl (Sub.cons rfl (Sub.cons rfl (Sub.cons rfl (Sub.nil _)))))))) (fun w hw=>ai.mem (Yw (ai.mem hw:Mem _ [fz s,fz jG,ar om (bN jG) 54,ar lz (bN s.f) 54,ar b6 (cn k) 56,ar b4 (az (⟨c.ae,c.size,c.blocks,c.ops,c.off,⟨Sv.none,[]⟩⟩:Cp)) 25] _)))
         ·
          rintro u hj
          have hul:u.xs.length≤1000000:=by rw[hj];exact q9.2.2
          refine Gc ?_
          iterate 2 refine Gs ?_
          refine ag (gA rfl) ?_
          refine bn rfl trivial fun Mu YA=> ?_
          have YB:br Mu=br jG:=by rw[YA];exact congrArg Prod.fst q8
          have YC:(cB (cv jG.av.ah)).2=0:=congrArg Prod.snd q8
          refine Gs ?_
          refine ag (aU (v:= .agg (bN Mu)) rfl rfl) ?_
          refine ag (aU (v:= .int .i64 ((cB (cv jG.av.ah)).2)) rfl rfl) ?_
          refine bH fun b18=> ?_
          iterate 2 refine Gs ?_
          refine Gc ?_
          iterate 5 refine Gs ?_
          refine ag (aU (v:= .agg (ax (pd (br jG) k bits))) rfl rfl) ?_
          refine ag (aU (v:= .int .i64 (pe (br jG) k bits)) rfl rfl) ?_
          refine bH fun gv=> ?_
          iterate 2 refine Gs ?_
          refine Gc ?_
          iterate 5 refine Gs ?_
          refine ag (aU (v:= .agg (ax (qd u.xs k bits))) rfl rfl) ?_
          refine ag (aU (v:= .int .i64 (qe u.xs k bits)) rfl rfl) ?_
          refine bH fun uc=> ?_
          iterate 2 refine Gs ?_
          refine Gc ?_
          iterate 3 refine Gs ?_
          refine eS (cy rfl (by omega)) ?_
          iterate 2 refine Gs ?_
          iterate 2 refine Gg ?_
          iterate 2 refine Gs ?_
          refine bQ rfl rfl rfl (fun hg=>(Ry.yl (eR rfl))) ?_
          refine bQ rfl rfl rfl (fun hg=>(Ry.yl (eR rfl))) ?_
          refine bQ rfl rfl rfl (fun hg=>cy (dw (aF hg rfl) (dw (aF hg rfl) gg)) trivial) ?_
          refine bQ rfl rfl rfl (fun hg=>(Ry.yl (ig (aF hg rfl)))) ?_
          iterate 2 refine Gs ?_
          refine bQ rfl rfl rfl (fun hg=>(Ry.yl (eR rfl))) ?_
          refine bQ rfl rfl rfl (fun hg=>(Ry.yl (eR rfl))) ?_
          refine bQ rfl rfl rfl (fun hg=>(Ry.yl (zg (aF hg rfl) (aF hg rfl)))) ?_
          iterate 2 refine Gs ?_
          iterate 3 refine Gg ?_
          refine Gs ?_
          refine Gc ?_
          refine au rfl (fun BI=> ?_) (fun BI=> ?_)
          ·
           exfalso;simp[hj,YB,YC,Mt.1,Mt.2]at BI
          ·
           replace BI:=bz BI
           refine Gc ?_
           iterate 2 refine Gs ?_
           refine Gc ?_
           iterate 3 refine Gs ?_
           refine Gi ?_
           exact bu (x:=(i,s)) (i+1,⟨jG,u⟩) ⟨by first|omega|(simp only[];omega),q1,q2,q3,hj⟩ (by simp only;omega) (Sub.cons rfl (Sub.cons rfl (Sub.cons rfl (Sub.cons rfl (Sub.cons rfl (Sub.cons rfl (Sub.nil _))))))) (fun w hw=>ai.mem (Yu (f:=jG) (a:=u) (ai.mem hw:Mem _ [fz jG,fz u,ar lz (bN jG) 54,ar b6 (cn k) 56,ar b4 (az (⟨c.ae,c.size,c.blocks,c.ops,c.off,⟨Sv.none,[]⟩⟩:Cp)) 25] _)))
      ·
       replace h6:=bz h6
       refine Gc ?_
       refine Gs ?_
       refine Gc ?_
       refine aq (.inl rfl) (aG rfl (al rfl)) (fun w1 hw=> ?_)
       exact⟨congrArg (fun b=>Ending.returned (Value.bool b)) (rfl),ai.mem hw⟩
open Go.aB Go.Kb
open Go.RowKit
end Go.Proofs.YtaipiecplldinaaGreat
namespace Go.aB
open Go.ChangeShapes Go.WideShapes Go.ChangeAt Go.RowKit Go.Kb
variable {H:Type} {enc:TypeId×Value→H} {P:Program}
theorem Mv(hl:laidOutB P=true){W W':World}{sp:Nat→Bool}: ∀{ts:List TypeId} {vs:List Value} {ds:List (DataW H)} {ps:List MemPlace},
  (∀t∈ts,P.readableRec t=true∧t<P.types.size)→DataW.TrodAll enc P W 0 (fun _=>true) true ts vs ds ps→(∀p∈ps,W.sameAt W' p)→(∀p∈ps,sp p.block=true)→
  DataW.TrodAll enc P W' 0 sp true ts vs ds ps
 |[],_,_,_,_,h,_,_=>by
  obtain⟨rfl,rfl,rfl⟩:=trodAll_nil h
  exact rfl
 |t::_,_,_,_,ht,h,hs,hp=>by
  obtain⟨v,Mw,d,Mx,a,b,rfl,rfl,rfl,h1,h2⟩:=trodAll_cons h
  exact⟨a,b,WideElems.Trod_stays hl (ht t (by simp)).1 (ht t (by simp)).2 h1 (fun p h=>hs p (by simp[h])) (fun p h=>hp p (by simp[h])),
   Mv hl (fun t h=>ht t (by simp[h])) h2 (fun p h=>hs p (by simp[h])) (fun p h=>hp p (by simp[h])),rfl⟩
theorem FT{W:World}{b:Nat}{sp:Nat→Bool}{hd:Bool}: ∀{ts:List TypeId} {vs:List Value} {ds:List (DataW H)} {ps:List MemPlace},
  DataW.TrodAll enc P W b sp hd ts vs ds ps→vs.length=ts.length∧ds.length=ts.length
 |[],_,_,_,h=>by
  obtain⟨rfl,rfl,rfl⟩:=trodAll_nil h
  exact⟨rfl,rfl⟩
 |_::_,_,_,_,h=>by
  obtain⟨v,Mw,d,Mx,a,b,rfl,rfl,rfl,h1,h2⟩:=trodAll_cons h
  have:=FT h2
  simp[this.1,this.2]
theorem YD(hl:laidOutB P=true){f:Func}{s:ChangeSpec}{apart fresh handsOn:Bool}{W W':World}{args:Array Value}{ds gs:List (DataW H)}{before:List MemPlace}{tb:TypeId}
  (hp:f.params.toList.all (fun t=>P.readableRec t&&decide (t<P.types.size))=true) (hr:f.resultTypes= #[tb]) (hb:P.underlying tb=some .bool) (hv:s.vars=[])
  (FU: ∀ds:List (DataW H),ds.length=f.params.size→s.fn H ds={results:=[.lit (.bool true)],args:=ds})
  (hW:DataW.Whole enc P f.params.toList s.vars apart W args.toList ds gs before) (My:Below W.heap.size W W'):
  s.post enc P f apart fresh handsOn false W args (.bool true) W':=by
 have bo:=hW.lt
 have YE:=hW
 obtain⟨p,q,hA,hV,rfl,kI,ck⟩:=hW
 rw[hv]at hV
 obtain⟨rfl,rfl⟩:=trodVars_none hV
 have hlen:=FT hA
 have e1:s.fn H (ds++[])={results:=[.lit (.bool true)],args:=ds}:=by rw[List.append_nil];exact FU ds (by rw[hlen.2];simp)
 have ky: ∀t∈f.params.toList,P.readableRec t=true∧t<P.types.size:=fun t ht=>by
  simpa using List.all_eq_true.1 hp t ht
 refine⟨ds,[],p++[],[],p,[],YE,?_,?_,?_,My.frame _,fun h=>by cases h⟩
 ·
  rw[e1,hr];exact trodAll_mk1 (shut_bool hb true)
 ·
  rw[e1]
  exact Mv hl ky hA (fun x hx=>My.same (bo x (by simp[hx]))) (fun x hx=>by simpa using bo x (by simp[hx]))
 ·
  rw[e1,hv];exact rfl
theorem YF{w:World}{b:Nat}{e:TypeId}{v:Value}(he:P.underlying e=some (.int .i64))(h:Cell.okWide P w .any b e v): ∃n:Int,v= .int .i64 n∧ -2^63≤n∧n<2^63:=by
 cases v with
 |int k n=>
  simp only[Cell.okWide,he,Cell.ok,IntKind.has]at h
  obtain⟨rfl,h1,h2⟩:=h
  have a1:(-2^63:Int)≤n:=h1
  have a2:n≤(2^63 -1:Int):=h2
  exact⟨n,rfl,a1,by omega⟩
 |_=>simp[Cell.okWide,he,Cell.ok]at h
theorem YG{w:World}{b:Nat}{t:TypeId}{v:Value}(he:P.underlying t=some (.int .i64))(h:Value.okWide P w .any b t v): ∃n:Int,v= .int .i64 n∧ -2^63≤n∧n<2^63:=by
 unfold Value.okWide at h
 rw[he]at h
 exact YF he h
theorem Mz{α:Type}{l:List α}(h:l.length=4): ∃a b c d,l=[a,b,c,d]:=match l,h with|[a,b,c,d],_=>⟨a,b,c,d,rfl⟩
open Go.ChangeShapes Go.WideShapes Go.ChangeAt Go.RowKit Go.Kb
variable {P:Program}
theorem FW{α:Type}{p:Nat→α→Prop}: ∀{n:Nat},(∀i,i<n→ ∃x,p i x)→ ∃l:List α,l.length=n∧ ∀i x,l[i]? =some x→p i x
 |0,_=>⟨[],rfl,fun i x h=>by simp at h⟩
 |n+1,h=>by
  obtain⟨l,hl,hp⟩:=FW (n:=n) fun i hi=>h i (by omega)
  obtain⟨x,hx⟩:=h n (by omega)
  refine⟨l++[x],by simp[hl],fun i y hy=> ?_⟩
  by_cases hi:i<n
  ·
   rw[List.getElem?_append_left (by omega)]at hy;exact hp i y hy
  ·
   have:i=n:=by
    have:=(List.getElem?_eq_some_iff.1 hy).1
    rw[List.length_append,hl]at this;simp at this;omega
   subst this
   rw[List.getElem?_append_right (by omega),hl]at hy
   have:x=y:=by simpa using hy
   exact this▸hx
class gf(P:Program)(t:TypeId)(τ:Type)[Deep τ]:Prop where
 sz:P.cellsOf t=Deep.c τ
 h: ∀{H:Type} {enc:TypeId×Value→H} {w:World} {fuel:Nat} {cs:List Value} {d:DataW H} {ps:List MemPlace},DataW.trod enc P w 0 (fun _=>true) true fuel t cs=some (d,ps)→(∀n∈d.weights P t,n≤reachBytes)→
  ∃x:τ,(Deep.cells x).toList=cs∧Deep.aY (hp w) x
theorem YH{w:World}{b:Nat}{a:Addr}{n:Nat}{cs:List Value}(h:w.cells? b a n=some cs):cs.length=n∧ ∀j,j<n→w.cell? (a.add j)=cs[j]? :=by
 unfold World.cells? at h
 split at h
 ·
  have hl:=mapM_some_length h
  refine⟨by simpa using hl,fun j hj=> ?_⟩
  exact mapM_some_get h j j (by simp[hj])
 ·
  cases h
theorem FX{H:Type}{e:TypeId}{n:Nat}: ∀{l:List (DataW H)} {d:DataW H},d∈l→n∈d.weights P e→n∈DataW.weightsAll P e l
 |x::l,d,hd,hn=>by
  rw[DataW.weightsAll]
  rcases List.mem_cons.1 hd with rfl|hd
  ·
   exact List.mem_append_left _ hn
  ·
   exact List.mem_append_right _ (FX hd hn)
theorem FY{H:Type}{n:Nat}: ∀{ts:List TypeId} {l:List (DataW H)} {i:Nat} {t:TypeId} {d:DataW H},ts[i]? =some t→l[i]? =some d→n∈d.weights P t→n∈DataW.weightsEach P ts l
 |[],_,i,_,_,h,_,_=>by simp at h
 |_::_,[],i,_,_,_,h,_=>by simp at h
 |t0::ts,d0::l,0,t,d,ht,hd,hn=>by
  obtain rfl:t0=t:=by simpa using ht
  obtain rfl:d0=d:=by simpa using hd
  rw[DataW.weightsEach];exact List.mem_append_left _ hn
 |t0::ts,d0::l,i+1,t,d,ht,hd,hn=>by
  rw[DataW.weightsEach];exact List.mem_append_right _ (FY (i:=i) (by simpa using ht) (by simpa using hd) hn)
theorem YI:reachBytes≤140737488355328:=by decide
theorem oB{t e:TypeId}{τ:Type}[Deep τ](hu:P.underlying t=some (.slice e))(lK:Nat.ble 1 (P.bytesOf e)=true)(hc:1≤Deep.c τ)(hs:P.cellsOf t=1)[o:gf P e τ]:gf P t (Sl τ):=⟨hs,fun{H enc w fuel cs d ps} h hw=>by
 have hb:1≤P.bytesOf e:=Nat.le_of_ble_eq_true lK
 rcases Go.Deep.open_slice hu h with⟨rfl,_⟩|⟨a,len,cap,m,n,D,Pl,rfl,_,hl,_,hm,hx,zL⟩
 ·
  exact⟨⟨Sv.none,[]⟩,rfl,tj⟩
 ·
  simp only[if_true]at hm
  subst hm
  have hd:d= .slice ((List.range len).map D) ((List.range (m -len)).map fun j=>D (len+j)):=congrArg Prod.fst hx
  subst hd
  simp only[DataW.weights,hu,List.length_map,List.length_range]at hw
  have td:m≤140737488355328:=by
   have h1:=hw _ (List.mem_cons_self ..)
   have h2:(len+(m -len))*1≤(len+(m -len))*P.bytesOf e:=Nat.mul_le_mul_left _ hb
   have:=YI;omega
  have MA: ∀i,i<m→ ∃cs',(cs'.length=Deep.c τ∧ ∀j,j<Deep.c τ→w.cell? ((a.add (i*Deep.c τ)).add j)=cs'[j]?)∧DataW.trod enc P w 0 (fun _=>true) true n e cs'=some (D i,Pl i):=fun i hi=>by
   obtain⟨cs',h1,h2⟩:=zL i hi
   rw[o.sz]at h1
   exact⟨cs',YH h1,h2⟩
  have MB:0<m→a.spot=none:=fun hm=>by
   obtain⟨cs',⟨h1,h2⟩,_⟩:=MA 0 hm
   have h3:=h2 0 (by omega)
   have e0:(a.add (0*Deep.c τ)).add 0=a:=by simp[Addr.add]
   rw[e0,List.getElem?_eq_getElem (by omega)]at h3
   unfold World.cell? at h3
   split at h3
   ·
    split at h3
    ·
     cases h3
    ·
     rename_i hs;simpa using hs
   ·
    cases h3
  obtain⟨l,la,BJ⟩:=FW (p:=fun i (x:τ)=>(∀j,j<Deep.c τ→w.cell? ((a.add (i*Deep.c τ)).add j)=(Deep.cells x)[j]?)∧Deep.aY (hp w) x) (n:=len) fun i hi=>by
   obtain⟨cs',⟨h1,h2⟩,h3⟩:=MA i (by omega)
   obtain⟨x,l5,jj⟩:=o.h h3 (fun k hk=>hw k (List.mem_cons_of_mem _ (List.mem_append_left _ (FX (List.mem_map.2 ⟨i,List.mem_range.2 hi,rfl⟩) hk))))
   refine⟨x,fun j hj=> ?_,jj⟩
   rw[h2 j hj,←l5];simp
  refine⟨⟨⟨false,a.block,a.off,len,m,a.spot⟩,l⟩,rfl,⟨⟨(fun h=>by cases h),hl,by simp only;omega,MB⟩,by simp[la],fun i x hi j hj=> ?_⟩,fun x hx=> ?_⟩
  ·
   have eT:i<len:=by rw[←la];exact(List.getElem?_eq_some_iff.1 hi).1
   have h1:=(BJ i x hi).1 j hj
   have hs:=MB (by omega)
   have ea:(a.add (i*Deep.c τ)).add j=⟨a.block,a.off+i*Deep.c τ+j,none⟩:=by
    obtain⟨ab,ao,asp⟩:=a
    simp only at hs
    subst hs
    rw[Addr.fI,Addr.fI]
   rw[ea,pG]at h1
   exact h1
  ·
   obtain⟨i,hi⟩:=List.getElem?_of_mem hx
   exact(BJ i x hi).2⟩
theorem jH{H:Type}{enc:TypeId×Value→H}{w:World}{fuel:Nat}{t:TypeId}{cs:List Value}{d:DataW H}{ps:List MemPlace}{fs:Array Field}(hu:P.underlying t=some (.struct fs))(h:DataW.trod enc P w 0 (fun _=>true) true fuel t cs=some (d,ps))(hw: ∀n∈d.weights P t,n≤reachBytes)
  {i tf off:Nat} (kX:(fs[i]?).map (fun f=>(f.type,f.offset))=some (tf,off)) (τ:Type) [Deep τ] [o:gf P tf τ]:cs.length=P.cellsOf t∧ ∃x:τ,(Deep.cells x).toList=(cs.drop off).take (Deep.c τ)∧Deep.aY (hp w) x:=by
 obtain⟨f,hf,e⟩:=Option.map_eq_some_iff.1 kX
 obtain⟨rfl,rfl⟩:=Prod.mk.inj e
 obtain⟨xs,n,_,hx,hl,hlen,hg⟩:=DataW.trod_struct hu h
 have h1:=hg i f hf
 have hi:i<xs.length:=by rw[hlen];exact(Array.getElem?_eq_some_iff.1 hf).1
 rw[List.getElem?_eq_getElem hi,o.sz]at h1
 have hd:d= .agg (xs.map (·.1)):=congrArg Prod.fst hx
 subst hd
 obtain⟨x,l5,jj⟩:=o.h (d:=xs[i].1) (ps:=xs[i].2) h1 (fun k hk=>hw k (by
  simp only[DataW.weights,hu]
  exact FY (i:=i) (t:=f.type) (d:=xs[i].1) (by
   have:fs.toList[i]? =some f:=by simpa using hf
   rw[List.getElem?_map,this];rfl) (by simp[hi]) hk))
 exact⟨hl,x,l5,jj⟩
theorem YJ{H:Type}{enc:TypeId×Value→H}{w:World}{fuel:Nat}{t e:TypeId}{m:Nat}{cs:List Value}{d:DataW H}{ps:List MemPlace}(hu:P.underlying t=some (.array m e))(h:DataW.trod enc P w 0 (fun _=>true) true fuel t cs=some (d,ps))(hw: ∀n∈d.weights P t,n≤reachBytes)
  (τ:Type) [Deep τ] [o:gf P e τ]:cs.length=P.cellsOf t∧ ∀i,i<m→ ∃x:τ,(Deep.cells x).toList=(cs.drop (i*Deep.c τ)).take (Deep.c τ)∧Deep.aY (hp w) x:=by
 cases fuel with
 |zero=>simp[DataW.trod]at h
 |succ n=>
  unfold DataW.trod at h
  rw[hu]at h
  split at h<;>simp_all
  rename_i m' e' heq
  obtain⟨hl,xs,gl,hd⟩:=h
  obtain⟨rfl,rfl⟩:=heq
  intro i hi
  have hlen:=mapM_some_length gl
  have mq:i<xs.length:=by simpa[hlen]using hi
  have h1:=mapM_some_get gl i i (by simp[hi])
  rw[List.getElem?_eq_getElem mq,o.sz]at h1
  obtain⟨rfl,-⟩:=hd
  exact o.h (d:=xs[i].1) (ps:=xs[i].2) h1 (fun k hk=>hw k (by
   simp only[DataW.weights,hu]
   exact FX (List.mem_map_of_mem (List.getElem_mem mq)) hk))
theorem wx{α:Type}{cs:List α}{a b:Nat}(h:cs.length=a+b):(cs.drop 0).take a++(cs.drop a).take b=cs:=by
 rw[List.drop_zero,List.take_of_length_le (l:=cs.drop a) (by rw[List.length_drop];omega),List.take_append_drop]
theorem YK{α:Type}{cs:List α}{a b c:Nat}(h:cs.length=a+b+c):(cs.drop 0).take a++(cs.drop a).take b++(cs.drop (a+b)).take c=cs:=by
 have h1:=wx (cs:=cs) (a:=a+b) (b:=c) (by omega)
 conv=>rhs;rw[←h1]
 congr 1
 rw[List.drop_zero,List.take_add]
theorem FZ{α:Type}{cs:List α}{a b c d:Nat}(h:cs.length=a+b+c+d):(cs.drop 0).take a++(cs.drop a).take b++(cs.drop (a+b)).take c++(cs.drop (a+b+c)).take d=cs:=by
 have h1:=wx (cs:=cs) (a:=a+b+c) (b:=d) (by omega)
 conv=>rhs;rw[←h1]
 congr 1
 rw[List.drop_zero,List.take_add,List.take_add]
def BK(n:Int):Array Value:= #[.int .i64 n]
instance:bx BK 1:=⟨fun _=>rfl,fun _=>by simp[BK,Value.oneCell']⟩
instance:Deep Int:=Deep.flat BK 1
def yU(n:UInt16):Array Value:= #[.int .u16 n.toNat]
instance:bx yU 1:=⟨fun _=>rfl,fun _=>by simp[yU,Value.oneCell']⟩
instance:Deep UInt16:=Deep.flat yU 1
def yV(b:Bool):Array Value:= #[.bool b]
instance:bx yV 1:=⟨fun _=>rfl,fun _=>by simp[yV,Value.oneCell']⟩
instance:Deep Bool:=Deep.flat yV 1
theorem YL{t:TypeId}(hu:P.underlying t=some (.int .i64))(hs:P.cellsOf t=1):gf P t Int:=⟨hs,fun h _=>by
 obtain⟨n,rfl,_,_⟩:=DataW.trod_int hu h
 exact⟨n,rfl,trivial⟩⟩
theorem YM{t:TypeId}(hu:P.underlying t=some (.int .u8))(hs:P.cellsOf t=1):gf P t UInt8:=⟨hs,fun h _=>by
 obtain⟨n,rfl,_,hw⟩:=DataW.trod_int hu h
 simp only[Lit.wf,Bool.and_eq_true,decide_eq_true_eq]at hw
 have h1:(0:Int)≤n:=hw.1
 have h2:n≤(255:Int):=hw.2
 refine⟨UInt8.ofNat n.toNat,?_,trivial⟩
 have:((UInt8.ofNat n.toNat).toNat:Int)=n:=by simp;omega
 show(aM (UInt8.ofNat n.toNat)).toList=_
 simp only[aM,this]⟩
theorem YN{t:TypeId}(hu:P.underlying t=some (.int .u16))(hs:P.cellsOf t=1):gf P t UInt16:=⟨hs,fun h _=>by
 obtain⟨n,rfl,_,hw⟩:=DataW.trod_int hu h
 simp only[Lit.wf,Bool.and_eq_true,decide_eq_true_eq]at hw
 have h1:(0:Int)≤n:=hw.1
 have h2:n≤(65535:Int):=hw.2
 refine⟨UInt16.ofNat n.toNat,?_,trivial⟩
 have:((UInt16.ofNat n.toNat).toNat:Int)=n:=by simp;omega
 show(yU (UInt16.ofNat n.toNat)).toList=_
 simp only[yU,this]⟩
theorem open_bool{t:TypeId}(hu:P.underlying t=some .bool)(hs:P.cellsOf t=1):gf P t Bool:=⟨hs,fun h _=>by
 obtain⟨n,rfl,_⟩:=DataW.trod_bool hu h
 exact⟨n,rfl,trivial⟩⟩
theorem YO{H:Type}{enc:TypeId×Value→H}{w:World}{b:Nat}{t e:TypeId}{τ:Type}[Deep τ][o:gf P t (Sl τ)](hu:P.underlying t=some (.slice e)){v:Value}{d:DataW H}{ps:List MemPlace}(hv:Value.okWide P w .any b t v)(h:DataW.Trod enc P w 0 (fun _=>true) true t v d ps)(hw: ∀n∈d.weights P t,n≤reachBytes):
  ∃x:Sl τ,v=x.sv.val∧Deep.aY (hp w) x:=by
 obtain⟨fuel,h⟩:=h
 obtain⟨x,h1,h2⟩:=o.h h hw
 refine⟨x,?_,h2⟩
 have hc:v.cells= #[v]:=by
  unfold Value.okWide at hv
  rw[hu]at hv
  unfold Cell.okWide at hv
  rw[hu]at hv
  cases v<;>simp_all[Cell.ok,Value.cells]
 rw[hc]at h1
 have:[x.sv.val]=[v]:=h1
 simpa using this.symm
theorem YP{H:Type}{enc:TypeId×Value→H}{w:World}{b:Nat}{t:TypeId}{τ:Type}[Deep τ][o:gf P t τ](hu: ∃d,P.underlying t=some d∧rA d=true){v:Value}{d:DataW H}{ps:List MemPlace}(hv:Value.okWide P w .any b t v)(h:DataW.Trod enc P w 0 (fun _=>true) true t v d ps)(hw: ∀n∈d.weights P t,n≤reachBytes):
  ∃x:τ,v= .agg (Deep.cells x)∧Deep.aY (hp w) x:=by
 obtain⟨fuel,h⟩:=h
 obtain⟨x,h1,h2⟩:=o.h h hw
 refine⟨x,?_,h2⟩
 obtain⟨dd,KJ,DB⟩:=hu
 have hc: ∃cs,v= .agg cs:=by
  unfold Value.okWide at hv
  rw[KJ]at hv
  cases dd<;>simp[rA]at DB
  ·
   obtain⟨cs,rfl,_⟩:=hv;exact⟨cs,rfl⟩
  ·
   obtain⟨cs,rfl,_⟩:=hv;exact⟨cs,rfl⟩
 obtain⟨cs,rfl⟩:=hc
 have:(Deep.cells x).toList=cs.toList:=h1
 rw[Array.toList_inj.1 this]
structure Arg(H:Type)(enc:TypeId×Value→H)(P:Program)(W:World)(b:Nat)(t:TypeId)(v:Value):Prop where
 ok:Value.okWide P W .any b t v
 trod: ∃d ps,DataW.Trod enc P W 0 (fun _=>true) true t v d ps∧ ∀n∈d.weights P t,n≤reachBytes
theorem Arg.sl{H:Type}{enc:TypeId×Value→H}{W:World}{b:Nat}{t e:TypeId}{v:Value}(h:Arg H enc P W b t v)(hu:P.underlying t=some (.slice e))(τ:Type)[Deep τ][o:gf P t (Sl τ)]: ∃x:Sl τ,v=x.sv.val∧Deep.aY (hp W) x:=by
 obtain⟨d,ps,h1,h2⟩:=h.trod
 exact YO hu h.ok h1 h2
theorem Arg.agg{H:Type}{enc:TypeId×Value→H}{W:World}{b:Nat}{t:TypeId}{v:Value}(h:Arg H enc P W b t v){n:Nat}(hu:fc P t n)(τ:Type)[Deep τ][o:gf P t τ]: ∃x:τ,v= .agg (Deep.cells x)∧Deep.aY (hp W) x:=by
 obtain⟨d,ps,h1,h2⟩:=h.trod
 exact YP hu.row h.ok h1 h2
theorem MC{H:Type}{enc:TypeId×Value→H}{W:World}{sp:Nat→Bool}{hd:Bool}: ∀{ts:List TypeId} {vs:List Value} {ds:List (DataW H)} {ps:List MemPlace},DataW.TrodAll enc P W 0 sp hd ts vs ds ps→ ∀(j:Nat) (t:TypeId) (v:Value),ts[j]? =some t→vs[j]? =some v→
  ∃d p,ds[j]? =some d∧DataW.Trod enc P W 0 sp hd t v d p
 |[],_,_,_,h,j,_,_,ht,_=>by simp at ht
 |t0::ts,vs,ds,ps,h,j,t,v,ht,hv=>by
  obtain⟨v0,Mw,d0,Mx,a,b,rfl,rfl,rfl,h1,h2⟩:=trodAll_cons h
  cases j with
  |zero=>
   obtain rfl:t0=t:=by simpa using ht
   obtain rfl:v0=v:=by simpa using hv
   exact⟨d0,a,rfl,h1⟩
  |succ j=>exact MC h2 j t v (by simpa using ht) (by simpa using hv)
theorem YQ{H:Type}{enc:TypeId×Value→H}{C:Checked}{os:Os}{f:FuncId}{fn:Func}{s:ChangeSpec}{conds:List PathCond}{apart fresh handsOn:Bool}{tb:TypeId}
  (own:ownKnob C.prog.godebug=none) (started:os.Started) (YR:C.prog.inits.idxOf? f=none) (YS:C.prog.funcs[f]? =some fn)
  (YT: ∃(w:World) (tape:Tape) (i:Input),w.os=os∧(w.forCall tape i).Shaped C.prog∧i.vars=[]∧Input.okWide C.prog (w.forCall tape i) .any w.heap.size f i∧
   s.pre6 enc C.prog fn conds apart (w.forCall tape i).memory i.args∧({}:Assume).holds C.prog (lone (Frame.enter C.prog f i.args .normal) [] (w.forCall tape i)))
  (hl:laidOutB C.prog=true) (hp:fn.params.toList.all (fun t=>C.prog.readableRec t&&decide (t<C.prog.types.size))=true) (hr:fn.resultTypes= #[tb]) (hb:C.prog.underlying tb=some .bool)
  (hv:s.vars=[]) (FU: ∀ds:List (DataW H),ds.length=fn.params.size→s.fn H ds={results:=[.lit (.bool true)],args:=ds})
  (YU: ∀(W:World) (base:Nat) (vs:List Value),vs.length=fn.params.size→(∀(j:Nat) t v,fn.params[j]? =some t→vs[j]? =some v→Arg H enc C.prog W base t v)→
   Calls C.prog f vs.toArray W fun e W'=>e= .returned (.bool true)∧Mem W [] W'):
  ReturnsInHanded {} C os f .any (s.pre6 enc C.prog fn conds apart) (s.post enc C.prog fn apart fresh handsOn false):=by
 refine returnsInHanded_of_change_shaped own started YR YS YT ?_
 intro W base args ds gs before YV hW _ nH _ _
 have hlen:args.toList.length=fn.params.size:=by
  obtain⟨p,q,hA,_⟩:=hW
  rw[(FT hA).1];simp
 have h:=YU W base args.toList hlen (fun j t v h1 h2=>⟨YV j t v h1 (by simpa using h2),by
  obtain⟨p,q,hA,_⟩:=hW
  obtain⟨d,pp,hd,ht⟩:=MC hA j t v (by simpa using h1) h2
  refine⟨d,pp,ht,fun n hn=> ?_⟩
  have hh:=List.all_eq_true.1 nH n (FY (i:=j) (t:=t) (d:=d) (by rw[List.getElem?_append_left (by have:=(Array.getElem?_eq_some_iff.1 h1).1;simpa using this)];simpa using h1)
   (by rw[List.getElem?_append_left (List.getElem?_eq_some_iff.1 hd).1];exact hd) hn)
  simpa using hh⟩)
 rw[Array.toArray_toList]at h
 exact h.mono fun e W' hh=>⟨_,hh.1,YD hl hp hr hb hv FU hW hh.2.below⟩
end Go.aB
namespace Go.Proofs.YtaipiecplldinaaGreat
open Go.aB Go.Kb
instance op3:gf Tryz.prog 3 Int:=YL Tryz.underlying3 (by kernel_rfl)
instance op4:gf Tryz.prog 4 Bool:=open_bool Tryz.underlying4 (by kernel_rfl)
instance op5:gf Tryz.prog 5 UInt8:=YM Tryz.underlying5 (by kernel_rfl)
instance agO:gf Tryz.prog 66 UInt16:=YN Tryz.underlying66 (by kernel_rfl)
instance:bx cn 16:=⟨fX,fun k=>(inferInstance:fw (cn k) 16).one⟩
instance:Deep Key:=Deep.flat cn 16
instance:bx cQ 18:=⟨m9,fun k=>(inferInstance:fw (cQ k) 18).one⟩
instance:Deep cX:=Deep.flat cQ 18
instance agP:gf Tryz.prog 56 Key:=⟨by kernel_rfl,fun h hw=>by
 obtain⟨hl,he⟩:=YJ Tryz.underlying56 h hw UInt8
 rw[show Tryz.prog.cellsOf 56=16 from by kernel_rfl]at hl
 obtain⟨l,la,BJ⟩:=FW (p:=fun i (x:UInt8)=>_) he
 refine⟨m8 fun i=>(l.getD i 0).toNat,?_,trivial⟩
 refine List.ext_getElem? fun i=> ?_
 rw[Array.getElem?_toList]
 rcases Nat.lt_or_ge i 16 with hi|hi
 ·
  have hx:l[i]? =some (l.getD i 0):=m0 (by omega)
  have h1:=congrArg (·[0]?) (BJ i _ hx).1
  simp only[List.getElem?_take,List.getElem?_drop]at h1
  rw[if_pos (by decide),show i*Deep.c UInt8+0=i from Nat.mul_one i]at h1
  have h3:some (Value.int .u8 (l.getD i 0).toNat)=_:=h1
  have e8:(l.getD i 0).toNat%2^8=(l.getD i 0).toNat:=Nat.mod_eq_of_lt (l.getD i 0).toNat_lt
  show(cn _)[i]? =_
  rw[kJ _ _ hi,xi _ _ hi,e8,←h3]
 ·
  show(cn _)[i]? =_
  rw[G0 _ _ hi,List.getElem?_eq_none (by omega)]⟩
instance agQ:gf Tryz.prog 65 cX:=⟨by kernel_rfl,fun h hw=>by
 obtain⟨hl,x0,h0,-⟩:=jH Tryz.underlying65 h hw (i:=0) (tf:=3) (off:=0) rfl Int
 obtain⟨-,x1,h1,-⟩:=jH Tryz.underlying65 h hw (i:=1) (tf:=3) (off:=1) rfl Int
 obtain⟨-,x2,h2,-⟩:=jH Tryz.underlying65 h hw (i:=2) (tf:=56) (off:=2) rfl Key
 refine⟨⟨x0,x1,x2⟩,?_,trivial⟩
 refine Eq.trans ?_ (YK (a:=1) (b:=1) (c:=16) (hl.trans (by kernel_rfl)))
 rw[show(Deep.cells (⟨x0,x1,x2⟩:cX)).toList=(Deep.cells x0).toList++(Deep.cells x1).toList++(Deep.cells x2).toList from by show(cQ _).toList=_;unfold cQ;rw[Array.toList_append];rfl,h0,h1,h2]
 rfl⟩
instance agR:gf Tryz.prog 68 Rt:=⟨by kernel_rfl,fun h hw=>by
 obtain⟨hl,x0,h0,-⟩:=jH Tryz.underlying68 h hw (i:=0) (tf:=65) (off:=0) rfl cX
 obtain⟨-,x1,h1,-⟩:=jH Tryz.underlying68 h hw (i:=1) (tf:=66) (off:=18) rfl UInt16
 refine⟨⟨x0,x1⟩,?_,trivial⟩
 refine Eq.trans ?_ (wx (a:=18) (b:=1) (hl.trans (by kernel_rfl)))
 rw[show(Deep.cells (⟨x0,x1⟩:Rt)).toList=(Deep.cells x0).toList++(Deep.cells x1).toList from by show(ax _).toList=_;unfold ax;rw[Array.toList_append];rfl,h0,h1]
 rfl⟩
instance agS:gf Tryz.prog 38 (Sl UInt8):=oB Tryz.underlying38 (by kernel_rfl) (by decide) (by kernel_rfl)
instance agT:gf Tryz.prog 46 (Sl (Sl UInt8)):=oB Tryz.underlying46 (by kernel_rfl) (by decide) (by kernel_rfl)
end Go.Proofs.YtaipiecplldinaaGreat
namespace Go.aB
open Go.RowKit Go.Kb
instance (priority:=high) agU:Deep Int:=Deep.flat BK 1
open Go.RowKit Go.Kb
instance (priority:=high) agV:Deep Bool:=Deep.flat yV 1
theorem YW{α:Type}{cs:List α}{a b c d e f:Nat}(h:cs.length=a+b+c+d+e+f):(cs.drop 0).take a++(cs.drop a).take b++(cs.drop (a+b)).take c++(cs.drop (a+b+c)).take d++(cs.drop (a+b+c+d)).take e++(cs.drop (a+b+c+d+e)).take f=cs:=by
 have h1:=wx (cs:=cs) (a:=a+b+c+d+e) (b:=f) (by omega)
 have h2:=wx (cs:=cs.take (a+b+c+d+e)) (a:=a+b+c+d) (b:=e) (by rw[List.length_take];omega)
 have h3:=FZ (cs:=(cs.take (a+b+c+d+e)).take (a+b+c+d)) (a:=a) (b:=b) (c:=c) (d:=d) (by simp only[List.length_take];omega)
 conv=>rhs;rw[←h1]
 congr 1
 rw[List.drop_zero,List.take_add,List.take_add,List.take_add,List.take_add]
end Go.aB
namespace Go.Proofs.YtaipiecplldinaaGreat
open Go.aB Go.Kb
open Go.ChangeShapes Go.WideShapes Go.ChangeAt Go.RowKit
instance agW:gf Tryz.prog 94 Ft:=⟨by kernel_rfl,fun h hw=>by
 obtain⟨hl,x0,h0,-⟩:=jH Tryz.underlying94 h hw (i:=0) (tf:=3) (off:=0) rfl Int
 obtain⟨-,x1,h1,-⟩:=jH Tryz.underlying94 h hw (i:=1) (tf:=4) (off:=1) rfl Bool
 obtain⟨-,x2,h2,-⟩:=jH Tryz.underlying94 h hw (i:=2) (tf:=4) (off:=2) rfl Bool
 obtain⟨-,x3,h3,-⟩:=jH Tryz.underlying94 h hw (i:=3) (tf:=5) (off:=3) rfl UInt8
 refine⟨⟨x0,x1,x2,x3⟩,?_,trivial⟩
 refine Eq.trans ?_ (FZ (a:=1) (b:=1) (c:=1) (d:=1) (hl.trans (by kernel_rfl)))
 rw[show(Deep.cells (⟨x0,x1,x2,x3⟩:Ft)).toList=(Deep.cells x0).toList++(Deep.cells x1).toList++(Deep.cells x2).toList++(Deep.cells x3).toList from rfl,h0,h1,h2,h3]
 rfl⟩
instance agX:gf Tryz.prog 23 (Sl Ft):=oB Tryz.underlying23 (by kernel_rfl) (by decide) (by kernel_rfl)
instance agY:gf Tryz.prog 48 Bk:=⟨by kernel_rfl,fun h hw=>by
 obtain⟨hl,x0,h0,g0⟩:=jH Tryz.underlying48 h hw (i:=0) (tf:=46) (off:=0) rfl (Sl (Sl UInt8))
 obtain⟨-,x1,h1,-⟩:=jH Tryz.underlying48 h hw (i:=1) (tf:=3) (off:=1) rfl Int
 obtain⟨-,x2,h2,-⟩:=jH Tryz.underlying48 h hw (i:=2) (tf:=3) (off:=2) rfl Int
 obtain⟨-,x3,h3,-⟩:=jH Tryz.underlying48 h hw (i:=3) (tf:=4) (off:=3) rfl Bool
 refine⟨⟨x0,x1,x2,x3⟩,?_,g0⟩
 refine Eq.trans ?_ (FZ (a:=1) (b:=1) (c:=1) (d:=1) (hl.trans (by kernel_rfl)))
 rw[show(Deep.cells (⟨x0,x1,x2,x3⟩:Bk)).toList=(Deep.cells x0).toList++(Deep.cells x1).toList++(Deep.cells x2).toList++(Deep.cells x3).toList from rfl,h0,h1,h2,h3]
 rfl⟩
instance agZ:gf Tryz.prog 22 (Sl Bk):=oB Tryz.underlying22 (by kernel_rfl) (by decide) (by kernel_rfl)
instance ag0:gf Tryz.prog 25 Cp:=⟨by kernel_rfl,fun h hw=>by
 obtain⟨hl,x0,h0,-⟩:=jH Tryz.underlying25 h hw (i:=0) (tf:=3) (off:=0) rfl Int
 obtain⟨-,x1,h1,-⟩:=jH Tryz.underlying25 h hw (i:=1) (tf:=3) (off:=1) rfl Int
 obtain⟨-,x2,h2,g2⟩:=jH Tryz.underlying25 h hw (i:=2) (tf:=22) (off:=2) rfl (Sl Bk)
 obtain⟨-,x3,h3,-⟩:=jH Tryz.underlying25 h hw (i:=3) (tf:=3) (off:=3) rfl Int
 obtain⟨-,x4,h4,-⟩:=jH Tryz.underlying25 h hw (i:=4) (tf:=4) (off:=4) rfl Bool
 obtain⟨-,x5,h5,g5⟩:=jH Tryz.underlying25 h hw (i:=5) (tf:=23) (off:=5) rfl (Sl Ft)
 refine⟨⟨x0,x1,x2,x3,x4,x5⟩,?_,⟨g2,g5⟩⟩
 refine Eq.trans ?_ (YW (a:=1) (b:=1) (c:=1) (d:=1) (e:=1) (f:=1) (hl.trans (by kernel_rfl)))
 rw[show(Deep.cells (⟨x0,x1,x2,x3,x4,x5⟩:Cp)).toList=(Deep.cells x0).toList++(Deep.cells x1).toList++(Deep.cells x2).toList++(Deep.cells x3).toList++(Deep.cells x4).toList++(Deep.cells x5).toList from rfl,h0,h1,h2,h3,h4,h5]
 rfl⟩
open Go.aB Go.Kb
open Go.ChangeShapes Go.WideShapes Go.ChangeAt Go.RowKit
open Go.aB Go.Kb
instance (priority:=high) ag1:Deep Bool:=Deep.flat yV 1
instance ag2:gf Tryz.prog 91 Ch:=⟨by kernel_rfl,fun h hw=>by
 obtain⟨hl,x0,h0,-⟩:=jH Tryz.underlying91 h hw (i:=0) (tf:=68) (off:=0) rfl Rt
 obtain⟨-,x1,h1,-⟩:=jH Tryz.underlying91 h hw (i:=1) (tf:=4) (off:=19) rfl Bool
 refine⟨⟨x0,x1⟩,?_,trivial⟩
 refine Eq.trans ?_ (wx (a:=19) (b:=1) (hl.trans (by kernel_rfl)))
 rw[show(Deep.cells (⟨x0,x1⟩:Ch)).toList=(Deep.cells x0).toList++(Deep.cells x1).toList from by show(fh _).toList=_;unfold fh;rw[Array.toList_append];rfl,h0,h1]
 rfl⟩
instance ag3:gf Tryz.prog 76 (Sl Ch):=oB Tryz.underlying76 (by kernel_rfl) (by decide) (by kernel_rfl)
instance ag4:gf Tryz.prog 88 (Sl (Sl Ch)):=oB Tryz.underlying88 (by kernel_rfl) (by decide) (by kernel_rfl)
open Go.aB Go.Kb Go.ChangeShapes Go.WideShapes Go.ChangeAt Go.RowKit
theorem Tryz.own:ownKnob Tryz.prog.godebug=none:=by kernel_rfl
theorem Tryz.laidOut:laidOutB Tryz.prog=true:=by kernel_rfl
set_option maxRecDepth 100000 in
theorem YX{H:Type}{enc:TypeId×Value→H}(W:World)(base:Nat)(vs:List Value)(hl:vs.length=4)(h: ∀(j:Nat) t v,Tryz.f9.params[j]? =some t→vs[j]? =some v→Arg H enc Tryz.prog W base t v):
  Calls Tryz.prog 9 vs.toArray W fun e W'=>e= .returned (.bool true)∧Mem W [] W':=by
 rw[Tryz.params9]at h
 obtain⟨v0,v1,v2,v3,rfl⟩:=Mz hl
 obtain⟨x0,rfl,g0⟩:=(h 0 25 v0 rfl rfl).agg (inferInstance:fc Tryz.prog 25 _) Cp
 obtain⟨x1,rfl,g1⟩:=(h 1 88 v1 rfl rfl).sl Tryz.underlying88 (Sl Ch)
 obtain⟨x2,rfl,-⟩:=(h 2 56 v2 rfl rfl).agg (inferInstance:fc Tryz.prog 56 _) Key
 obtain⟨x3,rfl,b3⟩:=YG (t:=3) Tryz.underlying3 (h 3 3 v3 rfl rfl).ok
 exact Yx W x0 x1 x2 x3 g0 g1
set_option maxRecDepth 100000 in
theorem YY(os:Os)(started:os.Started)(H:Type)(enc:TypeId×Value→H):
  ReturnsInHanded {} Tryz.checked os 9 .any (Rows.fibRefinesSpec.pre6 enc Tryz.prog Tryz.f9 Rows.fibRefinesRow.domain false) (Rows.fibRefinesSpec.post enc Tryz.prog Tryz.f9 false true false false):=
 YQ (C:=Tryz.checked) Tryz.own started (by kernel_rfl) Tryz.func9
  (ChangeSpec.witness6 (enc:=enc) (C:=Tryz.checked) false ⟨#[],#[.agg #[.int .i64 0, .int .i64 0, .slice none 0 0, .int .i64 0, .bool false, .slice none 0 0], .slice none 0 0, .agg #[.int .u8 0, .int .u8 0, .int .u8 0, .int .u8 0, .int .u8 0, .int .u8 0, .int .u8 0, .int .u8 0, .int .u8 0, .int .u8 0, .int .u8 0, .int .u8 0, .int .u8 0, .int .u8 0, .int .u8 0, .int .u8 0], .int .i64 0],[]⟩ 24 (by kernel_rfl) (by kernel_rfl) (by kernel_rfl) (by kernel_rfl))
  Tryz.laidOut (by kernel_rfl) rfl Tryz.underlying4 rfl (fun ds hd=>by obtain⟨d0,d1,d2,d3,rfl⟩:=Mz (hd.trans (by kernel_rfl));rfl)
  (fun W base vs hl h=>YX W base vs (hl.trans (by kernel_rfl)) h)
theorem fibRefines_holds:Rows.FibRefinesSaid:=
 OpenClaim.holds_of_wide 9 Tryz.f9 rfl rfl rfl rfl rfl rfl rfl ⟨rfl,rfl,rfl,rfl,rfl⟩ rfl rfl rfl rfl rfl (by kernel_rfl) Tryz.func9 (by kernel_rfl)
  (of_decide_eq_true (by kernel_rfl)) (by unfold Func.isWrapper;first|(rw[if_pos (by decide+kernel)];kernel_rfl)|(rw[if_neg (by decide+kernel)];exact⟨rfl,rfl⟩))
  (fun os started H enc _=>YY os started H enc)
end Go.Proofs.YtaipiecplldinaaGreat

/- Part of a proof. -/
import Derived.Test.YtkggjjnhnjjokaaGreatDoorF1
import Derived.Test.YtkggjjnhnjjokaaGreatDoorF2
import Derived.Test.YtkggjjnhnjjokaaGreatDoorF4
import Derived.Lib.ReflectliteSwap
import Derived.Laws.Externs
import Derived.Test.YtkggjjnhnjjokaaGreatDoorF6
import Derived.Test.YtkggjjnhnjjokaaGreatDoorF3
import Derived.ProofKit
import Derived.Deep.Slices
import Derived.HandedShaped
import Derived.Handed
import Derived.Lay
import Derived.MakeChecks
import Derived.Stop.Joined
import Derived.LaidLaws
set_option maxRecDepth 20000
set_option linter.unusedSimpArgs false
set_option linter.unusedVariables false
namespace Go.Kb
section
variable {α:Type} (f:α->Nat)
def Fj(l:List α):Prop:=l.Pairwise fun a b=>f a<=f b
structure pf(l l':List α):Prop where
 Fk:Fj f l'
 same: ∀k,l'.filter (fun x=>decide (f x=k))=l.filter (fun x=>decide (f x=k))
variable {f}
theorem pf.refl{l:List α}(h:Fj f l):pf f l l:=⟨h,fun _=>rfl⟩
theorem pf.trans{a b c:List α}(h: ∀k,b.filter (fun x=>decide (f x=k))=a.filter (fun x=>decide (f x=k)))(h':pf f b c):pf f a c:=⟨h'.Fk,fun k=>(h'.same k).trans (h k)⟩
theorem pf.mem{l l':List α}(h:pf f l l'){x:α}:x∈l'↔x∈l:=by
 have h1:=h.same (f x);have e: ∀m:List α,x∈m↔x∈m.filter fun y=>decide (f y=f x):=fun m=>by simp[anQ]
 rw[e l',h1,←e l]
theorem pf.length{l l':List α}(h:pf f l l'):l'.length=l.length:=by
 have key: ∀(n:Nat) (a b:List α),a.length=n->(∀k,b.filter (fun x=>decide (f x=k))=a.filter (fun x=>decide (f x=k)))->b.length=a.length:=by
  intro n
  induction n using Nat.strongRecOn with
  |_ n ih=>
   intro a b hn hs
   cases a with
   |nil=>
    cases b with
    |nil=>rfl
    |cons y b=>have:=hs (f y);simp at this
   |cons x a=>
    have e1: ∀m:List α,m.length=(m.filter fun y=>decide (f y=f x)).length+(m.filter fun y=> !decide (f y=f x)).length:=fun m=>by
     rw[←List.countP_eq_length_filter,←List.countP_eq_length_filter]
     induction m with
     |nil=>rfl
     |cons z m ihm=>by_cases hz:f z=f x<;>simp[List.countP_cons,hz]at ihm⊢ <;>omega
    have hx:((x::a).filter fun y=> !decide (f y=f x)).length<n:=by
     have:=e1 (x::a);have h2:0<((x::a).filter fun y=>decide (f y=f x)).length:=List.length_pos_of_mem (by simp:x∈_);omega
    have xW: ∀k,(b.filter fun y=> !decide (f y=f x)).filter (fun y=>decide (f y=k))=((x::a).filter fun y=> !decide (f y=f x)).filter (fun y=>decide (f y=k)):=fun k=>by
     have sw: ∀m:List α,(m.filter fun y=> !decide (f y=f x)).filter (fun y=>decide (f y=k))=(m.filter (fun y=>decide (f y=k))).filter fun y=> !decide (f y=f x):=fun m=>by
      rw[List.filter_filter,List.filter_filter];congr 1;funext y;rw[Bool.and_comm]
     rw[sw,sw,hs k]
    have:=ih _ hx _ _ rfl xW;rw[e1 b,e1 (x::a),hs,this]
 exact key _ l l' rfl h.same
theorem Rh: ∀{a b:List α},Fj f a->Fj f b->(∀k,a.filter (fun x=>decide (f x=k))=b.filter (fun x=>decide (f x=k)))->a=b
 |[],[],_,_,_=>rfl
 |[],y::b,_,_,h=>by have:=h (f y);simp at this
 |x::a,[],_,_,h=>by have:=h (f x);simp at this
 |x::a,y::b,ha,hb,h=>by
  have yf:=anM.1 ha;have cN:=anM.1 hb;have hx:x∈y::b:=by
   have:=(show x∈(x::a).filter (fun z=>decide (f z=f x)) by simp);rw[h]at this;exact(anQ.1 this).1
  have hy:y∈x::a:=by
   have:=(show y∈(y::b).filter (fun z=>decide (f z=f y)) by simp);rw[←h]at this;exact(anQ.1 this).1
  have amS:f x<=f y:=by
   rcases ank.1 hy with e|e
   ·
    rw[e];exact anm _
   exact yf.1 y e
  have amT:f y<=f x:=by
   rcases ank.1 hx with e|e
   ·
    rw[e];exact anm _
   exact cN.1 x e
  have hf:f x=f y:=by omega
  have h0:=h (f x);rw[aoj,aoj,if_pos (by simp),if_pos (by simp[hf])]at h0;have exy:=(ap7 h0).1;subst exy;congr 1;refine Rh yf.2 cN.2 fun k=>?_;have hk:=h k;rw[aoj,aoj]at hk
  by_cases e:f x=k
  ·
   rw[if_pos (by simp[e]),if_pos (by simp[e])]at hk;exact(ap7 hk).2
  rw[if_neg (by simp[e]),if_neg (by simp[e])]at hk;exact hk
theorem pf.uniq{l a b:List α}(ha:pf f l a)(hb:pf f l b):a=b:=Rh ha.Fk hb.Fk fun k=>(ha.same k).trans (hb.same k).symm
def ins(f:α->Nat)(x:α):List α->List α
 |[]=>[x]
 |y::r=>if f y<f x then y::ins f x r else x::y::r
def Fk(f:α->Nat)(l:List α):List α:=l.foldr (ins f) []
end
section
variable {α:Type} {f:α->Nat} {xs ys zs:List α} {a b m i j k s e:Nat}
def Fl(xs:List α)(i j:Nat):List α:=(xs.drop i).take (j -i)
theorem parts(h1:a<=b)(h2:b<=xs.length):xs=xs.take a++Fl xs a b++xs.drop b:=by
 rw[Fl,anv]
 conv=>lhs;rw[←anO a xs,←anO (b -a) (xs.drop a),ap0,show a+(b -a)=b by omega]
end
end Go.Kb
namespace Go.au
open Go.RowKit Go.Kb
section
variable {P:Program} {w0 w:World} {L:List ai} {α:Type} {enc:α->Array Value} {c:Nat} {s:Sv} {xs:List α}
end
section
variable {P:Program} {N:bO} {w0:World} {env:Env} {L:List ai} {l:List Oper} {Q:Exit->Act->World->Prop} {rest:List Oper} {d:Option Tmp} {ty:TypeId} {ps:String} {af:Array Edge} {gd:Option (Nat×Bool)}
end
end Go.au
namespace Go.Proofs.YtkggjjnhnjjokaaGreatDoor
open Go.au Go.Kb Go.RowKit
theorem acR(w0 w:World)(L:List ai)(s:Sv)(xs:List aJ)(hw:Mem w0 (own aT 18 s xs::L) w)(az:xs.length<=1000):Calls Tryz.prog 73 #[s.val] w fun e w'=> ∃zz:List aJ,e= .returned (.tuple #[])/\(zz.length=xs.length/\ ∀x∈zz,x∈xs)/\Mem w0 (own aT 18 s zz::L) w':=by
 refine iI (args:=[_]) Tryz.func73 rfl Tryz.ntmps73 rfl hw ?_;change Cw _ _ _ _ _ [(0,s.val)] (own aT 18 s xs::L);refine cx ?_;refine bI (X:=Nat×List aJ) (fun zz=>[(2, .int .i64 (zz.1:Nat)),(3, .int .i64 ((xs.length:Int) -1 -(zz.1:Nat))),(0,s.val)]) (fun zz=>own aT 18 s zz.2::L) (fun zz=>zz.1<=xs.length/\zz.2.length=xs.length/\ ∀x∈zz.2,x∈xs) (fun zz=>xs.length -zz.1) (0,xs) ⟨Nat.zero_le _,rfl,fun _ h=>h⟩ (Sub.cons rfl (Sub.cons (look_eq rfl (by congr 1;omega)) sb)) (fun w hw=>ag.mem hw) ?_;rintro⟨i,ts⟩ ⟨aW,aB,bm⟩;dsimp only;simp only at aW aB bm;refine aM ?_;refine Gb (fun h0=>?_) fun h0=>?_
 ·
  refine Dk ?_;obtain⟨x,hx⟩:=get_some (xs:=ts) (i:=i) oM;obtain⟨y,hy⟩:=get_some (xs:=ts) (i:=(xs.length -1 -i)) oM;refine gx [13,15,1006,1007,1010,1011,1012,1014] [[],[],[],[],[],[],[],[6],[],[],[],[10],[6,7,10,11],[6,7,10,11,12],[6,7,10,11,12,13],[6,7,10,11,12,13,14]] [0,1,2,3,4,5,6,7,8,9,10,11,12,13,14,15] [] (fun _ hw=>ag.mem hw) oK oK (al rfl (aK rfl) (al rfl (aK rfl) (al rfl (aK rfl) (al rfl (aK rfl) (al rfl (aK rfl) (al rfl (aK rfl) (gw rfl (aV rfl rfl (xs.length -1 -i) oM oM) (gw rfl (fo rfl (xs.length -1 -i) hy rfl) (al rfl (aK rfl) (al rfl (aK rfl) (gw rfl (aV rfl rfl i oM oM) (gw rfl (fo rfl i hx rfl) ?_))))))))))));refine gw rfl (aV rfl rfl i oM oM) ?_;refine cO rfl (rz (n:=18) (k:=i) (j:=0) (a:=x) (a':=y) (xs:=ts) (enc:=aT) (c:=18) (v:= .agg (aT y)) oK rfl rfl rfl hx (show(aT y).all (·.oneCell')=true from bo.one y) (ku y) (by decide) (Jy (by rw[ku];exact(ku y).symm)) ⟨fun _ hw=>ag.mem hw,?_⟩);refine gw rfl (aV rfl rfl (xs.length -1 -i) oM (by rw[aoa];omega)) ?_;refine cO rfl (rz (n:=18) (k:=(xs.length -1 -i)) (j:=0) (a:=y) (a':=x) (xs:=(ts.set i y)) (enc:=aT) (c:=18) (v:= .agg (aT x)) oK rfl rfl rfl (by rw[aox oM];exact hy) (show(aT x).all (·.oneCell')=true from bo.one x) (ku x) (by decide) (Jy (by rw[ku];exact(ku x).symm)) ⟨fun _ hw=>ag.mem hw,?_⟩);refine cx ?_;refine Gi ?_;exact bb (x:=(i,ts)) (i+1,(ts.set i y).set (xs.length -1 -i) x) ⟨oF,by simp only[aoa];exact aB,fun z hz=>by rcases anV hz with h|h;(rcases anV h with h|h;(exact bm z h);(exact h▸bm y (alM hy)));(exact h▸bm x (alM hx))⟩ (by simp only;omega) (Sub.cons rfl (Sub.cons (look_eq rfl (by congr 1;omega)) sb)) (fun w hw=>ag.mem hw)
 refine Gc ?_;refine dn (.inr rfl) (zo rfl) (fun w1 hw=>?_);exact⟨ts,rfl,⟨aB,bm⟩,ag.mem hw⟩
instance amU{w0:World}{L L2:List ai}{i:Nat}{s:Sv}{xs:List aJ}[q:dV L s aT 18 xs i][d1:cI L i L2]:bK Tryz.prog 73 w0 L [s.val] (List aJ) (fun zz=> .tuple #[]) (fun zz=>own aT 18 s zz::L2) (fun zz=>zz.length=xs.length/\ ∀x∈zz,x∈xs) (xs.length<=1000):=⟨fun hp w hw=>acR w0 w L2 s xs (zt q.h d1.h hw) hp⟩
variable {w0:World}{L:List ai}
instance amV{p:aJ}{q:aJ}:bK Tryz.prog 23 w0 L [.agg (aT p), .agg (aT q)] (Sv×List aJ) (fun zz=> .tuple #[zz.1.val, .int .i64 (if iX p q=true then 0 else 1)]) (fun zz=>own aT 18 zz.1 zz.2::L) (fun zz=>kO q zz.2/\zz.2.length<=128) (True):=⟨fun az w hw=>Gk (fun zz:Sv×List aJ=>[own aT 18 zz.1 zz.2]) hw (by
 refine cq Tryz.func23 rfl Tryz.ntmps23 rfl ?_;refine Gc ?_;refine bx rfl fun b2=>bx rfl fun b3=>cx ?_;refine bk rfl rfl rfl (fun hg=>(Ry.yl (dw rfl))) (bk rfl rfl rfl (fun hg=>bF (cF (aw hg rfl) eX) trivial) (bk rfl rfl rfl (fun hg=>(Ry.yl (gS (aw hg rfl)))) (ar ?_)));refine bk rfl rfl rfl (fun hg=>(Ry.yl (dw rfl))) (bk rfl rfl rfl (fun hg=>(Ry.yl (dw rfl))) (bk rfl rfl rfl (fun hg=>bF (cF (aw hg rfl) (cF (aw hg rfl) eX)) trivial) (bk rfl rfl rfl (fun hg=>(Ry.yl (gS (aw hg rfl)))) (ar ?_))));refine Gb (fun h0=>?_) fun h0=>?_
 ·
  have hE: ¬iX p q=true:=fun h=>by
   obtain⟨g1,g2,_⟩:=(oz p q).1 h;rw[g1,g2,h]at h0;simp at h0
  refine aq ?_;refine Gr fun w1 hw=>?_;exact⟨(Sv.none,[]),by rw[if_neg hE];rfl,⟨kO.nil q,anH _⟩,(ag.mem hw:Mem w [] _).cz aT 18⟩
 have J3:iX p q=true:=h0.2;have xA:0<=p.len:=((dW p).1 ((oz p q).1 J3).1).2.1;refine aq ?_;refine bI (X:=aJ×Sv×List aJ×Sv×List aJ) (fun zz=>[(2, .pointer (some ⟨b2,0,none⟩)),(6,zz.2.1.val),(7,zz.2.2.2.1.val),(3, .pointer (some ⟨b3,0,none⟩))]) (fun zz=>[own aT 18 zz.2.1 zz.2.2.1,own aT 18 zz.2.2.2.1 zz.2.2.2.2,an b2 (aT zz.1) 32,an b3 (aT q) 32]) (fun zz=>iX zz.1 q=true/\kO q zz.2.2.1/\kO q zz.2.2.2.2/\zz.2.2.1.length+zz.2.2.2.2.length<=zz.1.len.toNat) (fun zz=>(q.len -zz.1.len).toNat) (p,Sv.none,[],Sv.none,[]) ⟨J3,kO.nil q,kO.nil q,Nat.zero_le _⟩ sb (fun w hw=>Mem.cz aT 18 (Mem.cz aT 18 (ag.mem hw))) ?_;rintro⟨r,u,us,v,vs⟩ ⟨aW,aB,bm,cJ⟩;dsimp only;simp only at aW aB bm cJ;have zH:r.len.toNat<=128:=by have:=(dW r).1 ((oz r q).1 aW).1;omega
 refine cx ?_;refine Gb (fun h1=>?_) fun h1=>?_
 ·
  have Ri:=(oz r q).1 aW;have hr8:=(dW r).1 Ri.1;have hq8:=(dW q).1 Ri.2.1;refine ar ?_;refine c6 (bF rfl ⟨by omega,by omega⟩) (Gs ?_);refine ae (aF (v:= .agg (aT (jR r))) rfl rfl) (ae (aF (v:= .agg (aT (jh r))) rfl rfl) (ba fun b8=>ba fun b9=>cx ?_));refine Gb (fun h2=>?_) fun h2=>?_
  ·
   refine ak ?_;refine iH (enc:=aT) (vals:=[_]) [(jh r)] rfl rfl rfl (by decide) (by decide) fun B9=>?_;refine iv (s:=v) (ys:=[(jh r)]) rfl rfl (by decide) (fun w hw=>gF (s:=⟨false,B9,0,1,1,none⟩) Tryz.underlying42 (by decide) ((inferInstance:Hd _ _ ⟨false,B9,0,1,1,none⟩ aT 18 [(jh r)]).h w hw)) (by simp only[ang,anh];omega) (by simp only[ang,anh];omega) fun J2 acM acN=>?_;refine aq ?_;refine jB ?_;exact bb (x:=(r,u,us,v,vs)) (jR r,u,us,J2,vs++[jh r]) ⟨h2,aB,bm.low aW h1 h2,by rw[af0];simp only[ang,anh,jR];omega⟩ (by simp only[jR];omega) sb (fun w hw=>ag.mem hw)
  have uv:iX (jh r) q=true:=(acK aW h1).resolve_left (by rw[h2];simp);refine ak ?_;refine iH (enc:=aT) (vals:=[_]) [(jR r)] rfl rfl rfl (by decide) (by decide) fun Rj=>?_;refine iv (s:=u) (ys:=[(jR r)]) rfl rfl (by decide) (fun w hw=>gF (s:=⟨false,Rj,0,1,1,none⟩) Tryz.underlying42 (by decide) ((inferInstance:Hd _ _ ⟨false,Rj,0,1,1,none⟩ aT 18 [(jR r)]).h w hw)) (by simp only[ang,anh];omega) (by simp only[ang,anh];omega) fun s45 amW amX=>?_;refine aq ?_;refine jB ?_;exact bb (x:=(r,u,us,v,vs)) (jh r,s45,us++[jR r],v,vs) ⟨uv,aB.high aW h1 uv,bm,by rw[af0];simp only[ang,anh,jh];omega⟩ (by simp only[jh];omega) sb (fun w hw=>ag.mem hw)
 refine ar ?_;refine bf rfl oM fun pY EO=>?_;obtain⟨amY,acS⟩:=EO;refine ak ?_;refine iv (s:=u) (enc:=aT) (ys:=pY) rfl rfl (by decide) (fun w hw=>gF (s:=v) Tryz.underlying42 (by decide) ((inferInstance:cA _ _ aT 18 v pY).h w hw)) oM oM fun s51 amZ am0=>?_;refine ak ?_;refine Gr fun w1 hw=>?_;exact⟨(s51,us++pY),by rw[if_pos J3],⟨aB.both (fun r hr=>bm r (acS r hr)),by rw[af0];omega⟩,ag.mem hw⟩)⟩
end Go.Proofs.YtkggjjnhnjjokaaGreatDoor
namespace Go.Kb
open Go.au
theorem Rk{c:CV}{b:Nat}{o:Int}{f:Bool}{B:BV}(hb:b<c.blocks.length)(k:Int):aA {c with ops:=o,off:=f,blocks:=c.blocks.set b B} k=if k.toNat=b then B else aA c k:=by
 simp only[aA,List.getD,aof]
 by_cases h:b=k.toNat
 ·
  rw[if_pos h,if_pos (by omega),if_pos h.symm];rfl
 rw[if_neg h,if_neg (fun g=>h g.symm)]
variable {t:List Rt} {k:Key} {bits:Int}
theorem Ord.at{t:List Rt}(h:Ord t){i j:Nat}{a b:Rt}(ha:t[i]? =some a)(hb:t[j]? =some b)(lN:i<j):dr a.p b.p=true:=by
 obtain⟨hi,rfl⟩:=ad2.1 ha;obtain⟨hj,rfl⟩:=ad2.1 hb;exact(aod.1 h.less) i j hi hj lN
theorem J4{r:Rt}(h:gK k bits r=true):(bits=32\/bits=128)/\bA k bits=k/\bg ⟨bits,bits,k⟩=true:=by
 simp only[gK,anc,decide_eq_true_eq]at h;obtain⟨h1,h2⟩:=h;obtain⟨h3,h4,_⟩:=(kv _ _).1 h2;obtain⟨h5,_⟩:=(dW _).1 h3;rw[h1]at h4 h5;exact⟨h5,h4,(dW _).2 ⟨h5,by simp only;omega,aop _,h4⟩⟩
theorem Ca(h:bM t=true):(jN t k bits=0/\ie t k bits∈t/\gK k bits (ie t k bits)=true/\ ∀q∈t,gK k bits q=true->q.p.len<=(ie t k bits).p.len)\/
  (jN t k bits=(if bg ⟨bits,bits,k⟩=true then 6 else 1)/\ie t k bits=c8/\ ∀q∈t,gK k bits q=false):=by
 by_cases hk:bg ⟨bits,bits,k⟩=true
 ·
  have ho:qF t k bits=true:=by rw[qF,h,hk];rfl
  obtain⟨hb,_,_,hc⟩:=(dW _).1 hk;have hb:bits=32\/bits=128:=hb;have hc:bA k bits=k:=hc;have vH:((bits.toNat:Nat):Int)<=bits:=by omega
  cases hf:mj t k bits bits.toNat with
  |none=>
   refine .inr ⟨by rw[jN,if_pos ho,hf,if_pos hk];rfl,by rw[ie,if_pos ho,hf];rfl,fun q hq=>?_⟩;rw[←apt];intro hw;simp only[gK,anc,decide_eq_true_eq]at hw;obtain⟨m,hm,e⟩:=O7 hw.1 hw.2;exact O6 h hb vH hf q hq m (by omega) e
  |some r=>
   obtain⟨h1,⟨m,hm,h2⟩,h3⟩:=O5 h hb vH hf;have e:ie t k bits=r:=by rw[ie,if_pos ho,hf];rfl
   refine .inl ⟨by rw[jN,if_pos ho,hf];rfl,by rw[e];exact h1,?_,fun q hq hw=>?_⟩
   ·
    rw[e];have:=X9 hb hc (r:=r) (m:=m) (by omega) h2;rw[gK,this.1,this.2];simp
   ·
    rw[e];simp only[gK,anc,decide_eq_true_eq]at hw;obtain⟨m,hm,e⟩:=O7 hw.1 hw.2;exact h3 q hq m (by omega) e
 ·
  have ho: ¬qF t k bits=true:=by rw[qF,h];simpa using hk
  refine .inr ⟨by rw[jN,if_neg ho,if_neg hk],by rw[ie,if_neg ho],fun q _=>?_⟩;rw[←apt];intro hw;exact hk (J4 hw).2.2
variable {t u:List Rt} {r:Rt} {k:Key} {bits:Int}
theorem am1(he:eC t [⟨r,false⟩]=0):dH t ⟨r,false⟩=0/\cT t [⟨r,false⟩]=fO t ⟨r,false⟩:=by
 have hr:bM t=true:=by
  cases h:bM t with
  |true=>rfl
  |false=>rw[eC,if_neg (by rw[h];simp)]at he;omega
 have h2:=he;rw[eC,if_pos hr,jc]at h2;have hc:dH t ⟨r,false⟩=0:=by
  apply aob;intro hn;rw[if_neg hn]at h2;exact hn h2
 exact⟨hc,by rw[cT,if_pos he,jc,if_pos hc];rfl⟩
theorem zU{c:Ch}(he:dH t c=0):bg c.r.p=true:=by
 apply aob;intro hn;rw[dH,if_neg hn]at he;omega
theorem acT(hr:bM t=true)(he:dH t ⟨r,false⟩=0)(x:Rt):x∈fO t ⟨r,false⟩↔x=r\/(x∈t/\x.p≠r.p):=by
 have hm:bg r.p=true:=zU he;have ho:=ju hr;rw[fO,if_pos he,if_neg (by simp)]
 by_cases hb:iL t r.p=true
 ·
  rw[if_pos hb];obtain⟨r0,_,h1,h2⟩:=tG hb;have hn:=(ad2.1 h1).1;have cc: ∀j y,t[j]? =some y->j≠cf t r.p->y.p≠r.p:=fun j y hy hj e=>by
   rcases apQ hj with g|g
   ·
    have:=ho.at hy h1 g;rw[e,h2,nv hm]at this;cases this
   have:=ho.at h1 hy g;rw[e,h2,nv hm]at this;cases this
  constructor
  ·
   intro hx;obtain⟨j,hj⟩:=aot.1 hx
   by_cases e:cf t r.p=j
   ·
    subst e;rw[anK hn]at hj;exact .inl (ani hj).symm
   rw[aox e]at hj;exact .inr ⟨List.mem_of_getElem? hj,cc j x hj fun h=>e h.symm⟩
  rintro(rfl|⟨hx,hp⟩)
  ·
   exact alM (anK hn)
  obtain⟨j,hj⟩:=aot.1 hx;have e:cf t r.p≠j:=fun e=>by
   subst e;rw[h1]at hj;cases hj;exact hp h2
  exact alM ((aox e).trans hj)
 rw[if_neg hb];have ka: ∀y∈t,y.p≠r.p:=fun y hy e=>hb (Bn hr hm hy e).2;have e:x∈t↔x∈t.take (cf t r.p)\/x∈t.drop (cf t r.p):=by
  rw[←anu,anO]
 simp only[anu,ank];constructor
 ·
  rintro(h|h|h)
  ·
   exact .inr ⟨e.2 (.inl h),ka x (e.2 (.inl h))⟩
  ·
   exact .inl h
  exact .inr ⟨e.2 (.inr h),ka x (e.2 (.inr h))⟩
 rintro(h|⟨h,_⟩)
 ·
  exact .inr (.inl h)
 rcases e.1 h with h|h
 ·
  exact .inl h
 exact .inr (.inr h)
variable {t u:List Rt} {r:Rt} {q p:aJ}
theorem Fm(hp:bg p=true)(hq:bg q=true)(h:dr p q=false)(hn:p≠q):dr q p=true:=by
 rw[mO hq hp];have h1: ¬dr p q=true:=by rw[h];simp
 rw[mO hp hq]at h1;have h2: ¬(p.bits=q.bits/\p.key.toNat=q.key.toNat/\p.len=q.len):=fun e=>hn (TF.2 e);omega
theorem J5(hp:bg p=true)(hq:bg q=true)(h:dr p q=true):dr q p=false:=by
 cases hx:dr q p with
 |false=>rfl
 |true=>rw[mO hq hp]at hx;rw[mO hp hq]at h;omega
theorem Fo(hp:bg p=true)(h:dr p q=true):p≠q:=fun e=>by subst e;rw[nv hp]at h;cases h
theorem zV{a b c:aJ}(ha:bg a=true)(hb:bg b=true)(hc:bg c=true)(h1:dr a b=true)(h2:dr b c=true):dr a c=true:=by
 rw[mO ha hb]at h1;rw[mO hb hc]at h2;rw[mO ha hc];omega
def vY(t:List Rt)(q:aJ):List Rt:=t.filter fun x=>dr x.p q
def qW(t:List Rt)(q:aJ):List Rt:=t.filter fun x=>dr q x.p
theorem filter_all{α:Type}{f:α->Bool}{l:List α}(h: ∀x∈l,f x=true):l.filter f=l:=List.filter_eq_self.2 h
theorem filter_none{α:Type}{f:α->Bool}{l:List α}(h: ∀x∈l,f x=false):l.filter f=[]:=apw.2 fun x hx=>by rw[h x hx];simp
theorem Ord.ext: ∀{s t:List Rt},Ord s->Ord t->(∀x,x∈s↔x∈t)->s=t
 |[],[],_,_,_=>rfl
 |[],b::t,_,_,h=>by have:=(h b).2 (ano);cases this
 |a::s,[],_,_,h=>by have:=(h a).1 (ano);cases this
 |a::s,b::t,hs,ht,h=>by
  have ha:=(anM.1 hs.less);have hb:=(anM.1 ht.less);have ma:=hs.may a ano;have mb:=ht.may b ano;have e:a=b:=by
   apply aob;intro hn;rcases ank.1 ((h a).1 ano)with h1|h1
   ·
    exact hn h1
   rcases ank.1 ((h b).2 ano)with h2|h2
   ·
    exact hn h2.symm
   have h3:=hb.1 a h1;have h4:=ha.1 b h2;rw[J5 mb ma h3]at h4;cases h4
  subst e;have cc: ∀x,(∀y∈s,dr a.p y.p=true)->x∈s->x≠a:=fun x hy hx e=>by
   subst e;have:=hy x hx;rw[nv ma]at this;cases this
  rw[Ord.ext (hs.sub (anT _ _)) (ht.sub (anT _ _)) fun x=>⟨fun hx=>?_,fun hx=>?_⟩]
  ·
   rcases ank.1 ((h x).1 (anI _ hx))with h1|h1
   ·
    exact absurd h1 (cc x ha.1 hx)
   exact h1
  rcases ank.1 ((h x).2 (anI _ hx))with h1|h1
  ·
   subst h1;have:=hb.1 x hx;rw[nv ma]at this;cases this
  exact h1
theorem acU(h:bM t=true)(hq:bg q=true):(∀x∈t.take (cf t q),dr x.p q=true)/\ ∀x∈t.drop (cf t q),dr x.p q=false:=by
 obtain⟨h1,h2,h3⟩:=O1 (p:=behind t q) (n:=t.length) fun a b=>O2 h hq a b;constructor
 ·
  intro x hx;obtain⟨i,hi⟩:=aot.1 hx;have dP:=(ad2.1 hi).1;rw[anj]at dP;rw[apg,if_pos (by omega)]at hi;have:=h2 i (by have:cf t q=bs (behind t q) t.length:=rfl;omega);simpa[behind,hi]using this
 intro x hx;obtain⟨i,hi⟩:=aot.1 hx;rw[aom]at hi;have dP:=(ad2.1 hi).1;have:=h3 (cf t q+i) (Nat.le_add_right _ _) dP;simpa[behind,hi]using this
theorem Rl(h:bM t=true)(hq:bg q=true):t.take (cf t q)=vY t q/\(iL t q=true->t.drop (cf t q+1)=qW t q)/\(iL t q=false->t.drop (cf t q)=qW t q):=by
 obtain⟨h1,h2⟩:=acU h hq;have ho:=ju h;have e:t=t.take (cf t q)++t.drop (cf t q):=(anO _ _).symm;have hm: ∀x∈t,bg x.p=true:=ho.may;have mt: ∀x∈t.take (cf t q),x∈t:=fun x hx=>apj hx;have md: ∀x∈t.drop (cf t q),x∈t:=fun x hx=>List.mem_of_mem_drop hx;have k1:t.take (cf t q)=vY t q:=by
  unfold vY
  conv=>rhs;rw[e]
  rw[aoA,filter_all h1,filter_none h2,anN]
 have k2:qW t q=qW (t.drop (cf t q)) q:=by
  unfold qW
  conv=>lhs;rw[e]
  rw[aoA,filter_none (l:=t.take (cf t q)) fun x hx=>J5 (hm x (mt x hx)) hq (h1 x hx),anR]
 refine⟨k1,fun hb=>?_,fun hb=>?_⟩
 ·
  obtain⟨x,hx,hi,hp⟩:=tG hb;obtain⟨dP,lO⟩:=ad2.1 hi;have e2:t.drop (cf t q)=x::t.drop (cf t q+1):=by rw[←lO,apW]
  rw[k2,e2,qW,aoj,hp,nv hq];simp only[aon,if_false];refine(filter_all fun y hy=>?_).symm;obtain⟨j,hj⟩:=aot.1 hy;rw[aom]at hj;have:=El h (cf t q) (cf t q+1+j) x y (by omega) hi hj;rw[hp]at this;exact this
 rw[k2];refine(filter_all fun y hy=>?_).symm;refine Fm (hm y (md y hy)) hq (h2 y hy) fun ep=>?_;have:=(Bn h hq (md y hy) ep).2;rw[hb]at this;cases this
theorem acV(h:bM t=true)(he:dH t ⟨r,false⟩=0):fO t ⟨r,false⟩=vY t r.p++r::qW t r.p:=by
 obtain⟨k1,k2,k3⟩:=Rl h (zU he);rw[fO,if_pos he,if_neg (by simp)]
 by_cases hb:iL t r.p=true
 ·
  obtain⟨x,hx,hi,hp⟩:=tG hb;have dP:=(ad2.1 hi).1;rw[if_pos hb,List.set_eq_take_append_cons_drop,if_pos dP,k1,k2 hb]
 rw[if_neg hb];show t.take (cf t r.p)++r::t.drop (cf t r.p)=_;rw[k1,k3 (by simpa using hb)]
theorem Rm(h:bM t=true)(he:dH t ⟨r,true⟩=0):fO t ⟨r,true⟩=vY t r.p++qW t r.p:=by
 have hm:=zU he;obtain⟨k1,k2,k3⟩:=Rl h hm;have hb:iL t r.p=true:=by
  apply aob;intro hn;rw[dH,if_pos hm,if_neg hn,if_pos rfl]at he;omega
 rw[fO,if_pos he,if_pos rfl];show t.take (cf t r.p)++t.drop (cf t r.p+1)=_;rw[k1,k2 hb]
theorem Rn(h:Ord t)(hq:bg q=true):t.filter (fun x=>decide (x.p≠q))=vY t q++qW t q:=by
 refine Ord.ext (h.sub aps) ⟨fun x hx=>?_,?_⟩ fun x=>?_
 ·
  rcases anu.1 hx with h1|h1<;>exact h.may x (anQ.1 h1).1
 ·
  refine apG.2 ⟨h.less.sublist aps,h.less.sublist aps,fun a ha b hb=>?_⟩;have ha:=anQ.1 ha;have hb:=anQ.1 hb;exact zV (h.may a ha.1) hq (h.may b hb.1) ha.2 hb.2
 rw[anu,anQ,vY,qW,anQ,anQ];constructor
 ·
  rintro⟨h1,h2⟩
  cases h3:dr x.p q with
  |true=>exact .inl ⟨h1,rfl⟩
  |false=>exact .inr ⟨h1,Fm (h.may x h1) hq h3 (by simpa using h2)⟩
 rintro(⟨h1,h2⟩|⟨h1,h2⟩)
 ·
  exact⟨h1,by simpa using Fo (h.may x h1) h2⟩
 exact⟨h1,by simpa using(Fo hq h2).symm⟩
theorem acW(h:Ord t)(hr:bg r.p=true):Ord (vY t r.p++r::qW t r.p):=by
 refine⟨fun x hx=>?_,?_⟩
 ·
  rcases anu.1 hx with h1|h1
  ·
   exact h.may x (anQ.1 h1).1
  rcases ank.1 h1 with rfl|h1
  ·
   exact hr
  exact h.may x (anQ.1 h1).1
 refine apG.2 ⟨h.less.sublist aps,anM.2 ⟨fun y hy=>(anQ.1 hy).2,h.less.sublist aps⟩,fun a ha b hb=>?_⟩;have ha:=anQ.1 ha;rcases ank.1 hb with rfl|hb
 ·
  exact ha.2
 have hb:=anQ.1 hb;exact zV (h.may a ha.1) hr (h.may b hb.1) ha.2 hb.2
theorem Cb(h:bM t=true)(c:Ch):bM (fO t c)=true:=by
 by_cases he:dH t c=0
 ·
  refine O8 ?_ (Pg (u9 h) c);obtain⟨r,g⟩:=c
  cases g with
  |false=>rw[acV h he];exact acW (ju h) (zU he)
  |true=>rw[Rm h he,←Rn (ju h) (zU he)];exact(ju h).sub aps
 rw[fO,if_neg he];exact h
def qa(t:List Rt)(q:aJ):Int:=if bg q=true then(if(t.any fun x=>decide (x.p=q))=true then 0 else 6)else 1
def xO(t:List Rt)(q:aJ):UInt16:=if bg q=true then((t.find? fun x=>decide (x.p=q)).map Rt.hop).getD 0 else 0
theorem acX(h:bM t=true)(hq:bg q=true):(t.any fun x=>decide (x.p=q))=iL t q:=by
 cases hb:iL t q with
 |true=>
  obtain⟨x,hx,_,hp⟩:=tG hb;exact List.any_eq_true.2 ⟨x,hx,by simp[hp]⟩
 |false=>
  refine List.any_eq_false.2 fun x hx=>?_;have hn:x.p≠q:=fun e=>by have:=(Bn h hq hx e).2;rw[hb]at this;cases this
  simp[hn]
theorem acY(h:bM t=true)(c:Ch):dH t c=if qa t c.r.p=1\/(qa t c.r.p=6/\c.gone=true)then qa t c.r.p else if qa t c.r.p=6/\256<=t.length then 5 else 0:=by
 unfold dH qa
 by_cases hm:bg c.r.p=true
 ·
  rw[if_pos hm,if_pos hm,acX h hm]
  cases iL t c.r.p<;>cases c.gone<;>simp
 rw[if_neg hm,if_neg hm];simp
theorem acZ(h:bg q=false):qa t q=1/\xO t q=0:=by simp[qa,xO,h]
theorem Ro(hm:bg q=true)(h: ∀x∈t,x.p≠q):qa t q=6/\xO t q=0:=by
 have h1:(t.any fun x=>decide (x.p=q))=false:=List.any_eq_false.2 fun x hx=>by simp[h x hx]
 have h2:(t.find? fun x=>decide (x.p=q))=none:=aph.2 fun x hx=>by simp[h x hx]
 simp[qa,xO,hm,h1,h2]
theorem ac0{i:Nat}{e:Rt}(hm:bg q=true)(ka: ∀x∈t.take i,x.p≠q)(he:t[i]? =some e)(hp:e.p=q):qa t q=0/\xO t q=e.hop:=by
 obtain⟨hi,ow⟩:=ad2.1 he;have ht:t=t.take i++e::t.drop (i+1):=by rw[←ow,apW,anO]
 have h1:(t.any fun x=>decide (x.p=q))=true:=List.any_eq_true.2 ⟨e,alM he,by simp[hp]⟩;have h2:(t.find? fun x=>decide (x.p=q))=some e:=by
  rw[ht,List.find?_append,aph.2 fun x hx=>by simp[ka x hx]];simp[hp]
 rw[qa,xO,if_pos hm,if_pos hm,if_pos h1,h2];exact⟨rfl,rfl⟩
theorem ac1(h:bM t=true)(he:dH t ⟨r,true⟩=0):fO t ⟨r,true⟩=t.filter fun x=>decide (x.p≠r.p):=by rw[Rm h he,Rn (ju h) (zU he)]
theorem Rp{P Q:Nat->Bool}{j0:Nat}(hp:P j0=false)(hq: ∀j,Q j=(P j||decide (j=j0))): ∀n,((List.range n).filter Q).length=((List.range n).filter P).length+(if j0<n then 1 else 0)
 |0=>by simp
 |n+1=>by
  have ih:=Rp hp hq n;rw[aoV,aoA,aoA,af0,af0,ih]
  by_cases e:n=j0
  ·
   have h1:Q n=true:=by rw[hq n,decide_eq_true e,Bool.or_true]
   have h2:P n=false:=by rw[e];exact hp
   rw[List.filter_cons_of_pos h1,List.filter_cons_of_neg (by rw[h2];simp),if_neg (by omega),if_pos (by omega)];simp
  have h1:Q n=P n:=by rw[hq n,decide_eq_false e,Bool.or_false]
  have h2:([n].filter Q).length=([n].filter P).length:=by simp[aoj,h1]
  rw[h2]
  by_cases h:j0<n
  ·
   rw[if_pos h,if_pos (by omega)];omega
  rw[if_neg h,if_neg (by omega)];omega
def mz(ab:Int)(fl:List Int)(i:Nat):Nat:=((List.range ab.toNat).filter fun j:Nat=>fl.contains (((i:Int)+2)*ab+j+1)).length
theorem Fp{ab:Int}{fl gl:List Int}{i:Nat}(h: ∀n:Int,(n -1)/ab=(i:Int)+2->(n∈fl↔n∈gl))(hp:1<=ab):mz ab fl i=mz ab gl i:=by
 rw[mz,mz];congr 1;refine List.filter_congr fun j hj=>?_;have jw:=an5.1 hj;have hd:(((i:Int)+2)*ab+j+1 -1)/ab=(i:Int)+2:=by
  rw[Int.add_sub_cancel,Int.add_comm,apX _ _ (by omega),apY (by omega) (by omega),Int.zero_add]
 rw[apk,ao4,ao4];exact h _ hd
theorem ac2{ab n:Int}(hp:1<=ab){i:Nat}(hb:(n -1)/ab=(i:Int)+2): ∃j:Nat,j<ab.toNat/\n=((i:Int)+2)*ab+j+1/\(n -1)%ab=j:=by
 have h0:0<=(n -1)%ab:=Int.emod_nonneg _ (by omega);have h1:(n -1)%ab<ab:=apT _ (by omega);have h2:=Int.mul_ediv_add_emod (n -1) ab;rw[hb,Int.mul_comm]at h2;exact⟨((n -1)%ab).toNat,by omega,by omega,by omega⟩
theorem ac3{ab n:Int}{fl gl:List Int}{i0:Nat}(hp:1<=ab)(hb:(n -1)/ab=(i0:Int)+2)(hn:n∉fl)(h: ∀m,m∈gl↔m∈fl\/m=n)(i:Nat):mz ab gl i=mz ab fl i+(if i=i0 then 1 else 0):=by
 by_cases e:i=i0
 ·
  subst e;obtain⟨j0,JZ,en,_⟩:=ac2 hp hb;rw[if_pos rfl,mz,mz];have:=Rp (P:=fun j:Nat=>fl.contains (((i:Int)+2)*ab+j+1)) (Q:=fun j:Nat=>gl.contains (((i:Int)+2)*ab+j+1)) (j0:=j0) (by
   rw[←en]
   cases hc:fl.contains n with
   |false=>rfl
   |true=>exact absurd (ao4.1 hc) hn) (fun j=>by
   rw[apk,aog,ao4,ao4,decide_eq_true_eq,h,en];constructor
   ·
    rintro(g|g)
    ·
     exact .inl g
    exact .inr (by omega)
   rintro(g|g)
   ·
    exact .inl g
   exact .inr (by rw[g])) ab.toNat
  rw[if_pos JZ]at this;exact this
 rw[if_neg e,an3];refine Fp (fun m hm=>?_) hp;rw[h];constructor
 ·
  rintro(g|g)
  ·
   exact g
  rw[g,hb]at hm;omega
 exact .inl
theorem Rq{ab:Int}{l:List Int}(hp:1<=ab)(i:Nat)(h: ∀n∈l,n=0\/1<=n): ∀k,k<=l.length->oL ab l k i=mz ab (l.take k) i
 |0,_=>by
  rw[mz,apw.2 (fun j _=>by simp)];simp[oL]
 |k+1,hk=>by
  have ih:=Rq hp i h k (by omega);obtain⟨y,hy⟩: ∃y,l[k]? =some y:=⟨_,anC (by omega)⟩;have sX: ∀m,m∈l.take (k+1)↔m∈l.take k\/m=y:=fun m=>by
   rw[anq,hy,anu];simp
  rw[DZ,ih,tr hy];have sh:rO l k=(decide (y≠0)&& !(l.take k).contains y):=by rw[rO,tr hy]
  by_cases h0:y=0
  ·
   rw[sh,decide_eq_false (fun g=>g h0),ao9,ao9,if_neg (by simp),an3];refine Fp (fun m hm=>?_) hp;rw[sX];refine⟨.inl,fun g=>g.elim id fun g=>?_⟩;exfalso;rw[g,h0]at hm;have:((0:Int) -1)/ab<0:=Int.ediv_neg_of_neg_of_pos (by decide) (by omega);omega
  by_cases hc:(l.take k).contains y=true
  ·
   rw[sh,hc,Bool.not_true,Bool.and_false,ao9,if_neg (by simp),an3];refine Fp (fun m _=>?_) hp;rw[sX];exact⟨.inl,fun g=>g.elim id fun g=>by rw[g];exact ao4.1 hc⟩
  have hn:y∉l.take k:=fun g=>hc (ao4.2 g);have hcf:(l.take k).contains y=false:=by simpa using hc
  rw[sh,hcf,decide_eq_true h0,Bool.not_false,aoT,aos]
  by_cases hb:(y -1)/ab=(i:Int)+2
  ·
   rw[decide_eq_true hb,if_pos rfl,ac3 hp hb hn sX i,if_pos rfl]
  rw[decide_eq_false hb,if_neg (by simp),an3];refine Fp (fun m hm=>?_) hp;rw[sX];exact⟨.inl,fun g=>g.elim id fun g=>by rw[g]at hm;exact absurd hm hb⟩
theorem ac4{ab:Int}{l:List Int}(hp:1<=ab)(i:Nat)(h: ∀n∈l,n=0\/1<=n):oL ab l l.length i=mz ab l i:=by
 have:=Rq hp i h l.length (anm _);rwa [anD]at this
def Std(c:CV)(fl:List Int):Prop:= ∀n∈fl,n≠0->tp c (n -1)=true
theorem Std.append{c:CV}{a b:List Int}(h:Std c a)(g:Std c b):Std c (a++b):=fun n hn=>(anu.1 hn).elim (h n) (g n)
theorem Std.pos{c:CV}{fl:List Int}(h:Std c fl)(hp:1<=c.ab): ∀n∈fl,n=0\/1<=n:=fun n hn=>by
 by_cases h0:n=0
 ·
  exact .inl h0
 right;have:=(A9.1 (h n hn h0)).1;apply aob;intro aZ;have:(n -1)/c.ab<0:=Int.ediv_neg_of_neg_of_pos (by omega) (by omega);omega
def Cc(c:CV)(fl:List Int)(i:Nat):aG:=if(aA c ((i:Int)+2)).bad=true then bN else⟨mz c.ab fl i,(aA c ((i:Int)+2)).used,(aA c ((i:Int)+2)).bj,false⟩
theorem ac5{c:CV}{fl:List Int}(hp:1<=c.ab)(h:Std c fl):aQ c fl=(List.range (c.blocks.length -2)).map (Cc c fl):=by
 rw[aQ,ib,iZ,apL];refine aoS fun i _=>?_;simp only[Function.comp];rw[ac4 hp i (h.pos hp),nS,Cc,tu];split
 ·
  rfl
 rename_i hb;have:(aA c ((i:Int)+2)).bad=false:=by simpa using hb
 rw[this]
theorem ac6{c:CV}{fl:List Int}{i:Nat}(hb:(aA c ((i:Int)+2)).bad=false):Cc c fl i=⟨mz c.ab fl i,(aA c ((i:Int)+2)).used,(aA c ((i:Int)+2)).bj,false⟩:=by rw[Cc,if_neg (by rw[hb];simp)]
theorem ac7{c:CV}{b k:Int}{p:List UInt8}(h:bS c b p=0)(hk:k.toNat≠b.toNat):aA (cE c b p) k=aA c k:=by
 obtain⟨h1,_,_,_,e⟩:=tv h;obtain⟨_,h3,h4⟩:=kB.1 (nR.1 h1).1;rw[e,oH,Rk (by omega),if_neg hk]
theorem ac8{c:CV}{b:Int}{p:List UInt8}(h:bS c b p=0):(aA (cE c b p) b).used=(aA c b).used+1/\(aA (cE c b p) b).bj=(aA c b).bj/\(aA (cE c b p) b).bad=false:=by
 obtain⟨h1,_,h3,_,e⟩:=tv h;rw[e,oH,D4 (nR.1 h1).1];exact⟨rfl,rfl,h3⟩
structure Ok(n:Nat)(c:CV):Prop where
 ok:oJ c=true
 nb: ∀b:Int,(aA c b).bad=false
 off:c.off=false
 cut: ∀f∈c.bc,f.fail=true->f.cut=true
 ops:c.ops+n<dK
 bj: ∀b:Int,(aA c b).bj+n<dK
theorem Ok.mono{n m:Nat}{c:CV}(h:Ok n c)(hm:m<=n):Ok m c:=⟨h.ok,h.nb,h.off,h.cut,by have:=h.ops;omega,fun b=>by have:=h.bj b;omega⟩
theorem Ok.Rr{n:Nat}{c:CV}(h:Ok n c)(hs:(bE c).2=true):(bE c).1.cut=true:=by
 rw[bE]at hs⊢
 cases hf:c.bc.find? fun f=>decide (f.op=c.ops)with
 |none=>rw[hf]at hs;cases hs
 |some x=>
  rw[hf]at hs;simp only[aog]at hs;exact hs.elim id fun g=>h.cut x (List.mem_of_find?_eq_some hf) g
theorem Ok.aj{n:Nat}{c:CV}(h:Ok n c):bl c=true:=(tn.1 h.ok).1
theorem Rs{c d:CV}(h:oJ c=true)(hk:bl d=true)(hl:eV c d):oJ d=true:=by
 obtain⟨h1,h2,h3,h4⟩:=tn.1 h;exact tn.2 ⟨hk,by rw[hl.len];exact h2,by rw[hl.ab];exact h3,by rw[hl.size];exact h4⟩
theorem Ok.prog{n:Nat}{c:CV}{b:Int}{p:List UInt8}(h:Ok (n+1) c)(h0:0<=b)(h1:b<c.blocks.length)(hu:(aA c b).used<c.ab)(hl:(p.length:Int)=c.size):(bS c b p=0/\Ok n (cE c b p))\/bS c b p=7:=by
 have hh:kA c b=true:=kB.2 ⟨h.aj,h0,h1⟩;have hbo:=gy.1 (vd hh);have ac9:=h.ops;have ja:rG c b (aA c b).used p=true:=nR.2 ⟨hh,hbo.2.1,hu,hl,by omega⟩
 by_cases hs:(bE c).2=true
 ·
  right;rw[bS,kS,if_pos ja,if_neg (by rw[h.off];simp),if_neg (by rw[h.nb b];simp),if_pos hs,mX,if_pos (h.Rr hs)]
 left;have hz:bS c b p=0:=by
  rw[bS,kS,if_pos ja,if_neg (by rw[h.off];simp),if_neg (by rw[h.nb b];simp),if_neg hs]
 refine⟨hz,?_⟩;have e:=(tv hz).2.2.2.2;have hf:(cE c b p).bc=c.bc:=by rw[e];rfl
 have ho:(cE c b p).ops=c.ops+1:=by rw[e];rfl
 have nA:(cE c b p).off=false:=by rw[e,oH,(show(bE c).2=false by simpa using hs)];rfl
 have nV:=ac8 hz;have Cd: ∀k:Int,(aA (cE c b p) k).bad=false/\(aA (cE c b p) k).bj=(aA c k).bj:=fun k=>by
  by_cases hk:k.toNat=b.toNat
  ·
   have e1:aA (cE c b p) k=aA (cE c b p) b:=by simp only[aA,hk]
   have e2:aA c k=aA c b:=by simp only[aA,hk]
   rw[e1,e2];exact⟨nV.2.2,nV.2.1⟩
  rw[ac7 hz hk];exact⟨h.nb k,rfl⟩
 exact⟨Rs h.ok (lF h.aj b p) (me c b p),fun k=>(Cd k).1,nA,by rw[hf];exact h.cut,by rw[ho];omega,fun k=>by rw[(Cd k).2];have:=h.bj k;omega⟩
theorem Ok.erase{n:Nat}{c:CV}{b:Int}(h:Ok (n+1) c)(h0:0<=b)(h1:b<c.blocks.length):(dX c b=0/\Ok n (gI c b))\/dX c b=7:=by
 have hh:kA c b=true:=kB.2 ⟨h.aj,h0,h1⟩;have ac9:=h.ops;have hwb:=h.bj b;have Ru:rH c b=true:=wX.2 ⟨hh,by omega,by omega⟩
 by_cases hs:(bE c).2=true
 ·
  right;rw[dX,if_pos Ru,if_neg (by rw[h.off];simp),if_neg (by rw[h.nb b];simp),if_pos hs,mX,if_pos (h.Rr hs)]
 left;have hz:dX c b=0:=by
  rw[dX,if_pos Ru,if_neg (by rw[h.off];simp),if_neg (by rw[h.nb b];simp),if_neg hs]
 refine⟨hz,?_⟩;have e:=(Ol hz).2.2.2.2;have hf:(gI c b).bc=c.bc:=by rw[e];rfl
 have ho:(gI c b).ops=c.ops+1:=by rw[e];rfl
 have nA:(gI c b).off=false:=by rw[e,rI,(show(bE c).2=false by simpa using hs)];rfl
 obtain⟨_,h3,h4⟩:=kB.1 hh;have Cd: ∀k:Int,(aA (gI c b) k).bad=false/\(aA (gI c b) k).bj<=(aA c k).bj+1:=fun k=>by
  rw[e,rI,Rk (by omega)];split
  ·
   rename_i hk;have e2:aA c k=aA c b:=by simp only[aA,hk]
   rw[e2];exact⟨h.nb b,by simp only;omega⟩
  exact⟨h.nb k,by omega⟩
 exact⟨Rs h.ok (D2 h.aj b) (D3 c b),fun k=>(Cd k).1,nA,by rw[hf];exact h.cut,by rw[ho];omega,fun k=>by have:=(Cd k).2;have:=h.bj k;omega⟩
theorem Ok.root{n:Nat}{c:CV}{last:Int}(h:Ok (n+1) c)(hl:last=0\/last=1):((bH c last).2.2=0/\Ok n (bH c last).1)\/(bH c last).2.2=7:=by
 have h4:=(tn.1 h.ok).2.1;rw[bH];split
 ·
  exact .inl ⟨rfl,h.mono (by omega)⟩
 split
 ·
  exact .inl ⟨rfl,h.mono (by omega)⟩
 split
 ·
  rename_i hb;rw[h.nb]at hb;cases hb
 exact h.erase (by omega) (by omega)
theorem Ok.tell{n:Nat}{c:CV}{fl:List Int}(h:Ok n c)(i:Nat):Cc c fl i=⟨mz c.ab fl i,(aA c ((i:Int)+2)).used,(aA c ((i:Int)+2)).bj,false⟩:=ac6 (h.nb _)
theorem Ok.get{n:Nat}{c:CV}{fl:List Int}(h:Ok n c)(hs:Std c fl){i:Nat}(hi:i<c.blocks.length -2):(aQ c fl)[i]? =some ⟨mz c.ab fl i,(aA c ((i:Int)+2)).used,(aA c ((i:Int)+2)).bj,false⟩:=by
 have hd:=kF h.aj;rw[ac5 (by omega) hs,anA,aoK hi,an8,h.tell]
theorem Ok.getD{n:Nat}{c:CV}{fl:List Int}(h:Ok n c)(hs:Std c fl){i:Nat}(hi:i<c.blocks.length -2):(aQ c fl).getD i gX=⟨mz c.ab fl i,(aA c ((i:Int)+2)).used,(aA c ((i:Int)+2)).bj,false⟩:=by
 have:=h.get hs hi;simp only[List.getD,this,apu]
end Go.Kb
namespace Go.au
open Go.Kb
section
variable {α:Type} {f:α->Nat} {xs ys zs ts:List α} {a b m i j k n:Nat}
theorem four{P U W V S:List α}(t:Nat):(P++(U++(W++(V++S))))[t]? =if t<P.length then P[t]?else if t<P.length+U.length then U[t -P.length]?else if t<P.length+U.length+W.length then W[t -P.length -U.length]?else if t<P.length+U.length+W.length+V.length then V[t -P.length -U.length -W.length]?else S[t -P.length -U.length -W.length -V.length]? :=by
 simp only[List.getElem?_append]
 by_cases c1:t<P.length
 ·
  rw[if_pos c1,if_pos c1]
 rw[if_neg c1,if_neg c1]
 by_cases c2:t<P.length+U.length
 ·
  rw[if_pos c2,if_pos (show t -P.length<U.length by omega)]
 rw[if_neg c2,if_neg (show ¬t -P.length<U.length by omega)]
 by_cases c3:t<P.length+U.length+W.length
 ·
  rw[if_pos c3,if_pos (show t -P.length -U.length<W.length by omega)]
 rw[if_neg c3,if_neg (show ¬t -P.length -U.length<W.length by omega)]
 by_cases c4:t<P.length+U.length+W.length+V.length
 ·
  rw[if_pos c4,if_pos (show t -P.length -U.length -W.length<V.length by omega)]
 rw[if_neg c4,if_neg (show ¬t -P.length -U.length -W.length<V.length by omega)]
end
section
variable {α:Type} {f:α->Nat} {xs ys zs ts:List α} {a b c m i j k n s e:Nat}
def Bk(f:α->Nat)(xs ys:List α)(c lo hi:Nat):Prop:= ∀s,lo<=s->s<hi->s%c=0->pf f (Fl xs s (min (s+c) xs.length)) (Fl ys s (min (s+c) xs.length))
end
variable {t ts:List Rt} {k:Key} {bits:Int} {p:aJ}
variable {t ts:List Rt} {k:Key} {bits:Int} {p:aJ}
theorem ada(h:bM t=true):tH t p=qa t p/\xt t p=xO t p:=by
 have ho:=ju h
 cases hp:bg p with
 |false=>
  obtain⟨e1,e2⟩:=acZ (t:=t) hp;have bu:vw t p=false:=by rw[vw,hp,Bool.and_false]
  rw[e1,e2,tH,xt,if_neg (by rw[bu];simp),if_neg (by rw[bu];simp)];exact⟨rfl,rfl⟩
 |true=>
  have bu:vw t p=true:=by rw[vw,h,hp];rfl
  by_cases hx: ∃r∈t,r.p=p
  ·
   obtain⟨r,hr,rfl⟩:=hx;obtain⟨i,hi⟩:=aot.1 hr;obtain⟨e1,e2⟩:=ac0 (t:=t) hp (i:=i) (e:=r) (fun x hx=>by
    obtain⟨j,hj,hv⟩:=List.mem_take_iff_getElem.1 hx;have mB:t[j]? =some x:=by rw[anC (by omega),hv]
    exact Fo (ho.may x (alM mB)) (ho.at mB hi (by omega))) hi rfl
   obtain⟨e3,e4⟩:=Pc h hr;rw[e1,e2,e3,e4];exact⟨rfl,rfl⟩
  obtain⟨e1,e2⟩:=Ro (t:=t) hp fun x qp e=>hx ⟨x,qp,e⟩;rw[e1,e2]
  cases hf:xr t p with
  |some r=>
   have:tH t p=0:=by rw[tH,if_pos bu,hf];rfl
   obtain⟨r',h1,h2,_⟩:=Ye h this;exact absurd ⟨r',h1,h2⟩ hx
  |none=>rw[tH,xt,if_pos bu,if_pos bu,hf];exact⟨rfl,rfl⟩
theorem adb{t:List Rt}(h:bM t=true): ∀l:List Ch,bM (jc t l).1=true:=by
 intro l
 induction l generalizing t with
 |nil=>exact h
 |cons c l ih=>
  rw[jc];split
  ·
   exact ih (Cb h c)
  exact h
theorem Rv{t:List Rt}(h:bM t=true)(l:List Ch):bM (cT t l)=true:=by
 unfold cT;split
 ·
  exact adb h l
 exact h
variable {t ts:List Rt} {k:Key} {bits:Int} {p:aJ} {r:Rt}
theorem J6(h:bM t=true){c:Ch}(he:dH t c=0):eC t [c]=0/\cT t [c]=fO t c:=by
 have e:eC t [c]=0:=by rw[eC,if_pos h,jc,if_pos he];rfl
 exact⟨e,by rw[cT,if_pos e,jc,if_pos he];rfl⟩
theorem Fq(h:bM ts=true)(hb:jN ts k bits=0):ie ts k bits∈ts/\gK k bits (ie ts k bits)=true:=by
 rcases Ca (k:=k) (bits:=bits) h with⟨_,h2,h3,_⟩|⟨h1,_,_⟩
 ·
  exact⟨h2,h3⟩
 rw[hb]at h1;split at h1<;>omega
variable {t ts:List Rt} {p:aJ}
def gN(l:List Ch)(p:aJ):Option Ch:=(l.filter fun c=>decide (c.r.p=p)).getLast?
theorem ade(l:List Ch)(r:Ch)(p:aJ):gN (l++[r]) p=if r.r.p=p then some r else gN l p:=by
 unfold gN;rw[aoA]
 by_cases h:r.r.p=p
 ·
  rw[if_pos h];simp[h]
 rw[if_neg h];simp[h]
theorem J7{l:List Ch}{p:aJ}{x:Ch}(h:gN l p=some x):x∈l/\x.r.p=p:=by
 have:=anQ.1 (List.mem_of_getLast? h);exact⟨this.1,by simpa using this.2⟩
theorem xP(c:Ch)(l:List Ch)(p:aJ):gN (c::l) p=(gN l p).or (if c.r.p=p then some c else none):=by
 unfold gN;rw[aoj]
 by_cases h:c.r.p=p
 ·
  rw[if_pos (by simpa using h),if_pos h,List.getLast?_cons]
  cases hl:(l.filter fun c=>decide (c.r.p=p)).getLast?<;>simp
 rw[if_neg (by simpa using h),if_neg h];simp
theorem adf{l:List Ch}(h: ∀c∈l,c.r.p≠p):gN l p=none:=by
 unfold gN;rw[apw.2 fun c hc=>by simpa using h c hc];rfl
theorem adg(h:bM t=true){c:Ch}(he:dH t c=0)(x:Rt):x∈fO t c↔if c.r.p=x.p then c.gone=false/\x=c.r else x∈t:=by
 obtain⟨r,g⟩:=c
 cases g with
 |false=>
  rw[acT h he]
  by_cases hp:r.p=x.p
  ·
   rw[if_pos hp];constructor
   ·
    rintro(h1|⟨_,h1⟩)
    ·
     exact⟨rfl,h1⟩
    exact absurd hp.symm h1
   exact fun h1=> .inl h1.2
  rw[if_neg hp];constructor
  ·
   rintro(h1|h1)
   ·
    exact absurd (by rw[h1]) hp
   exact h1.1
  exact fun h1=> .inr ⟨h1,fun e=>hp e.symm⟩
 |true=>
  rw[ac1 h he,anQ]
  by_cases hp:r.p=x.p
  ·
   rw[if_pos hp];simp[hp]
  rw[if_neg hp];exact⟨fun h1=>h1.1,fun h1=>⟨h1,by simpa using fun e=>hp e.symm⟩⟩
theorem Rw: ∀{l:List Ch} {t:List Rt},bM t=true->(jc t l).2=0-> ∀x,x∈(jc t l).1↔match gN l x.p with
  |some c=>c.gone=false/\x=c.r
  |none=>x∈t
 |[],t,_,_,x=>by simp[gN,jc]
 |c::l,t,h,he,x=>by
  rw[jc]at he⊢
  by_cases hc:dH t c=0
  ·
   rw[if_pos hc]at he⊢;rw[Rw (Cb h c) he x,xP]
   cases hl:gN l x.p with
   |some d=>rfl
   |none=>
    simp only[Option.none_or];rw[adg h hc]
    by_cases hp:c.r.p=x.p
    ·
     rw[if_pos hp,if_pos hp]
    ·
     rw[if_neg hp,if_neg hp]
  ·
   rw[if_neg hc]at he;exact absurd he hc
theorem adh(h:bM t=true){l:List Ch}(he:eC t l=0)(x:Rt):x∈cT t l↔match gN l x.p with
  |some c=>c.gone=false/\x=c.r
  |none=>x∈t:=by
 rw[cT,if_pos he];rw[eC,if_pos h]at he;exact Rw h he x
structure kN(l:List Ch)(i n m:Nat)(c d:Ch):Prop where
 at':l[m]? =some d
 le:n<=l.length
 last:(n=i/\m=i)\/gN (l.take n) c.r.p=some d
theorem kN.start{l:List Ch}{i:Nat}{c:Ch}(hc:l[i]? =some c):kN l i i i c c:=⟨hc,by have:=(ad2.1 hc).1;omega, .inl ⟨rfl,rfl⟩⟩
theorem kN.no{l:List Ch}{i n m:Nat}{c d e:Ch}(hc:l[i]? =some c)(h:kN l i n m c d)(he:l[n]? =some e)(hp:e.r.p≠c.r.p):kN l i (n+1) m c d:=by
 refine⟨h.at',(ad2.1 he).1, .inr ?_⟩;rcases h.last with⟨rfl,rfl⟩|h1
 ·
  rw[hc]at he;obtain rfl:=ani he;exact absurd rfl hp
 rw[anq,he];exact(ade _ e _).trans ((if_neg hp).trans h1)
theorem kN.done{l:List Ch}{i m:Nat}{c d:Ch}(h:kN l i l.length m c d)(hi:i<l.length):gN l c.r.p=some d:=by
 rcases h.last with⟨h1,_⟩|h1
 ·
  omega
 rwa [anD]at h1
variable {t u:List Ch} {p:aJ} {r:Ch}
structure n7(t:List Ch):Prop where
 may: ∀r∈t,bg r.r.p=true
 less:t.Pairwise fun a b=>dr a.r.p b.r.p=true
theorem n7.sub{s t:List Ch}(h:n7 t)(hs:s.Sublist t):n7 s:=⟨fun r hr=>h.may r (hs.subset hr),h.less.sublist hs⟩
theorem n7.uniq{t:List Ch}(h:n7 t){a b:Ch}(ha:a∈t)(hb:b∈t)(e:a.r.p=b.r.p):a=b:=by
 obtain⟨i,hi,rfl⟩:=aoc ha;obtain⟨j,hj,rfl⟩:=aoc hb;have hp:=aod.1 h.less;have hm:=h.may _ hb;rcases apb i j with h1|h1|h1
 ·
  have:=hp i j hi hj h1;rw[e,nv hm]at this;cases this
 ·
  subst h1;rfl
 have:=hp j i hj hi h1;rw[e,nv hm]at this;cases this
theorem n7.ext: ∀{s t:List Ch},n7 s->n7 t->(∀x,x∈s↔x∈t)->s=t
 |[],[],_,_,_=>rfl
 |[],b::t,_,_,h=>by have:=(h b).2 (ano);cases this
 |a::s,[],_,_,h=>by have:=(h a).1 (ano);cases this
 |a::s,b::t,hs,ht,h=>by
  have ha:=(anM.1 hs.less);have hb:=(anM.1 ht.less);have ma:=hs.may a ano;have mb:=ht.may b ano;have e:a=b:=by
   apply aob;intro hn;rcases ank.1 ((h a).1 ano)with h1|h1
   ·
    exact hn h1
   rcases ank.1 ((h b).2 ano)with h2|h2
   ·
    exact hn h2.symm
   have h3:=hb.1 a h1;have h4:=ha.1 b h2;rw[J5 mb ma h3]at h4;cases h4
  subst e;have cc: ∀x,(∀y∈s,dr a.r.p y.r.p=true)->x∈s->x≠a:=fun x hy hx e=>by
   subst e;have:=hy x hx;rw[nv ma]at this;cases this
  rw[n7.ext (hs.sub (anT _ _)) (ht.sub (anT _ _)) fun x=>⟨fun hx=>?_,fun hx=>?_⟩]
  ·
   rcases ank.1 ((h x).1 (anI _ hx))with h1|h1
   ·
    exact absurd h1 (cc x ha.1 hx)
   exact h1
  rcases ank.1 ((h x).2 (anI _ hx))with h1|h1
  ·
   subst h1;have:=hb.1 x hx;rw[nv ma]at this;cases this
  exact h1
variable {t u v:List Rt} {p:aJ} {l:List Ch}
def gp(t:List Rt)(p:aJ):Option Rt:=t.find? fun x=>decide (x.p=p)
theorem vZ(ho:Ord t){x:Rt}:gp t p=some x↔x∈t/\x.p=p:=by
 unfold gp;constructor
 ·
  intro h;exact⟨List.mem_of_find?_eq_some h,by simpa using List.find?_some h⟩
 rintro⟨h1,h2⟩
 cases h:t.find? fun x=>decide (x.p=p)with
 |some y=>
  have h3:=List.mem_of_find?_eq_some h;have h4:y.p=p:=by simpa using List.find?_some h
  rw[ho.uniq h1 h3 (h2.trans h4.symm)]
 |none=>
  have:=aph.1 h x h1;simp[h2]at this
theorem Ce:gp t p=none↔ ∀x∈t,x.p≠p:=by
 unfold gp;rw[aph];exact⟨fun h x hx=>by simpa using h x hx,fun h x hx=>by simpa using h x hx⟩
theorem Rx{x:Rt}(h:gp t p=some x):x.p=p:=by
 unfold gp at h;simpa using List.find?_some h
theorem J8{x:Rt}(h:gp t p=some x):x∈t:=by
 unfold gp at h;exact List.mem_of_find?_eq_some h
theorem adi(h1:Ord t)(h2:Ord u)(h: ∀p,gp t p=gp u p):t=u:=
 Go.Kb.Ord.ext h1 h2 fun x=>by
  have:=h x.p;constructor
  ·
   intro hx;exact J8 (this▸(vZ h1).2 ⟨hx,rfl⟩)
  intro hx;exact J8 (this.symm▸(vZ h2).2 ⟨hx,rfl⟩)
def pg(l:List Ch):Prop:=l.Pairwise fun a b=>a.r.p≠b.r.p
theorem pg.uniq(h:pg l){a b:Ch}(ha:a∈l)(hb:b∈l)(e:a.r.p=b.r.p):a=b:=by
 obtain⟨i,hi,rfl⟩:=aoc ha;obtain⟨j,hj,rfl⟩:=aoc hb;have hp:=aod.1 h;rcases apb i j with h1|h1|h1
 ·
  exact absurd e (hp i j hi hj h1)
 ·
  subst h1;rfl
 exact absurd e.symm (hp j i hj hi h1)
theorem n7.dst(h:n7 l):pg l:=h.less.imp_of_mem fun{a b} ha _ sD=>Fo (h.may a ha) sD
theorem Rz(h:pg l){c:Ch}:gN l p=some c↔c∈l/\c.r.p=p:=by
 constructor
 ·
  exact J7
 rintro⟨h1,h2⟩
 cases hl:gN l p with
 |some d=>
  obtain⟨h3,h4⟩:=J7 hl;rw[h.uniq h1 h3 (h2.trans h4.symm)]
 |none=>
  have:(l.filter fun c=>decide (c.r.p=p))=[]:=List.getLast?_eq_none_iff.1 hl;have:=apw.1 this c h1;simp[h2]at this
theorem adj:gN l p=none↔ ∀c∈l,c.r.p≠p:=by
 constructor
 ·
  intro hl c hc;have:(l.filter fun c=>decide (c.r.p=p))=[]:=List.getLast?_eq_none_iff.1 hl;have:=apw.1 this c hc;simpa using this
 exact adf
theorem adk{m:List Ch}(hl:pg l)(hm:pg m)(h: ∀c,c∈l↔c∈m)(p:aJ):gN l p=gN m p:=by
 cases h1:gN m p with
 |some c=>
  obtain⟨h2,h3⟩:=(Rz hm).1 h1;exact(Rz hl).2 ⟨(h c).2 h2,h3⟩
 |none=>
  rw[adj]at h1⊢;exact fun c hc=>h1 c ((h c).1 hc)
def aC:Option Ch->Option Rt->Option Rt
 |some c,_=>if c.gone=true then none else some c.r
 |none,o=>o
theorem RA(h:bM t=true)(he:eC t l=0)(p:aJ):gp (cT t l) p=aC (gN l p) (gp t p):=by
 have hu:=ju (Rv h l);have key: ∀x:Rt,x.p=p->(x∈cT t l↔aC (gN l p) (gp t p)=some x):=fun x hx=>by
  rw[adh h he,hx]
  cases hl:gN l p with
  |none=>simp only[aC];rw[vZ (ju h)];exact⟨fun h=>⟨h,hx⟩,fun h=>h.1⟩
  |some c=>
   simp only[aC]
   cases c.gone<;>simp[eq_comm]
 cases ha:aC (gN l p) (gp t p)with
 |some x=>
  have hx:x.p=p:=by
   cases hl:gN l p with
   |none=>rw[hl]at ha;exact Rx ha
   |some c=>
    rw[hl]at ha;simp only[aC]at ha;split at ha
    ·
     cases ha
    rw[←ani ha];exact(J7 hl).2
  exact(vZ hu).2 ⟨(key x hx).2 ha,hx⟩
 |none=>
  rw[Ce];intro x hx e;have:=(key x e).1 hx;rw[ha]at this;cases this
theorem RB(h:bM t=true){c:Ch}(hm:bg c.r.p=true)(hg:c.gone=true->gp t c.r.p≠none)(hl:c.gone=false->t.length<256):dH t c=0:=by
 rw[acY h]
 cases hh:gp t c.r.p with
 |some x=>
  have h2:=Pc h (J8 hh);rw[Rx hh,(ada h).1]at h2;rw[h2.1,if_neg (by simp),if_neg (by simp)]
 |none=>
  have h2:=Ro hm (Ce.1 hh);have sq:c.gone=false:=by
   cases sq:c.gone with
   |false=>rfl
   |true=>exact absurd hh (hg sq)
  have:=hl sq;rw[h2.1,if_neg (by simp[sq]),if_neg (by omega)]
theorem adl(h:bM t=true)(c:Ch):(fO t c).length<=t.length+(if c.gone=true then 0 else 1):=by
 unfold fO;split
 ·
  split
  ·
   simp only[af0,anj,ant];omega
  split
  ·
   simp
  have:=Im t c.r.p;simp only[af0,anj,ang,ant];omega
 omega
theorem J9(h:bM t=true){c:Ch}(he:dH t c=0)(p:aJ):gp (fO t c) p=if c.r.p=p then(if c.gone=true then none else some c.r)else gp t p:=by
 obtain⟨e1,e2⟩:=J6 h he;have:=RA h e1 p;rw[e2]at this;rw[this];unfold gN
 by_cases hp:c.r.p=p
 ·
  rw[if_pos hp];simp[hp,aC]
 rw[if_neg hp];simp[hp,aC]
def ph(l:List Ch):Nat:=l.countP fun c=> !c.gone
theorem Cf(c:Ch)(l:List Ch):ph (c::l)=ph l+(if c.gone=true then 0 else 1):=by
 unfold ph;rw[List.countP_cons]
 cases c.gone<;>simp
theorem RC: ∀{l:List Ch} {t:List Rt},bM t=true->pg l->(∀c∈l,bg c.r.p=true/\(c.gone=true->gp t c.r.p≠none))->t.length+ph l<=256->(jc t l).2=0
 |[],_,_,_,_,_=>rfl
 |c::l,t,h,hd,hc,hn=>by
  rw[Cf]at hn;obtain⟨h1,h2⟩:=anM.1 hd;obtain⟨h3,h4⟩:=hc c ano;have he:dH t c=0:=RB h h3 h4 fun hg=>by rw[hg]at hn;simp at hn;omega
  rw[jc,if_pos he];have ov:=adl h c;refine RC (Cb h c) h2 (fun d BH=>?_) (by omega);obtain⟨h5,h6⟩:=hc d (anI _ BH);refine⟨h5,fun hg=>?_⟩;rw[J9 h he,if_neg (h1 d BH)];exact h6 hg
theorem RD(h:bM t=true)(hd:pg l)(hc: ∀c∈l,bg c.r.p=true/\(c.gone=true->gp t c.r.p≠none))(hn:t.length+ph l<=256):eC t l=0:=by
 rw[eC,if_pos h];exact RC h hd hc hn
theorem adm(a b:List Ch):ph (a++b)=ph a+ph b:=by unfold ph;exact List.countP_append
def cX:List Rt->List Rt->List Ch
 |[],[]=>[]
 |a::t,[]=>⟨a,true⟩::cX t []
 |[],b::u=>⟨b,false⟩::cX [] u
 |a::t,b::u=>if dr a.p b.p=true then⟨a,true⟩::cX t (b::u)else if a.p=b.p then(if a.hop≠b.hop then[⟨b,false⟩]else[])++cX t u else⟨b,false⟩::cX (a::t) u
termination_by t u=>t.length+u.length
theorem Fs:cX [] []=[]:=by rw[cX]
theorem adn{b:Rt}(h:t=[]\/ ∃a t',t=a::t'/\dr a.p b.p=false/\a.p≠b.p):cX t (b::u)=⟨b,false⟩::cX t u:=by
 rcases h with rfl|⟨a,t',rfl,h,h'⟩
 ·
  rw[cX]
 rw[cX,if_neg (by rw[h];simp),if_neg h']
theorem zW: ∀{t u:List Rt} {c:Ch},c∈cX t u->(c.gone=true/\c.r∈t)\/(c.gone=false/\c.r∈u):=by
 intro t u
 induction t,u using cX.induct with
 |case1=>intro c hc;rw[Fs]at hc;cases hc
 |case2 a t ih=>
  intro c hc;rw[cX]at hc;rcases ank.1 hc with rfl|hc
  ·
   exact .inl ⟨rfl,ano⟩
  rcases ih hc with⟨h1,h2⟩|⟨h1,h2⟩
  ·
   exact .inl ⟨h1,anI _ h2⟩
  exact .inr ⟨h1,h2⟩
 |case3 b u ih=>
  intro c hc;rw[cX]at hc;rcases ank.1 hc with rfl|hc
  ·
   exact .inr ⟨rfl,ano⟩
  rcases ih hc with⟨h1,h2⟩|⟨h1,h2⟩
  ·
   exact .inl ⟨h1,h2⟩
  exact .inr ⟨h1,anI _ h2⟩
 |case4 a t b u h ih=>
  intro c hc;rw[cX,if_pos h]at hc;rcases ank.1 hc with rfl|hc
  ·
   exact .inl ⟨rfl,ano⟩
  rcases ih hc with⟨h1,h2⟩|⟨h1,h2⟩
  ·
   exact .inl ⟨h1,anI _ h2⟩
  exact .inr ⟨h1,h2⟩
 |case5 a t b u h h' ih=>
  intro c hc;rw[cX,if_neg h,if_pos h']at hc;rcases anu.1 hc with hc|hc
  ·
   split at hc
   ·
    obtain rfl:c=⟨b,false⟩:=by simpa using hc
    exact .inr ⟨rfl,ano⟩
   cases hc
  rcases ih hc with⟨h1,h2⟩|⟨h1,h2⟩
  ·
   exact .inl ⟨h1,anI _ h2⟩
  exact .inr ⟨h1,anI _ h2⟩
 |case6 a t b u h h' ih=>
  intro c hc;rw[cX,if_neg h,if_neg h']at hc;rcases ank.1 hc with rfl|hc
  ·
   exact .inr ⟨rfl,ano⟩
  rcases ih hc with⟨h1,h2⟩|⟨h1,h2⟩
  ·
   exact .inl ⟨h1,h2⟩
  exact .inr ⟨h1,anI _ h2⟩
theorem RE: ∀{t u:List Rt},(cX t u).length<=t.length+u.length/\ph (cX t u)<=u.length:=by
 intro t u
 induction t,u using cX.induct with
 |case1=>rw[Fs];exact⟨Nat.le_refl _,anm _⟩
 |case2 a t ih=>rw[cX,Cf];simp only[ang,if_true]at ih⊢;omega
 |case3 b u ih=>rw[cX,Cf];simp only[ang,aon,if_false]at ih⊢;omega
 |case4 a t b u h ih=>rw[cX,if_pos h,Cf];simp only[ang,if_true]at ih⊢;omega
 |case5 a t b u h h' ih=>
  rw[cX,if_neg h,if_pos h',adm,af0];have:(if a.hop≠b.hop then[(⟨b,false⟩:Ch)]else[]).length<=1/\ph (if a.hop≠b.hop then[(⟨b,false⟩:Ch)]else[])<=1:=by
   split
   ·
    exact⟨Nat.le_refl _,anm _⟩
   exact⟨Nat.zero_le _,anH _⟩
  simp only[ang]at ih⊢;omega
 |case6 a t b u h h' ih=>rw[cX,if_neg h,if_neg h',Cf];simp only[ang,aon,if_false]at ih⊢;omega
theorem mA{a:Rt}(h:Ord (a::t)):Ord t/\ ∀x∈t,dr a.p x.p=true:=⟨h.sub (anT _ _),(anM.1 h.less).1⟩
theorem Fu: ∀{t u:List Rt},Ord t->Ord u->n7 (cX t u):=by
 intro t u;have cons: ∀{c:Ch} {m:List Ch},bg c.r.p=true->n7 m->(∀d∈m,dr c.r.p d.r.p=true)->n7 (c::m):=fun hc hm hl=>
  ⟨fun x hx=>by
   rcases ank.1 hx with rfl|hx
   ·
    exact hc
   exact hm.may x hx,anM.2 ⟨hl,hm.less⟩⟩
 induction t,u using cX.induct with
 |case1=>intro _ _;rw[Fs];exact⟨fun _ h=>(by cases h),List.Pairwise.nil⟩
 |case2 a t ih=>
  intro h1 h2;obtain⟨g1,g2⟩:=mA h1;rw[cX];refine cons (h1.may a ano) (ih g1 h2) fun d hd=>?_;rcases zW hd with⟨_,h⟩|⟨_,h⟩
  ·
   exact g2 _ h
  cases h
 |case3 b u ih=>
  intro h1 h2;obtain⟨g1,g2⟩:=mA h2;rw[cX];refine cons (h2.may b ano) (ih h1 g1) fun d hd=>?_;rcases zW hd with⟨_,h⟩|⟨_,h⟩
  ·
   cases h
  exact g2 _ h
 |case4 a t b u h ih=>
  intro h1 h2;obtain⟨g1,g2⟩:=mA h1;obtain⟨_,k2⟩:=mA h2;have ma:=h1.may a ano;have mb:=h2.may b ano;rw[cX,if_pos h];refine cons ma (ih g1 h2) fun d hd=>?_;rcases zW hd with⟨_,h3⟩|⟨_,h3⟩
  ·
   exact g2 _ h3
  rcases ank.1 h3 with h4|h4
  ·
   rw[h4];exact h
  exact zV ma mb (h2.may _ h3) h (k2 _ h4)
 |case5 a t b u h h' ih=>
  intro h1 h2;obtain⟨g1,g2⟩:=mA h1;obtain⟨k1,k2⟩:=mA h2;rw[cX,if_neg h,if_pos h'];split
  ·
   rw[apD];refine cons (h2.may b ano) (ih g1 k1) fun d hd=>?_;rcases zW hd with⟨_,h3⟩|⟨_,h3⟩
   ·
    show dr b.p _=true;rw[←h'];exact g2 _ h3
   exact k2 _ h3
  rw[anR];exact ih g1 k1
 |case6 a t b u h h' ih=>
  intro h1 h2;obtain⟨_,g2⟩:=mA h1;obtain⟨k1,k2⟩:=mA h2;have ma:=h1.may a ano;have mb:=h2.may b ano;rw[cX,if_neg h,if_neg h'];have su:dr b.p a.p=true:=Fm ma mb (by simpa using h) h';refine cons mb (ih h1 k1) fun d hd=>?_;rcases zW hd with⟨_,h3⟩|⟨_,h3⟩
  ·
   rcases ank.1 h3 with h4|h4
   ·
    rw[h4];exact su
   exact zV mb ma (h1.may _ h3) su (g2 _ h4)
  exact k2 _ h3
def dC:Option Rt->Option Rt->Option Ch
 |none,none=>none
 |some x,none=>some ⟨x,true⟩
 |none,some y=>some ⟨y,false⟩
 |some x,some y=>if x=y then none else some ⟨y,false⟩
theorem zX(a:Rt)(t:List Rt):gp (a::t) p=if a.p=p then some a else gp t p:=by
 unfold gp;rw[List.find?_cons]
 by_cases h:a.p=p<;>simp[h]
theorem RF:gp [] p=none:=rfl
theorem pI{a:aJ}(ha:bg a=true)(h: ∀x∈t,dr a x.p=true):gp t a=none:=Ce.2 fun x hx e=>by
 have:=h x hx;rw[e,nv ha]at this;cases this
theorem ado: ∀{t u:List Rt},Ord t->Ord u-> ∀p,gN (cX t u) p=dC (gp t p) (gp u p):=by
 intro t u
 induction t,u using cX.induct with
 |case1=>intro _ _ p;rw[Fs];rfl
 |case2 a t ih=>
  intro h1 h2 p;obtain⟨g1,g2⟩:=mA h1;rw[cX,xP,ih g1 h2,zX,RF]
  by_cases hp:a.p=p
  ·
   subst hp;rw[if_pos rfl,if_pos rfl,pI (h1.may a ano) g2];rfl
  rw[if_neg hp,if_neg hp,Option.or_none]
 |case3 b u ih=>
  intro h1 h2 p;obtain⟨g1,g2⟩:=mA h2;rw[cX,xP,ih h1 g1,zX,RF]
  by_cases hp:b.p=p
  ·
   subst hp;rw[if_pos rfl,if_pos rfl,pI (h2.may b ano) g2];rfl
  rw[if_neg hp,if_neg hp,Option.or_none]
 |case4 a t b u h ih=>
  intro h1 h2 p;obtain⟨g1,g2⟩:=mA h1;obtain⟨_,k2⟩:=mA h2;have ma:=h1.may a ano;have mb:=h2.may b ano;rw[cX,if_pos h,xP,ih g1 h2,zX a]
  by_cases hp:a.p=p
  ·
   subst hp;have hz:gp (b::u) a.p=none:=pI ma fun x hx=>by
    rcases ank.1 hx with rfl|qp
    ·
     exact h
    exact zV ma mb (h2.may _ hx) h (k2 _ qp)
   rw[if_pos rfl,if_pos rfl,pI ma g2,hz];rfl
  rw[if_neg hp,if_neg hp,Option.or_none]
 |case5 a t b u h h' ih=>
  intro h1 h2 p;obtain⟨g1,g2⟩:=mA h1;obtain⟨k1,k2⟩:=mA h2;have ma:=h1.may a ano;have mb:=h2.may b ano;rw[cX,if_neg h,if_pos h',zX,zX]
  by_cases hp:b.p=p
  ·
   subst hp;rw[if_pos h',if_pos rfl];have e1:=ih g1 k1 b.p;rw[pI mb k2,pI mb (by rw[←h'];exact g2)]at e1
   by_cases hh:a.hop=b.hop
   ·
    rw[if_neg (by simpa using hh),anR,e1];have:a=b:=by obtain⟨ap,ah⟩:=a;obtain⟨bp,bh⟩:=b;simp only at h' hh;rw[h',hh]
    simp[dC,this]
   rw[if_pos hh,apD,xP,e1];have:a≠b:=fun e=>hh (by rw[e]);simp[dC,this]
  have ha: ¬a.p=p:=by rw[h'];exact hp
  rw[if_neg ha,if_neg hp,←ih g1 k1 p]
  by_cases hh:a.hop=b.hop
  ·
   rw[if_neg (by simpa using hh),anR]
  rw[if_pos hh,apD,xP,if_neg hp,Option.or_none]
 |case6 a t b u h h' ih=>
  intro h1 h2 p;obtain⟨_,g2⟩:=mA h1;obtain⟨k1,k2⟩:=mA h2;have ma:=h1.may a ano;have mb:=h2.may b ano;have su:dr b.p a.p=true:=Fm ma mb (by simpa using h) h';rw[cX,if_neg h,if_neg h',xP,ih h1 k1,zX b]
  by_cases hp:b.p=p
  ·
   subst hp;have hz:gp (a::t) b.p=none:=pI mb fun x hx=>by
    rcases ank.1 hx with rfl|qp
    ·
     exact su
    exact zV mb ma (h1.may _ hx) su (g2 _ qp)
   rw[if_pos rfl,if_pos rfl,pI mb k2,hz];rfl
  rw[if_neg hp,if_neg hp,Option.or_none]
theorem adp{x y:Option Rt}:aC (dC x y) x=y:=by
 cases x<;>cases y
 ·
  rfl
 ·
  rfl
 ·
  rfl
 simp only[dC];split
 ·
  rename_i h;rw[h];rfl
 rfl
theorem RG(h1:bM t=true)(h2:Ord u){m:List Ch}(hd:pg m)(hm: ∀c,c∈m↔c∈cX t u)(he:eC t m=0):cT t m=u:=by
 refine adi (ju (Rv h1 m)) h2 fun p=>?_;rw[RA h1 he,adk hd (Fu (ju h1) h2).dst hm,ado (ju h1) h2,adp]
theorem RH(h1:Ord t)(h2:Ord u){c:Ch}(hc:c∈cX t u):bg c.r.p=true/\(c.gone=true->gp t c.r.p≠none):=by
 refine⟨(Fu h1 h2).may c hc,fun hg hn=>?_⟩;rcases zW hc with⟨_,h⟩|⟨h,_⟩
 ·
  exact Ce.1 hn c.r h rfl
 rw[hg]at h;cases h
variable {t u v ts us ys zs a b:List Rt} {p:aJ} {l ls:List Ch} {i k:Nat}
def fH(l:List Ch):List Ch:=l.filter fun c=>c.gone
def Ka(l:List Ch):List Ch:=l.filter fun c=> !c.gone
theorem pg.perm{m:List Ch}(h:pg l)(hp:m.Perm l):pg m:=(hp.pairwise_iff fun h=>fun e=>h e.symm).2 h
theorem adq(l:List Ch):(fH l++Ka l).Perm l:=List.filter_append_perm _ _
theorem adr{m:List Ch}(h:m.Perm l):ph m=ph l:=h.countP_eq _
theorem makes(h1:bM t=true)(h2:bM u=true)(hl:t.length<=100)(hu:u.length<=100):eC t (fH (cX t u)++Ka (cX t u))=0/\cT t (fH (cX t u)++Ka (cX t u))=u:=by
 have o1:=ju h1;have o2:=ju h2;have hp:=adq (cX t u);have hd:=(Fu o1 o2).dst.perm hp;have hn:=adr hp;have nY:=(RE (t:=t) (u:=u)).2;have he:=RD h1 hd (fun c hc=>RH o1 o2 (hp.mem_iff.1 hc)) (by omega);exact⟨he,RG h1 o2 hd (fun c=>hp.mem_iff) he⟩
end Go.au
namespace Go.Kb
open Go.au
theorem ads{t:List Rt}(h:bM t=true):eC [] (cX [] t)=0/\cT [] (cX [] t)=t:=by
 have ho:=ju h;have h0:bM []=true:=rfl;have hn:=ju h0;have hd:pg (cX [] t):=(Fu hn ho).dst;have hl:=(RE (t:=[]) (u:=t)).2;have gC:=u9 h;have he:eC [] (cX [] t)=0:=RD h0 hd (fun c hc=>RH hn ho hc) (by simp only[anh];omega);exact⟨he,RG h0 ho hd (fun c=>Iff.rfl) he⟩
theorem adt{k:Key}{n:Int}(h0:0<=n)(h1:n<=128):(bA k n).toNat=k.toNat/2^(128 -n).toNat*2^(128 -n).toNat:=by
 unfold bA;split
 ·
  have e:(128 -n).toNat=128:=by omega
  rw[e,Nat.div_eq_of_lt k.isLt,Nat.zero_mul];rfl
 rw[BitVec.toNat_shiftLeft,BitVec.toNat_ushiftRight,Nat.shiftLeft_eq,Nat.shiftRight_eq_div_pow,show 128 -n.toNat=(128 -n).toNat by omega];exact anL (ao6 (Nat.div_mul_le_self _ _) k.isLt)
theorem Fv{p:aJ}(hm:bg p=true){k:Key}:bA k p.len=p.key↔p.key.toNat<=k.toNat/\k.toNat<p.key.toNat+2^(128 -p.len).toNat:=by
 obtain⟨c,hc⟩:=Fg hm;obtain⟨hb,h0,h1,_⟩:=(dW p).1 hm;have hS:0<2^(128 -p.len).toNat:=Nat.two_pow_pos _;have e:bA k p.len=p.key↔k.toNat/2^(128 -p.len).toNat*2^(128 -p.len).toNat=p.key.toNat:=by
  rw[←adt h0 (by omega)];exact⟨fun h=>by rw[h],ao3⟩
 rw[e];generalize 2^(128 -p.len).toNat=S at*;constructor
 ·
  intro h;rw[←h];have:=aoW k.toNat S;have:=aoP k.toNat hS;rw[an0];omega
 rintro⟨g1,g2⟩;rw[hc]at g1 g2⊢;rw[Nat.div_eq_of_lt_le (k:=c) (by rw[an0];exact g1) (by rw[anF,Nat.one_mul,an0];exact g2),an0]
section
variable {bits:Int} {a b k:Key} {hop:UInt16} {q:Nat×Nat}
theorem RI(h:bits=32\/bits=128):fj bits*2^bits.toNat=2^128:=by
 rw[fj,←apU];congr 1;omega
theorem xQ(h:bits=32\/bits=128)(hq:q∈eJ (fj bits) bits.toNat 0 a.toNat b.toNat):bg (p8 bits q)=true/\(p8 bits q).key.toNat=q.2/\2^(128 -(p8 bits q).len).toNat=fj bits*2^q.1:=by
 obtain⟨g1,_,g3,_,_,m,g6⟩:=zQ hq;rw[RI h]at g3;have hS:fj bits*2^q.1=2^(128 -(p8 bits q).len).toNat:=by
  rw[fj,←apU];congr 1;show _=(128 -(bits -(q.1:Int))).toNat;omega
 have hp:=um (fj bits) q.1;have hu:=zR bits;have hk:(p8 bits q).key.toNat=q.2:=by
  show(BitVec.ofNat 128 q.2).toNat=q.2;rw[aoB,anL (by omega)]
 refine⟨(dW _).2 ⟨h,by show 0<=bits -(q.1:Int);omega,by show bits -(q.1:Int)<=bits;omega,J1 (by show 0<=bits -(q.1:Int);omega) (by show bits -(q.1:Int)<=128;omega) ?_⟩,hk,hS.symm⟩;rw[hk,←hS,g6,anG];exact Nat.dvd_mul_left _ _
def eK(bits:Int)(a b:Key)(hop:UInt16):List Rt:=(fR bits a b).map fun p=>⟨p,hop⟩
theorem zY(h:kf bits a b=true){r:Rt}:r∈eK bits a b hop↔ ∃q∈eJ (fj bits) bits.toNat 0 a.toNat b.toNat,r=⟨p8 bits q,hop⟩:=by
 rw[eK,fR,if_pos h,fQ,apL,aoC];show(∃q∈eJ (fj bits) (bits -0).toNat 0 a.toNat b.toNat,_)↔_;rw[Int.sub_zero];exact⟨fun⟨q,h1,h2⟩=>⟨q,h1,h2.symm⟩,fun⟨q,h1,h2⟩=>⟨q,h1,h2.symm⟩⟩
theorem adu(h:kf bits a b=true):Ord (eK bits a b hop):=by
 have hb:=(uo.1 h).1;refine⟨fun r hr=>?_,?_⟩
 ·
  obtain⟨q,hq,rfl⟩:=(zY h).1 hr;exact(xQ hb hq).1
 rw[eK,fR,if_pos h,fQ,apL,List.pairwise_map];show(eJ (fj bits) (bits -0).toNat 0 a.toNat b.toNat).Pairwise _;rw[Int.sub_zero];refine Fc.imp_of_mem fun{x y} hx hy hxy=>?_;obtain⟨x1,x2,x3⟩:=xQ hb hx;obtain⟨y1,y2,y3⟩:=xQ hb hy;refine(mO x1 y1).2 (.inr ⟨rfl, .inl ?_⟩);show(p8 bits x).key.toNat<(p8 bits y).key.toNat;rw[x2,y2];have hp:=um (fj bits) x.1;have hu:=zR bits;omega
theorem zZ(h:kf bits a b=true)(hl:(fR bits a b).length<=256):bM (eK bits a b hop)=true:=O8 (adu h) (by rw[eK,anJ];exact hl)
theorem adv{u d lo a b:Nat}{x y:Nat×Nat}(hx:x∈eJ u d lo a b)(hy:y∈eJ u d lo a b):x=y\/x.2+u*2^x.1<=y.2\/y.2+u*2^y.1<=x.2:=by
 obtain⟨i,hi,rfl⟩:=aoc hx;obtain⟨j,hj,rfl⟩:=aoc hy;have hp:=aod.1 (Fc (u:=u) (d:=d) (lo:=lo) (a:=a) (b:=b));rcases apb i j with g|g|g
 ·
  exact .inr (.inl (hp i j hi hj g))
 ·
  subst g;exact .inl rfl
 exact .inr (.inr (hp j i hj hi g))
theorem RJ(h:kf bits a b=true){r s:Rt}(hr:r∈eK bits a b hop)(hs:s∈eK bits a b hop){z:Key}(h1:bA z r.p.len=r.p.key)(h2:bA z s.p.len=s.p.key):r=s:=by
 have hb:=(uo.1 h).1;obtain⟨x,hx,rfl⟩:=(zY h).1 hr;obtain⟨y,hy,rfl⟩:=(zY h).1 hs;obtain⟨x1,x2,x3⟩:=xQ hb hx;obtain⟨y1,y2,y3⟩:=xQ hb hy;have c1:=(Fv x1).1 h1;have c2:=(Fv y1).1 h2;rw[x2,x3]at c1;rw[y2,y3]at c2;rcases adv hx hy with e|e|e
 ·
  rw[e]
 ·
  omega
 omega
theorem RL(h:kf bits a b=true)(hl:(fR bits a b).length<=256):zk (eK bits a b hop)=eK bits a b hop:=by
 rw[zk,if_pos (zZ h hl),Ip,List.filter_eq_self];intro r hr;rw[vu,Option.isNone_iff_eq_none,O9];intro s hs;rw[←apt];intro hc;obtain⟨c1,c2⟩:=Io.1 hc;obtain⟨p1,p2,p3,p4,p5⟩:=(oz _ _).1 c2;exact c1 (by rw[RJ h hs hr p5 ((dW _).1 p2).2.2.2])
theorem RM(h:kf bits a b=true)(hk:bA k bits=k):(∃r∈eK bits a b hop,gK k bits r=true)↔a.toNat<=k.toNat/\k.toNat<=b.toNat:=by
 have hb:=(uo.1 h).1;obtain⟨j,hj⟩:=Ra (show 0<=bits by omega) (by omega) hk;constructor
 ·
  rintro⟨r,hr,hw⟩;obtain⟨q,hq,rfl⟩:=(zY h).1 hr;obtain⟨x1,x2,x3⟩:=xQ hb hq;simp only[gK,anc]at hw;have c1:=(Fv x1).1 ((kv _ _).1 hw.2).2.2;rw[x2,x3]at c1;obtain⟨_,_,_,g4,g5,m,g6⟩:=zQ hq;refine⟨by omega,?_⟩;have e:q.2+fj bits*2^q.1=fj bits*((m+1)*2^q.1):=by
   rw[g6,anG,anF,Nat.one_mul,Nat.mul_add,Nat.mul_left_comm]
  have c2:=c1.2;rw[e,hj]at c2;have c3:=apM (fj bits) (Nat.lt_of_mul_lt_mul_left c2);rw[←e,Nat.mul_succ,show fj bits*j=k.toNat from hj.symm]at c3;omega
 rintro⟨g1,g2⟩;obtain⟨q,hq,c1,c2⟩:=JY (zR bits) (d:=bits.toNat) (lo:=0) (anH _) (by rw[RI hb];have:=k.isLt;omega) g1 g2 ⟨j,by rw[anG,an0];exact hj⟩;obtain⟨x1,x2,x3⟩:=xQ hb hq;refine⟨_,(zY h).2 ⟨q,hq,rfl⟩,?_⟩;simp only[gK,anc,decide_eq_true_eq];exact⟨rfl,(kv _ _).2 ⟨x1,hk,(Fv x1).2 (by rw[x2,x3];exact⟨c1,c2⟩)⟩⟩
theorem Kc(hb:bits=32\/bits=128)(hk:bA k bits=k):bg ⟨bits,bits,k⟩=true:=(dW _).2 ⟨hb,by show 0<=bits;omega,aop _,hk⟩
theorem adw{t:List Rt}(ht:bM t=true)(hk:bA k bits≠k):jN t k bits=1:=by
 rcases Ca (k:=k) (bits:=bits) ht with⟨_,_,g,_⟩|⟨g,_,_⟩
 ·
  exact absurd (J4 g).2.1 hk
 rw[g,if_neg];intro h;exact hk ((dW _).1 h).2.2.2
theorem Fq(h:kf bits a b=true)(hl:(fR bits a b).length<=256)(hk:bA k bits=k)(hi:a.toNat<=k.toNat/\k.toNat<=b.toNat):
  jN (eK bits a b hop) k bits=0/\ie (eK bits a b hop) k bits∈eK bits a b hop/\gK k bits (ie (eK bits a b hop) k bits)=true/\(ie (eK bits a b hop) k bits).hop=hop:=by
 obtain⟨r,hr,hw⟩:=(RM (hop:=hop) h hk).2 hi;rcases Ca (k:=k) (bits:=bits) (zZ (hop:=hop) h hl)with⟨g1,g2,g3,_⟩|⟨_,_,g⟩
 ·
  refine⟨g1,g2,g3,?_⟩;obtain⟨q,_,e⟩:=(zY h).1 g2;rw[e]
 ·
  rw[g r hr]at hw;cases hw
theorem adx(h:kf bits a b=true)(hl:(fR bits a b).length<=256)(hk:bA k bits=k)(hi: ¬(a.toNat<=k.toNat/\k.toNat<=b.toNat)):jN (eK bits a b hop) k bits=6:=by
 rcases Ca (k:=k) (bits:=bits) (zZ (hop:=hop) h hl)with⟨_,g2,g3,_⟩|⟨g,_,_⟩
 ·
  exact absurd ((RM h hk).1 ⟨_,g2,g3⟩) hi
 rw[g,if_pos (Kc (uo.1 h).1 hk)]
structure xR(k:Key)(bits:Int)(t:List Rt):Prop where
 right:bM t=true
 none: ∀q∈t,gK k bits q=false
theorem xR.ady{t:List Rt}(h:xR k bits t)(hb:bits=32\/bits=128)(hk:bA k bits=k):jN t k bits=6:=by
 rcases Ca (k:=k) (bits:=bits) h.right with⟨_,g2,g3,_⟩|⟨g,_,_⟩
 ·
  rw[h.none _ g2]at g3;cases g3
 rw[g,if_pos (Kc hb hk)]
theorem xR.put{t:List Rt}(h:xR k bits t){r:Rt}(hr:gK k bits r=false):xR k bits (cT t [⟨r,false⟩]):=by
 by_cases he:dH t ⟨r,false⟩=0
 ·
  rw[(J6 h.right he).2];have h2:=Cb h.right ⟨r,false⟩;refine⟨h2,fun q hq=>?_⟩;have hh:=(vZ (ju h2)).2 ⟨hq,rfl⟩;rw[J9 h.right he]at hh;split at hh
  ·
   obtain rfl:r=q:=ani hh;exact hr
  exact h.none q ((vZ (ju h.right)).1 hh).1
 have: ¬eC t [⟨r,false⟩]=0:=by
  rw[eC,if_pos h.right,jc,if_neg he];exact he
 rw[cT,if_neg this];exact h
theorem adz(h:kf bits a b=true)(hl:(fR bits a b).length<=256){r:Rt}(hr:r∈eK bits a b hop)(hw:gK k bits r=true):eC (eK bits a b hop) [⟨r,true⟩]=0/\xR k bits (cT (eK bits a b hop) [⟨r,true⟩]):=by
 have ht:=zZ (hop:=hop) h hl;have ho:=ju ht;have he:dH (eK bits a b hop) ⟨r,true⟩=0:=RB ht (ho.may r hr) (fun _ e=>Ce.1 e r hr rfl) (fun e=>by cases e);obtain⟨e1,e2⟩:=J6 ht he;refine⟨e1,?_⟩;rw[e2];have h2:=Cb ht ⟨r,true⟩;refine⟨h2,fun q hq=>?_⟩;have hh:=(vZ (ju h2)).2 ⟨hq,rfl⟩;rw[J9 ht he]at hh;split at hh
 ·
  simp at hh
 rename_i cc;have hqt:=((vZ ho).1 hh).1;rw[←apt];intro RN;simp only[gK,anc]at hw RN;exact cc (by rw[RJ h hr hqt ((kv _ _).1 hw.2).2.2 ((kv _ _).1 RN.2).2.2])
theorem adA{z:List aJ}(hb:bits=32\/bits=128)(hk:bA k bits=k)(ho:kO ⟨bits,bits,k⟩ z){p:aJ}(hp:p∈z)(hop:UInt16):gK k bits ⟨p,hop⟩=false:=by
 have:=(ho p hp).2.2 k ((kv _ _).2 ⟨Kc hb hk,hk,hk⟩);rw[gK,this,Bool.and_false]
theorem adB{r:Rt}(h:gK k bits r=true):iX r.p ⟨bits,bits,k⟩=true:=by
 obtain⟨_,_,h3⟩:=J4 h;simp only[gK,anc,decide_eq_true_eq]at h;obtain⟨g1,g2,g3⟩:=(kv _ _).1 h.2;exact(oz _ _).2 ⟨g1,h3,h.1,by show r.p.len<=bits;have:=((dW _).1 g1).2.2.1;rw[h.1]at this;exact this,g3⟩
theorem RO(h:qV bits a b=0):kf bits a b=true:=by
 apply aob;intro hn;rw[qV,if_neg hn]at h;cases h
theorem RP(h:qV bits a b=0):(bits=32\/bits=128)/\((fR bits a b).length:Int)<=2*bits:=by
 have bu:=RO h;have hb:=(uo.1 bu).1;have:=Re hb a b;refine⟨hb,?_⟩;rw[fR,if_pos bu];omega
theorem adC:(!decide (qV bits a b=0)||decide (((fR bits a b).length:Int)<=2*bits))=true:=by
 by_cases g:qV bits a b=0
 ·
  rw[decide_eq_true (RP g).2,Bool.or_true]
 rw[decide_eq_false g];rfl
def sC(hop:UInt16)(l:List aJ):List Ch:=l.map fun p=>⟨⟨p,hop⟩,false⟩
theorem adD{l:List aJ}{i:Nat}{p:aJ}(h:l[i]? =some p):sC hop (l.take (i+1))=sC hop (l.take i)++[⟨⟨p,hop⟩,false⟩]:=by
 rw[sC,sC,anq,h,an2];rfl
theorem adE(h:kf bits a b=true)(hl:(fR bits a b).length<=256):eC [] (sC hop (fR bits a b))=0/\cT [] (sC hop (fR bits a b))=eK bits a b hop:=by
 have key: ∀t:List Rt,cX [] t=t.map fun r=>⟨r,false⟩:=by
  intro t
  induction t with
  |nil=>rw[cX];rfl
  |cons r t ih=>rw[adn (.inl rfl),ih];rfl
 have:=ads (zZ (hop:=hop) h hl);rw[key,eK,apL]at this;exact this
end
end Go.Kb
namespace Go.au
open Go.Kb Go.RowKit
theorem RQ: ∀(n a b:Nat),Op.bytesLess (be a n) (be b n)=decide (a%256^n<b%256^n)
 |0,a,b=>by simp[be,Op.bytesLess,Nat.mod_one]
 |n+1,a,b=>by
  have h1:=aoP a (Nat.pow_pos (n:=n) (show 0<256 by decide));have h2:=aoP b (Nat.pow_pos (n:=n) (show 0<256 by decide));rw[be,be,Op.bytesLess,RQ n,Nat.mod_pow_succ,Nat.mod_pow_succ (x:=b)];have ea:(b8 (a/256^n)).toNat=a/256^n%256:=yk _;have eb:(b8 (b/256^n)).toNat=b/256^n%256:=yk _;have aZ:(b8 (a/256^n)<b8 (b/256^n))↔a/256^n%256<b/256^n%256:=by rw[UInt8.lt_iff_toNat_lt,ea,eb]
  have heq:(b8 (a/256^n)=b8 (b/256^n))↔a/256^n%256=b/256^n%256:=by rw[←apl,ea,eb]
  generalize 256^n=S at*;generalize a/S%256=x at*;generalize b/S%256=y at*;generalize a%S=r at*;generalize b%S=s at*;rw[apk,aog,anc,decide_eq_true_eq,decide_eq_true_eq,beq_iff_eq,decide_eq_true_eq,aZ,heq];rcases apb x y with h|h|h
  ·
   have:=apM S (show x+1<=y from h);rw[Nat.mul_add,aoy]at this;exact⟨fun _=>by omega,fun _=> .inl h⟩
  ·
   subst h;exact⟨fun g=>by rcases g with g|g;(exact absurd g (Nat.lt_irrefl _));(omega),fun g=> .inr ⟨rfl,by omega⟩⟩
  have:=apM S (show y+1<=x from h);rw[Nat.mul_add,aoy]at this;exact⟨fun g=>by omega,fun g=>by omega⟩
def lj(k:Key):ByteArray:=⟨(be k.toNat 16).toArray⟩
theorem Fw(a b:Key):Op.bytesLess (lj a).toList (lj b).toList=decide (a.toNat<b.toNat):=by
 show Op.bytesLess (ByteArray.mk _).toList (ByteArray.mk _).toList=_;rw[Go.Lib.toList_data,Go.Lib.toList_data];show Op.bytesLess (be a.toNat 16) (be b.toNat 16)=_;rw[RQ,anL (show a.toNat<256^16 from a.isLt),anL (show b.toNat<256^16 from b.isLt)]
theorem adF(t:TypeId)(a b:Key):binOp .geq t (.string (lj a)) (.string (lj b))=pure (.bool (decide (b.toNat<=a.toNat))):=by
 have h:(!decide (a.toNat<b.toNat))=decide (b.toNat<=a.toNat):=by rw[←decide_not,decide_eq_decide];exact Nat.not_lt
 simp only[binOp,Op.stringOp,Fw,h]
theorem adG(t:TypeId)(a b:Key):binOp .leq t (.string (lj a)) (.string (lj b))=pure (.bool (decide (a.toNat<=b.toNat))):=by
 have h:(decide (a.toNat<b.toNat)||(lj a).toList==(lj b).toList)=decide (a.toNat<=b.toNat):=by
  rw[apk,aog,decide_eq_true_eq,beq_iff_eq,decide_eq_true_eq];constructor
  ·
   rintro(g|g)
   ·
    omega
   have e1:=Fw b a;rw[g,Fw,eq_comm,decide_eq_decide]at e1;omega
  intro g
  by_cases e:a=b
  ·
   exact .inr (by rw[e])
  exact .inl (Nat.lt_of_le_of_ne g fun h=>e (ao3 h))
 simp only[binOp,Op.stringOp,Fw,h]
theorem RR(n:Nat): ∀(k j:Nat),j<k->(be n k)[j]? =some (b8 (n/256^(k -1 -j)))
 |0,j,h=>absurd h (Nat.not_lt_zero _)
 |k+1,0,_=>by rw[be];simp
 |k+1,j+1,h=>by rw[be,List.getElem?_cons_succ,RR n k j (by omega),show k -1 -j=k+1 -1 -(j+1) by omega]
section
variable {P:Program} {N:bO} {w0:World} {env:Env} {L:List ai} {d:Option Tmp} {t u s ty:TypeId} {ps:String} {af:Array Edge} {gd:Option (Nat×Bool)} {x y:Operand}
theorem adH{a b:Key}(hx:ev env x=some (.string (lj a)))(hy:ev env y=some (.string (lj b))):
  Ry P N w0 env L ⟨d, .binOp .geq t x y u,ty,ps,af,gd⟩ (.bool (decide (b.toNat<=a.toNat))):=fun aa w ha _=>by
 have h2:(eqGuard BinOp.geq t x y (.string (lj a)) (.string (lj b))).run P w= .ok () w:=rfl;simp only[execOp,ha.ev hx,ha.ev hy,Sem.run_bind,h2,Result.andThen_ok,adF,Sem.run_pure,Result.andThen_ok]
theorem adI{a b:Key}(hx:ev env x=some (.string (lj a)))(hy:ev env y=some (.string (lj b))):
  Ry P N w0 env L ⟨d, .binOp .leq t x y u,ty,ps,af,gd⟩ (.bool (decide (a.toNat<=b.toNat))):=fun aa w ha _=>by
 have h2:(eqGuard BinOp.leq t x y (.string (lj a)) (.string (lj b))).run P w= .ok () w:=rfl;simp only[execOp,ha.ev hx,ha.ev hy,Sem.run_bind,h2,Result.andThen_ok,adG,Sem.run_pure,Result.andThen_ok]
theorem Fx{e:TypeId}{b i:Nat}{k:Key}{T:TypeId}[hh:Has L b (aY k) T i](hs:P.underlying s=some (.slice e))(he:P.underlying e=some (.int .u8))(hd:P.underlying t=some .string)(hx:ev env x=some (.slice (some ⟨b,0,none⟩) 16 16)):
  Ry P N w0 env L ⟨d, .convert s t x,ty,ps,af,gd⟩ (.string (lj k)):=fun a w ha hw=>by
 have hr:(convert s t (.slice (some ⟨b,0,none⟩) 16 16)).run P w= .ok (.string (lj k)) w:=by
  have h:=run_convert_bytes_back (P:=P) w s t e ⟨b,0,none⟩ 16 (be k.toNat 16) hs he hd (fun j hj=>by
   have RS:j<16:=by rw[lq]at hj;exact hj
   have h3:=RR k.toNat 16 j RS;rw[anC hj]at h3;rw[Addr.fS,hw.cell hh.h,anG,gU _ j RS,ani h3,yk,aU,show(256:Nat)^(16 -1 -j)=2^(8*(15 -j)) by rw[show(256:Nat)=2^8 from rfl,←Nat.pow_mul]])
  rw[lq]at h;exact h
 simp only[execOp,ha.ev hx,Sem.run_bind,hr,Result.andThen,Sem.run_pure]
end
section
variable {P:Program} {N:bO} {w0:World} {env:Env} {L:List ai} {l:List Oper} {Q:Exit->Act->World->Prop} {rest:List Oper} {d:Option Tmp} {ty:TypeId} {ps:String} {af:Array Edge}
end
end Go.au
namespace Go.Proofs.YtkggjjnhnjjokaaGreatDoor
open Go.au Go.Kb Go.RowKit
instance am2(r:Rt):nF Tryz.prog 47 [(0, .agg (ao r)),(1, .bool true)] (.agg (gk ⟨r,true⟩)):=⟨fun w=>by kernel_rfl⟩
theorem adJ(w:World)[tb:pB w](bits:Int)(a:Key)(b:Key)(k:Key)(hop:UInt16):Calls Tryz.prog 4 #[.int .i64 bits, .agg (aY a), .agg (aY b), .agg (aY k), .int .u16 (hop.toNat:Nat)] w fun e w'=>e= .returned (.bool true)/\Mem w [] w':=by
 refine UO Tryz.func4 rfl Tryz.ntmps4 rfl ?_;refine Gc ?_;refine bx rfl fun b6=>bx rfl fun b7=>bx rfl fun b8=>aM ?_;refine dJ rfl (fun h0=>?_) (fun h0=>?_)
 ·
  exfalso;simp at h0
 replace h0:=bz h0;refine aq ?_;refine bf rfl trivial fun gM tV=>Gs ?_;refine ae (aF (v:=gM.val) rfl rfl) (ae (aF (v:= .int .i64 (qV bits a b)) rfl rfl) (lY ?_));refine Gb (fun h1=>?_) fun h1=>?_
 ·
  have am3:qV bits a b=0->(bits=32\/bits=128)/\((fR bits a b).length:Int)<=2*bits:=RP;refine cx ?_;refine bk rfl rfl rfl (fun hg=>(Ry.yl (od rfl (aw hg rfl) (by simp only[Z0,Z1,Z2,Z3,Z4,Z5,Z6,Z7,Z8,Z9]at hg;omega)))) (aq ?_);refine Gr fun w1 hw=>?_;exact Ge (adC) hw
 obtain⟨h1a,h1b⟩:=h1;have bu:=RO h1a;have qQ:(fR bits a b).length<=256:=by omega
 obtain⟨pE,pL⟩:=adE (hop:=hop) bu qQ;have vH:=(uo.1 bu).1;have IH:(eK bits a b hop).length<=256:=by rw[eK,anJ];exact qQ
 refine aM ?_;refine bI (X:=Nat×Sv) (fun zz=>[(14, .int .i64 (zz.1:Nat)),(13,zz.2.val),(0, .int .i64 bits),(4, .int .u16 (hop.toNat:Nat)),(6, .pointer (some ⟨b6,0,none⟩)),(7, .pointer (some ⟨b7,0,none⟩)),(8, .pointer (some ⟨b8,0,none⟩)),(11,gM.val)]) (fun zz=>[own gk 20 zz.2 (sC hop ((fR bits a b).take zz.1)),own aT 18 gM (fR bits a b),an b8 (aY k) 25,an b7 (aY b) 25,an b6 (aY a) 25]) (fun zz=>zz.1<=(fR bits a b).length) (fun zz=>(fR bits a b).length -zz.1) (0,Sv.none) (Nat.zero_le _) sb (fun w hw=>(ag.mem hw:Mem _ [own aT 18 gM (fR bits a b),an b8 (aY k) 25,an b7 (aY b) 25,an b6 (aY a) 25] _).cz gk 20) ?_;rintro⟨i,s1⟩ hi;dsimp only;simp only at hi;have gP:(sC hop ((fR bits a b).take i)).length<=i:=by rw[sC,List.length_map,List.length_take];omega
 refine aX ?_;refine Gb (fun h2=>?_) fun h2=>?_
 ·
  obtain⟨p,hp⟩:=get_some (xs:=(fR bits a b)) (i:=i) oM;refine aq ?_;refine ae (aV rfl rfl i rfl oM) (ae (fo rfl i hp rfl) (Gs ?_));refine ae (eN rfl) (ae (eN rfl) ?_);refine iH (enc:=gk) (vals:=[_]) [(⟨⟨p,hop⟩,false⟩:Ch)] rfl rfl rfl (by decide) (by decide) fun RT=>?_;refine iv (s:=s1) (ys:=[(⟨⟨p,hop⟩,false⟩:Ch)]) rfl rfl (by decide) (fun w hw=>gF (s:=⟨false,RT,0,1,1,none⟩) Tryz.underlying45 (by decide) ((inferInstance:Hd _ _ ⟨false,RT,0,1,1,none⟩ gk 20 [(⟨⟨p,hop⟩,false⟩:Ch)]).h w hw)) (by simp only[af0,ang,anh];omega) (by simp only[af0,ang,anh];omega) fun s67 am4 am5=>?_;refine aM ?_;refine Gi ?_;exact bb (x:=(i,s1)) (i+1,s67) (by simp only;omega) (by simp only;omega) sb (fun w hw=>by rw[adD hp];exact ag.mem hw)
 obtain rfl:i=(fR bits a b).length:=by omega
 rw[anD];refine ar ?_;refine bf (vs:=[Sv.none.val,_]) rfl (by simp) fun RU am6=>?_;rw[pL];refine Gs ?_;refine ae (aF (v:=RU.val) rfl rfl) (ae (aF (v:= .int .i64 (eC [] (sC hop (fR bits a b)))) rfl rfl) (aX ?_));refine jT rfl rfl rfl (by simp[pE]) (Ry.yl (aK rfl)) (Tb rfl rfl (by simp[pE]) rfl trivial fun x77 am7=>jT rfl rfl rfl (by simp[pE]) (Ry.yl (aK rfl)) (jT rfl rfl rfl (by simp[pE]) (bF rfl (by rw[RL bu qQ,eK,anJ];omega)) (jT rfl rfl rfl (by simp[pE]) (Ry.yl (gS rfl)) (ae (Tc rfl (by simp[pE]) rfl rfl) (Gc ?_)))));refine dJ rfl (fun h3=>?_) (fun h3=>?_)
 ·
  exfalso;rw[RL bu qQ]at h3;simp at h3
 replace h3:=bz h3;refine aX ?_;refine ae (aF (v:= .agg (ao (ie (eK bits a b hop) k bits))) rfl rfl) (ae (aF (v:= .int .i64 (jN (eK bits a b hop) k bits)) rfl rfl) (ba fun b17=>ak ?_));refine eS oK oK (ar ?_);refine lS (bF rfl trivial) (Gq ?_);refine bn (uA rfl rfl) (Gc ?_);refine Gb (fun h4=>?_) fun h4=>?_
 ·
  have xD:=adw (zZ (hop:=hop) bu qQ) h4;refine aM ?_;refine Gr fun w1 hw=>?_;exact Ge ((by rw[xD];rfl)) hw
 have lL:bA k bits=k:=by simpa using h4
 have iF:(a.toNat<=k.toNat/\k.toNat<=b.toNat)->jN (eK bits a b hop) k bits=0/\(ie (eK bits a b hop) k bits).hop=hop:=fun g=>⟨(Fq bu qQ lL g).1,(Fq bu qQ lL g).2.2.2⟩;have adK: ¬(a.toNat<=k.toNat/\k.toNat<=b.toNat)->jN (eK bits a b hop) k bits=6:=fun g=>adx bu qQ lL g;refine Gc ?_;refine eS oK oK (bn (jx rfl) (bn (Fx rfl rfl rfl rfl) (bn (jx rfl) (bn (Fx rfl rfl rfl rfl) (bn (adH rfl rfl) (Gq ?_))))));refine dM rfl rfl rfl (fun hg=>(Ry.yl (jx rfl))) (dM rfl rfl rfl (fun hg=>(Ry.yl (Fx rfl rfl rfl (aw hg rfl)))) (dM rfl rfl rfl (fun hg=>(Ry.yl (jx rfl))) (dM rfl rfl rfl (fun hg=>(Ry.yl (Fx rfl rfl rfl (aw hg rfl)))) (dM rfl rfl rfl (fun hg=>(Ry.yl (adI (aw hg rfl) (aw hg rfl)))) (aX ?_)))));refine ae (SA rfl rfl Tryz.underlying4) (ar ?_);refine bk rfl rfl rfl (fun hg=>(Ry.yl (aK (aw hg rfl)))) (ko rfl rfl rfl (fun hg=>(Ry.yl (aH (o':=18) rfl rfl))) (ko rfl rfl rfl (fun hg=>(Ry.yl (bC (aw hg rfl)))) (ko rfl rfl rfl (fun hg=>(Ry.yl (aK rfl))) (ko rfl rfl rfl (fun hg=>(Ry.yl (cQ (aw hg rfl) (aw hg rfl) rfl))) (bk rfl rfl rfl (fun hg=>(Ry.yl (sI (aw hg rfl) (uF hg rfl) rfl))) (ar ?_))))));refine dJ rfl (fun h5=>?_) (fun h5=>?_)
 ·
  exfalso;by_cases g:(a.toNat<=k.toNat/\k.toNat<=b.toNat)
  ·
   obtain⟨g1,g2⟩:=iF g;rw[g1,g2]at h5;simp[g.1,g.2]at h5
  rw[adK g]at h5;simp[g]at h5
 replace h5:=bz h5;refine aq ?_;refine Gb (fun h6=>?_) fun h6=>?_
 ·
  refine ak ?_;refine Gr fun w1 hw=>?_;exact⟨rfl,ag.mem hw⟩
 have Jd:(a.toNat<=k.toNat/\k.toNat<=b.toNat):=by simpa using h6
 obtain⟨m1,m2,m3,m4⟩:=Fq (hop:=hop) bu qQ lL Jd;have hcv:=adB m3;obtain⟨s1,s2⟩:=adz bu qQ m2 m3;refine ar ?_;refine ae (fa rfl) (ak ?_);refine ae (eN rfl) (bf rfl trivial fun xS adL=>Gs ?_);refine ae (aF (v:=xS.1.val) rfl rfl) (ae (aF (v:= .int .i64 (if iX ((ie (eK bits a b hop) k bits).p) (⟨bits,bits,k⟩:aJ)=true then 0 else 1)) rfl rfl) (aM ?_));refine ae (eN rfl) ?_;refine iH (enc:=gk) (vals:=[_]) [(⟨(ie (eK bits a b hop) k bits),true⟩:Ch)] rfl rfl rfl (by decide) (by decide) fun am8=>?_;refine bf rfl oM fun RW am9=>Gs ?_;refine ae (aF (v:=RW.val) rfl rfl) (ae (aF (v:= .int .i64 (eC (eK bits a b hop) [(⟨(ie (eK bits a b hop) k bits),true⟩:Ch)])) rfl rfl) (pD ?_));refine dJ rfl (fun h7=>?_) (fun h7=>?_)
 ·
  exfalso;rw[if_pos hcv,s1]at h7;simp at h7
 replace h7:=bz h7;refine ak ?_;refine bI (X:=Nat×Sv×List Rt) (fun zz=>[(24, .int .i64 (zz.1:Nat)),(22,zz.2.1.val),(0, .int .i64 bits),(4, .int .u16 (hop.toNat:Nat)),(8, .pointer (some ⟨b8,0,none⟩)),(20,xS.1.val)]) (fun zz=>[own ao 19 zz.2.1 zz.2.2,own aT 18 xS.1 xS.2,an b17 (ao (ie (eK bits a b hop) k bits)) 34,own ao 19 RU (eK bits a b hop),own aT 18 gM (fR bits a b),an b8 (aY k) 25,an b7 (aY b) 25,an b6 (aY a) 25]) (fun zz=>zz.1<=xS.2.length/\xR k bits zz.2.2) (fun zz=>xS.2.length -zz.1) (0,RW,cT (eK bits a b hop) [⟨(ie (eK bits a b hop) k bits),true⟩]) ⟨Nat.zero_le _,s2⟩ sb (fun w hw=>ag.mem hw) ?_;rintro⟨n,u,us⟩ ⟨vJ,nY⟩;dsimp only;simp only at vJ nY;have hul:=u9 nY.right;refine lY ?_;refine Gb (fun h8=>?_) fun h8=>?_
 ·
  obtain⟨p,hp⟩:=get_some (xs:=xS.2) (i:=n) oM;refine aq ?_;refine ae (aV rfl rfl n rfl oM) (ae (fo rfl n hp rfl) (Gs ?_));refine ae (eN rfl) (ae (eN rfl) ?_);refine iH (enc:=gk) (vals:=[_]) [(⟨⟨p,hop⟩,false⟩:Ch)] rfl rfl rfl (by decide) (by decide) fun ana=>?_;refine bf rfl oM fun RX anb=>Gs ?_;refine ae (aF (v:=RX.val) rfl rfl) (ae (aF (v:= .int .i64 (eC us [(⟨⟨p,hop⟩,false⟩:Ch)])) rfl rfl) (aM ?_));refine Gi ?_;exact bb (x:=(n,u,us)) (n+1,RX,cT us [⟨⟨p,hop⟩,false⟩]) ⟨by simp only;omega,nY.put (adA vH lL adL.1 (alM hp) hop)⟩ (by simp only;omega) sb (fun w hw=>ag.mem hw)
 refine aX ?_;refine ae (aF (v:= .agg (ao (ie us k bits))) rfl rfl) (ae (aF (v:= .int .i64 (jN us k bits)) rfl rfl) (ba fun tN=>cx ?_));refine Gr fun w1 hw=>?_;exact Ge ((by rw[nY.ady vH lL];rfl)) hw
end Go.Proofs.YtkggjjnhnjjokaaGreatDoor
namespace Go.au
open Go.ChangeShapes Go.WideShapes Go.ChangeAt Go.RowKit Go.Kb
variable {H:Type} {enc:TypeId×Value->H} {P:Program}
theorem RY(hl:laidOutB P=true){W W':World}{sp:Nat->Bool}: ∀{ts:List TypeId} {vs:List Value} {ds:List (DataW H)} {ps:List MemPlace},
  (∀t∈ts,P.readableRec t=true/\t<P.types.size)->DataW.TrodAll enc P W 0 (fun _=>true) true ts vs ds ps->(∀p∈ps,W.sameAt W' p)->(∀p∈ps,sp p.block=true)->
  DataW.TrodAll enc P W' 0 sp true ts vs ds ps
 |[],_,_,_,_,h,_,_=>by
  obtain⟨rfl,rfl,rfl⟩:=trodAll_nil h;exact rfl
 |t::_,_,_,_,ht,h,hs,hp=>by
  obtain⟨v,RZ,d,R0,a,b,rfl,rfl,rfl,h1,h2⟩:=trodAll_cons h;exact⟨a,b,WideElems.Trod_stays hl (ht t (by simp)).1 (ht t (by simp)).2 h1 (fun p h=>hs p (by simp[h])) (fun p h=>hp p (by simp[h])),
   RY hl (fun t h=>ht t (by simp[h])) h2 (fun p h=>hs p (by simp[h])) (fun p h=>hp p (by simp[h])),rfl⟩
theorem Kd{W:World}{b:Nat}{sp:Nat->Bool}{hd:Bool}: ∀{ts:List TypeId} {vs:List Value} {ds:List (DataW H)} {ps:List MemPlace},
  DataW.TrodAll enc P W b sp hd ts vs ds ps->vs.length=ts.length/\ds.length=ts.length
 |[],_,_,_,h=>by
  obtain⟨rfl,rfl,rfl⟩:=trodAll_nil h;exact⟨rfl,rfl⟩
 |_::_,_,_,_,h=>by
  obtain⟨v,RZ,d,R0,a,b,rfl,rfl,rfl,h1,h2⟩:=trodAll_cons h;have:=Kd h2;simp[this.1,this.2]
theorem adM(hl:laidOutB P=true){f:Func}{s:ChangeSpec}{apart fresh handsOn:Bool}{W W':World}{args:Array Value}{ds gs:List (DataW H)}{before:List MemPlace}{tb:TypeId}
  (hp:f.params.toList.all (fun t=>P.readableRec t&&decide (t<P.types.size))=true) (hr:f.resultTypes= #[tb]) (hb:P.underlying tb=some .bool) (hv:s.vars=[])
  (Cg: ∀ds:List (DataW H),ds.length=f.params.size->s.fn H ds={results:=[.lit (.bool true)],args:=ds})
  (hW:DataW.Whole enc P f.params.toList s.vars apart W args.toList ds gs before) (R5:Below W.heap.size W W'):
  s.post enc P f apart fresh handsOn false W args (.bool true) W':=by
 have aZ:=hW.lt;have hW0:=hW;obtain⟨p,q,hA,hV,rfl,ln,ca⟩:=hW;rw[hv]at hV;obtain⟨rfl,rfl⟩:=trodVars_none hV;have hlen:=Kd hA;have e1:s.fn H (ds++[])={results:=[.lit (.bool true)],args:=ds}:=by rw[anN];exact Cg ds (by rw[hlen.2];simp)
 have kU: ∀t∈f.params.toList,P.readableRec t=true/\t<P.types.size:=fun t ht=>by
  simpa using anw.1 hp t ht
 refine⟨ds,[],p++[],[],p,[],hW0,?_,?_,?_,R5.frame _,fun h=>by cases h⟩
 ·
  rw[e1,hr];exact trodAll_mk1 (shut_bool hb true)
 ·
  rw[e1];exact RY hl kU hA (fun x hx=>R5.same (aZ x (by simp[hx]))) (fun x hx=>by simpa using aZ x (by simp[hx]))
 ·
  rw[e1,hv];exact rfl
theorem adN{w:World}{b:Nat}{e:TypeId}{v:Value}(he:P.underlying e=some (.int .i64))(h:Cell.okWide P w .any b e v): ∃n:Int,v= .int .i64 n/\ -2^63<=n/\n<2^63:=by
 cases v with
 |int k n=>
  simp only[Cell.okWide,he,Cell.ok,IntKind.has]at h;obtain⟨rfl,h1,h2⟩:=h;have a1:(-2^63:Int)<=n:=h1;have a2:n<=(2^63 -1:Int):=h2;exact⟨n,rfl,a1,by omega⟩
 |_=>simp[Cell.okWide,he,Cell.ok]at h
theorem adO{w:World}{b:Nat}{t:TypeId}{v:Value}(he:P.underlying t=some (.int .i64))(h:Value.okWide P w .any b t v): ∃n:Int,v= .int .i64 n/\ -2^63<=n/\n<2^63:=by
 unfold Value.okWide at h;rw[he]at h;exact adN he h
theorem R6{α:Type}{l:List α}(h:l.length=5): ∃a b c d e,l=[a,b,c,d,e]:=match l,h with|[a,b,c,d,e],_=>⟨a,b,c,d,e,rfl⟩
theorem adP{w:World}{b:Nat}{t:TypeId}{v:Value}(he:P.underlying t=some (.int .u16))(h:Value.okWide P w .any b t v): ∃n:UInt16,v= .int .u16 n.toNat:=by
 unfold Value.okWide at h;rw[he]at h
 cases v with
 |int k n=>
  simp only[Cell.okWide,he,Cell.ok,IntKind.has]at h;obtain⟨rfl,h1,h2⟩:=h;have a1:(0:Int)<=n:=h1;have a2:n<=(65535:Int):=h2;exact⟨UInt16.ofNat n.toNat,by simp;omega⟩
 |_=>simp[Cell.okWide,he,Cell.ok]at h
variable {P:Program}
theorem R7{α:Type}{p:Nat->α->Prop}: ∀{n:Nat},(∀i,i<n-> ∃x,p i x)-> ∃l:List α,l.length=n/\ ∀i x,l[i]? =some x->p i x
 |0,_=>⟨[],rfl,fun i x h=>by simp at h⟩
 |n+1,h=>by
  obtain⟨l,hl,hp⟩:=R7 (n:=n) fun i hi=>h i (by omega);obtain⟨x,hx⟩:=h n (by omega);refine⟨l++[x],by simp[hl],fun i y hy=>?_⟩
  by_cases hi:i<n
  ·
   rw[ann (by omega)]at hy;exact hp i y hy
  have:i=n:=by
   have:=(ad2.1 hy).1;rw[af0,hl]at this;simp at this;omega
  subst this;rw[anr (by omega),hl]at hy;have:x=y:=by simpa using hy
  exact this▸hx
class v7(P:Program)(t:TypeId)(τ:Type)[Deep τ]:Prop where
 sz:P.cellsOf t=Deep.c τ
 h: ∀{H:Type} {enc:TypeId×Value->H} {w:World} {fuel:Nat} {cs:List Value} {d:DataW H} {ps:List MemPlace},DataW.trod enc P w 0 (fun _=>true) true fuel t cs=some (d,ps)->(∀n∈d.weights P t,n<=reachBytes)->
  ∃x:τ,(Deep.cells x).toList=cs/\Deep.dO (hp w) x
theorem R8{H:Type}{e:TypeId}{n:Nat}: ∀{l:List (DataW H)} {d:DataW H},d∈l->n∈d.weights P e->n∈DataW.weightsAll P e l
 |x::l,d,hd,hn=>by
  rw[DataW.weightsAll];rcases ank.1 hd with rfl|hd
  ·
   exact an7 _ hn
  exact apA _ (R8 hd hn)
theorem R9{H:Type}{n:Nat}: ∀{ts:List TypeId} {l:List (DataW H)} {i:Nat} {t:TypeId} {d:DataW H},ts[i]? =some t->l[i]? =some d->n∈d.weights P t->n∈DataW.weightsEach P ts l
 |[],_,i,_,_,h,_,_=>by simp at h
 |_::_,[],i,_,_,_,h,_=>by simp at h
 |t0::ts,d0::l,0,t,d,ht,hd,hn=>by
  obtain rfl:t0=t:=by simpa using ht
  obtain rfl:d0=d:=by simpa using hd
  rw[DataW.weightsEach];exact an7 _ hn
 |t0::ts,d0::l,i+1,t,d,ht,hd,hn=>by
  rw[DataW.weightsEach];exact apA _ (R9 (i:=i) (by simpa using ht) (by simpa using hd) hn)
theorem adQ{H:Type}{enc:TypeId×Value->H}{w:World}{fuel:Nat}{t e:TypeId}{m:Nat}{cs:List Value}{d:DataW H}{ps:List MemPlace}(hu:P.underlying t=some (.array m e))(h:DataW.trod enc P w 0 (fun _=>true) true fuel t cs=some (d,ps))(hw: ∀n∈d.weights P t,n<=reachBytes)
  (τ:Type) [Deep τ] [o:v7 P e τ]:cs.length=P.cellsOf t/\ ∀i,i<m-> ∃x:τ,(Deep.cells x).toList=(cs.drop (i*Deep.c τ)).take (Deep.c τ)/\Deep.dO (hp w) x:=by
 cases fuel with
 |zero=>simp[DataW.trod]at h
 |succ n=>
  unfold DataW.trod at h;rw[hu]at h;split at h<;>simp_all
  rename_i m' e' heq;obtain⟨hl,xs,fb,hd⟩:=h;obtain⟨rfl,rfl⟩:=heq;intro i hi;have hlen:=mapM_some_length fb;have lO:i<xs.length:=by simpa[hlen]using hi
  have h1:=mapM_some_get fb i i (by simp[hi]);rw[anC lO,o.sz]at h1;obtain⟨rfl,-⟩:=hd;exact o.h (d:=xs[i].1) (ps:=xs[i].2) h1 (fun k hk=>hw k (by
   simp only[DataW.weights,hu];exact R8 (an6 (ap3 lO)) hk))
theorem adR{t:TypeId}(hu:P.underlying t=some (.int .u8))(hs:P.cellsOf t=1):v7 P t UInt8:=⟨hs,fun h _=>by
 obtain⟨n,rfl,_,hw⟩:=DataW.trod_int hu h;simp only[Lit.wf,anc,decide_eq_true_eq]at hw;have h1:(0:Int)<=n:=hw.1;have h2:n<=(255:Int):=hw.2;refine⟨UInt8.ofNat n.toNat,?_,trivial⟩;have:((UInt8.ofNat n.toNat).toNat:Int)=n:=by simp;omega
 show(aP (UInt8.ofNat n.toNat)).toList=_;simp only[aP,this]⟩
theorem adS{H:Type}{enc:TypeId×Value->H}{w:World}{b:Nat}{t e:TypeId}{τ:Type}[Deep τ][o:v7 P t (Sl τ)](hu:P.underlying t=some (.slice e)){v:Value}{d:DataW H}{ps:List MemPlace}(hv:Value.okWide P w .any b t v)(h:DataW.Trod enc P w 0 (fun _=>true) true t v d ps)(hw: ∀n∈d.weights P t,n<=reachBytes):
  ∃x:Sl τ,v=x.sv.val/\Deep.dO (hp w) x:=by
 obtain⟨fuel,h⟩:=h;obtain⟨x,h1,h2⟩:=o.h h hw;refine⟨x,?_,h2⟩;have hc:v.cells= #[v]:=by
  unfold Value.okWide at hv;rw[hu]at hv;unfold Cell.okWide at hv;rw[hu]at hv
  cases v<;>simp_all[Cell.ok,Value.cells]
 rw[hc]at h1;have:[x.sv.val]=[v]:=h1;simpa using this.symm
theorem adT{H:Type}{enc:TypeId×Value->H}{w:World}{b:Nat}{t:TypeId}{τ:Type}[Deep τ][o:v7 P t τ](hu: ∃d,P.underlying t=some d/\ux d=true){v:Value}{d:DataW H}{ps:List MemPlace}(hv:Value.okWide P w .any b t v)(h:DataW.Trod enc P w 0 (fun _=>true) true t v d ps)(hw: ∀n∈d.weights P t,n<=reachBytes):
  ∃x:τ,v= .agg (Deep.cells x)/\Deep.dO (hp w) x:=by
 obtain⟨fuel,h⟩:=h;obtain⟨x,h1,h2⟩:=o.h h hw;refine⟨x,?_,h2⟩;obtain⟨dd,Qn,HY⟩:=hu;have hc: ∃cs,v= .agg cs:=by
  unfold Value.okWide at hv;rw[Qn]at hv
  cases dd<;>simp[ux]at HY
  ·
   obtain⟨cs,rfl,_⟩:=hv;exact⟨cs,rfl⟩
  ·
   obtain⟨cs,rfl,_⟩:=hv;exact⟨cs,rfl⟩
 obtain⟨cs,rfl⟩:=hc;have:(Deep.cells x).toList=cs.toList:=h1;rw[Array.toList_inj.1 this]
structure Arg(H:Type)(enc:TypeId×Value->H)(P:Program)(W:World)(b:Nat)(t:TypeId)(v:Value):Prop where
 ok:Value.okWide P W .any b t v
 trod: ∃d ps,DataW.Trod enc P W 0 (fun _=>true) true t v d ps/\ ∀n∈d.weights P t,n<=reachBytes
theorem Arg.sl{H:Type}{enc:TypeId×Value->H}{W:World}{b:Nat}{t e:TypeId}{v:Value}(h:Arg H enc P W b t v)(hu:P.underlying t=some (.slice e))(τ:Type)[Deep τ][o:v7 P t (Sl τ)]: ∃x:Sl τ,v=x.sv.val/\Deep.dO (hp W) x:=by
 obtain⟨d,ps,h1,h2⟩:=h.trod;exact adS hu h.ok h1 h2
theorem Arg.agg{H:Type}{enc:TypeId×Value->H}{W:World}{b:Nat}{t:TypeId}{v:Value}(h:Arg H enc P W b t v){n:Nat}(hu:eu P t n)(τ:Type)[Deep τ][o:v7 P t τ]: ∃x:τ,v= .agg (Deep.cells x)/\Deep.dO (hp W) x:=by
 obtain⟨d,ps,h1,h2⟩:=h.trod;exact adT hu.row h.ok h1 h2
theorem Sa{H:Type}{enc:TypeId×Value->H}{W:World}{sp:Nat->Bool}{hd:Bool}: ∀{ts:List TypeId} {vs:List Value} {ds:List (DataW H)} {ps:List MemPlace},DataW.TrodAll enc P W 0 sp hd ts vs ds ps-> ∀(j:Nat) (t:TypeId) (v:Value),ts[j]? =some t->vs[j]? =some v->
  ∃d p,ds[j]? =some d/\DataW.Trod enc P W 0 sp hd t v d p
 |[],_,_,_,h,j,_,_,ht,_=>by simp at ht
 |t0::ts,vs,ds,ps,h,j,t,v,ht,hv=>by
  obtain⟨v0,RZ,d0,R0,a,b,rfl,rfl,rfl,h1,h2⟩:=trodAll_cons h
  cases j with
  |zero=>
   obtain rfl:t0=t:=by simpa using ht
   obtain rfl:v0=v:=by simpa using hv
   exact⟨d0,a,rfl,h1⟩
  |succ j=>exact Sa h2 j t v (by simpa using ht) (by simpa using hv)
variable {P:Program}
theorem adU{H:Type}{enc:TypeId×Value->H}{C:Checked}{os:Os}{f:FuncId}{fn:Func}{s:ChangeSpec}{conds:List PathCond}{apart fresh handsOn:Bool}{tb:TypeId}{laid:List (String×DataW Unit)}
  (own:ownKnob C.prog.godebug=none) (started:os.Started) (adV:C.prog.inits.idxOf? f=none) (adW:C.prog.funcs[f]? =some fn)
  (wit: ∃(w:World) (tape:Tape) (i:Input),w.os=os/\(w.forCall tape i).Shaped C.prog/\i.vars=[]/\Input.okWide C.prog (w.forCall tape i) .any w.heap.size f i/\
   ((s.pre enc C.prog fn conds apart (w.forCall tape i).memory i.args/\laidMetH C.prog laid (w.forCall tape i).memory)/\sizedMet enc C.prog fn (OpenSpec.ofChange s) apart (w.forCall tape i).memory i.args)/\({}:Assume).holds C.prog (lone (Frame.enter C.prog f i.args .normal) [] (w.forCall tape i)))
  (hl:laidOutB C.prog=true) (hp:fn.params.toList.all (fun t=>C.prog.readableRec t&&decide (t<C.prog.types.size))=true) (hr:fn.resultTypes= #[tb]) (hb:C.prog.underlying tb=some .bool)
  (hv:s.vars=[]) (Cg: ∀ds:List (DataW H),ds.length=fn.params.size->s.fn H ds={results:=[.lit (.bool true)],args:=ds})
  (adX: ∀(W:World) (base:Nat) (vs:List Value),W.ShapedOpen C.prog->laidMetH C.prog laid W->vs.length=fn.params.size->(∀(j:Nat) t v,fn.params[j]? =some t->vs[j]? =some v->Arg H enc C.prog W base t v)->
   Calls C.prog f vs.toArray W fun e W'=>e= .returned (.bool true)/\Mem W [] W'):
  ReturnsInHanded {} C os f .any (fun w args=>(s.pre enc C.prog fn conds apart w args/\laidMetH C.prog laid w)/\sizedMet enc C.prog fn (OpenSpec.ofChange s) apart w args) (s.post enc C.prog fn apart fresh handsOn false):=by
 refine returnsInHanded_of_calls own started adV wit ?_;intro w tape i _ hsh _ bu az ane;obtain⟨_,_,_,Sb,adY,_,_,_,_,adZ⟩:=bu;have e:Sb=fn:=ani (adY.symm.trans adW);subst e;obtain⟨⟨⟨ds,gs,before,hw,hc⟩,hx⟩,hz⟩:=az;have hW:=DataW.Whole.of_heap (w':=w.forCall tape i) (by rfl) hw;have po:=hz.weights hw;have hlen:i.args.toList.length=Sb.params.size:=by
  obtain⟨p,q,hA,_⟩:=hW;rw[(Kd hA).1];simp
 have h:=adX (w.forCall tape i) w.heap.size i.args.toList hsh (laidMetH.of_heap (by rfl) hx) hlen (fun j t v h1 h2=>⟨adZ j t v h1 (by simpa using h2),by
  obtain⟨p,q,hA,_⟩:=hW;obtain⟨d,pp,hd,ht⟩:=Sa hA j t v (by simpa using h1) h2;refine⟨d,pp,ht,fun n hn=>?_⟩;have hh:=anw.1 po n (R9 (i:=j) (t:=t) (d:=d) (by rw[ann (by have:=(aoN.1 h1).1;simpa using this)];simpa using h1)
   (by rw[ann (ad2.1 hd).1];exact hd) hn)
  simpa using hh⟩)
 rw[Array.toArray_toList]at h;refine h.mono fun e W' hh=>?_;obtain⟨he,hm⟩:=hh;subst he;exact ChangeSpec.post_blind (adM hl hp hr hb hv Cg hW hm.below)
end Go.au
namespace Go.Proofs.YtkggjjnhnjjokaaGreatDoor
open Go.au Go.Kb
instance op5:v7 Tryz.prog 5 UInt8:=adR Tryz.underlying5 (by kernel_rfl)
instance:bo aY 16:=⟨fg,fun k=>(inferInstance:eZ (aY k) 16).one⟩
instance:Deep Key:=Deep.flat aY 16
instance:bo aT 18:=⟨ku,fun k=>(inferInstance:eZ (aT k) 18).one⟩
instance anf:v7 Tryz.prog 25 Key:=⟨by kernel_rfl,fun h hw=>by
 obtain⟨hl,he⟩:=adQ Tryz.underlying25 h hw UInt8;rw[show Tryz.prog.cellsOf 25=16 from by kernel_rfl]at hl;obtain⟨l,qw,hlp⟩:=R7 (p:=fun i (x:UInt8)=>_) he;refine⟨nI fun i=>(l.getD i 0).toNat,?_,trivial⟩;refine aok fun i=>?_;rw[Array.getElem?_toList];rcases anl i 16 with hi|hi
 ·
  have hx:l[i]? =some (l.getD i 0):=mL (by omega);have h1:=congrArg (·[0]?) (hlp i _ hx).1;simp only[apg,aom]at h1;rw[if_pos (by decide),show i*Deep.c UInt8+0=i from aoy i]at h1;have h3:some (Value.int .u8 (l.getD i 0).toNat)=_:=h1;have e8:(l.getD i 0).toNat%2^8=(l.getD i 0).toNat:=anL (l.getD i 0).toNat_lt;show(aY _)[i]? =_;rw[gU _ _ hi,sU _ _ hi,e8,←h3]
 show(aY _)[i]? =_;rw[Lc _ _ hi,ans (by omega)]⟩
end Go.Proofs.YtkggjjnhnjjokaaGreatDoor

/- Part of a proof. -/
import Derived.Test.YtkggjjnhnjjokaaGreatDoorB6
import Derived.Test.YtkggjjnhnjjokaaGreatDoorB5
import Derived.Lib.ReflectliteSlice
import Derived.Test.YtkggjjnhnjjokaaGreatDoorB3
import Derived.Test.YtkggjjnhnjjokaaGreatDoorB1
import Derived.ProofKit
import Derived.Deep.Slices
import Derived.HandedShaped
import Derived.Handed
import Derived.Lay
import Derived.MakeChecks
import Derived.Stop.Joined
import Derived.LaidLaws
import Derived.Test.YtkggjjnhnjjokaaGreatDoorB2
set_option maxRecDepth 20000
set_option linter.unusedSimpArgs false
set_option linter.unusedVariables false
namespace Go.ay
open Go.Kb
variable {t ts:List Rt} {p:ba}
def jn(l:List Ch)(p:ba):Option Ch:=(l.filter fun c=>decide (c.r.p=p)).getLast?
theorem KR{l:List Ch}{p:ba}{x:Ch}(h:jn l p=some x):x∈l/\x.r.p=p:=by
 have:=apD.1 (List.mem_of_getLast? h);exact⟨this.1,by simpa using this.2⟩
theorem yF(c:Ch)(l:List Ch)(p:ba):jn (c::l) p=(jn l p).or (if c.r.p=p then some c else none):=by
 unfold jn;rw[apS]
 by_cases h:c.r.p=p
 ·
  rw[if_pos (by simpa using h),if_pos h,List.getLast?_cons]
  cases hl:(l.filter fun c=>decide (c.r.p=p)).getLast?<;>simp
 rw[if_neg (by simpa using h),if_neg h];simp
theorem adP{l:List Ch}(h: ∀c∈l,c.r.p≠p):jn l p=none:=by
 unfold jn;rw[aqJ.2 fun c hc=>by simpa using h c hc];rfl
theorem adQ(h:bl t=true){c:Ch}(he:eE t c=0)(x:Rt):x∈gy t c↔if c.r.p=x.p then c.gone=false/\x=c.r else x∈t:=by
 obtain⟨r,g⟩:=c
 cases g with
 |false=>
  rw[adf h he]
  by_cases hp:r.p=x.p
  ·
   rw[if_pos hp];constructor
   ·
    rintro(h1|⟨_,h1⟩)
    ·
     exact⟨rfl,h1⟩
    exact absurd hp.symm h1
   exact fun h1=> .inl h1.2
  rw[if_neg hp];constructor
  ·
   rintro(h1|h1)
   ·
    exact absurd (by rw[h1]) hp
   exact h1.1
  exact fun h1=> .inr ⟨h1,fun e=>hp e.symm⟩
 |true=>
  rw[ado h he,apD]
  by_cases hp:r.p=x.p
  ·
   rw[if_pos hp];simp[hp]
  rw[if_neg hp];exact⟨fun h1=>h1.1,fun h1=>⟨h1,by simpa using fun e=>hp e.symm⟩⟩
theorem Sw: ∀{l:List Ch} {t:List Rt},bl t=true->(kx t l).2=0-> ∀x,x∈(kx t l).1↔match jn l x.p with
  |some c=>c.gone=false/\x=c.r
  |none=>x∈t
 |[],t,_,_,x=>by simp[jn,kx]
 |c::l,t,h,he,x=>by
  rw[kx]at he⊢
  by_cases hc:eE t c=0
  ·
   rw[if_pos hc]at he⊢;rw[Sw (KH h c) he x,yF]
   cases hl:jn l x.p with
   |some d=>rfl
   |none=>
    simp only[Option.none_or];rw[adQ h hc]
    by_cases hp:c.r.p=x.p
    ·
     rw[if_pos hp,if_pos hp]
    ·
     rw[if_neg hp,if_neg hp]
  ·
   rw[if_neg hc]at he;exact absurd he hc
theorem adR(h:bl t=true){l:List Ch}(he:gR t l=0)(x:Rt):x∈dH t l↔match jn l x.p with
  |some c=>c.gone=false/\x=c.r
  |none=>x∈t:=by
 rw[dH,if_pos he];rw[gR,if_pos h]at he;exact Sw h he x
theorem adS(h:bl t=true)(hp:aZ p=true)(hn: ∀x∈t,x.p≠p):hG t p=6/\iQ t p=0:=by
 rw[(KQ h).1,(KQ h).2];exact KJ hp hn
variable {t u:List Ch} {p:ba} {r:Ch}
structure oA(t:List Ch):Prop where
 may: ∀r∈t,aZ r.r.p=true
 less:t.Pairwise fun a b=>cC a.r.p b.r.p=true
theorem oA.sub{s t:List Ch}(h:oA t)(hs:s.Sublist t):oA s:=⟨fun r hr=>h.may r (hs.subset hr),h.less.sublist hs⟩
theorem oA.uniq{t:List Ch}(h:oA t){a b:Ch}(ha:a∈t)(hb:b∈t)(e:a.r.p=b.r.p):a=b:=by
 obtain⟨i,hi,rfl⟩:=aqC ha;obtain⟨j,hj,rfl⟩:=aqC hb;have hp:=ap7.1 h.less;have hm:=h.may _ hb;rcases ar0 i j with h1|h1|h1
 ·
  have:=hp i j hi hj h1;rw[e,kX hm]at this;cases this
 ·
  subst h1;rfl
 have:=hp j i hj hi h1;rw[e,kX hm]at this;cases this
theorem oA.ext: ∀{s t:List Ch},oA s->oA t->(∀x,x∈s↔x∈t)->s=t
 |[],[],_,_,_=>rfl
 |[],b::t,_,_,h=>by have:=(h b).2 (apu);cases this
 |a::s,[],_,_,h=>by have:=(h a).1 (apu);cases this
 |a::s,b::t,hs,ht,h=>by
  have ha:=(apA.1 hs.less);have hb:=(apA.1 ht.less);have ma:=hs.may a apu;have mb:=ht.may b apu;have e:a=b:=by
   apply aql;intro hn;rcases apn.1 ((h a).1 apu)with h1|h1
   ·
    exact hn h1
   rcases apn.1 ((h b).2 apu)with h2|h2
   ·
    exact hn h2.symm
   have h3:=hb.1 a h1;have h4:=ha.1 b h2;rw[yD mb ma h3]at h4;cases h4
  subst e;have cr: ∀x,(∀y∈s,cC a.r.p y.r.p=true)->x∈s->x≠a:=fun x hy hx e=>by
   subst e;have:=hy x hx;rw[kX ma]at this;cases this
  rw[oA.ext (hs.sub (apX _ _)) (ht.sub (apX _ _)) fun x=>⟨fun hx=>?_,fun hx=>?_⟩]
  ·
   rcases apn.1 ((h x).1 (apL _ hx))with h1|h1
   ·
    exact absurd h1 (cr x ha.1 hx)
   exact h1
  rcases apn.1 ((h x).2 (apL _ hx))with h1|h1
  ·
   subst h1;have:=hb.1 x hx;rw[kX ma]at this;cases this
  exact h1
variable {t u v:List Rt} {p:ba} {l:List Ch}
def fh(t:List Rt)(p:ba):Option Rt:=t.find? fun x=>decide (x.p=p)
theorem wE(ho:Ord t){x:Rt}:fh t p=some x↔x∈t/\x.p=p:=by
 unfold fh;constructor
 ·
  intro h;exact⟨List.mem_of_find?_eq_some h,by simpa using List.find?_some h⟩
 rintro⟨h1,h2⟩
 cases h:t.find? fun x=>decide (x.p=p)with
 |some y=>
  have h3:=List.mem_of_find?_eq_some h;have h4:y.p=p:=by simpa using List.find?_some h
  rw[ho.uniq h1 h3 (h2.trans h4.symm)]
 |none=>
  have:=arV.1 h x h1;simp[h2]at this
theorem wF:fh t p=none↔ ∀x∈t,x.p≠p:=by
 unfold fh;rw[arV];exact⟨fun h x hx=>by simpa using h x hx,fun h x hx=>by simpa using h x hx⟩
theorem yG{x:Rt}(h:fh t p=some x):x.p=p:=by
 unfold fh at h;simpa using List.find?_some h
theorem wG{x:Rt}(h:fh t p=some x):x∈t:=by
 unfold fh at h;exact List.mem_of_find?_eq_some h
theorem Sx(h1:Ord t)(h2:Ord u)(h: ∀p,fh t p=fh u p):t=u:=
 Go.Kb.Ord.ext h1 h2 fun x=>by
  have:=h x.p;constructor
  ·
   intro hx;exact wG (this▸(wE h1).2 ⟨hx,rfl⟩)
  intro hx;exact wG (this.symm▸(wE h2).2 ⟨hx,rfl⟩)
def qt(l:List Ch):Prop:=l.Pairwise fun a b=>a.r.p≠b.r.p
theorem qt.uniq(h:qt l){a b:Ch}(ha:a∈l)(hb:b∈l)(e:a.r.p=b.r.p):a=b:=by
 obtain⟨i,hi,rfl⟩:=aqC ha;obtain⟨j,hj,rfl⟩:=aqC hb;have hp:=ap7.1 h;rcases ar0 i j with h1|h1|h1
 ·
  exact absurd e (hp i j hi hj h1)
 ·
  subst h1;rfl
 exact absurd e.symm (hp j i hj hi h1)
theorem oA.dst(h:oA l):qt l:=h.less.imp_of_mem fun{a b} ha _ mU=>wz (h.may a ha) mU
theorem KS(h:qt l){c:Ch}:jn l p=some c↔c∈l/\c.r.p=p:=by
 constructor
 ·
  exact KR
 rintro⟨h1,h2⟩
 cases hl:jn l p with
 |some d=>
  obtain⟨h3,h4⟩:=KR hl;rw[h.uniq h1 h3 (h2.trans h4.symm)]
 |none=>
  have:(l.filter fun c=>decide (c.r.p=p))=[]:=List.getLast?_eq_none_iff.1 hl;have:=aqJ.1 this c h1;simp[h2]at this
theorem adT:jn l p=none↔ ∀c∈l,c.r.p≠p:=by
 constructor
 ·
  intro hl c hc;have:(l.filter fun c=>decide (c.r.p=p))=[]:=List.getLast?_eq_none_iff.1 hl;have:=aqJ.1 this c hc;simpa using this
 exact adP
theorem adU{m:List Ch}(hl:qt l)(hm:qt m)(h: ∀c,c∈l↔c∈m)(p:ba):jn l p=jn m p:=by
 cases h1:jn m p with
 |some c=>
  obtain⟨h2,h3⟩:=(KS hm).1 h1;exact(KS hl).2 ⟨(h c).2 h2,h3⟩
 |none=>
  rw[adT]at h1⊢;exact fun c hc=>h1 c ((h c).1 hc)
def aC:Option Ch->Option Rt->Option Rt
 |some c,_=>if c.gone=true then none else some c.r
 |none,o=>o
theorem Sy(h:bl t=true)(he:gR t l=0)(p:ba):fh (dH t l) p=aC (jn l p) (fh t p):=by
 have hu:=dM (Su h l);have key: ∀x:Rt,x.p=p->(x∈dH t l↔aC (jn l p) (fh t p)=some x):=fun x hx=>by
  rw[adR h he,hx]
  cases hl:jn l p with
  |none=>simp only[aC];rw[wE (dM h)];exact⟨fun h=>⟨h,hx⟩,fun h=>h.1⟩
  |some c=>
   simp only[aC]
   cases c.gone<;>simp[eq_comm]
 cases ha:aC (jn l p) (fh t p)with
 |some x=>
  have hx:x.p=p:=by
   cases hl:jn l p with
   |none=>rw[hl]at ha;exact yG ha
   |some c=>
    rw[hl]at ha;simp only[aC]at ha;split at ha
    ·
     cases ha
    rw[←api ha];exact(KR hl).2
  exact(wE hu).2 ⟨(key x hx).2 ha,hx⟩
 |none=>
  rw[wF];intro x hx e;have:=(key x e).1 hx;rw[ha]at this;cases this
theorem adV(h:bl t=true){c:Ch}(hm:aZ c.r.p=true)(hg:c.gone=true->fh t c.r.p≠none)(hl:c.gone=false->t.length<256):eE t c=0:=by
 rw[adk h]
 cases hh:fh t c.r.p with
 |some x=>
  have h2:=Jm h (wG hh);rw[yG hh,(KQ h).1]at h2;rw[h2.1,if_neg (by simp),if_neg (by simp)]
 |none=>
  have h2:=KJ hm (wF.1 hh);have sQ:c.gone=false:=by
   cases sQ:c.gone with
   |false=>rfl
   |true=>exact absurd hh (hg sQ)
  have:=hl sQ;rw[h2.1,if_neg (by simp[sQ]),if_neg (by omega)]
theorem adW(h:bl t=true)(c:Ch):(gy t c).length<=t.length+(if c.gone=true then 0 else 1):=by
 unfold gy;split
 ·
  split
  ·
   simp only[af0,apk,apr];omega
  split
  ·
   simp
  have:=Jl t c.r.p;simp only[af0,apk,apj,apr];omega
 omega
theorem adX(h:bl t=true){c:Ch}(he:eE t c=0)(p:ba):fh (gy t c) p=if c.r.p=p then(if c.gone=true then none else some c.r)else fh t p:=by
 obtain⟨e1,e2⟩:=adO h he;have:=Sy h e1 p;rw[e2]at this;rw[this];unfold jn
 by_cases hp:c.r.p=p
 ·
  rw[if_pos hp];simp[hp,aC]
 rw[if_neg hp];simp[hp,aC]
def py(l:List Ch):Nat:=l.countP fun c=> !c.gone
theorem C2(c:Ch)(l:List Ch):py (c::l)=py l+(if c.gone=true then 0 else 1):=by
 unfold py;rw[List.countP_cons]
 cases c.gone<;>simp
theorem Sz: ∀{l:List Ch} {t:List Rt},bl t=true->qt l->(∀c∈l,aZ c.r.p=true/\(c.gone=true->fh t c.r.p≠none))->t.length+py l<=256->(kx t l).2=0
 |[],_,_,_,_,_=>rfl
 |c::l,t,h,hd,hc,hn=>by
  rw[C2]at hn;obtain⟨h1,h2⟩:=apA.1 hd;obtain⟨h3,h4⟩:=hc c apu;have he:eE t c=0:=adV h h3 h4 fun hg=>by rw[hg]at hn;simp at hn;omega
  rw[kx,if_pos he];have qE:=adW h c;refine Sz (KH h c) h2 (fun d Ax=>?_) (by omega);obtain⟨h5,h6⟩:=hc d (apL _ Ax);refine⟨h5,fun hg=>?_⟩;rw[adX h he,if_neg (h1 d Ax)];exact h6 hg
theorem adY(h:bl t=true)(hd:qt l)(hc: ∀c∈l,aZ c.r.p=true/\(c.gone=true->fh t c.r.p≠none))(hn:t.length+py l<=256):gR t l=0:=by
 rw[gR,if_pos h];exact Sz h hd hc hn
theorem adZ(a b:List Ch):py (a++b)=py a+py b:=by unfold py;exact List.countP_append
def cq:List Rt->List Rt->List Ch
 |[],[]=>[]
 |a::t,[]=>⟨a,true⟩::cq t []
 |[],b::u=>⟨b,false⟩::cq [] u
 |a::t,b::u=>if cC a.p b.p=true then⟨a,true⟩::cq t (b::u)else if a.p=b.p then(if a.bN≠b.bN then[⟨b,false⟩]else[])++cq t u else⟨b,false⟩::cq (a::t) u
termination_by t u=>t.length+u.length
theorem C3:cq [] []=[]:=by rw[cq]
theorem ad0{a:Rt}(h:u=[]\/ ∃b u',u=b::u'/\cC a.p b.p=true):cq (a::t) u=⟨a,true⟩::cq t u:=by
 rcases h with rfl|⟨b,u',rfl,h⟩
 ·
  rw[cq]
 rw[cq,if_pos h]
theorem ad1{b:Rt}(h:t=[]\/ ∃a t',t=a::t'/\cC a.p b.p=false/\a.p≠b.p):cq t (b::u)=⟨b,false⟩::cq t u:=by
 rcases h with rfl|⟨a,t',rfl,h,h'⟩
 ·
  rw[cq]
 rw[cq,if_neg (by rw[h];simp),if_neg h']
theorem AR: ∀{t u:List Rt} {c:Ch},c∈cq t u->(c.gone=true/\c.r∈t)\/(c.gone=false/\c.r∈u):=by
 intro t u
 induction t,u using cq.induct with
 |case1=>intro c hc;rw[C3]at hc;cases hc
 |case2 a t ih=>
  intro c hc;rw[cq]at hc;rcases apn.1 hc with rfl|hc
  ·
   exact .inl ⟨rfl,apu⟩
  rcases ih hc with⟨h1,h2⟩|⟨h1,h2⟩
  ·
   exact .inl ⟨h1,apL _ h2⟩
  exact .inr ⟨h1,h2⟩
 |case3 b u ih=>
  intro c hc;rw[cq]at hc;rcases apn.1 hc with rfl|hc
  ·
   exact .inr ⟨rfl,apu⟩
  rcases ih hc with⟨h1,h2⟩|⟨h1,h2⟩
  ·
   exact .inl ⟨h1,h2⟩
  exact .inr ⟨h1,apL _ h2⟩
 |case4 a t b u h ih=>
  intro c hc;rw[cq,if_pos h]at hc;rcases apn.1 hc with rfl|hc
  ·
   exact .inl ⟨rfl,apu⟩
  rcases ih hc with⟨h1,h2⟩|⟨h1,h2⟩
  ·
   exact .inl ⟨h1,apL _ h2⟩
  exact .inr ⟨h1,h2⟩
 |case5 a t b u h h' ih=>
  intro c hc;rw[cq,if_neg h,if_pos h']at hc;rcases apv.1 hc with hc|hc
  ·
   split at hc
   ·
    obtain rfl:c=⟨b,false⟩:=by simpa using hc
    exact .inr ⟨rfl,apu⟩
   cases hc
  rcases ih hc with⟨h1,h2⟩|⟨h1,h2⟩
  ·
   exact .inl ⟨h1,apL _ h2⟩
  exact .inr ⟨h1,apL _ h2⟩
 |case6 a t b u h h' ih=>
  intro c hc;rw[cq,if_neg h,if_neg h']at hc;rcases apn.1 hc with rfl|hc
  ·
   exact .inr ⟨rfl,apu⟩
  rcases ih hc with⟨h1,h2⟩|⟨h1,h2⟩
  ·
   exact .inl ⟨h1,h2⟩
  exact .inr ⟨h1,apL _ h2⟩
theorem SA: ∀{t u:List Rt},(cq t u).length<=t.length+u.length/\py (cq t u)<=u.length:=by
 intro t u
 induction t,u using cq.induct with
 |case1=>rw[C3];exact⟨Nat.le_refl _,apm _⟩
 |case2 a t ih=>rw[cq,C2];simp only[apj,if_true]at ih⊢;omega
 |case3 b u ih=>rw[cq,C2];simp only[apj,aqp,if_false]at ih⊢;omega
 |case4 a t b u h ih=>rw[cq,if_pos h,C2];simp only[apj,if_true]at ih⊢;omega
 |case5 a t b u h h' ih=>
  rw[cq,if_neg h,if_pos h',adZ,af0];have:(if a.bN≠b.bN then[(⟨b,false⟩:Ch)]else[]).length<=1/\py (if a.bN≠b.bN then[(⟨b,false⟩:Ch)]else[])<=1:=by
   split
   ·
    exact⟨Nat.le_refl _,apm _⟩
   exact⟨Nat.zero_le _,apE _⟩
  simp only[apj]at ih⊢;omega
 |case6 a t b u h h' ih=>rw[cq,if_neg h,if_neg h',C2];simp only[apj,aqp,if_false]at ih⊢;omega
theorem mT{a:Rt}(h:Ord (a::t)):Ord t/\ ∀x∈t,cC a.p x.p=true:=⟨h.sub (apX _ _),(apA.1 h.less).1⟩
theorem Gp: ∀{t u:List Rt},Ord t->Ord u->oA (cq t u):=by
 intro t u;have cons: ∀{c:Ch} {m:List Ch},aZ c.r.p=true->oA m->(∀d∈m,cC c.r.p d.r.p=true)->oA (c::m):=fun hc hm hl=>
  ⟨fun x hx=>by
   rcases apn.1 hx with rfl|hx
   ·
    exact hc
   exact hm.may x hx,apA.2 ⟨hl,hm.less⟩⟩
 induction t,u using cq.induct with
 |case1=>intro _ _;rw[C3];exact⟨fun _ h=>(by cases h),List.Pairwise.nil⟩
 |case2 a t ih=>
  intro h1 h2;obtain⟨g1,g2⟩:=mT h1;rw[cq];refine cons (h1.may a apu) (ih g1 h2) fun d hd=>?_;rcases AR hd with⟨_,h⟩|⟨_,h⟩
  ·
   exact g2 _ h
  cases h
 |case3 b u ih=>
  intro h1 h2;obtain⟨g1,g2⟩:=mT h2;rw[cq];refine cons (h2.may b apu) (ih h1 g1) fun d hd=>?_;rcases AR hd with⟨_,h⟩|⟨_,h⟩
  ·
   cases h
  exact g2 _ h
 |case4 a t b u h ih=>
  intro h1 h2;obtain⟨g1,g2⟩:=mT h1;obtain⟨_,k2⟩:=mT h2;have ma:=h1.may a apu;have mb:=h2.may b apu;rw[cq,if_pos h];refine cons ma (ih g1 h2) fun d hd=>?_;rcases AR hd with⟨_,h3⟩|⟨_,h3⟩
  ·
   exact g2 _ h3
  rcases apn.1 h3 with h4|h4
  ·
   rw[h4];exact h
  exact wA ma mb (h2.may _ h3) h (k2 _ h4)
 |case5 a t b u h h' ih=>
  intro h1 h2;obtain⟨g1,g2⟩:=mT h1;obtain⟨k1,k2⟩:=mT h2;rw[cq,if_neg h,if_pos h'];split
  ·
   rw[arc];refine cons (h2.may b apu) (ih g1 k1) fun d hd=>?_;rcases AR hd with⟨_,h3⟩|⟨_,h3⟩
   ·
    show cC b.p _=true;rw[←h'];exact g2 _ h3
   exact k2 _ h3
  rw[apV];exact ih g1 k1
 |case6 a t b u h h' ih=>
  intro h1 h2;obtain⟨_,g2⟩:=mT h1;obtain⟨k1,k2⟩:=mT h2;have ma:=h1.may a apu;have mb:=h2.may b apu;rw[cq,if_neg h,if_neg h'];have qm:cC b.p a.p=true:=wy ma mb (by simpa using h) h';refine cons mb (ih h1 k1) fun d hd=>?_;rcases AR hd with⟨_,h3⟩|⟨_,h3⟩
  ·
   rcases apn.1 h3 with h4|h4
   ·
    rw[h4];exact qm
   exact wA mb ma (h1.may _ h3) qm (g2 _ h4)
  exact k2 _ h3
def dC:Option Rt->Option Rt->Option Ch
 |none,none=>none
 |some x,none=>some ⟨x,true⟩
 |none,some y=>some ⟨y,false⟩
 |some x,some y=>if x=y then none else some ⟨y,false⟩
theorem AS(a:Rt)(t:List Rt):fh (a::t) p=if a.p=p then some a else fh t p:=by
 unfold fh;rw[List.find?_cons]
 by_cases h:a.p=p<;>simp[h]
theorem SB:fh [] p=none:=rfl
theorem pX{a:ba}(ha:aZ a=true)(h: ∀x∈t,cC a x.p=true):fh t a=none:=wF.2 fun x hx e=>by
 have:=h x hx;rw[e,kX ha]at this;cases this
theorem SC: ∀{t u:List Rt},Ord t->Ord u-> ∀p,jn (cq t u) p=dC (fh t p) (fh u p):=by
 intro t u
 induction t,u using cq.induct with
 |case1=>intro _ _ p;rw[C3];rfl
 |case2 a t ih=>
  intro h1 h2 p;obtain⟨g1,g2⟩:=mT h1;rw[cq,yF,ih g1 h2,AS,SB]
  by_cases hp:a.p=p
  ·
   subst hp;rw[if_pos rfl,if_pos rfl,pX (h1.may a apu) g2];rfl
  rw[if_neg hp,if_neg hp,Option.or_none]
 |case3 b u ih=>
  intro h1 h2 p;obtain⟨g1,g2⟩:=mT h2;rw[cq,yF,ih h1 g1,AS,SB]
  by_cases hp:b.p=p
  ·
   subst hp;rw[if_pos rfl,if_pos rfl,pX (h2.may b apu) g2];rfl
  rw[if_neg hp,if_neg hp,Option.or_none]
 |case4 a t b u h ih=>
  intro h1 h2 p;obtain⟨g1,g2⟩:=mT h1;obtain⟨_,k2⟩:=mT h2;have ma:=h1.may a apu;have mb:=h2.may b apu;rw[cq,if_pos h,yF,ih g1 h2,AS a]
  by_cases hp:a.p=p
  ·
   subst hp;have hz:fh (b::u) a.p=none:=pX ma fun x hx=>by
    rcases apn.1 hx with rfl|oh
    ·
     exact h
    exact wA ma mb (h2.may _ hx) h (k2 _ oh)
   rw[if_pos rfl,if_pos rfl,pX ma g2,hz];rfl
  rw[if_neg hp,if_neg hp,Option.or_none]
 |case5 a t b u h h' ih=>
  intro h1 h2 p;obtain⟨g1,g2⟩:=mT h1;obtain⟨k1,k2⟩:=mT h2;have ma:=h1.may a apu;have mb:=h2.may b apu;rw[cq,if_neg h,if_pos h',AS,AS]
  by_cases hp:b.p=p
  ·
   subst hp;rw[if_pos h',if_pos rfl];have e1:=ih g1 k1 b.p;rw[pX mb k2,pX mb (by rw[←h'];exact g2)]at e1
   by_cases hh:a.bN=b.bN
   ·
    rw[if_neg (by simpa using hh),apV,e1];have:a=b:=by obtain⟨ap,ah⟩:=a;obtain⟨bp,bh⟩:=b;simp only at h' hh;rw[h',hh]
    simp[dC,this]
   rw[if_pos hh,arc,yF,e1];have:a≠b:=fun e=>hh (by rw[e]);simp[dC,this]
  have ha: ¬a.p=p:=by rw[h'];exact hp
  rw[if_neg ha,if_neg hp,←ih g1 k1 p]
  by_cases hh:a.bN=b.bN
  ·
   rw[if_neg (by simpa using hh),apV]
  rw[if_pos hh,arc,yF,if_neg hp,Option.or_none]
 |case6 a t b u h h' ih=>
  intro h1 h2 p;obtain⟨_,g2⟩:=mT h1;obtain⟨k1,k2⟩:=mT h2;have ma:=h1.may a apu;have mb:=h2.may b apu;have qm:cC b.p a.p=true:=wy ma mb (by simpa using h) h';rw[cq,if_neg h,if_neg h',yF,ih h1 k1,AS b]
  by_cases hp:b.p=p
  ·
   subst hp;have hz:fh (a::t) b.p=none:=pX mb fun x hx=>by
    rcases apn.1 hx with rfl|oh
    ·
     exact qm
    exact wA mb ma (h1.may _ hx) qm (g2 _ oh)
   rw[if_pos rfl,if_pos rfl,pX mb k2,hz];rfl
  rw[if_neg hp,if_neg hp,Option.or_none]
theorem ad3{x y:Option Rt}:aC (dC x y) x=y:=by
 cases x<;>cases y
 ·
  rfl
 ·
  rfl
 ·
  rfl
 simp only[dC];split
 ·
  rename_i h;rw[h];rfl
 rfl
theorem ad4(h1:bl t=true)(h2:Ord u){m:List Ch}(hd:qt m)(hm: ∀c,c∈m↔c∈cq t u)(he:gR t m=0):dH t m=u:=by
 refine Sx (dM (Su h1 m)) h2 fun p=>?_;rw[Sy h1 he,adU hd (Gp (dM h1) h2).dst hm,SC (dM h1) h2,ad3]
theorem SD(h1:Ord t)(h2:Ord u){c:Ch}(hc:c∈cq t u):aZ c.r.p=true/\(c.gone=true->fh t c.r.p≠none):=by
 refine⟨(Gp h1 h2).may c hc,fun hg hn=>?_⟩;rcases AR hc with⟨_,h⟩|⟨h,_⟩
 ·
  exact wF.1 hn c.r h rfl
 rw[hg]at h;cases h
def nX(p q:ba):Int:=if cC p q=true then -1 else if cC q p=true then 1 else 0
theorem KT{p q:ba}:nX p q<0↔cC p q=true:=by
 unfold nX;split
 ·
  rename_i h;simp[h]
 rename_i h;split<;>simp[h]
theorem SE{p q:ba}(hp:aZ p=true)(hq:aZ q=true):nX p q=0↔p=q:=by
 unfold nX;constructor
 ·
  intro h;split at h
  ·
   omega
  split at h
  ·
   omega
  rename_i h1 h2;apply aql;intro hn;exact h2 (wy hp hq (by simpa using h1) hn)
 rintro rfl;rw[kX hp];rfl
theorem ad5{p q:ba}(hp:aZ p=true)(hq:aZ q=true):0<nX p q↔cC q p=true:=by
 unfold nX;split
 ·
  rename_i h;rw[yD hp hq h];simp
 split
 ·
  rename_i h;simp[h]
 rename_i h;simp[h]
end Go.ay
namespace Go.Proofs.YtkggjjnhnjjokaaGreatDoor
open Go.ay Go.Kb
variable {w0:World}{L:List aj}
instance aoy{p:ba}{q:ba}:bY Tryz.prog 196 w0 L [.agg (bV p), .agg (bV q)] (.int .i64 (nX p q)) (True):=⟨fun aA w hw=>by
 refine cz Tryz.func196 rfl Tryz.ntmps196 rfl ?_;refine Gc ?_;refine bH rfl fun b2=>bH rfl fun b3=>cx ?_;refine Gb (fun h0=>?_) fun h0=>?_
 ·
  refine al ?_;refine Gr fun w1 hw=>?_;exact Gf ((by rw[nX,if_pos h0])) hw
 refine aT ?_;refine Gb (fun h1=>?_) fun h1=>?_
 ·
  refine al ?_;refine Gr fun w1 hw=>?_;exact Gf ((by rw[nX,if_neg (by rw[h0];simp),if_pos h1])) hw
 refine al ?_;refine Gr fun w1 hw=>?_;exact⟨congrArg (fun b=>Ending.returned (Value.int .i64 b)) ((by rw[nX,if_neg (by rw[h0];simp),if_neg (by rw[h1];simp)])),ai.mem hw⟩⟩
instance aoz{r:Rt}{p:ba}:bY Tryz.prog 195 w0 L [.agg (aq r), .agg (bV p)] (.int .i64 (nX r.p p)) (True):=⟨fun aA w hw=>by
 refine cz Tryz.func195 rfl Tryz.ntmps195 rfl ?_;refine Gc ?_;refine bH rfl fun b2=>bH rfl fun b3=>al ?_;refine ag (gE rfl) (au ?_);refine Gr fun w1 hw=>?_;exact⟨congrArg (fun b=>Ending.returned (Value.int .i64 b)) (rfl),ai.mem hw⟩⟩
end Go.Proofs.YtkggjjnhnjjokaaGreatDoor
namespace Go.ay
open Go.Kb
variable {t u v ts us ys zs a b:List Rt} {p:ba} {l ls:List Ch} {i k:Nat}
def cI(t:List Rt)(p:ba):Option UInt16:=(fh t p).map (·.bN)
theorem SG(h:Ord t){x:Rt}:x∈t↔cI t x.p=some x.bN:=by
 unfold cI;constructor
 ·
  intro hx;rw[(wE h).2 ⟨hx,rfl⟩];rfl
 intro hx
 cases hh:fh t x.p with
 |none=>rw[hh]at hx;cases hx
 |some y=>
  rw[hh]at hx;have h1:y.bN=x.bN:=by simpa using hx
  have h2:=yG hh;have:y=x:=by obtain⟨yp,yh⟩:=y;obtain⟨xp,xh⟩:=x;simp only at h1 h2;rw[h1,h2]
  exact this▸wG hh
theorem SH:cI t p=none↔ ∀x∈t,x.p≠p:=by rw[cI,Option.map_eq_none_iff,wF]
structure Ld where
 there:Bool
 bN:UInt16
 deriving DecidableEq
def jK(x:Ld):Array Value:= #[.bool x.there, .int .u16 x.bN.toNat]
def pz:Option UInt16->Ld
 |some h=>⟨true,h⟩
 |none=>⟨false,0⟩
theorem AT{x y:Option UInt16}:pz x=pz y↔x=y:=by
 cases x<;>cases y<;>simp[pz]
def AU(w x y:Option UInt16):Option UInt16:=if x=w then y else x
def uO(w x y:Option UInt16):Bool:=decide (x≠w/\y≠w/\x≠y)
def jo(t a b:List Rt)(p:ba):Option UInt16:=AU (cI t p) (cI a p) (cI b p)
def me(t a b:List Rt)(p:ba):Bool:=uO (cI t p) (cI a p) (cI b p)
def oB(t a b l:List Rt):List Rt:=l.filterMap fun r=>(jo t a b r.p).map fun h=>(⟨r.p,h⟩:Rt)
def mf(t a b l:List Rt):List ba:=(l.filter fun r=>me t a b r.p).map (·.p)
theorem SI{x:Rt}(hx:ys[i]? =some x):oB t a b (ys.take (i+1))=oB t a b (ys.take i)++((jo t a b x.p).map fun h=>(⟨x.p,h⟩:Rt)).toList:=by
 unfold oB;rw[aps,hx,List.filterMap_append]
 cases h:jo t a b x.p<;>simp[h]
theorem KU{x:Rt}(hx:ys[i]? =some x):mf t a b (ys.take (i+1))=mf t a b (ys.take i)++if me t a b x.p=true then[x.p]else[]:=by
 unfold mf;rw[adn hx,ap6];split<;>simp
theorem SJ:(oB t a b ys).length<=ys.length:=List.length_filterMap_le _ _
theorem SK:(mf t a b ys).length<=ys.length:=by unfold mf;rw[apQ];exact ard _ _
theorem SL{x:Rt}:x∈oB t a b ys↔(∃r∈ys,r.p=x.p)/\jo t a b x.p=some x.bN:=by
 unfold oB;rw[List.mem_filterMap];constructor
 ·
  rintro⟨r,hr,h⟩;obtain⟨h2,h3,rfl⟩:=aqf.1 h;exact⟨⟨r,hr,rfl⟩,h3⟩
 rintro⟨⟨r,hr,h1⟩,h2⟩;exact⟨r,hr,by rw[h1,h2];rfl⟩
theorem Gt(h:Ord ys):Ord (oB t a b ys):=by
 refine⟨fun x hx=>?_,?_⟩
 ·
  obtain⟨⟨r,hr,h1⟩,_⟩:=SL.1 hx;rw[←h1];exact h.may r hr
 unfold oB;rw[List.pairwise_filterMap];refine h.less.imp fun{r q} hrq x hx y hy=>?_;obtain⟨_,_,rfl⟩:=aqf.1 hx;obtain⟨_,_,rfl⟩:=aqf.1 hy;exact hrq
theorem SM:p∈mf t a b ys↔(∃r∈ys,r.p=p)/\me t a b p=true:=by
 unfold mf;rw[aqr];constructor
 ·
  rintro⟨r,hr,rfl⟩;obtain⟨h1,h2⟩:=apD.1 hr;exact⟨⟨r,h1,rfl⟩,h2⟩
 rintro⟨⟨r,hr,rfl⟩,h⟩;exact⟨r,apD.2 ⟨hr,h⟩,rfl⟩
def yH(a b l:List Rt):Prop:= ∀x,x∈a\/x∈b-> ∃r∈l,r.p=x.p
theorem ad6(hc:yH a b ys)(h:jo t a b p≠none): ∃r∈ys,r.p=p:=by
 have:cI a p≠none\/cI b p≠none:=by
  unfold jo AU at h;split at h
  ·
   exact .inr h
  exact .inl h
 rcases this with h1|h1
 ·
  obtain⟨y,hy⟩:=arF.1 h1;obtain⟨x,hx,_⟩:=aqf.1 hy;obtain⟨r,hr,he⟩:=hc x (.inl (wG hx));exact⟨r,hr,he.trans (yG hx)⟩
 obtain⟨y,hy⟩:=arF.1 h1;obtain⟨x,hx,_⟩:=aqf.1 hy;obtain⟨r,hr,he⟩:=hc x (.inr (wG hx));exact⟨r,hr,he.trans (yG hx)⟩
theorem ad7(hc:yH a b ys)(h:me t a b p=true): ∃r∈ys,r.p=p:=by
 unfold me uO at h;rw[decide_eq_true_eq]at h;have:cI a p≠none\/cI b p≠none:=by
  apply aql;intro hn;have h1:cI a p=none:=aql fun h=>hn (.inl h);have h2:cI b p=none:=aql fun h=>hn (.inr h);exact h.2.2 (h1.trans h2.symm)
 rcases this with h1|h1
 ·
  obtain⟨y,hy⟩:=arF.1 h1;obtain⟨x,hx,_⟩:=aqf.1 hy;obtain⟨r,hr,he⟩:=hc x (.inl (wG hx));exact⟨r,hr,he.trans (yG hx)⟩
 obtain⟨y,hy⟩:=arF.1 h1;obtain⟨x,hx,_⟩:=aqf.1 hy;obtain⟨r,hr,he⟩:=hc x (.inr (wG hx));exact⟨r,hr,he.trans (yG hx)⟩
theorem C4(hc:yH a b ys){x:Rt}:x∈oB t a b ys↔jo t a b x.p=some x.bN:=by
 rw[SL];exact⟨fun h=>h.2,fun h=>⟨ad6 hc (by rw[h];simp),h⟩⟩
theorem C5(hc:yH a b ys):p∈mf t a b ys↔me t a b p=true:=by
 rw[SM];exact⟨fun h=>h.2,fun h=>⟨ad7 hc h,h⟩⟩
theorem ad8(ho:Ord ys)(hc:yH a b ys)(hp: ∀h,jo t a b p=some h->True):cI (oB t a b ys) p=jo t a b p:=by
 cases hu:jo t a b p with
 |some h=>
  have:=(SG (Gt (t:=t) (a:=a) (b:=b) ho) (x:=⟨p,h⟩)).1 ((C4 hc).2 hu);exact this
 |none=>
  rw[SH];intro x hx e;have:=(C4 hc).1 hx;rw[e,hu]at this;cases this
theorem SN{x y:List ba}(hx:Ord (x.map fun p=>(⟨p,0⟩:Rt)))(hy:Ord (y.map fun p=>(⟨p,0⟩:Rt)))(h: ∀p,p∈x↔p∈y):x=y:=by
 have:x.map (fun p=>(⟨p,0⟩:Rt))=y.map fun p=>(⟨p,0⟩:Rt):=Go.Kb.Ord.ext hx hy fun r=>by
  simp only[aqr];exact⟨fun⟨p,h1,h2⟩=>⟨p,(h p).1 h1,h2⟩,fun⟨p,h1,h2⟩=>⟨p,(h p).2 h1,h2⟩⟩
 have h2:=congrArg (List.map Rt.p) this;simpa[List.map_map,Function.comp_def]using h2
theorem Gu(h:Ord ys):Ord ((mf t a b ys).map fun p=>(⟨p,0⟩:Rt)):=by
 refine⟨fun x hx=>?_,?_⟩
 ·
  obtain⟨p,hp,rfl⟩:=aqr.1 hx;obtain⟨⟨r,hr,rfl⟩,_⟩:=SM.1 hp;exact h.may r hr
 unfold mf;rw[List.map_map,List.pairwise_map];exact(h.less.sublist aqZ)
theorem SO(l:List Rt)(hm:fL l){x:Rt}(hx:x∈l): ∃r∈gL l,r.p=x.p:=by
 have hk:ft l=l:=by rw[ft,arz];exact fun y hy=>hm y hy
 cases hl:nW l x.p with
 |some y=>
  have h2:=(Gn hl).2;exact⟨y,((uN l).2 y).2 (by rw[hk,h2];exact hl),h2⟩
 |none=>
  have:(l.filter fun r=>decide (r.p=x.p))=[]:=List.getLast?_eq_none_iff.1 hl;have:=aqJ.1 this x hx;simp at this
theorem yI(h1:Ord t)(h2:Ord a)(h3:Ord b):yH a b (gL (t++a++b)):=fun x hx=>SO _ (fun y hy=>by
 rcases apv.1 hy with hy|hy
 ·
  rcases apv.1 hy with hy|hy
  ·
   exact h1.may y hy
  exact h2.may y hy
 exact h3.may y hy) (by rcases hx with h|h<;>simp[h])
theorem SP(h2:Ord a)(h3:Ord b):yH a b (kd (a++b)):=fun x hx=>by
 rw[←Ss];exact SO _ (fun y hy=>by
  rcases apv.1 hy with hy|hy
  ·
   exact h2.may y hy
  exact h3.may y hy) (by rcases hx with h|h<;>simp[h])
theorem ad9(h1:Ord t)(h2:Ord a)(h3:Ord b):oB t a b (gL (t++a++b))=oB t a b (kd (a++b))/\mf t a b (gL (t++a++b))=mf t a b (kd (a++b)):=by
 have o1:=(uN (t++a++b)).1;have o2:=(KO (a++b)).1;exact⟨Go.Kb.Ord.ext (Gt o1) (Gt o2) fun x=>(C4 (yI h1 h2 h3)).trans (C4 (SP h2 h3)).symm,
  SN (Gu o1) (Gu o2) fun p=>(C5 (yI h1 h2 h3)).trans (C5 (SP h2 h3)).symm⟩
def kC(t a b:List Rt):List Rt:=oB t a b (gL (t++a++b))
def uP(t a b:List Rt):List ba:=mf t a b (gL (t++a++b))
def C6(t a b:List Rt):Bool:=bl t&&bl a&&bl b
def mg(t a b:List Rt):Int:=if C6 t a b=true then(if 256<(kC t a b).length then 5 else 0)else 1
def jL(t a b:List Rt):List Rt:=if mg t a b=0 then kC t a b else[]
def s8(t a b:List Rt):List ba:=if mg t a b=0 then uP t a b else[]
theorem aea(l:List Rt):(kd l).length<=l.length:=by rw[←Ss];exact St l
theorem KV(h1:Ord t)(h2:Ord a)(h3:Ord b):(kC t a b).length<=a.length+b.length:=by
 rw[kC,(ad9 h1 h2 h3).1];have h4:=SJ (t:=t) (a:=a) (b:=b) (ys:=kd (a++b));have h5:=aea (a++b);rw[af0]at h5;omega
theorem SQ(h1:bl t=true)(h2:bl a=true)(h3:bl b=true)(hl:a.length+b.length<=256):mg t a b=0/\jL t a b=kC t a b/\s8 t a b=uP t a b:=by
 have:=KV (dM h1) (dM h2) (dM h3);have e:mg t a b=0:=by rw[mg,if_pos (by rw[C6,h1,h2,h3];rfl),if_neg (by omega)]
 exact⟨e,by rw[jL,if_pos e],by rw[s8,if_pos e]⟩
theorem SR(h1:bl t=true)(h2:bl a=true)(h3:bl b=true){x:Rt}:x∈kC t a b↔jo t a b x.p=some x.bN:=C4 (yI (dM h1) (dM h2) (dM h3))
theorem KW:Ord (kC t a b):=Gt (uN _).1
def uQ(t u:List Rt):Int:=if(bl t&&bl u)=true then 0 else 1
def pA(t u:List Rt):List Ch:=if uQ t u=0 then cq t u else[]
def fS(l:List Ch):List Ch:=l.filter fun c=>c.gone
def KX(l:List Ch):List Ch:=l.filter fun c=> !c.gone
theorem qt.perm{m:List Ch}(h:qt l)(hp:m.Perm l):qt m:=(hp.pairwise_iff fun h=>fun e=>h e.symm).2 h
theorem aeb(l:List Ch):(fS l++KX l).Perm l:=List.filter_append_perm _ _
theorem aec{m:List Ch}(h:m.Perm l):py m=py l:=h.countP_eq _
theorem makes(h1:bl t=true)(h2:bl u=true)(hl:t.length<=100)(hu:u.length<=100):gR t (fS (cq t u)++KX (cq t u))=0/\dH t (fS (cq t u)++KX (cq t u))=u:=by
 have o1:=dM h1;have o2:=dM h2;have hp:=aeb (cq t u);have hd:=(Gp o1 o2).dst.perm hp;have hn:=aec hp;have um:=(SA (t:=t) (u:=u)).2;have he:=adY h1 hd (fun c hc=>SD o1 o2 (hp.mem_iff.1 hc)) (by omega);exact⟨he,ad4 h1 o2 hd (fun c=>hp.mem_iff) he⟩
open Go.RowKit
variable {t u v ts us y:List Rt} {p:ba} {l ls:List Ch} {i k:Nat} {h:Int}
def qu(y v:List Rt)(h:Int):Prop:=(h<0/\ ∃a,y[0]? =some a/\ ∀b,v[0]? =some b->cC a.p b.p=true)\/(0<h/\ ∃b,v[0]? =some b/\ ∀a,y[0]? =some a->cC a.p b.p=false/\a.p≠b.p)\/(h=0/\ ∃a b,y[0]? =some a/\v[0]? =some b/\cC a.p b.p=false/\a.p=b.p)
theorem aed(hv:v.length=0)(hy:0<y.length):qu y v (-1):=by
 obtain⟨a,ha⟩:=get_some hy;refine .inl ⟨by decide,a,ha,fun b hb=>?_⟩;have:=(ad2.1 hb).1;omega
theorem aee(hv:0<v.length)(hy:y.length=0):qu y v 1:=by
 obtain⟨b,hb⟩:=get_some hv;refine .inr (.inl ⟨by decide,b,hb,fun a ha=>?_⟩);have:=(ad2.1 ha).1;omega
theorem aef{a b:Rt}(hy:fL y)(hv:fL v)(ha:y[0]? =some a)(hb:v[0]? =some b):qu y v (nX a.p b.p):=by
 have ma:=hy a (alM ha);have mb:=hv b (alM hb);rcases Int.lt_trichotomy (nX a.p b.p) 0 with h|h|h
 ·
  exact .inl ⟨h,a,ha,fun c hc=>by rw[hb]at hc;rw[←api hc];exact KT.1 h⟩
 ·
  have e:=(SE ma mb).1 h;exact .inr (.inr ⟨h,a,b,ha,hb,by rw[e];exact kX mb,e⟩)
 have e:=(ad5 ma mb).1 h;exact .inr (.inl ⟨h,b,hb,fun c hc=>by
  rw[ha]at hc;rw[←api hc];exact⟨yD mb ma e,fun e2=>by rw[e2,kX mb]at e;cases e⟩⟩)
theorem qu.lens(h1:qu y v h):(0<h\/0<y.length)/\(h<0\/0<v.length):=by
 rcases h1 with⟨h1,a,ha,_⟩|⟨h1,b,hb,_⟩|⟨h1,a,b,ha,hb,_⟩
 ·
  exact⟨.inr (ad2.1 ha).1, .inl h1⟩
 ·
  exact⟨.inl h1, .inr (ad2.1 hb).1⟩
 exact⟨.inr (ad2.1 ha).1, .inr (ad2.1 hb).1⟩
theorem AV{α:Type}{l:List α}{a:α}(h:l[0]? =some a):l=a::l.drop 1:=by
 cases l with
 |nil=>cases h
 |cons b l=>simp at h;rw[h];rfl
theorem qu.gone{a:Rt}(h1:qu y v h)(hn:h<0)(ha:y[0]? =some a):cq y v=[⟨a,true⟩]++cq (if h<=0 then y.drop 1 else y) (if 0<=h then v.drop 1 else v):=by
 rw[if_pos (by omega),if_neg (by omega)];rcases h1 with⟨_,a',wZ,hb⟩|⟨h2,_⟩|⟨h2,_⟩
 ·
  rw[ha]at wZ;obtain rfl:=api wZ
  conv=>lhs;rw[AV ha]
  rw[arc];refine ad0 ?_
  cases v with
  |nil=>exact .inl rfl
  |cons b v=>exact .inr ⟨b,v,rfl,hb b rfl⟩
 ·
  omega
 omega
theorem qu.new{b:Rt}(h1:qu y v h)(hn: ¬h<0)(hb:v[0]? =some b)(hc:0<h\/(y.getD 0 cP).bN≠(v.getD 0 cP).bN):cq y v=[⟨b,false⟩]++cq (if h<=0 then y.drop 1 else y) (if 0<=h then v.drop 1 else v):=by
 have ux:v.getD 0 cP=b:=by simp[List.getD,hb]
 rcases h1 with⟨h2,_⟩|⟨h2,b',cD,ha⟩|⟨h2,a,b',ha,cD,h3,h4⟩
 ·
  omega
 ·
  rw[if_neg (by omega),if_pos (by omega)];rw[hb]at cD;obtain rfl:=api cD
  conv=>lhs;rw[AV hb]
  rw[arc];refine ad1 ?_
  cases y with
  |nil=>exact .inl rfl
  |cons a y=>exact .inr ⟨a,y,rfl,ha a rfl⟩
 rw[if_pos (by omega),if_pos (by omega)];rw[hb]at cD;obtain rfl:=api cD;have Bh:y.getD 0 cP=a:=by simp[List.getD,ha]
 rw[Bh,ux]at hc
 conv=>lhs;rw[AV ha,AV hb]
 rw[cq,if_neg (by rw[h3];simp),if_pos h4,if_pos (hc.resolve_left (by omega))]
theorem qu.none(h1:qu y v h)(hn: ¬h<0)(hc: ¬0<h/\(y.getD 0 cP).bN=(v.getD 0 cP).bN):cq y v=cq (if h<=0 then y.drop 1 else y) (if 0<=h then v.drop 1 else v):=by
 rcases h1 with⟨h2,_⟩|⟨h2,_⟩|⟨h2,a,b,ha,hb,h3,h4⟩
 ·
  omega
 ·
  omega
 rw[if_pos (by omega),if_pos (by omega)];have Bh:y.getD 0 cP=a:=by simp[List.getD,ha]
 have ux:v.getD 0 cP=b:=by simp[List.getD,hb]
 rw[Bh,ux]at hc
 conv=>lhs;rw[AV ha,AV hb]
 rw[cq,if_neg (by rw[h3];simp),if_pos h4,if_neg (by rw[hc.2];simp)];rfl
theorem Gw{H:Nat->Option Obj}{x:Sv}(hx:dh aq 19 H x y)(hl:0<y.length):dh aq 19 H (x.sub 19 1 y.length) (y.drop 1):=by
 have:=hx.sub (lo:=1) (hi:=y.length) hl (apm _);rwa [apy (by rw[apr];omega)]at this
theorem Gx(h:fL y):fL (y.drop 1):=fun x hx=>h x (List.mem_of_mem_drop hx)
def mh(l:List (Sl Rt)):List Rt:=(l.map fun a=>a.xs).flatten
theorem Gy{l:List (Sl Rt)}{a:Sl Rt}(h:l[i]? =some a):mh (l.take (i+1))=mh (l.take i)++a.xs:=by
 unfold mh;rw[aps,h,ap6,arA];simp
theorem aeg(l:List (Sl Rt))(i:Nat):(mh (l.take i)).length<=(mh l).length:=by
 unfold mh
 conv=>rhs;rw[←apH i l]
 rw[ap6,arA,af0];omega
theorem aeh(h:bl ts=true)(hm:aZ p=true):(gw ts p=false->cI ts p=none)/\(gw ts p=true-> ∃x,ts[bW ts p]? =some x/\cI ts p=some x.bN):=by
 constructor
 ·
  intro hb;rw[SH];intro x hx e;have:=(Ck h hm hx e).2;rw[hb]at this;cases this
 intro hb;obtain⟨x,hx,h1,h2⟩:=sH hb;refine⟨x,h1,?_⟩;have:=(SG (dM h)).1 hx;rwa [h2]at this
variable {t a b:List Rt} {p:ba}
theorem SS(h:cI a p=cI t p):jo t a b p=cI b p/\me t a b p=false:=by
 refine⟨by rw[jo,AU,if_pos h],?_⟩;simp[me,uO,h]
theorem aei(h: ¬cI a p=cI t p)(h':cI b p≠cI t p/\cI a p≠cI b p):jo t a b p=cI a p/\me t a b p=true:=by
 refine⟨by rw[jo,AU,if_neg h],?_⟩;rw[me,uO,decide_eq_true_eq];exact⟨h,h'.1,h'.2⟩
theorem aej(h: ¬cI a p=cI t p)(h':cI b p=cI t p\/cI a p=cI b p):jo t a b p=cI a p/\me t a b p=false:=by
 refine⟨by rw[jo,AU,if_neg h],?_⟩;rw[me,uO,decide_eq_false_iff_not];rintro⟨_,h2,h3⟩;rcases h' with h'|h'
 ·
  exact h2 h'
 exact h3 h'
theorem aek{o:Option UInt16}(h:(pz o).there=true):o=some (pz o).bN:=by
 cases o with
 |none=>simp[pz]at h
 |some x=>rfl
theorem ael{o:Option UInt16}(h:(pz o).there=false):o=none:=by
 cases o with
 |none=>rfl
 |some x=>simp[pz]at h
theorem aem(h: ¬(bl t=true/\bl a=true/\bl b=true)):mg t a b=1/\jL t a b=[]/\s8 t a b=[]:=by
 have e:mg t a b=1:=by
  rw[mg,if_neg];intro hb;simp only[C6,anc]at hb;exact h ⟨hb.1.1,hb.1.2,hb.2⟩
 exact⟨e,by rw[jL,if_neg (by rw[e];decide)],by rw[s8,if_neg (by rw[e];decide)]⟩
theorem aen(h1:bl t=true)(h2:bl a=true)(h3:bl b=true)(hl:256<(kC t a b).length):mg t a b=5/\jL t a b=[]/\s8 t a b=[]:=by
 have e:mg t a b=5:=by rw[mg,if_pos (by rw[C6,h1,h2,h3];rfl),if_pos hl]
 exact⟨e,by rw[jL,if_neg (by rw[e];decide)],by rw[s8,if_neg (by rw[e];decide)]⟩
theorem aeo(h1:bl t=true)(h2:bl a=true)(h3:bl b=true)(hl: ¬256<(kC t a b).length):mg t a b=0/\jL t a b=kC t a b/\s8 t a b=uP t a b:=by
 have e:mg t a b=0:=by rw[mg,if_pos (by rw[C6,h1,h2,h3];rfl),if_neg hl]
 exact⟨e,by rw[jL,if_pos e],by rw[s8,if_pos e]⟩
end Go.ay
namespace Go.Proofs.YtkggjjnhnjjokaaGreatDoor
open Go.ay Go.Kb
instance aoA(r:Rt):lJ Tryz.prog 47 [(0, .agg (aq r)),(1, .bool true)] (.agg (eQ ⟨r,true⟩)):=⟨fun w=>by kernel_rfl⟩
instance:bk jK 2:=⟨fun _=>rfl,fun x=>by simp[jK,Value.oneCell']⟩
instance (x:Ld):eU (jK x) 2:=⟨rfl,bk.one x⟩
instance (x:Ld):bK (jK x) 0 (.bool x.there):=⟨rfl⟩
instance (x:Ld):bK (jK x) 1 (.int .u16 x.bN.toNat):=⟨rfl⟩
instance:dz Tryz.prog 212 (.agg (jK ⟨false,0⟩)):=⟨by kernel_rfl⟩
instance:lJ Tryz.prog 212 [] (.agg (jK ⟨false,0⟩)):=⟨fun w=>by kernel_rfl⟩
instance (h:UInt16):lJ Tryz.prog 212 [(0, .bool true),(1, .int .u16 h.toNat)] (.agg (jK ⟨true,h⟩)):=⟨fun w=>by kernel_rfl⟩
theorem aep(d:Nat):ph Tryz.prog (d+1) 4 false [1]:=⟨⟨_,Tryz.underlying4,rfl⟩,by kernel_rfl,fun _=>rfl,Zu Tryz.underlying4⟩
theorem aeq(d:Nat):ph Tryz.prog (d+1) 27 false [0]:=⟨⟨_,Tryz.underlying27,rfl⟩,by kernel_rfl,fun _=>rfl,Fk Tryz.underlying27⟩
theorem aer:Tryz.prog.stoodInHeld 212=false:=by kernel_rfl
theorem aes(d:Nat):ph Tryz.prog (d+1+1) 212 true ([1]++([0]++[])):=⟨⟨_,Tryz.underlying212,rfl⟩,by kernel_rfl,(fun h=>by cases h),
 Jr Tryz.underlying212 aer ⟨by decide,rfl,_,_,_,rfl,aep _,by decide,rfl,_,_,_,rfl,aeq _,rfl⟩⟩
theorem aet:Tryz.prog.eqGuardType Tryz.prog.depth 212=false:=by kernel_rfl
theorem aeu{a b:Ld}(h:jK a=jK b):a=b:=by
 obtain⟨ab,ah⟩:=a;obtain⟨bb,bh⟩:=b;have h1:=congrArg (·[0]?) h;have h2:=congrArg (·[1]?) h;simp[jK]at h1 h2;have h3:ah=bh:=UInt16.toNat_inj.1 oM;rw[h1,h3]
instance (a b:Ld):wU Tryz.prog 212 (.agg (jK a)) (.agg (jK b)) (decide (a=b)):=
 (aes 9998).eq.val rfl aet rfl rfl (fun i k hk=>by
  match i with
  |0=>
   have h0:k=1:=by simpa using hk.symm
   subst h0;exact⟨_,_,(inferInstance:bK (jK a) 0 _).h,(inferInstance:bK (jK b) 0 _).h,trivial⟩
  |1=>
   have h0:k=0:=by simpa using hk.symm
   subst h0;exact⟨_,_,(inferInstance:bK (jK a) 1 _).h,(inferInstance:bK (jK b) 1 _).h,rfl⟩
  |i+2=>simp at hk) (by rw[decide_eq_true_iff];exact⟨aeu,fun h=>by rw[h]⟩)
variable {w0:World}{L:List aj}
instance aoB{t:Sv}{ts:List Rt}{p:ba}[ht:ct w0 L aq 19 t ts]:bY Tryz.prog 194 w0 L [t.val, .agg (bV p), .func (.func 195) #[] #[]] (.tuple #[.int .i64 ((bW ts p):Nat), .bool (gw ts p)]) (bl ts=true/\aZ p=true):=⟨fun aA w hw=>by
 have ht:=ht.h w hw;have l5:Gv w t aq 19 ts:=⟨ht⟩;obtain⟨hr,hm⟩:=aA;have hlen:=pV hr;refine pS Tryz.func194 rfl Tryz.ntmps194 rfl ?_;refine Gc ?_;refine bH rfl fun b4=>lR ?_;refine bA (X:=Nat×Nat) (fun zz=>[(9, .int .i64 (zz.1:Nat)),(10, .int .i64 (zz.2:Nat)),(0,t.val),(2, .func (.func 195) #[] #[]),(4, .pointer (some ⟨b4,0,none⟩)),(8, .int .i64 (ts.length:Nat))]) (fun zz=>[an b4 (bV p) 32]) (fun zz=>zz.1<=zz.2/\zz.2<=ts.length/\j9 (behind ts p) (ts.length+1) zz.1 zz.2=bs (behind ts p) ts.length) (fun zz=>zz.2 -zz.1) (0,ts.length) ⟨Nat.zero_le _,Nat.le_refl _,rfl⟩ sb (fun w hw=>ai.mem hw) ?_;rintro⟨i,j⟩ ⟨aQ,az,aX⟩;dsimp only;simp only at aQ az aX;refine aH ?_;refine Gb (fun h0=>?_) fun h0=>?_
 ·
  refine au ?_;refine ag (iA (n:=i+j) rfl (by simp only[nb];omega)) (ag (oI (p:=i+j) rfl rfl (by simp only[nb];omega) oM) (ag (Ry.to (v':= .int .i64 (((i+j)/2:Nat):Int)) (iA (n:=(i+j)/2^1) rfl (by simp only[nb];omega)) rfl) (av ?_)));refine fA oK oK (al ?_);obtain⟨e,he⟩:=get_some (xs:=ts) (i:=((i+j)/2)) oM;refine bx (aR rfl rfl ((i+j)/2) rfl oM) (bx (fC rfl ((i+j)/2) he rfl) (Gq ?_));refine pI (wD (vs:=[.agg (aq e), .agg (bV p)]) (sX:=[.agg (aq e), .agg (bV p)]) rfl rfl rfl trivial) (av ?_);refine Gb (fun h1=>?_) fun h1=>?_
  ·
   have hb:behind ts p ((i+j)/2)=false:=by simp[behind,he,KT.1 h1]
   refine Gi ?_;refine al ?_;refine da ?_;exact aW (x:=(i,j)) (((i+j)/2)+1,j) ⟨oF,az,by rw[←aX,Fi (show i<j by first|omega|(simp only[];omega)) oF,if_neg (by rw[hb];simp)]⟩ (by simp only;omega) sb (fun w hw=>ai.mem hw)
  have hb:behind ts p ((i+j)/2)=true:=by
   have:=fun h=>h1 (KT.2 h);simpa[behind,he]using this
  refine Gi ?_;refine av ?_;refine da ?_;exact aW (x:=(i,j)) (i,((i+j)/2)) ⟨oF,oF,by rw[←aX,Fi (show i<j by first|omega|(simp only[];omega)) oF,if_pos hb]⟩ (by simp only;omega) sb (fun w hw=>ai.mem hw)
 have Kh:bW ts p=i:=by rw[bW,←aX,P0 oM oM]
 have hq:(decide ((i:Int)<(ts.length:Int))&&decide (nX (ts.getD i cP).p p=0))=gw ts p:=by
  rw[P2,Kh]
  by_cases h:i<ts.length
  ·
   have h2:=SE ((dM hr).may _ (alM (kL (d:=cP) h))) hm;rw[Bool.eq_iff_iff];simp only[anc,decide_eq_true_eq];rw[h2]
  simp[h]
 refine Gc ?_;refine fA oK oK (dP ?_);refine dE rfl rfl rfl (fun hg=>(Ry.yl (aR (aw hg rfl) (aw hg rfl) i rfl (by simp only[Z0,Z1,Z2,Z3,Z4,Z5,Z6,Z7,Z8,Z9]at hg;omega)))) (dE rfl rfl rfl (fun hg=>(Ry.yl (fC (aw hg rfl) i (kL (xs:=ts) (i:=i) (d:=cP) (by simp only[Z0,Z1,Z2,Z3,Z4,Z5,Z6,Z7,Z8,Z9]at hg;omega)) rfl))) (dE rfl rfl rfl (fun hg=>(Ry.yl (fW rfl))) (dE rfl rfl rfl (fun hg=>wD (vs:=[.agg (aq (ts.getD i cP)), .agg (bV p)]) (sX:=[.agg (aq (ts.getD i cP)), .agg (bV p)]) (aw hg rfl) (cZ (aw hg rfl) (cZ (aw hg rfl) fu)) rfl trivial) (aH ?_))));refine Gr fun w1 hw=>?_;exact⟨(by rw[hq,Kh]),ai.mem hw⟩⟩
instance aoC{t:Sv}{ts:List Rt}{p:ba}[ht:ct w0 L aq 19 t ts]:bY Tryz.prog 120 w0 L [t.val, .agg (bV p)] (.agg (jK (pz (cI ts p)))) (bl ts=true/\aZ p=true):=⟨fun aA w hw=>by
 have ht:=ht.h w hw;have l5:Gv w t aq 19 ts:=⟨ht⟩;obtain⟨hr,hm⟩:=aA;obtain⟨SU,SV⟩:=aeh hr hm;have hlen:=pV hr;refine cz Tryz.func120 rfl Tryz.ntmps120 rfl ?_;refine Gc ?_;refine bH rfl fun b3=>bn fun b4=>al ?_;refine dv (bP rfl ⟨by assumption,by assumption⟩) (Gs ?_);refine ag (aI (v:= .int .i64 ((bW ts p):Nat)) rfl rfl) (ag (aI (v:= .bool (gw ts p)) rfl rfl) (aT ?_));refine Gb (fun h0=>?_) fun h0=>?_
 ·
  have hz:=SU (by simpa using h0);refine Gc ?_;refine ag (fv rfl) (av ?_);refine Gr fun w1 hw=>?_;exact⟨(by rw[hz];rfl),ai.mem hw⟩
 obtain⟨x,hx,hz⟩:=SV (by simpa using h0);have zD:=(ad2.1 hx).1;refine al ?_;refine ag (aR rfl rfl (bW ts p) rfl zD) (ag (aK rfl rfl) (ag (bC (j:=18) rfl (bW ts p) hx rfl (by decide)) (ag (fv rfl) (av ?_))));refine Gr fun w1 hw=>?_;exact⟨(by rw[hz];rfl),ai.mem hw⟩⟩
instance aoD{t:Sv}{ts:List Rt}{u:Sv}{us:List Rt}[ht:ct w0 L aq 19 t ts][hu:ct w0 L aq 19 u us]:bE Tryz.prog 121 w0 L [t.val,u.val] (Sv) (fun zz=>zz.val) (fun zz=>own eQ 20 zz (cq ts us)::L) (fun zz=>True) (fL ts/\fL us/\ts.length<=1000/\us.length<=1000):=⟨fun aA w hw=>Gk (fun zz=>[own eQ 20 zz (cq ts us)]) hw (by
 have ht:=ht.h w hw;have hu:=hu.h w hw;have l5:Gv w t aq 19 ts:=⟨ht⟩;have KY:Gv w u aq 19 us:=⟨hu⟩;obtain⟨eF,fU,eY,uG⟩:=aA;refine cz Tryz.func121 rfl Tryz.ntmps121 rfl ?_;refine aH ?_;refine bA (X:=Sv×List Rt×Sv×List Rt×Sv×List Ch) (fun zz=>[(0,zz.1.val),(1,zz.2.2.1.val),(5,zz.2.2.2.2.1.val)]) (fun zz=>[own eQ 20 zz.2.2.2.2.1 zz.2.2.2.2.2]) (fun zz=>dh aq 19 (hp w) zz.1 zz.2.1/\dh aq 19 (hp w) zz.2.2.1 zz.2.2.2.1/\cq ts us=zz.2.2.2.2.2++cq zz.2.1 zz.2.2.2.1/\zz.2.2.2.2.2.length+zz.2.1.length+zz.2.2.2.1.length<=ts.length+us.length/\fL zz.2.1/\fL zz.2.2.2.1) (fun zz=>zz.2.1.length+zz.2.2.2.1.length) (t,ts,u,us,Sv.none,[]) ⟨ht,hu,rfl,by simp,eF,fU⟩ sb (fun w hw=>Mem.cO eQ 20 (ai.mem hw)) ?_;rintro⟨x,y,z,v,o,q⟩ ⟨aQ,az,aX,bX,gT,nS⟩;dsimp only;simp only at aQ az aX bX gT nS;have gx:Gv w x aq 19 y:=⟨aQ⟩;have gz:Gv w z aq 19 v:=⟨az⟩;refine nq ?_;refine Gb (fun h0=>?_) fun h0=>?_
 ·
  refine av ?_;refine da ?_;refine qA (X:=Int) (fun zz=>[(6, .int .i64 zz),(0,x.val),(1,z.val),(5,o.val)]) (fun zz=>[own eQ 20 o q]) (fun zz=>qu y v zz) ?_ ?_
  ·
   refine aT ?_;refine Gb (fun h1=>?_) fun h1=>?_
   ·
    refine Gi ?_;refine Gs ?_;refine da ?_;exact iB (-1) (aed oF oF) sb (fun w hw=>ai.mem hw)
   refine aT ?_;refine Gb (fun h2=>?_) fun h2=>?_
   ·
    refine Gi ?_;refine Gs ?_;refine da ?_;exact iB 1 (aee oF oF) sb (fun w hw=>ai.mem hw)
   refine fA oK oK (Gq ?_);obtain⟨e16,SW⟩:=get_some (xs:=y) (i:=0) oM;refine bx (aR rfl rfl 0 rfl oM) (bx (aK rfl rfl) (bx (rJ (j:=0) rfl 0 SW rfl (by decide)) (Gq ?_)));obtain⟨CR,SX⟩:=get_some (xs:=v) (i:=0) oM;refine bx (aR rfl rfl 0 rfl oM) (bx (aK rfl rfl) (bx (rJ (j:=0) rfl 0 SX rfl (by decide)) (pI (bP rfl trivial) (Gq ?_))));refine da ?_;exact iB (nX e16.p CR.p) (aef gT nS SW SX) sb (fun w hw=>ai.mem hw)
  rintro h hN;have hz:=hN.lens;have SU:=hz.1;have SV:=hz.2;refine qA (X:=Sv×List Ch) (fun zz=>[(5,zz.1.val),(0,x.val),(1,z.val),(6, .int .i64 h)]) (fun zz=>[own eQ 20 zz.1 zz.2]) (fun zz=>cq ts us=zz.2++cq (if h<=0 then y.drop 1 else y) (if 0<=h then v.drop 1 else v)/\zz.2.length<=q.length+1) ?_ ?_
  ·
   refine aH ?_;refine Gb (fun h3=>?_) fun h3=>?_
   ·
    refine Gi ?_;refine av ?_;obtain⟨GA,SY⟩:=get_some (xs:=y) (i:=0) oM;refine ag (aR rfl rfl 0 rfl oM) (ag (fC rfl 0 SY rfl) (ag (fv rfl) ?_));refine jO (enc:=eQ) (vals:=[_]) [(⟨GA,true⟩:Ch)] rfl rfl rfl (by decide) (by decide) fun rp=>?_;refine jd (s:=o) (ys:=[(⟨GA,true⟩:Ch)]) rfl rfl (by decide) (fun w hw=>ib (s:=⟨false,rp,0,1,1,none⟩) Tryz.underlying45 (by decide) ((inferInstance:Hd _ _ ⟨false,rp,0,1,1,none⟩ eQ 20 [(⟨GA,true⟩:Ch)]).h w hw)) (by simp only[af0,apj,apl];omega) (by simp only[af0,apj,apl];omega) fun s41 aoE aoF=>?_;refine Gs ?_;refine da ?_;exact iB (s41,q++[⟨GA,true⟩]) ⟨by rw[aX,hN.gone oF SY,apq],by simp only[af0,apj,apl];omega⟩ sb (fun w hw=>ai.mem hw)
   refine Gi ?_;refine fA oK oK (au ?_);refine eV rfl rfl rfl (fun hg=>(Ry.yl (aR (aw hg rfl) rfl 0 rfl (by simp only[Z0,Z1,Z2,Z3,Z4,Z5,Z6,Z7,Z8,Z9]at hg;omega)))) (eV rfl rfl rfl (fun hg=>(Ry.yl (aK (aw hg rfl) rfl))) (eV rfl rfl rfl (fun hg=>(Ry.yl (bC (j:=18) (aw hg rfl) 0 (kL (xs:=y) (i:=0) (d:=cP) (by simp only[Z0,Z1,Z2,Z3,Z4,Z5,Z6,Z7,Z8,Z9]at hg;omega)) rfl (by decide)))) (Gh ?_)));refine eV rfl rfl rfl (fun hg=>(Ry.yl (aR (aw hg rfl) rfl 0 rfl (by simp only[Z0,Z1,Z2,Z3,Z4,Z5,Z6,Z7,Z8,Z9]at hg;omega)))) (eV rfl rfl rfl (fun hg=>(Ry.yl (aK (aw hg rfl) rfl))) (eV rfl rfl rfl (fun hg=>(Ry.yl (bC (j:=18) (aw hg rfl) 0 (kL (xs:=v) (i:=0) (d:=cP) (by simp only[Z0,Z1,Z2,Z3,Z4,Z5,Z6,Z7,Z8,Z9]at hg;omega)) rfl (by decide)))) (au ?_)));refine Gb (fun h4=>?_) fun h4=>?_
   ·
    have KZ:0<h\/(y.getD 0 cP).bN≠(v.getD 0 cP).bN:=h4.imp_right fun e1 e2=>e1 (by rw[e2]);refine Gi ?_;refine av ?_;obtain⟨GB,SZ⟩:=get_some (xs:=v) (i:=0) oM;refine ag (aR rfl rfl 0 rfl oM) (ag (fC rfl 0 SZ rfl) (ag (fv rfl) ?_));refine jO (enc:=eQ) (vals:=[_]) [(⟨GB,false⟩:Ch)] rfl rfl rfl (by decide) (by decide) fun S0=>?_;refine jd (s:=o) (ys:=[(⟨GB,false⟩:Ch)]) rfl rfl (by decide) (fun w hw=>ib (s:=⟨false,S0,0,1,1,none⟩) Tryz.underlying45 (by decide) ((inferInstance:Hd _ _ ⟨false,S0,0,1,1,none⟩ eQ 20 [(⟨GB,false⟩:Ch)]).h w hw)) (by simp only[af0,apj,apl];omega) (by simp only[af0,apj,apl];omega) fun s62 aoG aoH=>?_;refine Gs ?_;refine da ?_;exact iB (s62,q++[⟨GB,false⟩]) ⟨by rw[aX,hN.new oF SZ KZ,apq],by simp only[af0,apj,apl];omega⟩ sb (fun w hw=>ai.mem hw)
   have KZ: ¬0<h/\(y.getD 0 cP).bN=(v.getD 0 cP).bN:=⟨by omega,UInt16.toNat_inj.1 oM⟩;refine da ?_;exact iB (o,q) ⟨by rw[aX,hN.none oF KZ],oF⟩ sb (fun w hw=>ai.mem hw)
  rintro⟨o2,q2⟩ ⟨mM,ni⟩;dsimp only;simp only at mM ni;refine au ?_;refine Gb (fun h5=>?_) fun h5=>?_
  ·
   refine Gi ?_;refine Gs ?_;have aev:Rg 1 y.length y.length:=⟨by omega⟩;refine ag (w9 rfl rfl 1 rfl aev.h.1) (aH ?_);refine Gb (fun h6=>?_) fun h6=>?_
   ·
    refine Gi ?_;refine Gs ?_;have K0:Rg 1 v.length v.length:=⟨by omega⟩;refine ag (w9 rfl rfl 1 rfl K0.h.1) (Gs ?_);refine da ?_;exact aW (x:=(x,y,z,v,o,q)) (x.sub 19 1 y.length,y.drop 1,z.sub 19 1 v.length,v.drop 1,o2,q2) ⟨Gw aQ oF,Gw az oF,by rw[mM,if_pos oF,if_pos oF],by simp only[apr];omega,Gx gT,Gx nS⟩ (by simp only[apr];omega) sb (fun w hw=>ai.mem hw)
   refine da ?_;exact aW (x:=(x,y,z,v,o,q)) (x.sub 19 1 y.length,y.drop 1,z,v,o2,q2) ⟨Gw aQ oF,az,by rw[mM,if_pos oF,if_neg oF],by simp only[apr];omega,Gx gT,nS⟩ (by simp only[apr];omega) sb (fun w hw=>ai.mem hw)
  refine au ?_;refine Gb (fun h6=>?_) fun h6=>?_
  ·
   refine Gi ?_;refine Gs ?_;have K0:Rg 1 v.length v.length:=⟨by omega⟩;refine ag (w9 rfl rfl 1 rfl K0.h.1) (Gs ?_);refine da ?_;exact aW (x:=(x,y,z,v,o,q)) (x,y,z.sub 19 1 v.length,v.drop 1,o2,q2) ⟨aQ,Gw az oF,by rw[mM,if_neg oF,if_pos oF],by simp only[apr];omega,gT,Gx nS⟩ (by simp only[apr];omega) sb (fun w hw=>ai.mem hw)
  refine da ?_;exact aW (x:=(x,y,z,v,o,q)) (x,y,z,v,o2,q2) (by exfalso;omega) (by exfalso;omega) sb (fun w hw=>ai.mem hw)
 have tl:y=[]:=apB.1 oM;have F5:v=[]:=apB.1 oM;rw[tl,F5,C3,apZ]at aX;refine au ?_;refine Gr fun w1 hw=>?_;exact⟨o,rfl,trivial,by rw[aX];exact ai.mem hw⟩)⟩
instance aoI{t:Sv}{ts:List Rt}{u:Sv}{us:List Rt}[ht:ct w0 L aq 19 t ts][hu:ct w0 L aq 19 u us]:bE Tryz.prog 53 w0 L [t.val,u.val] (Sv) (fun zz=> .tuple #[zz.val, .int .i64 (uQ ts us)]) (fun zz=>own eQ 20 zz (pA ts us)::L) (fun zz=>True) (True):=⟨fun aA w hw=>Gk (fun zz=>[own eQ 20 zz (pA ts us)]) hw (by
 have ht:=ht.h w hw;have hu:=hu.h w hw;have l5:Gv w t aq 19 ts:=⟨ht⟩;have KY:Gv w u aq 19 us:=⟨hu⟩;refine cz Tryz.func53 rfl Tryz.ntmps53 rfl ?_;refine fQ ?_;refine bo rfl rfl rfl (fun hg=>bP (cZ (aw hg rfl) fu) trivial) (bo rfl rfl rfl (fun hg=>(Ry.yl (iz (aw hg rfl)))) (av ?_));refine Gb (fun h0=>?_) fun h0=>?_
 ·
  have hE:uQ ts us=1:=by rw[uQ,if_neg (by rcases h0 with h|h<;>rw[h]<;>simp)]
  have hL:pA ts us=[]:=by rw[pA,if_neg (by rw[hE];decide)]
  refine au ?_;refine Gr fun w1 hw=>?_;exact⟨Sv.none,by rw[hE];rfl,trivial,by rw[hL];exact(ai.mem hw:Mem w [] _).cO eQ 20⟩
 obtain⟨K1,K2⟩:=h0;have hE:uQ ts us=0:=by rw[uQ,if_pos (by rw[K1,K2];rfl)]
 have hL:pA ts us=cq ts us:=by rw[pA,if_pos hE]
 have k1:=(dM K1).may;have k2:=(dM K2).may;have k3:=pV K1;have k4:=pV K2;refine al ?_;refine aY rfl ⟨k1,k2,by omega,by omega⟩ fun aD jH=>al ?_;refine Gr fun w1 hw=>?_;exact⟨aD,by rw[hE],trivial,by rw[hL];exact ai.mem hw⟩)⟩
open Go.RowKit
def LF(b:Nat):Value:= .func (.func 192) #[] #[.pointer (some ⟨b,0,none⟩)]
noncomputable def SF(s:Sv):Value:= .func (.func 282) #[] #[s.val,typeHandle Tryz.prog 34]
structure kf where
 b:Nat
 s:Sv
 k:FuncId
 eS:Array Value
def WF(l:kf):Value:= .func (.func l.k) #[] l.eS
def eT(l:kf):Array Value:= #[LF l.b,WF l]
theorem aew(x:kf):(eT x).all (·.oneCell')=true:=by simp[eT,LF,WF,Value.oneCell']
instance (x:kf):eU (eT x) 2:=⟨rfl,aew x⟩
instance (x:kf):bK (eT x) 0 (LF x.b):=⟨rfl⟩
instance (x:kf):bK (eT x) 1 (WF x):=⟨rfl⟩
def pB(g:kf)(n:Nat):Prop:=2<=n->WF g=SF g.s
theorem aex(w:World)(b:Nat)(s:Sv)(xs:List Rt)(i j:Int)(hb:w.cell? ⟨b,0,none⟩=some s.val)(hs:dh aq 19 (hp w) s xs)(hi:0<=i/\i<(xs.length:Int))(hj:0<=j/\j<(xs.length:Int)):Calls Tryz.prog 192 #[.int .i64 i, .int .i64 j, .pointer (some ⟨b,0,none⟩)] w fun e w'=>e= .returned (.bool (C0 xs i j))/\Mem w [] w':=by
 have uj:Gv w s aq 19 xs:=⟨hs⟩;refine pS Tryz.func192 rfl Tryz.ntmps192 rfl ?_;refine al ?_;refine fA oK oK (bx (Fq rfl hb) (Gq ?_));obtain⟨x,hx⟩:=get_some (xs:=xs) (i:=i.toNat) oM;refine bx (aR rfl rfl i.toNat oM oM) (bx (aK rfl rfl) (bx (rJ (j:=0) rfl i.toNat hx rfl (by decide)) (bx (Fq rfl hb) (Gq ?_))));obtain⟨y,hy⟩:=get_some (xs:=xs) (i:=j.toNat) oM;refine bx (aR rfl rfl j.toNat oM oM) (bx (aK rfl rfl) (bx (rJ (j:=0) rfl j.toNat hy rfl (by decide)) (pI (bP rfl trivial) (av ?_))));refine Gr fun w1 hw=>?_;exact Ge (by simp[C0,List.getD,hx,hy]) hw
theorem aey{w0 w:World}{L:List aj}{b i:Nat}{v:Value}{T:TypeId}(h:L[i]? =some (an b #[v] T))(hw:Mem w0 L w):w.cell? ⟨b,0,none⟩=some v:=by
 rw[hw.cell h];rfl
instance aoJ{b k:Nat}{s:Sv}{xs:List Rt}{T:TypeId}{i j:Int}[h:Has L b #[s.val] T k][q:Hd w0 L s aq 19 xs]:bY Tryz.prog 192 w0 L [.int .i64 i, .int .i64 j, .pointer (some ⟨b,0,none⟩)] (.bool (C0 xs i j)) ((0<=i/\i<(xs.length:Int))/\(0<=j/\j<(xs.length:Int))):=⟨fun hp w hw=>aex w b s xs i j (aey h.h hw) (q.h w hw) hp.1 hp.2⟩
theorem aez: ∃fn,Tryz.prog.funcs[282]? =some fn∧(fn.name== "runtime.NumGoroutine")=false∧fn.body.isNone=true∧Extern.findNext fn=none∧Extern.find fn=some (Extern.ReflectliteSwapper.swap false):=⟨Option.get (Tryz.prog.funcs[282]?) oK,by kernel_rfl,by kernel_rfl,by kernel_rfl,by kernel_rfl,by kernel_rfl⟩
theorem aeA: ∃ie,Tryz.prog.info? 34=some ie/\ie.size=19:=⟨Option.get (Tryz.prog.info? 34) oK,by kernel_rfl,by kernel_rfl⟩
theorem aeB(w:World):(isAgg 34).run Tryz.prog w= .ok true w:=by
 have:=Tryz.underlying34;simp[isAgg,underlying,this,Result.andThen]
section
variable {N:cc} {w0:World} {env:Env} {L:List aj} {l:List Oper} {Q:Exit->Act->World->Prop} {rest:List Oper} {d:Option Tmp} {ty:TypeId} {ps:String} {af:Array Edge}
theorem GC{x:Operand}{zs:List Operand}{ts:Array TypeId}{s:Sv}{xs:List Rt}{i j:Int}{k:Nat}{L':List aj}(p q:Nat){v:Value}(hx:ev env x=some v)(hv:v=SF s)(ya:eJ env zs=some [.int .i64 i, .int .i64 j])(hi:i=(p:Int))(hj:j=(q:Int))(h1:p<xs.length)(h2:q<xs.length)[ho:di L s aq 19 xs k][hu:eK L k (own aq 19 s (swp xs p q)) L'](hk:Sq Tryz.prog N w0 l Q rest (ca env d (.tuple #[])) L')(hd:cM N d=true:=by rfl):
  Sq Tryz.prog N w0 l Q (⟨d, .call {callee:= .value x,args:=zs.toArray,argTypes:=ts},ty,ps,af,none⟩::rest) env L:=by
 subst hi hj hv;obtain⟨fn,f1,f2,f3,f4,f5⟩:=aez;obtain⟨ie,i1,i2⟩:=aeA;refine ac9 f1 f2 f3 f4 f5 hx ya (fun w hw=>?_) hd;obtain⟨w',r,m⟩:=ac8 i1 i2 aeB hw ho h1 h2;exact⟨_,w',L',r,by rw[←hu.h];exact m,hk⟩
end
theorem aeC(w0 w:World)(L:List aj)(xs:List Rt)(T:TypeId)(g:kf)(a:Nat)(n:Nat)(hw:Mem w0 (an g.b #[g.s.val] T::own aq 19 g.s xs::L) w)(aA:a<=n/\n<=xs.length/\xs.length<=1000000/\fL xs/\pB g xs.length):Calls Tryz.prog 283 #[.agg (eT g), .int .i64 (a:Nat), .int .i64 (n:Nat)] w fun e w'=> ∃zz:List Rt,e= .returned (.tuple #[])/\(eI bO xs a n zz)/\Mem w0 (an g.b #[g.s.val] T::own aq 19 g.s zz::L) w':=by
 obtain⟨eF,fU,eY,uG,kD⟩:=aA;refine gG (args:=[_,_,_]) Tryz.func283 rfl Tryz.ntmps283 rfl hw ?_;change Cw _ _ _ _ _ [(0, .agg (eT g)),(1, .int .i64 (a:Nat)),(2, .int .i64 (n:Nat))] (an g.b #[g.s.val] T::own aq 19 g.s xs::L);refine Gc ?_;refine bH rfl fun b3=>aH ?_;refine bA (X:=Nat×List Rt) (fun zz=>[(6, .int .i64 (zz.1:Nat)),(1, .int .i64 (a:Nat)),(2, .int .i64 (n:Nat)),(3, .pointer (some ⟨b3,0,none⟩))]) (fun zz=>an b3 (eT g) 342::an g.b #[g.s.val] T::own aq 19 g.s zz.2::L) (fun zz=>a<zz.1/\zz.1<=n+1/\eI bO xs a (min zz.1 n) zz.2) (fun zz=>n+1 -zz.1) (a+1,xs) ⟨oF,oF,by rcases apo a n with h|h;(rw[show min (a+1) n=a+1 by first|omega|(simp only[];omega)];exact adb oF);(rw[show min (a+1) n=a by first|omega|(simp only[];omega)];exact ade oF)⟩ sb (fun w hw=>ai.mem hw) ?_
 rintro⟨i,ys⟩ ⟨aQ,az,aX⟩;dsimp only;simp only at aQ az aX;have ly:=aX.length oM oM;have sZ:fL ys:=fun x hx=>uG x ((AO aX oM oM).1 hx);refine aH ?_;refine Gb (fun h0=>?_) fun h0=>?_
 ·
  rw[show min i n=i by omega]at aX;refine au ?_;refine bA (X:=Nat×List Rt) (fun zz=>[(7, .int .i64 (zz.1:Nat)),(1, .int .i64 (a:Nat)),(2, .int .i64 (n:Nat)),(3, .pointer (some ⟨b3,0,none⟩)),(6, .int .i64 (i:Nat))]) (fun zz=>an b3 (eT g) 342::an g.b #[g.s.val] T::own aq 19 g.s zz.2::L) (fun zz=>mR ys zz.2 i zz.1/\a<=zz.1/\zz.1<=i/\ ∀t,zz.1<=t->t<i->rk bO ys i<rk bO ys t) (fun zz=>zz.1) (i,ys) ⟨mR.refl,oF,Nat.le_refl _,fun t h1 h2=>absurd h2 (Nat.not_lt_of_le h1)⟩ sb (fun w hw=>ai.mem hw) ?_;rintro⟨j,ts⟩ ⟨hM,fb,fV,iS⟩;dsimp only;simp only at hM fb fV iS;have lt:=hM.len;have S1:fL ts:=fun x hx=>sZ x (hM.mem fV oM hx);refine fQ ?_;refine gh rfl rfl rfl (fun hg=>(Ry.yl (kI (aw hg rfl) rfl (by simp only[Z0,Z1,Z2,Z3,Z4,Z5,Z6,Z7,Z8,Z9]at hg;omega)))) (gh rfl rfl rfl (fun hg=>wD (vs:=[.int .i64 (j:Int), .int .i64 ((j:Int) -1)]) (sX:=[.int .i64 (j:Int), .int .i64 ((j:Int) -1), .pointer (some ⟨g.b,0,none⟩)]) (aw hg rfl) (cZ (aw hg rfl) (cZ (aw hg rfl) fu)) rfl (by simp only[Z0,Z1,Z2,Z3,Z4,Z5,Z6,Z7,Z8,Z9]at hg;omega)) (av ?_));refine Gb (fun h1=>?_) fun h1=>?_
  ·
   have bc:rk bO ys i<rk bO ys (j -1):=by
    have h2:=h1.2;rw[wC S1 (s:=j) (t:=j -1) oM oM oM oM,decide_eq_true_eq,Sf hM,Sg hM oM]at h2;exact h2
   refine aT ?_;refine GC j (j -1) rfl (kD oM) rfl oM oM oM oM (au ?_);refine Gi ?_;exact aW (x:=(j,ts)) (j -1,swp ts j (j -1)) ⟨hM.step oF fV oF,oF,oF,fun t h2 h3=>(aq2 h2).elim (fun h=>h▸bc) fun h=>iS t oF h3⟩ (by simp only;omega) (Sub.cons (look_eq rfl (by congr 1;omega)) sb) (fun w hw=>ai.mem hw)
  have HT:eI bO xs a (i+1) ts:=by
   refine R9 aX oM oM hM fb fV iS ?_;rcases h1 with h|h
   ·
    left;omega
   by_cases e:j=a
   ·
    exact .inl e
   rw[wC S1 (s:=j) (t:=j -1) oM oM oM oM,decide_eq_false_iff_not,Sf hM,Sg hM oM]at h;right;omega
  refine au ?_;refine Gi ?_;exact aW (x:=(i,ys)) (i+1,ts) ⟨oF,oF,by rw[show min (i+1) n=i+1 by first|omega|(simp only[];omega)];exact HT⟩ (by simp only;omega) sb (fun w hw=>ai.mem hw)
 rw[show min i n=n by omega]at aX;refine Gc ?_;refine eM (.inr rfl) (qf rfl) (fun w1 hw=>?_);exact⟨ys,rfl,aX,ai.mem hw⟩
instance aoK{w0:World}{L R1 L2:List aj}{i j:Nat}{xs:List Rt}{T:TypeId}{g:kf}{a:Nat}{n:Nat}[h:Has L g.b #[g.s.val] T i][d1:cm L i R1][q:di R1 g.s aq 19 xs j][d2:cm R1 j L2]:bE Tryz.prog 283 w0 L [.agg (eT g), .int .i64 (a:Nat), .int .i64 (n:Nat)] (List Rt) (fun zz=> .tuple #[]) (fun zz=>an g.b #[g.s.val] T::own aq 19 g.s zz::L2) (fun zz=>eI bO xs a n zz) (a<=n/\n<=xs.length/\xs.length<=1000000/\fL xs/\pB g xs.length):=⟨fun hp w hw=>aeC w0 w L2 xs T g a n (lC h.h d1.h q.h d2.h hw) hp⟩
theorem aeD(w0 w:World)(L:List aj)(xs:List Rt)(T:TypeId)(g:kf)(a:Nat)(b:Nat)(n:Nat)(hw:Mem w0 (an g.b #[g.s.val] T::own aq 19 g.s xs::L) w)(aA:a+n<=b/\b+n<=xs.length/\xs.length<=1000000/\pB g xs.length):Calls Tryz.prog 337 #[.agg (eT g), .int .i64 (a:Nat), .int .i64 (b:Nat), .int .i64 (n:Nat)] w fun e w'=> ∃zz:List Rt,e= .returned (.tuple #[])/\(l6 xs zz a b n)/\Mem w0 (an g.b #[g.s.val] T::own aq 19 g.s zz::L) w':=by
 obtain⟨eF,fU,eY,kD⟩:=aA;refine gG (args:=[_,_,_,_]) Tryz.func337 rfl Tryz.ntmps337 rfl hw ?_;change Cw _ _ _ _ _ [(0, .agg (eT g)),(1, .int .i64 (a:Nat)),(2, .int .i64 (b:Nat)),(3, .int .i64 (n:Nat))] (an g.b #[g.s.val] T::own aq 19 g.s xs::L);refine Gc ?_;refine bH rfl fun b4=>al ?_;refine bA (X:=Nat×List Rt) (fun zz=>[(8, .int .i64 (zz.1:Nat)),(1, .int .i64 (a:Nat)),(2, .int .i64 (b:Nat)),(3, .int .i64 (n:Nat)),(4, .pointer (some ⟨b4,0,none⟩))]) (fun zz=>an b4 (eT g) 342::an g.b #[g.s.val] T::own aq 19 g.s zz.2::L) (fun zz=>zz.1<=n/\l6 xs zz.2 a b zz.1) (fun zz=>n -zz.1) (0,xs) ⟨Nat.zero_le _,l6.zero⟩ sb (fun w hw=>ai.mem hw) ?_;rintro⟨i,ys⟩ ⟨aQ,az⟩;dsimp only;simp only at aQ az;have ly:=az.len;refine aH ?_;refine Gb (fun h0=>?_) fun h0=>?_
 ·
  refine fQ ?_;refine GC (a+i) (b+i) rfl (kD oM) rfl oM oM oM oM (au ?_);refine Gi ?_;exact aW (x:=(i,ys)) (i+1,swp ys (a+i) (b+i)) ⟨oF,az.step oF oF⟩ (by simp only;omega) sb (fun w hw=>ai.mem hw)
 obtain rfl:i=n:=by omega
 refine Gc ?_;refine eM (.inr rfl) (qf rfl) (fun w1 hw=>?_);exact⟨ys,rfl,az,ai.mem hw⟩
instance aoL{w0:World}{L R1 L2:List aj}{i j:Nat}{xs:List Rt}{T:TypeId}{g:kf}{a:Nat}{b:Nat}{n:Nat}[h:Has L g.b #[g.s.val] T i][d1:cm L i R1][q:di R1 g.s aq 19 xs j][d2:cm R1 j L2]:bE Tryz.prog 337 w0 L [.agg (eT g), .int .i64 (a:Nat), .int .i64 (b:Nat), .int .i64 (n:Nat)] (List Rt) (fun zz=> .tuple #[]) (fun zz=>an g.b #[g.s.val] T::own aq 19 g.s zz::L2) (fun zz=>l6 xs zz a b n) (a+n<=b/\b+n<=xs.length/\xs.length<=1000000/\pB g xs.length):=⟨fun hp w hw=>aeD w0 w L2 xs T g a b n (lC h.h d1.h q.h d2.h hw) hp⟩
theorem aeE(w0 w:World)(L:List aj)(xs:List Rt)(T:TypeId)(g:kf)(a:Nat)(m:Nat)(n:Nat)(hw:Mem w0 (an g.b #[g.s.val] T::own aq 19 g.s xs::L) w)(aA:a<m/\m<n/\n<=xs.length/\xs.length<=1000000/\pB g xs.length):Calls Tryz.prog 320 #[.agg (eT g), .int .i64 (a:Nat), .int .i64 (m:Nat), .int .i64 (n:Nat)] w fun e w'=> ∃zz:List Rt,e= .returned (.tuple #[])/\(zz=fK xs a m n)/\Mem w0 (an g.b #[g.s.val] T::own aq 19 g.s zz::L) w':=by
 obtain⟨eF,fU,eY,uG,kD⟩:=aA;have lr:=Gd (xs:=xs) (s:=a) (m:=m) (e:=n) oM oM eY;refine gG (args:=[_,_,_,_]) Tryz.func320 rfl Tryz.ntmps320 rfl hw ?_;change Cw _ _ _ _ _ [(0, .agg (eT g)),(1, .int .i64 (a:Nat)),(2, .int .i64 (m:Nat)),(3, .int .i64 (n:Nat))] (an g.b #[g.s.val] T::own aq 19 g.s xs::L);refine Gc ?_;refine bH rfl fun b4=>al ?_;refine ag (Ry.to (v':= .int .i64 ((m -a:Nat):Int)) (kI rfl rfl oM) (by congr 1<;>omega)) ?_;refine au ?_;refine ag (Ry.to (v':= .int .i64 ((n -m:Nat):Int)) (kI rfl rfl oM) (by congr 1<;>omega)) ?_;refine av ?_;refine bA (X:=Nat×Nat×List Rt) (fun zz=>[(8, .int .i64 (zz.1:Nat)),(9, .int .i64 (zz.2.1:Nat)),(2, .int .i64 (m:Nat)),(4, .pointer (some ⟨b4,0,none⟩))]) (fun zz=>an b4 (eT g) 342::an g.b #[g.s.val] T::own aq 19 g.s zz.2.2::L) (fun zz=>mS zz.2.2 (fK xs a m n) m zz.1 zz.2.1/\0<zz.1/\0<zz.2.1/\zz.2.2.length=xs.length) (fun zz=>zz.1+zz.2.1) (m -a,n -m,xs) ⟨mS.start oF oF eY,oF,oF,rfl⟩ sb (fun w hw=>ai.mem hw) ?_;rintro⟨i,j,ys⟩ ⟨aQ,az,aX,bX⟩;dsimp only;simp only at aQ az aX bX;obtain⟨gT,nS⟩:=aQ.len;refine aH ?_;refine Gb (fun h0=>?_) fun h0=>?_
 ·
  refine aH ?_;refine Gb (fun h1=>?_) fun h1=>?_
  ·
   refine au ?_;refine ag (Ry.to (v':= .int .i64 ((m -i:Nat):Int)) (kI rfl rfl oM) (by congr 1<;>omega)) ?_;refine av ?_;refine aY rfl ⟨by omega,by omega,by omega,fun h=>kD oM⟩ fun c6 kZ=>al ?_;refine ag (Ry.to (v':= .int .i64 ((i -j:Nat):Int)) (kI rfl rfl oM) (by congr 1<;>omega)) ?_;refine Gs ?_;refine da ?_;exact aW (x:=(i,j,ys)) (i -j,j,c6) ⟨aQ.left oF kZ,oF,oF,by rw[kZ.len,bX]⟩ (by simp only;omega) sb (fun w hw=>ai.mem hw)
  refine au ?_;refine ag (Ry.to (v':= .int .i64 ((m -i:Nat):Int)) (kI rfl rfl oM) (by congr 1<;>omega)) ?_;refine au ?_;refine ag (Ry.to (v':= .int .i64 ((m+j -i:Nat):Int)) (kI rfl rfl oM) (by congr 1<;>omega)) ?_;refine Gs ?_;refine aY rfl ⟨by omega,by omega,by omega,fun h=>kD oM⟩ fun x42 S2=>al ?_;refine ag (Ry.to (v':= .int .i64 ((j -i:Nat):Int)) (kI rfl rfl oM) (by congr 1<;>omega)) ?_;refine Gs ?_;refine da ?_;exact aW (x:=(i,j,ys)) (i,j -i,x42) ⟨aQ.right oF S2,oF,oF,by rw[S2.len,bX]⟩ (by simp only;omega) sb (fun w hw=>ai.mem hw)
 obtain rfl:i=j:=by omega
 refine au ?_;refine ag (Ry.to (v':= .int .i64 ((m -i:Nat):Int)) (kI rfl rfl oM) (by congr 1<;>omega)) ?_;refine av ?_;refine aY rfl ⟨by omega,by omega,by omega,fun h=>kD oM⟩ fun x52 aeF=>Gi ?_;refine eM (.inr rfl) (qf rfl) (fun w1 hw=>?_);exact⟨x52,rfl,aQ.done aeF,ai.mem hw⟩
instance aoM{w0:World}{L R1 L2:List aj}{i j:Nat}{xs:List Rt}{T:TypeId}{g:kf}{a:Nat}{m:Nat}{n:Nat}[h:Has L g.b #[g.s.val] T i][d1:cm L i R1][q:di R1 g.s aq 19 xs j][d2:cm R1 j L2]:bE Tryz.prog 320 w0 L [.agg (eT g), .int .i64 (a:Nat), .int .i64 (m:Nat), .int .i64 (n:Nat)] (List Rt) (fun zz=> .tuple #[]) (fun zz=>an g.b #[g.s.val] T::own aq 19 g.s zz::L2) (fun zz=>zz=fK xs a m n) (a<m/\m<n/\n<=xs.length/\xs.length<=1000000/\pB g xs.length):=⟨fun hp w hw=>aeE w0 w L2 xs T g a m n (lC h.h d1.h q.h d2.h hw) hp⟩
theorem aeG(kk:Nat)(ih: ∀{w0:World} {L R1 L2:List aj} {i j:Nat} {xs:List Rt} {T:TypeId} {g:kf} {a:Nat} {m:Nat} {n:Nat} [h:Has L g.b #[g.s.val] T i] [d1:cm L i R1] [q:di R1 g.s aq 19 xs j] [d2:cm R1 j L2],bE Tryz.prog 284 w0 L [.agg (eT g), .int .i64 (a:Nat), .int .i64 (m:Nat), .int .i64 (n:Nat)] (List Rt) (fun zz=> .tuple #[]) (fun zz=>an g.b #[g.s.val] T::own aq 19 g.s zz::L2) (fun zz=>eI bO xs a n zz) ((a<m/\m<n/\n<=xs.length/\xs.length<=1000000/\fL xs/\dW bO (bg xs a m)/\dW bO (bg xs m n)/\pB g xs.length)/\n -a<kk))(w0 w:World)(L:List aj)(xs:List Rt)(T:TypeId)(g:kf)(a:Nat)(m:Nat)(n:Nat)(hw:Mem w0 (an g.b #[g.s.val] T::own aq 19 g.s xs::L) w)(aA:a<m/\m<n/\n<=xs.length/\xs.length<=1000000/\fL xs/\dW bO (bg xs a m)/\dW bO (bg xs m n)/\pB g xs.length)(hk:n -a<=kk):Calls Tryz.prog 284 #[.agg (eT g), .int .i64 (a:Nat), .int .i64 (m:Nat), .int .i64 (n:Nat)] w fun e w'=> ∃zz:List Rt,e= .returned (.tuple #[])/\(eI bO xs a n zz)/\Mem w0 (an g.b #[g.s.val] T::own aq 19 g.s zz::L) w':=by
 obtain⟨eF,fU,eY,uG,re,q9,wH,kD⟩:=aA;have S3:=(sV oM).1 q9;have S4:=(sV eY).1 wH;refine gG (args:=[_,_,_,_]) Tryz.func284 rfl Tryz.ntmps284 rfl hw ?_;change Cw _ _ _ _ _ [(0, .agg (eT g)),(1, .int .i64 (a:Nat)),(2, .int .i64 (m:Nat)),(3, .int .i64 (n:Nat))] (an g.b #[g.s.val] T::own aq 19 g.s xs::L);refine Gc ?_;refine bH rfl fun b4=>aT ?_;refine Gb (fun h0=>?_) fun h0=>?_
 ·
  refine cx ?_;refine bA (X:=Nat×Nat) (fun zz=>[(8, .int .i64 (zz.1:Nat)),(9, .int .i64 (zz.2:Nat)),(1, .int .i64 (a:Nat)),(4, .pointer (some ⟨b4,0,none⟩))]) (fun zz=>an b4 (eT g) 342::an g.b #[g.s.val] T::own aq 19 g.s xs::L) (fun zz=>m<=zz.1/\zz.1<=zz.2/\zz.2<=n/\(∀t,m<=t->t<zz.1->rk bO xs t<rk bO xs a)/\(∀t,zz.2<=t->t<n->rk bO xs a<=rk bO xs t)) (fun zz=>zz.2 -zz.1) (m,n) ⟨oF,oF,oF,fun t h1 h2=>absurd h2 (Nat.not_lt_of_le h1),fun t h1 h2=>absurd h2 (Nat.not_lt_of_le h1)⟩ sb (fun w hw=>ai.mem hw) ?_;rintro⟨i,j⟩ ⟨aQ,az,aX,bX,gT⟩;dsimp only;simp only at aQ az aX bX gT;refine aH ?_;refine Gb (fun h1=>?_) fun h1=>?_
  ·
   refine au ?_;refine ag (iA rfl (by simp only[nb];omega)) (ag (Ry.to (v':= .int .u64 (((i+j)/2^1:Nat):Int)) (oI (p:=(i+j)) rfl rfl (by simp only[nb];omega) oM) rfl) (ag (iA rfl (by simp only[nb];omega)) (aT ?_)));refine dv (wD (vs:=[.int .i64 (((i+j)/2^1:Nat):Int), .int .i64 (a:Int)]) (sX:=[.int .i64 (((i+j)/2^1:Nat):Int), .int .i64 (a:Int), .pointer (some ⟨g.b,0,none⟩)]) rfl rfl rfl oM) (Gc ?_);refine Gb (fun h2=>?_) fun h2=>?_
   ·
    rw[wC re (s:=((i+j)/2^1)) (t:=a) oM oM oM oM,decide_eq_true_eq]at h2;refine Gi ?_;refine al ?_;refine da ?_;exact aW (x:=(i,j)) (((i+j)/2^1)+1,j) ⟨oF,oF,oF,fun t t1 t2=>arq (S4 t _ t1 (ar1 t2) oF) h2,gT⟩ (by simp only;omega) sb (fun w hw=>ai.mem hw)
   rw[wC re (s:=((i+j)/2^1)) (t:=a) oM oM oM oM,decide_eq_false_iff_not]at h2;refine Gi ?_;refine av ?_;refine da ?_;exact aW (x:=(i,j)) (i,((i+j)/2^1)) ⟨aQ,oF,oF,bX,fun t t1 t2=>arv (Nat.le_of_not_lt h2) (S4 _ t oF t1 t2)⟩ (by simp only;omega) sb (fun w hw=>ai.mem hw)
  have jr:i=j:=by omega
  refine au ?_;refine bA (X:=Nat×List Rt) (fun zz=>[(11, .int .i64 (zz.1:Nat)),(4, .pointer (some ⟨b4,0,none⟩)),(8, .int .i64 (i:Nat))]) (fun zz=>an b4 (eT g) 342::an g.b #[g.s.val] T::own aq 19 g.s zz.2::L) (fun zz=>sW xs zz.2 a zz.1/\a<=zz.1/\zz.1+1<=i) (fun zz=>i -zz.1) (a,xs) ⟨sW.refl,Nat.le_refl _,oF⟩ sb (fun w hw=>ai.mem hw) ?_;rintro⟨k,ts⟩ ⟨mM,ni,yx⟩;dsimp only;simp only at mM ni yx;have lt:=mM.len;refine aT ?_;refine Gb (fun h3=>?_) fun h3=>?_
  ·
   refine aT ?_;refine GC k (k+1) rfl (kD oM) rfl oM oM oM oM (au ?_);refine Gi ?_;exact aW (x:=(k,ts)) (k+1,swp ts k (k+1)) ⟨mM.step ni oF,oF,oF⟩ (by simp only;omega) sb (fun w hw=>ai.mem hw)
  have BH:k=i -1:=by omega
  refine Gc ?_;refine eM (.inl rfl) (qf rfl) (fun w1 hw=>?_);exact⟨ts,rfl,adr (by rw[←BH];exact mM) oM oM eY (by rw[show a+1=m by omega];exact wH) (fun t t1 t2=>bX t oM t2) (fun t t1 t2=>gT t oM t2),ai.mem hw⟩
 refine aT ?_;refine Gb (fun h4=>?_) fun h4=>?_
 ·
  refine cx ?_;refine bA (X:=Nat×Nat) (fun zz=>[(12, .int .i64 (zz.1:Nat)),(13, .int .i64 (zz.2:Nat)),(2, .int .i64 (m:Nat)),(4, .pointer (some ⟨b4,0,none⟩))]) (fun zz=>an b4 (eT g) 342::an g.b #[g.s.val] T::own aq 19 g.s xs::L) (fun zz=>a<=zz.1/\zz.1<=zz.2/\zz.2<=m/\(∀t,a<=t->t<zz.1->rk bO xs t<=rk bO xs m)/\(∀t,zz.2<=t->t<m->rk bO xs m<rk bO xs t)) (fun zz=>zz.2 -zz.1) (a,m) ⟨oF,oF,oF,fun t h1 h2=>absurd h2 (Nat.not_lt_of_le h1),fun t h1 h2=>absurd h2 (Nat.not_lt_of_le h1)⟩ sb (fun w hw=>ai.mem hw) ?_;rintro⟨i,j⟩ ⟨aQ,az,aX,bX,gT⟩;dsimp only;simp only at aQ az aX bX gT;refine aH ?_;refine Gb (fun h5=>?_) fun h5=>?_
  ·
   refine au ?_;refine ag (iA rfl (by simp only[nb];omega)) (ag (Ry.to (v':= .int .u64 (((i+j)/2^1:Nat):Int)) (oI (p:=(i+j)) rfl rfl (by simp only[nb];omega) oM) rfl) (ag (iA rfl (by simp only[nb];omega)) (aT ?_)));refine dv (wD (vs:=[.int .i64 (m:Int), .int .i64 (((i+j)/2^1:Nat):Int)]) (sX:=[.int .i64 (m:Int), .int .i64 (((i+j)/2^1:Nat):Int), .pointer (some ⟨g.b,0,none⟩)]) rfl rfl rfl oM) (av ?_);refine Gb (fun h6=>?_) fun h6=>?_
   ·
    rw[wC re (s:=m) (t:=((i+j)/2^1)) oM oM oM oM,decide_eq_false_iff_not]at h6;refine Gi ?_;refine al ?_;refine da ?_;exact aW (x:=(i,j)) (((i+j)/2^1)+1,j) ⟨oF,oF,oF,fun t t1 t2=>arv (S3 t _ t1 (ar1 t2) oF) (Nat.le_of_not_lt h6),gT⟩ (by simp only;omega) sb (fun w hw=>ai.mem hw)
   rw[wC re (s:=m) (t:=((i+j)/2^1)) oM oM oM oM,decide_eq_true_eq]at h6;refine Gi ?_;refine av ?_;refine da ?_;exact aW (x:=(i,j)) (i,((i+j)/2^1)) ⟨aQ,oF,oF,bX,fun t t1 t2=>ap0 h6 (S3 _ t oF t1 t2)⟩ (by simp only;omega) sb (fun w hw=>ai.mem hw)
  have jr:i=j:=by omega
  refine au ?_;refine bA (X:=Nat×List Rt) (fun zz=>[(15, .int .i64 (zz.1:Nat)),(4, .pointer (some ⟨b4,0,none⟩)),(12, .int .i64 (i:Nat))]) (fun zz=>an b4 (eT g) 342::an g.b #[g.s.val] T::own aq 19 g.s zz.2::L) (fun zz=>mR xs zz.2 m zz.1/\i<=zz.1/\zz.1<=m) (fun zz=>zz.1) (m,xs) ⟨mR.refl,oF,Nat.le_refl _⟩ sb (fun w hw=>ai.mem hw) ?_;rintro⟨k,ts⟩ ⟨mM,ni,yx⟩;dsimp only;simp only at mM ni yx;have lt:=mM.len;refine aH ?_;refine Gb (fun h7=>?_) fun h7=>?_
  ·
   refine aT ?_;refine GC k (k -1) rfl (kD oM) rfl oM oM oM oM (au ?_);refine Gi ?_;exact aW (x:=(k,ts)) (k -1,swp ts k (k -1)) ⟨mM.step oF yx oF,oF,oF⟩ (by simp only;omega) (Sub.cons (look_eq rfl (by congr 1;omega)) sb) (fun w hw=>ai.mem hw)
  have BH:k=i:=by omega
  refine Gc ?_;refine eM (.inl rfl) (qf rfl) (fun w1 hw=>?_);exact⟨ts,rfl,by rw[show n=m+1 by omega];exact R9 (eI.refl oM oM q9) oM oM mM oM yx (fun t t1 t2=>gT t oM t2) ((aq2 (show a<=k by omega)).elim (fun h=> .inl h.symm) fun h=> .inr (bX (k -1) oM oM)),ai.mem hw⟩
 refine iN ?_;obtain⟨d,hd⟩: ∃d,d=(a+n)/2^1:=⟨_,rfl⟩;refine Gi ?_;refine al ?_;refine ag (iA rfl (by simp only[nb];omega)) (ag (Ry.to (v':= .int .u64 (((a+n)/2^1:Nat):Int)) (oI (p:=(a+n)) rfl rfl (by simp only[nb];omega) oM) rfl) (ag (Ry.to (v':= .int .i64 ((d:Nat):Int)) (iA rfl (by simp only[nb];omega)) (by rw[hd])) (fQ ?_)));refine da ?_;refine qA (X:=Nat×Nat) (fun zz=>[(18, .int .i64 (zz.1:Nat)),(19, .int .i64 (zz.2:Nat)),(1, .int .i64 (a:Nat)),(2, .int .i64 (m:Nat)),(3, .int .i64 (n:Nat)),(4, .pointer (some ⟨b4,0,none⟩)),(16, .int .i64 (d:Nat)),(17, .int .i64 ((d+m):Nat))]) (fun zz=>an b4 (eT g) 342::an g.b #[g.s.val] T::own aq 19 g.s xs::L) (fun zz=>a<=zz.1/\zz.1<=zz.2/\zz.2<=m/\zz.2<=d/\d+m<=zz.1+n/\(zz.1=a\/zz.1+n=d+m)/\(zz.2=m\/zz.2=d)) ?_ ?_
 ·
  refine aH ?_;refine Gb (fun h8=>?_) fun h8=>?_
  ·
   refine al ?_;refine ag (Ry.to (v':= .int .i64 ((d+m -n:Nat):Int)) (kI rfl rfl oM) (by congr 1<;>omega)) ?_;refine au ?_;refine Gi ?_;exact iB (d+m -n,d) ⟨oF,oF,oF,oF,oF, .inr oF, .inr rfl⟩ sb (fun w hw=>ai.mem hw)
  refine aT ?_;refine Gi ?_;exact iB (a,m) ⟨oF,oF,oF,oF,oF, .inl rfl, .inl rfl⟩ sb (fun w hw=>ai.mem hw)
 rintro⟨s0,r0⟩ ⟨hM,fb,fV,iS,wo,AE,S5⟩;dsimp only;simp only at hM fb fV iS wo AE S5;refine av ?_;refine ag (Ry.to (v':= .int .i64 ((d+m -1:Nat):Int)) (kI rfl rfl oM) (by congr 1<;>omega)) ?_;refine av ?_;refine bA (X:=Nat×Nat) (fun zz=>[(18, .int .i64 (zz.1:Nat)),(19, .int .i64 (zz.2:Nat)),(1, .int .i64 (a:Nat)),(2, .int .i64 (m:Nat)),(3, .int .i64 (n:Nat)),(4, .pointer (some ⟨b4,0,none⟩)),(16, .int .i64 (d:Nat)),(17, .int .i64 ((d+m):Nat)),(20, .int .i64 ((d+m -1):Nat))]) (fun zz=>an b4 (eT g) 342::an g.b #[g.s.val] T::own aq 19 g.s xs::L) (fun zz=>s0<=zz.1/\zz.1<=zz.2/\zz.2<=r0/\(zz.1=s0\/rk bO xs (zz.1 -1)<=rk bO xs (d+m -zz.1))/\(zz.2=r0\/rk bO xs (d+m -1 -zz.2)<rk bO xs zz.2)) (fun zz=>zz.2 -zz.1) (s0,r0) ⟨oF,oF,oF, .inl rfl, .inl rfl⟩ sb (fun w hw=>ai.mem hw) ?_;rintro⟨s,r⟩ ⟨aQ,az,aX,bX,gT⟩;dsimp only;simp only at aQ az aX bX gT;refine aH ?_;refine Gb (fun h9=>?_) fun h9=>?_
 ·
  refine au ?_;refine ag (iA rfl (by simp only[nb];omega)) (ag (Ry.to (v':= .int .u64 (((s+r)/2^1:Nat):Int)) (oI (p:=(s+r)) rfl rfl (by simp only[nb];omega) oM) rfl) (ag (iA rfl (by simp only[nb];omega)) (aT ?_)));refine ag (Ry.to (v':= .int .i64 (((d+m -1 -(s+r)/2^1):Nat):Int)) (kI rfl rfl oM) (by congr 1<;>omega)) ?_;refine Gs ?_;refine dv (wD (vs:=[.int .i64 (((d+m -1 -(s+r)/2^1):Nat):Int), .int .i64 ((((s+r)/2^1):Nat):Int)]) (sX:=[.int .i64 (((d+m -1 -(s+r)/2^1):Nat):Int), .int .i64 ((((s+r)/2^1):Nat):Int), .pointer (some ⟨g.b,0,none⟩)]) rfl rfl rfl oM) (av ?_);refine Gb (fun lZ=>?_) fun lZ=>?_
  ·
   rw[wC re (s:=(d+m -1 -(s+r)/2^1)) (t:=((s+r)/2^1)) oM oM oM oM,decide_eq_false_iff_not]at lZ;refine Gi ?_;refine al ?_;refine da ?_;exact aW (x:=(s,r)) (((s+r)/2^1)+1,r) ⟨oF,oF,oF, .inr (by rw[Nat.add_sub_cancel,show d+m -(((s+r)/2^1)+1)=(d+m -1 -(s+r)/2^1) by first|omega|(simp only[];omega)];exact Nat.le_of_not_lt lZ),gT⟩ (by simp only;omega) sb (fun w hw=>ai.mem hw)
  rw[wC re (s:=(d+m -1 -(s+r)/2^1)) (t:=((s+r)/2^1)) oM oM oM oM,decide_eq_true_eq]at lZ;refine Gi ?_;refine av ?_;refine da ?_;exact aW (x:=(s,r)) (s,((s+r)/2^1)) ⟨aQ,oF,oF,bX, .inr lZ⟩ (by simp only;omega) sb (fun w hw=>ai.mem hw)
 refine jS ?_;obtain⟨e,he⟩: ∃e,e=d+m -s:=⟨_,rfl⟩;have f1:a<=s:=by omega
 have f2:s<=m:=by omega
 have f3:m<=e:=by omega
 have f4:e<=n:=by omega
 have f5:s+(e -m)=d:=by omega
 have k1:=adu q9 wH f1 f2 f3 f4 eY (by
  rcases gT with h|h
  ·
   rcases S5 with h'|h'
   ·
    left;omega
   right;left;omega
  right;right;rw[show e -1=d+m -1 -r by omega,show s=r by omega];exact h)
 have k2:=adv q9 wH f1 f2 f3 f4 eY (by
  rcases bX with h|h
  ·
   rcases AE with h'|h'
   ·
    left;omega
   right;left;omega
  right;right;rw[he];exact h)
 have lr:=Gd (xs:=xs) f2 f3 (show e<=xs.length by omega);obtain⟨g1,g2,g3,g4⟩:=adt (xs:=xs) f1 f2 f3 f4 eY;rw[f5]at g2 g3;have JD:fL (fK xs s m e):=fun x hx=>re x (adp f2 f3 oM hx);have q1:dW bO (bg (fK xs s m e) a s):=by rw[g1];exact AQ q9 oM (apm _) f2
 have q2:dW bO (bg (fK xs s m e) s d):=by rw[g2];exact AQ wH eY (apm _) f4
 have q3:dW bO (bg (fK xs s m e) d e):=by rw[g3];exact AQ q9 oM f1 (apm _)
 have q4:dW bO (bg (fK xs s m e) e n):=by rw[g4];exact AQ wH eY f3 (apm _)
 refine Gi ?_;refine av ?_;refine ag (Ry.to (v':= .int .i64 ((e:Nat):Int)) (kI rfl rfl oM) (by congr 1<;>omega)) ?_;refine Gs ?_;refine da ?_;refine qA (X:=Unit) (fun zz=>[(1, .int .i64 (a:Nat)),(3, .int .i64 (n:Nat)),(4, .pointer (some ⟨b4,0,none⟩)),(16, .int .i64 (d:Nat)),(18, .int .i64 (s:Nat)),(22, .int .i64 (e:Nat))]) (fun zz=>an b4 (eT g) 342::an g.b #[g.s.val] T::own aq 19 g.s (fK xs s m e)::L) (fun zz=>True) ?_ ?_
 ·
  refine nq ?_;refine Gb (fun h11=>?_) fun h11=>?_
  ·
   refine Gi ?_;refine au ?_;refine aY rfl ⟨by omega,by omega,by omega,by omega,kD⟩ fun aoN aeH=>Gi ?_;exact iB () trivial sb (fun w hw=>by rw[aeH]at hw;exact ai.mem hw)
  refine Gi ?_;exact iB () trivial sb (fun w hw=>by rw[ads f2 f3 oM oM];exact ai.mem hw)
 rintro⟨⟩ hJ;refine qA (X:=List Rt) (fun zz=>[(3, .int .i64 (n:Nat)),(4, .pointer (some ⟨b4,0,none⟩)),(16, .int .i64 (d:Nat)),(22, .int .i64 (e:Nat))]) (fun zz=>an b4 (eT g) 342::an g.b #[g.s.val] T::own aq 19 g.s zz::L) (fun zz=>eI bO (fK xs s m e) a d zz) ?_ ?_
 ·
  refine nq ?_;refine Gb (fun h12=>?_) fun h12=>?_
  ·
   refine Gi ?_;refine au ?_;refine aY rfl ⟨⟨by omega,by omega,by omega,by omega,JD,q1,q2,fun h=>kD oM⟩,by omega⟩ fun aeI aeJ=>Gi ?_;exact iB aeI aeJ sb (fun w hw=>ai.mem hw)
  refine Gi ?_;exact iB (fK xs s m e) (Sh f1 oF oF oF q1 q2) sb (fun w hw=>ai.mem hw)
 rintro ys hu;have ly:=hu.length oM oM;have sZ:fL ys:=fun x hx=>JD x ((AO hu oM oM).1 hx);have q5:dW bO (bg ys d e):=by rw[Si hu oM (apm _) oM oM];exact q3
 have q6:dW bO (bg ys e n):=by rw[Si hu oM oM oM oM];exact q4
 refine nq ?_;refine Gb (fun h13=>?_) fun h13=>?_
 ·
  refine Gi ?_;refine au ?_;refine aY rfl ⟨⟨by omega,by omega,by omega,by omega,sZ,q5,q6,fun h=>kD oM⟩,by omega⟩ fun aeK aeL=>Gi ?_;refine eM (.inr rfl) (qf rfl) (fun w1 hw=>?_);exact⟨aeK,rfl,R5 f1 f2 f3 f4 eY q9 wH k1 k2 (by rw[f5];exact hu) (by rw[f5];exact aeL),ai.mem hw⟩
 refine Gi ?_;refine eM (.inr rfl) (qf rfl) (fun w1 hw=>?_);exact⟨ys,rfl,R5 f1 f2 f3 f4 eY q9 wH k1 k2 (by rw[f5];exact hu) (by rw[f5];exact Sh oM oM oM oM q5 q6),ai.mem hw⟩
theorem aeM(kk:Nat): ∀(w0 w:World) (L:List aj) (xs:List Rt) (T:TypeId) (g:kf) (a:Nat) (m:Nat) (n:Nat) (hw:Mem w0 (an g.b #[g.s.val] T::own aq 19 g.s xs::L) w) (aA:a<m/\m<n/\n<=xs.length/\xs.length<=1000000/\fL xs/\dW bO (bg xs a m)/\dW bO (bg xs m n)/\pB g xs.length),n -a<kk->Calls Tryz.prog 284 #[.agg (eT g), .int .i64 (a:Nat), .int .i64 (m:Nat), .int .i64 (n:Nat)] w fun e w'=> ∃zz:List Rt,e= .returned (.tuple #[])/\(eI bO xs a n zz)/\Mem w0 (an g.b #[g.s.val] T::own aq 19 g.s zz::L) w':=by
 induction kk with
 |zero=>intros;omega
 |succ kk ih=>
  intro w0 w L xs T g a m n hw aA hk;exact aeG kk (by
   intro w0 L R1 L2 i j xs T g a m n h d1 q d2;exact⟨fun hp w hw=>ih w0 w L2 xs T g a m n (lC h.h d1.h q.h d2.h hw) hp.1 hp.2⟩) w0 w L xs T g a m n hw aA oM
theorem aeN(w0 w:World)(L:List aj)(xs:List Rt)(T:TypeId)(g:kf)(a:Nat)(m:Nat)(n:Nat)(hw:Mem w0 (an g.b #[g.s.val] T::own aq 19 g.s xs::L) w)(aA:a<m/\m<n/\n<=xs.length/\xs.length<=1000000/\fL xs/\dW bO (bg xs a m)/\dW bO (bg xs m n)/\pB g xs.length):Calls Tryz.prog 284 #[.agg (eT g), .int .i64 (a:Nat), .int .i64 (m:Nat), .int .i64 (n:Nat)] w fun e w'=> ∃zz:List Rt,e= .returned (.tuple #[])/\(eI bO xs a n zz)/\Mem w0 (an g.b #[g.s.val] T::own aq 19 g.s zz::L) w':=aeM (n -a+1) w0 w L xs T g a m n hw aA (Nat.lt_succ_self _)
instance aoO{w0:World}{L R1 L2:List aj}{i j:Nat}{xs:List Rt}{T:TypeId}{g:kf}{a:Nat}{m:Nat}{n:Nat}[h:Has L g.b #[g.s.val] T i][d1:cm L i R1][q:di R1 g.s aq 19 xs j][d2:cm R1 j L2]:bE Tryz.prog 284 w0 L [.agg (eT g), .int .i64 (a:Nat), .int .i64 (m:Nat), .int .i64 (n:Nat)] (List Rt) (fun zz=> .tuple #[]) (fun zz=>an g.b #[g.s.val] T::own aq 19 g.s zz::L2) (fun zz=>eI bO xs a n zz) (a<m/\m<n/\n<=xs.length/\xs.length<=1000000/\fL xs/\dW bO (bg xs a m)/\dW bO (bg xs m n)/\pB g xs.length):=⟨fun hp w hw=>aeN w0 w L2 xs T g a m n (lC h.h d1.h q.h d2.h hw) hp⟩
theorem aeO(w0 w:World)(L:List aj)(xs:List Rt)(T:TypeId)(g:kf)(n:Nat)(hw:Mem w0 (an g.b #[g.s.val] T::own aq 19 g.s xs::L) w)(aA:n=xs.length/\xs.length<=1000000/\fL xs/\pB g xs.length):Calls Tryz.prog 235 #[.agg (eT g), .int .i64 (n:Nat)] w fun e w'=> ∃zz:List Rt,e= .returned (.tuple #[])/\(eI bO xs 0 n zz)/\Mem w0 (an g.b #[g.s.val] T::own aq 19 g.s zz::L) w':=by
 obtain⟨eF,fU,eY,kD⟩:=aA;refine gG (args:=[_,_]) Tryz.func235 rfl Tryz.ntmps235 rfl hw ?_;change Cw _ _ _ _ _ [(0, .agg (eT g)),(1, .int .i64 (n:Nat))] (an g.b #[g.s.val] T::own aq 19 g.s xs::L);refine Gc ?_;refine bH rfl fun b2=>cx ?_;refine bA (X:=Nat×Nat×List Rt) (fun zz=>[(5, .int .i64 (zz.1:Nat)),(6, .int .i64 (zz.2.1:Nat)),(1, .int .i64 (n:Nat)),(2, .pointer (some ⟨b2,0,none⟩)),(4, .int .i64 20)]) (fun zz=>an b2 (eT g) 342::an g.b #[g.s.val] T::own aq 19 g.s zz.2.2::L) (fun zz=>zz.2.1=zz.1+20/\zz.1<=n/\zz.1%20=0/\zz.2.2.length=xs.length/\Bk bO xs zz.2.2 20 0 zz.1/\(∀t,zz.1<=t->zz.2.2[t]? =xs[t]?)/\fL zz.2.2) (fun zz=>n -zz.1) (0,20,xs) ⟨rfl,Nat.zero_le _,rfl,rfl,fun s _ h=>absurd h (Nat.not_lt_zero _),fun _ _=>rfl,eY⟩ sb (fun w hw=>ai.mem hw) ?_;rintro⟨a,b,ys⟩ ⟨aQ,az,aX,bX,gT,nS,C7⟩;dsimp only;simp only at aQ az aX bX gT nS C7;refine aH ?_;refine Gb (fun h0=>?_) fun h0=>?_
 ·
  refine au ?_;refine aY rfl ⟨by omega,by omega,by omega,C7,fun h=>kD oM⟩ fun yA AH=>dP ?_;refine da ?_;obtain⟨pq,ji,wc⟩:=Sj bX gT aX (show a<=b by omega) oM nS AH;exact aW (x:=(a,b,ys)) (b,b+20,yA) ⟨rfl,oF,oF,pq,ji,wc,fun x hx=>C7 x ((AO AH oF oF).1 hx)⟩ (by simp only;omega) sb (fun w hw=>ai.mem hw)
 refine au ?_;refine aY rfl ⟨by omega,by omega,by omega,C7,fun h=>kD oM⟩ fun lD yd=>iN ?_;obtain⟨pq,ji,wc⟩:=Sj bX gT aX (show a<=n by omega) oM nS yd;refine bA (X:=Nat×List Rt) (fun zz=>[(4, .int .i64 (zz.1:Nat)),(1, .int .i64 (n:Nat)),(2, .pointer (some ⟨b2,0,none⟩))]) (fun zz=>an b2 (eT g) 342::an g.b #[g.s.val] T::own aq 19 g.s zz.2::L) (fun zz=>0<zz.1/\zz.1<=2*n+20/\zz.2.length=xs.length/\Bk bO xs zz.2 zz.1 0 xs.length/\fL zz.2) (fun zz=>n -zz.1) (20,lD) ⟨oF,oF,pq,by rw[←eF];exact ji,fun x hx=>C7 x ((AO yd oF oF).1 hx)⟩ sb (fun w hw=>ai.mem hw) ?_;rintro⟨c,zs⟩ ⟨pw,wh,yt,FO,S6⟩;dsimp only;simp only at pw wh yt FO S6;refine aH ?_;refine Gb (fun h1=>?_) fun h1=>?_
 ·
  refine av ?_;refine ag (mX rfl rfl oM) (al ?_);refine bA (X:=Nat×Nat×List Rt) (fun zz=>[(5, .int .i64 (zz.1:Nat)),(6, .int .i64 (zz.2.1:Nat)),(1, .int .i64 (n:Nat)),(2, .pointer (some ⟨b2,0,none⟩)),(4, .int .i64 (c:Nat))]) (fun zz=>an b2 (eT g) 342::an g.b #[g.s.val] T::own aq 19 g.s zz.2.2::L) (fun zz=>zz.2.1=zz.1+2*c/\zz.1<=n/\zz.1%(2*c)=0/\zz.2.2.length=xs.length/\Bk bO xs zz.2.2 (2*c) 0 zz.1/\Bk bO xs zz.2.2 c zz.1 xs.length/\fL zz.2.2) (fun zz=>n -zz.1) (0,2*c,zs) ⟨oF,Nat.zero_le _,Nat.zero_mod _,yt,fun s _ h=>absurd h (Nat.not_lt_zero _),FO,S6⟩ sb (fun w hw=>ai.mem hw) ?_;rintro⟨a,b,ys⟩ ⟨S7,Br,uR,wI,GD,wJ,AW⟩;dsimp only;simp only at S7 Br uR wI GD wJ AW;refine aH ?_;refine Gb (fun h2=>?_) fun h2=>?_
  ·
   refine aH ?_;refine ag (Ry.to (v':= .int .i64 ((a+c:Nat):Int)) (uZ rfl rfl oM) (by congr 1<;>omega)) ?_;refine Gs ?_;refine aY rfl ⟨by omega,by omega,by omega,by omega,AW,(Gl wI wJ (C1 uR) (show a+c<xs.length by omega) (show b=min (a+c+c) xs.length by omega)).1,(Gl wI wJ (C1 uR) (show a+c<xs.length by omega) (show b=min (a+c+c) xs.length by omega)).2,fun h=>kD oM⟩ fun kB rj=>aT ?_;refine ag (mX rfl rfl oM) (av ?_);refine da ?_;obtain⟨pq,ji,wc⟩:=Sk wI GD wJ uR pw oM oM rj;exact aW (x:=(a,b,ys)) (b,b+2*c,kB) ⟨rfl,oF,by rw[S7,Nat.add_mod_right];exact uR,pq,ji,wc,fun x hx=>AW x ((AO rj oF oF).1 hx)⟩ (by simp only;omega) sb (fun w hw=>ai.mem hw)
  refine al ?_;refine ag (Ry.to (v':= .int .i64 ((a+c:Nat):Int)) (uZ rfl rfl oM) (by congr 1<;>omega)) ?_;refine aT ?_;refine Gb (fun h3=>?_) fun h3=>?_
  ·
   refine Gi ?_;refine au ?_;refine aY rfl ⟨by omega,by omega,by omega,by omega,AW,(Gl wI wJ (C1 uR) (show a+c<xs.length by omega) (show n=min (a+c+c) xs.length by omega)).1,(Gl wI wJ (C1 uR) (show a+c<xs.length by omega) (show n=min (a+c+c) xs.length by omega)).2,fun h=>kD oM⟩ fun x54 S8=>av ?_;refine ag (mX rfl rfl oM) (Gs ?_);refine da ?_;obtain⟨pq,ji,wc⟩:=Sk wI GD wJ uR pw oM oM S8;exact aW (x:=(c,zs)) (c*2,x54) ⟨oF,oF,pq,by rw[aqt c 2,←eF];exact ji,fun x hx=>AW x ((AO S8 oF oF).1 hx)⟩ (by simp only;omega) sb (fun w hw=>ai.mem hw)
  refine av ?_;refine ag (mX rfl rfl oM) (Gs ?_);refine da ?_;exact aW (x:=(c,zs)) (c*2,ys) ⟨oF,oF,wI,by rw[aqt c 2];exact adw GD wJ uR oF,AW⟩ (by simp only;omega) sb (fun w hw=>ai.mem hw)
 refine Gc ?_;refine eM (.inr rfl) (qf rfl) (fun w1 hw=>?_);exact⟨zs,rfl,by rw[eF];exact adx yt FO oM,ai.mem hw⟩
instance aoP{w0:World}{L R1 L2:List aj}{i j:Nat}{xs:List Rt}{T:TypeId}{g:kf}{n:Nat}[h:Has L g.b #[g.s.val] T i][d1:cm L i R1][q:di R1 g.s aq 19 xs j][d2:cm R1 j L2]:bE Tryz.prog 235 w0 L [.agg (eT g), .int .i64 (n:Nat)] (List Rt) (fun zz=> .tuple #[]) (fun zz=>an g.b #[g.s.val] T::own aq 19 g.s zz::L2) (fun zz=>eI bO xs 0 n zz) (n=xs.length/\xs.length<=1000000/\fL xs/\pB g xs.length):=⟨fun hp w hw=>aeO w0 w L2 xs T g n (lC h.h d1.h q.h d2.h hw) hp⟩
end Go.Proofs.YtkggjjnhnjjokaaGreatDoor
namespace Go.ay
open Go.RowKit Go.Kb
section
variable {P:Program} {N:cc} {w0:World} {env:Env} {L:List aj} {l:List Oper} {Q:Exit->Act->World->Prop} {rest:List Oper} {d:Option Tmp} {ty:TypeId} {ps:String} {af:Array Edge}
variable {α:Type} {enc:α->Array Value} {c:Nat} {s:Sv} {xs:List α} {t e:TypeId} {i ie:TypeInfo} {f:FuncId} {fn:Func} {AX:List Operand} {ts:Array TypeId}
section
variable {gd:Option (Nat×Bool)}
theorem aeP{fn:Fn}{c:List Operand}{vs:List Value}(hc:eJ env c=some vs):Ry P N w0 env L ⟨d, .makeFunc fn #[] c.toArray,ty,ps,af,gd⟩ (.func fn #[] vs.toArray):=fun a w ha _=>by
 simp only[execOp,Instr.makeFunc];rw[show c.toArray.map a.eval=vs.toArray by rw[List.map_toArray,ha.eJ hc]];simp[Sem.run_pure,Result.andThen]
end
theorem Sv.K3(s:Sv): ∃p n c,s.val= .slice p n c:=by
 unfold Sv.val;split<;>exact⟨_,_,_,rfl⟩
theorem aeQ(hf:P.funcs[f]? =some fn)(uL:(fn.name== "runtime.NumGoroutine")=false)(hb:fn.body.isNone=true)(hn:Extern.findNext fn=none)(he:Extern.find fn=some (fun args=>Extern.ReflectliteValue.unpack (args.getD 0 (.tuple #[]))))
  (hi:P.info? t=some i) (rC:i.desc= .slice e) (hx:eJ env AX=some [.iface t s.val])
  (hk: ∀b,Sq P N w0 l Q rest (ca env d (.agg #[typeHandle P t, .pointer (some ⟨b,0,none⟩), .int .u64 151])) (an b #[s.val] t::L)) (hd:cM N d=true:=by rfl):
  Sq P N w0 l Q (⟨d, .call {callee:= .value (.func f),args:=AX.toArray,argTypes:=ts},ty,ps,af,none⟩::rest) env L:=by
 obtain⟨p,n,c,e1⟩:=Sv.K3 s;refine KG hf uL hb hn he hx (fun w hw=>⟨_,_,_,?_,hw.alloc #[s.val] t,hk _⟩) hd;have:=Lib.run_valueOf_slice t e i hi rC p n c w;rw[e1];exact this
theorem aeR(hf:P.funcs[f]? =some fn)(uL:(fn.name== "runtime.NumGoroutine")=false)(hb:fn.body.isNone=true)(hn:Extern.findNext fn=none)(he:Extern.find fn=some (Extern.ReflectliteSwapper.swapper "internal/reflectlite" (Extern.ReflectliteValue.valueError "Swapper")))
  (hi:P.info? t=some i) (rC:i.desc= .slice e) (qv:P.info? e=some ie) {ke:Nat} (CW: ∀w,(Extern.Rtype.kind e).run P w= .ok ke w) {f9:Nat}
  (h0: ∃f,P.funcs.findIdx? (·.name== "internal/reflectlite" ++ ".Swapper$" ++toString (Lib.swapperK 0 ie ke))=some f) (h1: ∃f,P.funcs.findIdx? (·.name== "internal/reflectlite" ++ ".Swapper$" ++toString (Lib.swapperK 1 ie ke))=some f)
  (h9: ∀n,2≤n→Lib.swapperK n ie ke=9) (Q0:P.funcs.findIdx? (·.name== "internal/reflectlite" ++ ".Swapper$" ++toString 9)=some f9) [q:Hd w0 L s enc c xs] (hx:eJ env AX=some [.iface t s.val])
  (hk: ∀(k:FuncId) (eS:Array Value),(2<=xs.length->Value.func (.func k) #[] eS= .func (.func f9) #[] #[s.val,typeHandle P e])->Sq P N w0 l Q rest (ca env d (.func (.func k) #[] eS)) L) (hd:cM N d=true:=by rfl):
  Sq P N w0 l Q (⟨d, .call {callee:= .value (.func f),args:=AX.toArray,argTypes:=ts},ty,ps,af,none⟩::rest) env L:=by
 refine KG hf uL hb hn he hx (fun w hw=>?_) hd;have hl:=q.h w hw;obtain⟨p,n,c',e1⟩:=Sv.K3 s;have hlen:n=xs.length:=by
  rw[←hl.len]
  cases hs:s.nil with
  |true=>rw[Sv.pJ hs]at e1;injection e1 with _ h _;rw[←h,(hl.ok.nil hs).1]
  |false=>rw[Sv.gk hs]at e1;injection e1 with _ h _;exact h.symm
 have go: ∀g,P.funcs.findIdx? (·.name== "internal/reflectlite" ++ ".Swapper$" ++toString (Lib.swapperK n ie ke))=some g→(2≤n→g=f9∧Lib.swapperK n ie ke=9)→ ∃v w' L',(Extern.ReflectliteSwapper.swapper "internal/reflectlite" (Extern.ReflectliteValue.valueError "Swapper") [Value.iface t s.val].toArray).run P w= .ok v w'∧Mem w0 L' w'∧Sq P N w0 l Q rest (ca env d v) L':=fun g hg h2=>by
  have r:=Lib.run_swapper_slice t e i ie hi rC qv ke CW p n c' g hg w;refine⟨_,_,_,by rw[e1];exact r,hw,hk _ _ fun h=>?_⟩;obtain⟨rfl,h3⟩:=h2 (by omega);rw[h3,e1];rfl
 rcases apo n 2 with h|h
 ·
  rcases aqq n with rfl|h2
  ·
   obtain⟨g,hg⟩:=h0;exact go g hg fun h=>by omega
  ·
   obtain rfl:n=1:=by omega
   obtain⟨g,hg⟩:=h1;exact go g hg fun h=>by omega
 ·
  exact go f9 (by rw[h9 n h];exact Q0) fun _=>⟨rfl,h9 n h⟩
theorem aeS(hf:P.funcs[f]? =some fn)(uL:(fn.name== "runtime.NumGoroutine")=false)(hb:fn.body.isNone=true)(hn:Extern.findNext fn=none)(he:Extern.find fn=some (Extern.ReflectliteValue.method (Extern.ReflectliteValue.valueError "reflectlite.Value.Len" 0) Extern.ReflectliteValue.len))
  (hi:P.info? t=some i) (rC:i.desc= .slice e) (FA:P.packed t=false) {b k:Nat} {T:TypeId} [hh:Has L b #[s.val] T k] [q:Hd w0 L s enc c xs] (hx:eJ env AX=some [.agg #[typeHandle P t, .pointer (some ⟨b,0,none⟩), .int .u64 151]])
  (hk:Sq P N w0 l Q rest (ca env d (.int .i64 (xs.length:Nat))) L) (hd:cM N d=true:=by rfl):
  Sq P N w0 l Q (⟨d, .call {callee:= .value (.func f),args:=AX.toArray,argTypes:=ts},ty,ps,af,none⟩::rest) env L:=by
 refine KG hf uL hb hn he hx (fun w hw=>⟨_,_,_,?_,hw,hk⟩) hd;have hl:=q.h w hw;obtain⟨p,n,c',e1⟩:=Sv.K3 s;have hlen:n=xs.length:=by
  rw[←hl.len]
  cases hs:s.nil with
  |true=>rw[Sv.pJ hs]at e1;injection e1 with _ h _;rw[←h,(hl.ok.nil hs).1]
  |false=>rw[Sv.gk hs]at e1;injection e1 with _ h _;exact h.symm
 rw[←hlen];exact Lib.run_valueLen_slice t e i hi rC FA ⟨b,0,none⟩ p n c' w (by rw[hw.cell hh.h,←e1];rfl)
end
end Go.ay
namespace Go.Proofs.YtkggjjnhnjjokaaGreatDoor
open Go.ay Go.Kb
noncomputable def C8:Func:=Option.get (Tryz.prog.funcs[233]?) oK
theorem aeT:Tryz.prog.funcs[233]? =some C8:=by kernel_rfl
theorem aeU:(C8.name== "runtime.NumGoroutine")=false:=by kernel_rfl
theorem aeV:C8.body.isNone=true:=by kernel_rfl
theorem aeW:Extern.findNext C8=none:=by kernel_rfl
theorem aeX:Extern.find C8=some (fun args=>Extern.ReflectliteValue.unpack (args.getD 0 (.tuple #[]))):=by kernel_rfl
noncomputable def C9:Func:=Option.get (Tryz.prog.funcs[234]?) oK
theorem aeY:Tryz.prog.funcs[234]? =some C9:=by kernel_rfl
theorem aeZ:(C9.name== "runtime.NumGoroutine")=false:=by kernel_rfl
theorem ae0:C9.body.isNone=true:=by kernel_rfl
theorem ae1:Extern.findNext C9=none:=by kernel_rfl
theorem ae2:Extern.find C9=some (Extern.ReflectliteSwapper.swapper "internal/reflectlite" (Extern.ReflectliteValue.valueError "Swapper")):=by kernel_rfl
noncomputable def Da:Func:=Option.get (Tryz.prog.funcs[236]?) oK
theorem ae3:Tryz.prog.funcs[236]? =some Da:=by kernel_rfl
theorem ae4:(Da.name== "runtime.NumGoroutine")=false:=by kernel_rfl
theorem ae5:Da.body.isNone=true:=by kernel_rfl
theorem ae6:Extern.findNext Da=none:=by kernel_rfl
theorem ae7:Extern.find Da=some (Extern.ReflectliteValue.method (Extern.ReflectliteValue.valueError "reflectlite.Value.Len" 0) Extern.ReflectliteValue.len):=by kernel_rfl
noncomputable def S9:TypeInfo:=(Tryz.prog.info? 22).get oK
noncomputable def wK:TypeInfo:=(Tryz.prog.info? 34).get oK
theorem rsK(n:Nat)(h2:2<=n):Lib.swapperK n wK 25=9:=by
 have a:wK.hasPointers=false:=by kernel_rfl
 have b:wK.bytes=40:=by kernel_rfl
 have c:(n==0)=false:=by simp;omega
 have d:(n==1)=false:=by simp;omega
 simp[Lib.swapperK,a,b,c,d]
theorem K4:Tryz.prog.info? 22=some S9:=by kernel_rfl
theorem K5:S9.desc= .slice 34:=by kernel_rfl
theorem ae8:Tryz.prog.info? 34=some wK:=by kernel_rfl
theorem ae9(w:World):(Extern.Rtype.kind 34).run Tryz.prog w= .ok 25 w:=by kernel_rfl
theorem afa: ∃f,Tryz.prog.funcs.findIdx? (·.name== "internal/reflectlite" ++ ".Swapper$" ++toString (Lib.swapperK 0 wK 25))=some f:=⟨(Tryz.prog.funcs.findIdx? (·.name== "internal/reflectlite" ++ ".Swapper$" ++toString (Lib.swapperK 0 wK 25))).get oK,by kernel_rfl⟩
theorem afb: ∃f,Tryz.prog.funcs.findIdx? (·.name== "internal/reflectlite" ++ ".Swapper$" ++toString (Lib.swapperK 1 wK 25))=some f:=⟨(Tryz.prog.funcs.findIdx? (·.name== "internal/reflectlite" ++ ".Swapper$" ++toString (Lib.swapperK 1 wK 25))).get oK,by kernel_rfl⟩
theorem afc:Tryz.prog.funcs.findIdx? (·.name== "internal/reflectlite" ++ ".Swapper$" ++toString 9)=some 282:=by kernel_rfl
theorem afd:Tryz.prog.packed 22=false:=by kernel_rfl
@[reducible] noncomputable def Ta (b:Nat):Array Value:= #[typeHandle Tryz.prog 22, .pointer (some ⟨b,0,none⟩), .int .u64 151]
def K6:Array Value:= #[.pointer none, .pointer none, .int .u64 0]
instance (b:Nat):eU (Ta b) 3:=⟨rfl,by simp[Ta,typeHandle,Value.oneCell']⟩
instance:eU K6 3:=⟨rfl,by simp[K6,Value.oneCell']⟩
instance:dz Tryz.prog 336 (.agg K6):=⟨by kernel_rfl⟩
instance (k:FuncId)(c:Array Value)(b:Nat):lJ Tryz.prog 342 [(0,LF b),(1, .func (.func k) #[] c)] (.agg #[LF b, .func (.func k) #[] c]):=⟨fun w=>by kernel_rfl⟩
theorem afe(w0 w:World)(L:List aj)(b:Nat)(s:Sv)(xs:List Rt)(T:TypeId)(hw:Mem w0 (an b #[s.val] T::own aq 19 s xs::L) w)(aA:xs.length<=1000000/\fL xs):Calls Tryz.prog 191 #[.iface 22 s.val,LF b] w fun e w'=> ∃zz:List Rt,e= .returned (.tuple #[])/\(fg bO xs zz)/\Mem w0 (an b #[s.val] T::own aq 19 s zz::L) w':=by
 obtain⟨eF,fU⟩:=aA;refine gG (args:=[_,_]) Tryz.func191 rfl Tryz.ntmps191 rfl hw ?_;change Cw _ _ _ _ _ [(0, .iface 22 s.val),(1,LF b)] (an b #[s.val] T::own aq 19 s xs::L);refine av ?_;refine aeQ (s:=s) aeT aeU aeV aeW aeX K4 K5 rfl fun b7=>bn fun b4=>al ?_;refine aeR (s:=s) aeY aeZ ae0 ae1 ae2 K4 K5 ae8 ae9 afa afb rsK afc rfl fun k9 c9 kD=>au ?_;refine ag (Ry.to (v':= .agg (eT (⟨b,s,k9,c9⟩:kf))) (fv rfl) rfl) (Gs ?_);refine aeS (s:=s) (b:=b7) ae3 ae4 ae5 ae6 ae7 K4 K5 afd rfl (aY rfl ⟨rfl,eF,fU,kD⟩ fun yA AH=>Gi ?_);refine eM (.inr rfl) (qf rfl) (fun w1 hw=>?_);exact⟨yA,rfl,ady AH,ai.mem hw⟩
instance aoQ{w0:World}{L R1 L2:List aj}{i j:Nat}{b:Nat}{s:Sv}{xs:List Rt}{T:TypeId}[h:Has L b #[s.val] T i][d1:cm L i R1][q:di R1 s aq 19 xs j][d2:cm R1 j L2]:bE Tryz.prog 191 w0 L [.iface 22 s.val,LF b] (List Rt) (fun zz=> .tuple #[]) (fun zz=>an b #[s.val] T::own aq 19 s zz::L2) (fun zz=>fg bO xs zz) (xs.length<=1000000/\fL xs):=⟨fun hp w hw=>afe w0 w L2 b s xs T (lC h.h d1.h q.h d2.h hw) hp⟩
variable {w0:World}{L:List aj}
instance aoR{r:Rt}:bY Tryz.prog 190 w0 L [.agg (aq r)] (.bool (!aZ r.p)) (True):=⟨fun aA w hw=>by
 refine cw Tryz.func190 rfl Tryz.ntmps190 rfl ?_;refine Gc ?_;refine bH rfl fun b1=>al ?_;refine ag (gE rfl) (au ?_);refine Gr fun w1 hw=>?_;exact⟨congrArg (fun b=>Ending.returned (Value.bool b)) (rfl),ai.mem hw⟩⟩
instance aoS{s:Sv}{ss:List Rt}[hs:ct w0 L aq 19 s ss]:bY Tryz.prog 232 w0 L [s.val, .func (.func 190) #[] #[]] (.int .i64 (sY ss)) (True):=⟨fun aA w hw=>by
 have hs:=hs.h w hw;have uj:Gv w s aq 19 ss:=⟨hs⟩;have hsb:=hs.bd;refine cz Tryz.func232 rfl Tryz.ntmps232 rfl ?_;refine cx ?_;refine bA (X:=Nat) (fun zz=>[(8, .int .i64 (zz:Nat)),(0,s.val),(1, .func (.func 190) #[] #[]),(7, .int .i64 (ss.length:Nat))]) (fun zz=>[]) (fun zz=>zz<=ss.length/\ ∀y∈ss.take zz,aZ y.p=true) (fun zz=>ss.length -zz) 0 ⟨Nat.zero_le _,by simp⟩ sb (fun w hw=>ai.mem hw) ?_;rintro i ⟨aQ,az⟩;refine al ?_;refine Gb (fun h0=>?_) fun h0=>?_
 ·
  refine cx ?_;obtain⟨x,hx⟩:=get_some (xs:=ss) (i:=i) oM;refine ag (aR rfl rfl i rfl oM) (ag (fC rfl i hx rfl) (dv (wD (vs:=[.agg (aq x)]) (sX:=[.agg (aq x)]) rfl rfl rfl trivial) (Gc ?_)));refine Gb (fun h1=>?_) fun h1=>?_
  ·
   refine au ?_;refine Gr fun w1 hw=>?_;exact Gf (by rw[adA hx (by simpa using h1) az]) hw
  refine al ?_;refine Gi ?_;exact aW (x:=(i)) (i+1) ⟨oF,fun y hy=>by rw[aps,hx,apv]at hy;rcases hy with h|h;(exact az y h);(obtain rfl:y=x:=by simpa using h);simpa using h1⟩ oF sb (fun w hw=>ai.mem hw)
 obtain rfl:i=ss.length:=by omega
 refine al ?_;refine Gr fun w1 hw=>?_;exact⟨congrArg (fun b=>Ending.returned (Value.int .i64 b)) (by rw[adB (fun y hy=>az y (by rw[apI];exact hy))]),ai.mem hw⟩⟩
theorem aff(w0 w:World)(L:List aj)(s:Sv)(ss:List Rt)(hw:Mem w0 (own aq 19 s ss::L) w)(aA:ss.length<=1000000):Calls Tryz.prog 189 #[s.val, .func (.func 190) #[] #[]] w fun e w'=> ∃zz:Sv,e= .returned (zz.val)/\(True)/\Mem w0 (own aq 19 zz (ft ss)::L) w':=by
 refine gG (args:=[_,_]) Tryz.func189 rfl Tryz.ntmps189 rfl hw ?_;change Cw _ _ _ _ _ [(0,s.val),(1, .func (.func 190) #[] #[])] (own aq 19 s ss::L);refine lR ?_;refine Gb (fun h0=>?_) fun h0=>?_
 ·
  have hk:=adD h0;refine au ?_;refine Gr fun w1 hw=>?_;exact⟨s,rfl,trivial,by rw[hk];exact hw⟩
 obtain⟨i0,he,bc,hk⟩:=adC h0;refine aH ?_;refine bA (X:=Nat×Nat×List Rt) (fun zz=>[(5, .int .i64 (zz.1:Nat)),(6, .int .i64 (zz.2.1:Nat)),(0,s.val),(1, .func (.func 190) #[] #[])]) (fun zz=>own aq 19 s zz.2.2::L) (fun zz=>Dl ss zz.2.2 zz.1 zz.2.1) (fun zz=>ss.length -zz.2.1) (i0,i0+1,ss) (Dl.start bc hk) (Sub.cons (look_eq rfl (by rw[he])) (Sub.cons (look_eq rfl (by rw[he];rfl)) sb)) (fun w hw=>ai.mem hw) ?_;rintro⟨i,j,cur⟩ hd;dsimp only;have hlen:=hd.len;have jr:=hd.lt;have gU:=hd.le;simp only at hlen jr gU hd;refine aT ?_;refine Gb (fun h1=>?_) fun h1=>?_
 ·
  refine al ?_;obtain⟨x,hx⟩:=get_some (xs:=cur) (i:=j) oM;refine ag (aR rfl rfl j rfl oM) (ag (fC rfl j hx rfl) (bn fun b7=>au ?_));refine dv (wD (vs:=[.agg (aq x)]) (sX:=[.agg (aq x)]) rfl rfl rfl trivial) (av ?_);refine Gb (fun h2=>?_) fun h2=>?_
  ·
   refine au ?_;obtain⟨y,hy⟩:=get_some (xs:=cur) (i:=i) oM;refine ag (aR rfl rfl i rfl oM) (ju (n:=19) (k:=i) (j:=0) (a:=y) (a':=x) (xs:=cur) (enc:=aq) (c:=19) (v:= .agg (aq x)) oK rfl rfl rfl hy (bk.one x) (jf x) (by decide) (Rp (by rw[jf];exact(jf x).symm)) (dP ?_));refine Gi ?_;exact aW (x:=(i,j,cur)) (i+1,j+1,cur.set i x) (hd.adE hx (by simpa using h2)) (by simp only;omega) sb (fun w hw=>ai.mem hw)
  refine au ?_;refine Gi ?_;exact aW (x:=(i,j,cur)) (i,j+1,cur) (hd.drop hx (by simpa using h2)) (by simp only;omega) sb (fun w hw=>ai.mem hw)
 obtain rfl:j=ss.length:=by omega
 refine jS ?_;refine Hk s fun abI=>?_;refine H7 (s:=s) inferInstance (by decide) oM fun pre mid T gM vb lh fw bI km=>?_;have hle:=bI.le;have Rl:(aF aq (cur.take i)).length=i*19:=by rw[fX,apk];congr 1;omega
 have Kf:(aF aq (cur.drop i)).length=(cur.length -i)*19:=by rw[fX,apr]
 have Kg:aF aq cur=aF aq (cur.take i)++aF aq (cur.drop i):=by rw[←vq,apH]
 have sJ:(aF aq cur).length=cur.length*19:=fX cur;obtain⟨r1,df⟩: ∃r:Sv,r=(⟨false,s.b,s.o,i,s.cap,none⟩:Sv):=⟨_,rfl⟩;refine Gi ?_;refine av ?_;refine ag (qD (l:=i) (n:=cur.length) rfl rfl rfl bI km oM) ?_;refine Ns (D:=s.sub 19 i cur.length) (b:=s.b) (o:=s.o+i*19) (n:=cur.length -i) (z:= .agg (aq cP)) rfl lh fw rfl (by rw[Sv.tD oM]) rfl oM (show(aq cP).all (·.oneCell')=true from(inferInstance:bk aq 19).one cP) (by simp only[ap1,af0];omega) fun Z hZ=>?_;refine al ?_;refine ag (Ry.to (v':=r1.val) (qC (h:=i) rfl rfl rfl bI oM) (by rw[df,Sv.sub_eq lh fw])) (av ?_);refine Gr fun w1 hw=>?_;refine⟨r1,rfl,trivial,?_⟩;rw[Kg,show pre++(aF aq (cur.take i)++aF aq (cur.drop i)++mid)=(pre++aF aq (cur.take i))++(aF aq (cur.drop i)++mid)from by simp only[apq],xv (A:=pre++aF aq (cur.take i)) (by simp only[af0];omega),apq pre]at hw;have eZ:=Ef (enc:=aq) (i:=0) (xs:=cur.take i) (pre:=pre) hw rfl r1 (by rw[df];exact⟨(fun h=>by cases h),by simp only;omega,by simp only;omega,fun _=>rfl⟩) (by rw[df]) (by rw[df]) (by rw[df]) (by rw[df];exact gM.symm) (by rw[df];simp only[apk];omega) (by rw[df];simp only[af0,apk,apr];omega);rw[hd.done]at eZ;exact eZ
instance aoT{w0:World}{L R:List aj}{i:Nat}{s:Sv}{ss:List Rt}[q:di L s aq 19 ss i][d:cm L i R]:bE Tryz.prog 189 w0 L [s.val, .func (.func 190) #[] #[]] (Sv) (fun zz=>zz.val) (fun zz=>own aq 19 zz (ft ss)::R) (fun zz=>True) (ss.length<=1000000):=⟨fun hp w hw=>aff w0 w R s ss (Fs q.h d.h hw) hp⟩
instance aoU{t:Sv}{ts:List Rt}[ht:ct w0 L aq 19 t ts]:bE Tryz.prog 118 w0 L [t.val] (Sv) (fun zz=>zz.val) (fun zz=>own aq 19 zz (gL ts)::L) (fun zz=>True) (ts.length<=1000000):=⟨fun aA w hw=>Gk (fun zz=>[own aq 19 zz (gL ts)]) hw (by
 have ht:=ht.h w hw;have l5:Gv w t aq 19 ts:=⟨ht⟩;have tA:=Sm ts;refine cw Tryz.func118 rfl Tryz.ntmps118 rfl ?_;refine au ?_;refine aY rfl oM fun x8 pn=>aY rfl oM fun x9 Ak=>Qv (z:=Sv.none.val) rfl fun b3=>Qw (by first|rfl|exact Sv.one _) rfl rfl (av ?_);refine ag (ada ⟨_,Tryz.underlying22,trivial⟩ rfl) (ag (Ry.to (v':=LF b3) (aeP rfl) rfl) (aY rfl ⟨by omega,Gm ts⟩ fun mP JQ=>?_));have zD:mP.length<=ts.length:=by rw[JQ.length];exact tA
 have BP:=adF JQ;refine cx ?_;refine bA (X:=Nat×Sv×List Rt) (fun zz=>[(16, .int .i64 (zz.1:Nat)),(4,zz.2.1.val),(3, .pointer (some ⟨b3,0,none⟩)),(14,x9.val),(15, .int .i64 (mP.length:Nat))]) (fun zz=>[own aq 19 zz.2.1 zz.2.2,an b3 #[x9.val] 22,own aq 19 x9 mP]) (fun zz=>zz.1<=mP.length/\zz.2.2=mc mP zz.1) (fun zz=>mP.length -zz.1) (0,Sv.none,[]) ⟨Nat.zero_le _,rfl⟩ sb (fun w hw=>Mem.cO aq 19 (ai.mem hw)) ?_;rintro⟨i,o,q⟩ ⟨aQ,az⟩;dsimp only;simp only at aQ az;have wL:=KN mP i;rw[←az]at wL;refine al ?_;refine Gb (fun h0=>?_) fun h0=>?_
 ·
  refine av ?_;obtain⟨x,hx⟩:=get_some (xs:=mP) (i:=i) oM;refine ag (aR rfl rfl i rfl oM) (ag (fC rfl i hx rfl) (bn fun b6=>al ?_));refine fA oK oK (aT ?_);refine dE rfl rfl rfl (fun hg=>(Ry.yl (bQ rfl))) (Gh ?_);refine dE rfl rfl rfl (fun hg=>(Ry.yl (uZ (aw hg rfl) rfl (by simp only[Z0,Z1,Z2,Z3,Z4,Z5,Z6,Z7,Z8,Z9]at hg;omega)))) (dE rfl rfl rfl (fun hg=>(Ry.yl (aR (aw hg rfl) (aw hg rfl) (i+1) rfl (by simp only[Z0,Z1,Z2,Z3,Z4,Z5,Z6,Z7,Z8,Z9]at hg;omega)))) (dE rfl rfl rfl (fun hg=>(Ry.yl (aK (aw hg rfl) rfl))) (dE rfl rfl rfl (fun hg=>(Ry.yl (rJ (j:=0) (aw hg rfl) (i+1) (kL (xs:=mP) (i:=(i+1)) (d:=cP) (by simp only[Z0,Z1,Z2,Z3,Z4,Z5,Z6,Z7,Z8,Z9]at hg;omega)) rfl (by decide)))) (Gh ?_))));refine dE rfl rfl rfl (fun hg=>(Ry.yl (gE (aw hg rfl)))) (dE rfl rfl rfl (fun hg=>(Ry.yl (Dv (aw hg rfl) (aw hg rfl)))) (av ?_));refine Gb (fun h1=>?_) fun h1=>?_
  ·
   obtain⟨y,hy⟩:=get_some (xs:=mP) (i:=i+1) oM;have hyx:y.p=x.p:=by have:=h1.2;simpa[List.getD,hy]using this
   refine al ?_;refine Gi ?_;exact aW (x:=(i,o,q)) (i+1,o,q) ⟨oF,by rw[Sn hx hy hyx];exact az⟩ (by simp only;omega) sb (fun w hw=>ai.mem hw)
  have cr: ∀y,mP[i+1]? =some y->y.p≠x.p:=fun y hy e=>by
   have Rz:=(ad2.1 hy).1;rcases h1 with h|h
   ·
    omega
   exact h (by simpa[List.getD,hy]using e)
  refine al ?_;refine jO (enc:=aq) (vals:=[_]) [x] rfl rfl rfl (by decide) (by decide) fun Tb=>?_;refine jd (s:=o) (ys:=[x]) rfl rfl (by decide) (fun w hw=>ib (s:=⟨false,Tb,0,1,1,none⟩) Tryz.underlying22 (by decide) ((inferInstance:Hd _ _ ⟨false,Tb,0,1,1,none⟩ aq 19 [x]).h w hw)) (by simp only[af0,apj,apl];omega) (by simp only[af0,apj,apl];omega) fun s40 aoV aoW=>?_;refine au ?_;refine Gi ?_;exact aW (x:=(i,o,q)) (i+1,s40,q++[x]) ⟨oF,by rw[So hx cr,←az]⟩ (by simp only;omega) sb (fun w hw=>ai.mem hw)
 obtain rfl:i=mP.length:=by omega
 refine au ?_;refine Gr fun w1 hw=>?_;exact⟨o,rfl,trivial,by rw[BP,←az];exact ai.mem hw⟩)⟩
instance aoX:Plain Rt:=⟨fun _=>rfl⟩
instance aoY{n:Nat}:bE Tryz.prog 193 w0 L [.slice none 0 0, .int .i64 (n:Nat)] (Sv) (fun zz=>zz.val) (fun zz=>own aq 19 zz ([]:List Rt)::L) (fun zz=>True) (n<=1000000000):=⟨fun aA w hw=>Gk (fun zz=>[own aq 19 zz ([]:List Rt)]) hw (by
 refine cz Tryz.func193 rfl Tryz.ntmps193 rfl ?_;refine aT ?_;refine Gb (fun h0=>?_) fun h0=>?_
 ·
  exfalso;omega
 refine al ?_;refine ag (zq rfl) (Gs ?_);refine ag (th rfl) (cx ?_);refine Gb (fun h1=>?_) fun h1=>?_
 ·
  refine Gi ?_;refine av ?_;refine ag (zq rfl) (ag (Ry.to (v':= .slice none 0 0) (qC (s:=Sv.none) (h:=0) rfl rfl rfl Sv.yX (apm _)) rfl) (Gs ?_));refine Ih (enc:=aq) (k:=n) (cP) rfl rfl oM oM (by decide) rfl Tryz.underlying3 oM oM fun vY vZ Ct=>Gs ?_;refine ag (th rfl) (ag (qC (s:=⟨false,vY,0,n,vZ,none⟩) (h:=0) rfl rfl rfl ⟨(fun h=>by cases h),Ct,by simp only;omega,fun _=>rfl⟩ (apE _)) (aH ?_));refine Gr fun w1 hw=>?_;refine⟨Sv.sub ⟨false,vY,0,n,vZ,none⟩ 19 0 0,rfl,trivial,?_⟩;have eZ:=Mem.Ig (i:=0) (k:=0) hw rfl (apE _);rw[apK]at eZ;exact eZ
 have hn:n=0:=by omega
 refine au ?_;refine Gr fun w1 hw=>?_;exact⟨Sv.none,rfl,trivial,(ai.mem hw:Mem w [] _).cO aq 19⟩)⟩
instance aoZ{a:Sl (Sl Rt)}[ha:aV w0 L a]:bE Tryz.prog 119 w0 L [a.sv.val] (Sv) (fun zz=>zz.val) (fun zz=>own aq 19 zz (mh a.xs)::L) (fun zz=>True) ((mh a.xs).length<=1000000):=⟨fun aA w hw=>Gk (fun zz=>[own aq 19 zz (mh a.xs)]) hw (by
 have ha:=ha.h w hw;have Fw:cy w a:=⟨ha⟩;have mU:=ha.1.bd;have dw:=aeg a.xs;refine cw Tryz.func119 rfl Tryz.ntmps119 rfl ?_;refine fQ ?_;refine bA (X:=Nat) (fun zz=>[(11, .int .i64 (zz:Nat)),(3, .int .i64 ((mh (a.xs.take zz)).length:Nat)),(0,a.sv.val),(9,a.sv.val),(10, .int .i64 (a.xs.length:Nat))]) (fun zz=>[]) (fun zz=>zz<=a.xs.length) (fun zz=>a.xs.length -zz) 0 (apE _) sb (fun w hw=>ai.mem hw) ?_;rintro i hi;have rT:=dw i;have jx:=dw (i+1);refine al ?_;refine Gb (fun h0=>?_) fun h0=>?_
 ·
  refine jS ?_;obtain⟨x,hx⟩:=get_some (xs:=a.xs) (i:=i) oM;refine ag (aR rfl rfl i rfl oM) (ag (bC (j:=0) rfl i hx rfl (by decide)) ?_);have QC:(mh (a.xs.take (i+1))).length=(mh (a.xs.take i)).length+x.xs.length:=by rw[Gy hx,af0]
  have Cu:Mb x _:=⟨List.mem_of_getElem? hx⟩;refine lR ?_;refine Gb (fun h1=>?_) fun h1=>?_
  ·
   exfalso;omega
  refine al ?_;refine Gi ?_;exact aW (x:=(i)) (i+1) oF oF (Sub.cons rfl (Sub.cons (look_eq rfl (by rw[Gy hx,af0];simp)) sb)) (fun w hw=>ai.mem hw)
 obtain rfl:i=a.xs.length:=by omega
 have lO:=dw a.xs.length;refine av ?_;refine aY rfl oM fun rb Fx=>aT ?_;refine bA (X:=Nat×Sv) (fun zz=>[(27, .int .i64 (zz.1:Nat)),(6,zz.2.val),(25,a.sv.val),(26, .int .i64 (a.xs.length:Nat))]) (fun zz=>[own aq 19 zz.2 (mh (a.xs.take zz.1))]) (fun zz=>zz.1<=a.xs.length) (fun zz=>a.xs.length -zz.1) (0,rb) (Nat.zero_le _) sb (fun w hw=>(ai.mem hw:Mem _ [own aq 19 rb ([]:List Rt)] _)) ?_;rintro⟨k,s1⟩ hk;dsimp only;simp only at hk;have rT:=dw k;have jx:=dw (k+1);refine al ?_;refine Gb (fun h2=>?_) fun h2=>?_
 ·
  refine jS ?_;obtain⟨y,hy⟩:=get_some (xs:=a.xs) (i:=k) oM;refine ag (aR rfl rfl k rfl oM) (ag (bC (j:=0) rfl k hy rfl (by decide)) ?_);have QD:(mh (a.xs.take (k+1))).length=(mh (a.xs.take k)).length+y.xs.length:=by rw[Gy hy,af0]
  have JA:Mb y _:=⟨List.mem_of_getElem? hy⟩;refine au ?_;refine jd (s:=s1) (ys:=y.xs) rfl rfl (by decide) (fun w hw=>ib (s:=y.sv) Tryz.underlying22 (by decide) ((inferInstance:Hd _ _ y.sv aq 19 y.xs).h w hw)) oM oM fun Cv QE QF=>?_;refine au ?_;refine Gi ?_;exact aW (x:=(k,s1)) (k+1,Cv) (by simp only;omega) (by simp only;omega) sb (fun w hw=>by rw[Gy hy];exact ai.mem hw)
 obtain rfl:k=a.xs.length:=by omega
 refine au ?_;refine Gr fun w1 hw=>?_;exact⟨s1,rfl,trivial,by rw[apI]at hw;exact ai.mem hw⟩)⟩
instance ao0{t:Sv}{ts:List Rt}{u:Sv}{us:List Rt}{v:Sv}{vs:List Rt}[ht:ct w0 L aq 19 t ts][hu:ct w0 L aq 19 u us][hv:ct w0 L aq 19 v vs]:bE Tryz.prog 52 w0 L [t.val,u.val,v.val] (Sv×Sv) (fun zz=> .tuple #[zz.1.val,zz.2.val, .int .i64 (mg ts us vs)]) (fun zz=>own aq 19 zz.1 (jL ts us vs)::own bV 18 zz.2 (s8 ts us vs)::L) (fun zz=>True) (True):=⟨fun aA w hw=>Gk (fun zz:Sv×Sv=>[own aq 19 zz.1 (jL ts us vs),own bV 18 zz.2 (s8 ts us vs)]) hw (by
 have ht:=ht.h w hw;have hu:=hu.h w hw;have hv:=hv.h w hw;have l5:Gv w t aq 19 ts:=⟨ht⟩;have KY:Gv w u aq 19 us:=⟨hu⟩;have yi:Gv w v aq 19 vs:=⟨hv⟩;refine pS Tryz.func52 rfl Tryz.ntmps52 rfl ?_;refine nq ?_;refine bo rfl rfl rfl (fun hg=>bP (cZ (aw hg rfl) fu) trivial) (bo rfl rfl rfl (fun hg=>(Ry.yl (iz (aw hg rfl)))) (al ?_));refine bo rfl rfl rfl (fun hg=>bP (cZ (aw hg rfl) fu) trivial) (bo rfl rfl rfl (fun hg=>(Ry.yl (iz (aw hg rfl)))) (av ?_));refine Gb (fun h0=>?_) fun h0=>?_
 ·
  obtain⟨hE,hL,hK⟩:=aem (t:=ts) (a:=us) (b:=vs) (by rintro⟨g1,g2,g3⟩;rcases h0 with(h|h)|h<;>simp_all)
  refine aH ?_;refine Gr fun w1 hw=>?_;exact⟨(Sv.none,Sv.none),by rw[hE];rfl,trivial,by rw[hL,hK];exact((ai.mem hw:Mem w [] _).cO bV 18).cO aq 19⟩
 obtain⟨⟨k1,k2⟩,k3⟩:=h0;have l1:=pV k1;have l2:=pV k2;have l3:=pV k3;have bu:=uN (ts++us++vs);have km:=St (ts++us++vs);simp only[af0]at km;refine dP ?_;refine jO (enc:=(bU (τ:=Rt))) [(⟨t,ts⟩:Sl Rt),⟨u,us⟩,⟨v,vs⟩] (vals:=[t.val,u.val,v.val]) rfl (by simp only[apY,aqu,Sv.iD];rfl) rfl (by decide) (by decide) fun AF=>?_;refine Nz (τ:=Sl Rt) (xs:=[(⟨t,ts⟩:Sl Rt),⟨u,us⟩,⟨v,vs⟩]) fun a34 h34 g34=>?_;have Tc:mh a34.xs=ts++us++vs:=by rw[h34];simp[mh]
 refine aY rfl (by rw[Tc];simp only[List.length_append];omega) fun AB JZ=>?_;rw[Tc];refine aY rfl (by simp only[List.length_append];omega) fun Ar aaJ=>al ?_;refine bA (X:=Nat×Sv×List Rt×Sv×List ba) (fun zz=>[(38, .int .i64 (zz.1:Nat)),(9,zz.2.1.val),(10,zz.2.2.2.1.val),(0,t.val),(1,u.val),(2,v.val),(36,Ar.val),(37, .int .i64 ((gL (ts++us++vs)).length:Nat))]) (fun zz=>[own aq 19 zz.2.1 zz.2.2.1,own bV 18 zz.2.2.2.1 zz.2.2.2.2,own aq 19 Ar (gL (ts++us++vs))]) (fun zz=>zz.1<=(gL (ts++us++vs)).length/\zz.2.2.1=oB ts us vs ((gL (ts++us++vs)).take zz.1)/\zz.2.2.2.2=mf ts us vs ((gL (ts++us++vs)).take zz.1)) (fun zz=>(gL (ts++us++vs)).length -zz.1) (0,Sv.none,[],Sv.none,[]) ⟨Nat.zero_le _,rfl,rfl⟩ sb (fun w hw=>Mem.cO aq 19 (Mem.cO bV 18 (ai.mem hw))) ?_;rintro⟨i,o,q,o2,q2⟩ ⟨aQ,az,aX⟩;dsimp only;simp only at aQ az aX;have wL:q.length<=i:=by rw[az];exact Nat.le_trans SJ (by rw[List.length_take];omega)
 have ao1:q2.length<=i:=by rw[aX];exact arv SK (by rw[apk];omega)
 refine al ?_;refine Gb (fun h1=>?_) fun h1=>?_
 ·
  refine jS ?_;obtain⟨r,hr⟩:=get_some (xs:=(gL (ts++us++vs))) (i:=i) oM;refine ag (aR rfl rfl i rfl oM) (ag (fC rfl i hr rfl) (bn fun uo=>Gs ?_));refine iN ?_;have Al:aZ r.p=true:=bu.1.may r (alM hr);refine Gi ?_;refine Gs ?_;refine ag (gE rfl) (bn fun hQ=>av ?_);refine rU [9,10,11,12,13,14,2009,2010,2011] [[],[],[],[],[],[],[],[],[],[],[],[],[9,10,11],[9,10,11,12],[9,10,11,12,13]] [0,1,2,3,4,5,6,7,8,9,10,11,12,13,14] [an hQ (bV r.p) 32] [(9,jR Tryz.prog 212),(10,jR Tryz.prog 212),(11,jR Tryz.prog 212)] oK (fun _ hw=>ai.mem hw) oK oK (ar rfl (bf rfl) (ar rfl (fW rfl) (rR rfl (bP rfl ⟨by assumption,by assumption⟩) (ar rfl (bf rfl) (ar rfl (fW rfl) (rR rfl (bP rfl ⟨by assumption,by assumption⟩) (ar rfl (bf rfl) (ar rfl (fW rfl) (rR rfl (bP rfl ⟨by assumption,by assumption⟩) (oP (m:=jR Tryz.prog 212) rfl rfl jy (Cert.one (i:=10) rfl rfl rfl jy (Cert.one (i:=11) rfl rfl rfl jy (Cert.none rfl))) fun yg=>?_))))))))));change Ln _ _ _ _ _ _ _ _ (ca _ _ (.pointer (some ⟨yg,0,none⟩))) (an yg (jK (⟨false,0⟩:Ld)) 212::_) _;refine oP (m:=jR Tryz.prog 212) rfl rfl jy (Cert.one (i:=11) rfl rfl rfl jy (Cert.none rfl)) fun FH=>?_;change Ln _ _ _ _ _ _ _ _ (ca _ _ (.pointer (some ⟨FH,0,none⟩))) (an FH (jK (⟨false,0⟩:Ld)) 212::_) _;refine oP (m:=jR Tryz.prog 212) rfl rfl jy (Cert.none rfl) fun wi=>?_;change Ln _ _ _ _ _ _ _ _ (ca _ _ (.pointer (some ⟨wi,0,none⟩))) (an wi (jK (⟨false,0⟩:Ld)) 212::_) _;refine c8 rfl (np rfl rfl ⟨fun _ hw=>ai.mem hw,?_⟩);refine c8 rfl (np rfl rfl ⟨fun _ hw=>ai.mem hw,?_⟩);refine c8 rfl (np rfl rfl ⟨fun _ hw=>ai.mem hw,?_⟩);refine av ?_;refine bn fun K7=>Gs ?_;refine da ?_;refine qA (X:=Ld×Sv×List ba) (fun zz=>[(17, .pointer (some ⟨K7,0,none⟩)),(10,zz.2.1.val),(0,t.val),(1,u.val),(2,v.val),(9,o.val),(13, .pointer (some ⟨hQ,0,none⟩)),(36,Ar.val),(37, .int .i64 ((gL (ts++us++vs)).length:Nat)),(38, .int .i64 (i:Nat))]) (fun zz=>[an K7 (jK zz.1) 212,own bV 18 zz.2.1 zz.2.2,own aq 19 o q,an hQ (bV r.p) 32,own aq 19 Ar (gL (ts++us++vs))]) (fun zz=>zz.1=pz (jo ts us vs r.p)/\zz.2.2=mf ts us vs ((gL (ts++us++vs)).take (i+1))) ?_ ?_
  ·
   refine al ?_;refine ag (Dv rfl rfl) (av ?_);refine Gb (fun h2=>?_) fun h2=>?_
   ·
    obtain⟨m1,m2⟩:=SS (b:=vs) (AT.1 h2);refine Gi ?_;refine av ?_;refine da ?_;exact iB (pz (cI vs r.p),o2,q2) ⟨by rw[m1],by rw[KU hr,←aX,m2];simp⟩ sb (fun w hw=>ai.mem hw)
   have Td: ¬cI us r.p=cI ts r.p:=fun e=>h2 (AT.2 e);refine al ?_;refine ag (yR rfl rfl) (Gs ?_);refine gh rfl rfl rfl (fun hg=>(Ry.yl (fW rfl))) (gh rfl rfl rfl (fun hg=>(Ry.yl (fW rfl))) (gh rfl rfl rfl (fun hg=>(Ry.yl (yR (aw hg rfl) (aw hg rfl)))) (al ?_)));refine Gb (fun h3=>?_) fun h3=>?_
   ·
    obtain⟨m1,m2⟩:=aei (b:=vs) Td ⟨fun e=>h3.1 (AT.2 e),fun e=>h3.2 (AT.2 e)⟩;refine Gi ?_;refine av ?_;refine jO (enc:=bV) (vals:=[_]) [r.p] rfl rfl rfl (by decide) (by decide) fun Te=>?_;refine jd (s:=o2) (ys:=[r.p]) rfl rfl (by decide) (fun w hw=>ib (s:=⟨false,Te,0,1,1,none⟩) Tryz.underlying42 (by decide) ((inferInstance:Hd _ _ ⟨false,Te,0,1,1,none⟩ bV 18 [r.p]).h w hw)) (by simp only[af0,apj,apl];omega) (by simp only[af0,apj,apl];omega) fun s71 ao2 ao3=>?_;refine Gs ?_;refine da ?_;exact iB (pz (cI us r.p),s71,q2++[r.p]) ⟨by rw[m1],by rw[KU hr,←aX,m2];rfl⟩ sb (fun w hw=>ai.mem hw)
   obtain⟨m1,m2⟩:=aej (b:=vs) Td (h3.imp AT.1 AT.1);refine da ?_;exact iB (pz (cI us r.p),o2,q2) ⟨by rw[m1],by rw[KU hr,←aX,m2];simp⟩ sb (fun w hw=>ai.mem hw)
  rintro⟨d,o3,q3⟩ ⟨hd,CU⟩;dsimp only;simp only at hd CU;have ao4:q3.length<=i+1:=by rw[CU];exact Nat.le_trans SK (by rw[List.length_take];omega)
  refine au ?_;refine Gb (fun h4=>?_) fun h4=>?_
  ·
   have K8:jo ts us vs r.p=some d.bN:=by rw[hd];exact aek (by rw[←hd];exact h4)
   refine Gi ?_;refine au ?_;refine ag (fv rfl) ?_;refine jO (enc:=aq) (vals:=[_]) [(⟨r.p,d.bN⟩:Rt)] rfl rfl rfl (by decide) (by decide) fun Tf=>?_;refine jd (s:=o) (ys:=[(⟨r.p,d.bN⟩:Rt)]) rfl rfl (by decide) (fun w hw=>ib (s:=⟨false,Tf,0,1,1,none⟩) Tryz.underlying22 (by decide) ((inferInstance:Hd _ _ ⟨false,Tf,0,1,1,none⟩ aq 19 [(⟨r.p,d.bN⟩:Rt)]).h w hw)) (by simp only[af0,apj,apl];omega) (by simp only[af0,apj,apl];omega) fun s80 ao5 ao6=>?_;refine au ?_;refine Gi ?_;exact aW (x:=(i,o,q,o2,q2)) (i+1,s80,q++[⟨r.p,d.bN⟩],o3,q3) ⟨oF,by rw[SI hr,←az,K8];rfl,CU⟩ (by simp only;omega) sb (fun w hw=>ai.mem hw)
  have K8:jo ts us vs r.p=none:=ael (by rw[←hd];exact h4);refine al ?_;refine Gi ?_;exact aW (x:=(i,o,q,o2,q2)) (i+1,o,q,o3,q3) ⟨oF,by rw[SI hr,←az,K8];simp,CU⟩ (by simp only;omega) sb (fun w hw=>ai.mem hw)
 obtain rfl:i=(gL (ts++us++vs)).length:=by omega
 rw[apI]at az aX;have K9:q=kC ts us vs:=az;have hbt:q2=uP ts us vs:=aX;refine aH ?_;refine Gb (fun h5=>?_) fun h5=>?_
 ·
  obtain⟨hE,hL,hK⟩:=aen k1 k2 k3 (by rw[←K9];omega);refine aH ?_;refine Gr fun w1 hw=>?_;exact⟨(Sv.none,Sv.none),by rw[hE];rfl,trivial,by rw[hL,hK];exact((ai.mem hw:Mem w [] _).cO bV 18).cO aq 19⟩
 obtain⟨hE,hL,hK⟩:=aeo k1 k2 k3 (by rw[←K9];omega);refine cx ?_;refine Gr fun w1 hw=>?_;exact⟨(o,o2),by rw[hE],trivial,by rw[hL,hK,←K9,←hbt];exact ai.mem hw⟩)⟩
instance ao7{t:Sv}{ts:List Rt}{p:ba}[ht:ct w0 L aq 19 t ts]:bY Tryz.prog 54 w0 L [t.val, .agg (bV p)] (.tuple #[.int .u16 ((iQ ts p).toNat:Nat), .int .i64 (hG ts p)]) (True):=⟨fun aA w hw=>by
 have ht:=ht.h w hw;have l5:Gv w t aq 19 ts:=⟨ht⟩;refine cz Tryz.func54 rfl Tryz.ntmps54 rfl ?_;refine Gc ?_;refine bH rfl fun b3=>cx ?_;refine bo rfl rfl rfl (fun hg=>(Ry.yl (fW rfl))) (bo rfl rfl rfl (fun hg=>bP (cZ (aw hg rfl) fu) trivial) (bo rfl rfl rfl (fun hg=>(Ry.yl (iz (aw hg rfl)))) (av ?_)));refine Gb (fun h0=>?_) fun h0=>?_
 ·
  have kz:qd ts p=false:=by rw[qd];rcases h0 with h|h;(rw[h];rfl);(rw[h];simp)
  refine au ?_;refine Gr fun w1 hw=>?_;exact⟨(by simp[iQ,hG,kz]),ai.mem hw⟩
 have bI:qd ts p=true:=by rw[qd,anc];exact h0
 have hlen:=pV h0.1;refine al ?_;refine dv (bP rfl oM) (Gs ?_);refine ag (aI (v:= .int .i64 ((bW ts p:Nat):Int)) rfl rfl) (ag (aI (v:= .bool (gw ts p)) rfl rfl) (aT ?_));refine Gb (fun h1=>?_) fun h1=>?_
 ·
  have hf:qY ts p=none:=by rw[qY,if_neg (by rw[h1];simp)]
  refine au ?_;refine Gr fun w1 hw=>?_;exact⟨(by simp[iQ,hG,bI,hf,cP]),ai.mem hw⟩
 have qm: ∃r,ts[bW ts p]? =some r/\qY ts p=some r:=by obtain⟨r,_,h8,_⟩:=sH h1;exact⟨r,h8,by rw[qY,if_pos h1,h8]⟩
 obtain⟨r,df,nR⟩:=qm;refine al ?_;refine ag (aR rfl rfl (bW ts p) oM (ad2.1 df).1) ?_;refine ag (aK rfl rfl) (ag (bC (j:=18) rfl (bW ts p) df rfl (by decide)) (al ?_));refine Gr fun w1 hw=>?_;exact⟨(by simp[iQ,hG,bI,nR]),ai.mem hw⟩⟩
end Go.Proofs.YtkggjjnhnjjokaaGreatDoor
namespace Go.Kb
open Go.ay
variable {t a b:List Rt} {p:ba}
theorem GF(h:bl t=true)(hm:aZ p=true):(cI t p=none/\hG t p=6/\iQ t p=0)\/(∃x,cI t p=some x/\hG t p=0/\iQ t p=x):=by
 cases hh:fh t p with
 |none=>
  obtain⟨g1,g2⟩:=adS h hm (wF.1 hh);exact .inl ⟨by rw[cI,hh];rfl,g1,g2⟩
 |some r=>
  obtain⟨r1,r2⟩:=(wE (dM h)).1 hh;obtain⟨g1,g2⟩:=Jm h r1;rw[r2]at g1 g2;exact .inr ⟨r.bN,by rw[cI,hh];rfl,g1,g2⟩
theorem afg(h1:bl t=true)(h2:bl a=true)(hm:aZ p=true)(he:hG t p=hG a p)(hh:iQ t p=iQ a p):cI a p=cI t p:=by
 rcases GF h1 hm with⟨a1,a2,a3⟩|⟨x,a1,a2,a3⟩<;>rcases GF h2 hm with⟨b1,b2,b3⟩|⟨y,b1,b2,b3⟩
 ·
  rw[a1,b1]
 ·
  omega
 ·
  omega
 rw[a1,b1,←a3,←b3,hh]
theorem afh(w x y:Option UInt16):uO w x y=uO w y x:=by
 unfold uO;refine decide_eq_decide.2 ⟨fun⟨h1,h2,h3⟩=>⟨h2,h1,fun e=>h3 e.symm⟩,fun⟨h1,h2,h3⟩=>⟨h2,h1,fun e=>h3 e.symm⟩⟩
theorem afi(h1:bl t=true)(h2:bl a=true)(h3:bl b=true):uP t a b=uP t b a:=by
 have o1:=dM h1;have o2:=dM h2;have o3:=dM h3;refine SN (Gu (uN _).1) (Gu (uN _).1) fun q=>?_;show q∈mf t a b _↔q∈mf t b a _;rw[C5 (yI o1 o2 o3),C5 (yI o1 o3 o2),me,me,afh]
theorem afj{u:List Rt}(h1:Ord t)(h2:Ord u)(h: ∀x,x∈t↔x∈u):t=u:=Sx h1 h2 fun q=>by
 cases hh:fh t q with
 |some r=>
  obtain⟨r1,r2⟩:=(wE h1).1 hh;exact((wE h2).2 ⟨(h r).1 r1,r2⟩).symm
 |none=>
  have:=wF.1 hh;exact(wF.2 fun x hx=>this x ((h x).2 hx)).symm
theorem afk(h1:bl t=true)(h2:bl a=true)(h3:bl b=true)(hn:uP t a b=[]):kC t a b=kC t b a:=by
 refine afj KW KW fun x=>?_;rw[SR h1 h2 h3,SR h1 h3 h2];have hx:me t a b x.p=false:=by
  cases hk:me t a b x.p with
  |false=>rfl
  |true=>
   have:=(C5 (yI (dM h1) (dM h2) (dM h3))).2 hk;have e:x.p∈uP t a b:=this;rw[hn]at e;cases e
 have hc:jo t a b x.p=jo t b a x.p:=by
  unfold me uO at hx;rw[decide_eq_false_iff_not]at hx;unfold jo AU
  by_cases e1:cI a x.p=cI t x.p
  ·
   rw[if_pos e1]
   by_cases e2:cI b x.p=cI t x.p
   ·
    rw[if_pos e2,e1,e2]
   rw[if_neg e2]
  rw[if_neg e1]
  by_cases e2:cI b x.p=cI t x.p
  ·
   rw[if_pos e2]
  rw[if_neg e2];exact aql fun e3=>hx ⟨e1,e2,e3⟩
 rw[hc]
theorem afl(h1:bl t=true)(h2:bl a=true)(h3:bl b=true)(he:cI a p=cI t p):cI (kC t a b) p=cI b p:=by
 rw[kC,ad8 (uN _).1 (yI (dM h1) (dM h2) (dM h3)) (fun _ _=>trivial),(SS (b:=b) he).1]
theorem afm(h1:bl t=true)(h3:bl b=true){c:Ch}(hc:c∈cq t b):(c.gone=true->cI b c.r.p=none)/\(c.gone=false->cI b c.r.p=some c.r.bN):=by
 have o1:=dM h1;have o3:=dM h3;have hd:=SC o1 o3 c.r.p;rw[(KS (Gp o1 o3).dst).2 ⟨hc,rfl⟩]at hd;unfold cI
 cases ht:fh t c.r.p with
 |none=>
  cases hb:fh b c.r.p with
  |none=>rw[ht,hb]at hd;cases hd
  |some y=>
   rw[ht,hb]at hd;have e:=api hd;exact⟨(fun g=>by rw[e]at g;cases g),fun _=>by rw[e];rfl⟩
 |some x=>
  cases hb:fh b c.r.p with
  |none=>
   rw[ht,hb]at hd;have e:=api hd;exact⟨fun _=>rfl,(fun g=>by rw[e]at g;cases g)⟩
  |some y=>
   rw[ht,hb]at hd;simp only[dC]at hd;split at hd
   ·
    cases hd
   have e:=api hd;exact⟨(fun g=>by rw[e]at g;cases g),fun _=>by rw[e];rfl⟩
theorem afn(h1:bl t=true)(h2:bl a=true)(h3:bl b=true)(h4:bl (kC t a b)=true){c:Ch}(hc:c∈cq t b)(he:hG t c.r.p=hG a c.r.p)(hh:iQ t c.r.p=iQ a c.r.p):
  (c.gone=true->hG (kC t a b) c.r.p=6)/\(c.gone=false->hG (kC t a b) c.r.p=0/\iQ (kC t a b) c.r.p=c.r.bN):=by
 have hm:aZ c.r.p=true:=(SD (dM h1) (dM h3) hc).1;have hs:=afl h1 h2 h3 (afg h1 h2 hm he hh);obtain⟨d1,d2⟩:=afm h1 h3 hc;constructor
 ·
  intro g;rcases GF h4 hm with⟨_,q2,_⟩|⟨x,q1,_,_⟩
  ·
   exact q2
  ·
   rw[hs,d1 g]at q1;cases q1
 ·
  intro g;rcases GF h4 hm with⟨q1,_,_⟩|⟨x,q1,q2,q3⟩
  ·
   rw[hs,d2 g]at q1;cases q1
  ·
   rw[hs,d2 g]at q1;exact⟨q2,q3.trans (api q1).symm⟩
end Go.Kb
namespace Go.Proofs.YtkggjjnhnjjokaaGreatDoor
open Go.ay Go.Kb Go.RowKit
theorem afo(w:World)[tb:pP w](t:Sv)(ts:List Rt)(u:Sv)(us:List Rt)(v:Sv)(vs:List Rt)(k:Key)(bits:Int)(ht:dh aq 19 (hp w) t ts)(hu:dh aq 19 (hp w) u us)(hv:dh aq 19 (hp w) v vs):Calls Tryz.prog 11 #[t.val,u.val,v.val, .agg (bR k), .int .i64 bits] w fun e w'=>e= .returned (.bool true)/\Mem w [] w':=by
 have l5:Gv w t aq 19 ts:=⟨ht⟩;have KY:Gv w u aq 19 us:=⟨hu⟩;have yi:Gv w v aq 19 vs:=⟨hv⟩;refine Wa Tryz.func11 rfl Tryz.ntmps11 rfl ?_;refine Gc ?_;refine bH rfl fun b8=>aH ?_;refine gW rfl (fun h0=>?_) (fun h0=>?_)
 ·
  exfalso;simp at h0
 replace h0:=bz h0;refine Ee ?_;refine bo rfl rfl rfl (fun hg=>bP (cZ (aw hg rfl) fu) trivial) (bo rfl rfl rfl (fun hg=>(Ry.yl (iz (aw hg rfl)))) (al ?_));refine bo rfl rfl rfl (fun hg=>bP (cZ (aw hg rfl) fu) trivial) (bo rfl rfl rfl (fun hg=>(Ry.yl (iz (aw hg rfl)))) (al ?_));refine bo rfl rfl rfl (fun hg=>bP (cZ (aw hg rfl) fu) trivial) (bo rfl rfl rfl (fun hg=>(Ry.yl (iz (aw hg rfl)))) (av ?_));refine Gb (fun h1=>?_) fun h1=>?_
 ·
  refine al ?_;refine Gr fun w1 hw=>?_;exact⟨rfl,ai.mem hw⟩
 obtain⟨⟨⟨h1a,h1t⟩,h1u⟩,h1v⟩:=h1;have df:bl ts=true:=by simpa using h1t
 have nR:bl us=true:=by simpa using h1u
 have qk:bl vs=true:=by simpa using h1v
 have hl9:ts.length<=60/\us.length<=60/\vs.length<=60:=by omega
 obtain⟨p1,p2,p3⟩:=SQ df nR qk oM;obtain⟨q1,q2,q3⟩:=SQ df qk nR oM;have htc:=afi df nR qk;have tv:(jL ts us vs).length<=120:=by rw[p2];have:=KV (dM df) (dM nR) (dM qk);omega
 have ao8:(jL ts vs us).length<=120:=by rw[q2];have:=KV (dM df) (dM qk) (dM nR);omega
 have G5:bl (kC ts us vs)=true:=P5 KW (by rw[←p2];omega);have Tg:uQ ts vs=0:=by rw[uQ,if_pos (by rw[df,qk];rfl)]
 have Th:pA ts vs=cq ts vs:=by rw[pA,if_pos Tg]
 have Ax:(pA ts vs).length<=120:=by rw[Th];have:=(SA (t:=ts) (u:=vs)).1;omega
 refine au ?_;refine aY rfl trivial fun AY ao9=>Gs ?_;refine ag (aI (v:=AY.1.val) rfl rfl) (ag (aI (v:=AY.2.val) rfl rfl) (ag (aI (v:= .int .i64 (mg ts us vs)) rfl rfl) (cx ?_)));refine aY rfl trivial fun Ti apa=>Gs ?_;refine ag (aI (v:=Ti.1.val) rfl rfl) (ag (aI (v:=Ti.2.val) rfl rfl) (ag (aI (v:= .int .i64 (mg ts vs us)) rfl rfl) (H4 ?_)));refine gW rfl (fun h2=>?_) (fun h2=>?_)
 ·
  exfalso;rw[p1,q1,p3,q3,htc]at h2;simp at h2
 replace h2:=bz h2;refine da ?_;refine qA (X:=Unit) (fun zz=>[(0,t.val),(1,u.val),(2,v.val),(11,AY.1.val)]) (fun zz=>[own aq 19 AY.1 (jL ts us vs),an b8 (bR k) 25]) (fun zz=>True) ?_ ?_
 ·
  refine aH ?_;refine Gb (fun h3=>?_) fun h3=>?_
  ·
   have hn:uP ts us vs=[]:=apB.1 (by rw[←p3];omega);have hL:(jL ts vs us)=(jL ts us vs):=by rw[p2,q2];exact(afk df nR qk hn).symm
   refine aT ?_;refine ag (aI (v:= .agg (aq (Ac (jL ts us vs) k bits))) rfl rfl) (ag (aI (v:= .int .i64 (Ad (jL ts us vs) k bits)) rfl rfl) (bn fun K7=>dP ?_));refine ag (aI (v:= .agg (aq (Ac (jL ts vs us) k bits))) rfl rfl) (ag (aI (v:= .int .i64 (Ad (jL ts vs us) k bits)) rfl rfl) (bn fun kc=>aH ?_));refine dv (bP rfl oM) (av ?_);refine bo rfl rfl rfl (fun hg=>(Ry.yl (fW rfl))) (bo rfl rfl rfl (fun hg=>(Ry.yl (fW rfl))) (bo rfl rfl rfl (fun hg=>(Ry.yl (yR (aw hg rfl) (aw hg rfl)))) (cx ?_)));refine gW rfl (fun h4=>?_) (fun h4=>?_)
   ·
    exfalso;rw[hL]at h4;simp at h4
   replace h4:=bz h4;refine Gi ?_;exact iB () trivial sb (fun w hw=>ai.mem hw)
  refine Gi ?_;exact iB () trivial sb (fun w hw=>ai.mem hw)
 rintro u_ hJ;refine al ?_;refine aY rfl trivial fun La apb=>Gs ?_;refine ag (aI (v:=La.val) rfl rfl) (ag (aI (v:= .int .i64 (uQ ts vs)) rfl rfl) (aT ?_));refine gW rfl (fun h5=>?_) (fun h5=>?_)
 ·
  exfalso;rw[Tg]at h5;simp at h5
 replace h5:=bz h5;refine al ?_;refine bA (X:=Nat) (fun zz=>[(23, .int .i64 (zz:Nat)),(0,t.val),(1,u.val),(11,AY.1.val),(21,La.val)]) (fun zz=>[own eQ 20 La (pA ts vs),own aq 19 AY.1 (jL ts us vs),an b8 (bR k) 25]) (fun zz=>zz<=(pA ts vs).length) (fun zz=>(pA ts vs).length -zz) 0 (apE _) sb (fun w hw=>ai.mem hw) ?_;rintro i hI;refine aT ?_;refine Gb (fun h6=>?_) fun h6=>?_
 ·
  obtain⟨c,hc⟩:=get_some (xs:=(pA ts vs)) (i:=i) oM;refine au ?_;refine ag (aR rfl rfl i rfl oM) (ag (aK rfl rfl) (ag (aK rfl rfl) (ag (rJ (j:=0) rfl i hc rfl (by decide)) (av ?_))));refine ag (aI (v:= .int .u16 ((iQ ts c.r.p).toNat:Nat)) rfl rfl) (ag (aI (v:= .int .i64 (hG ts c.r.p)) rfl rfl) (aT ?_));refine ag (aR rfl rfl i rfl oM) (ag (aK rfl rfl) (ag (aK rfl rfl) (ag (rJ (j:=0) rfl i hc rfl (by decide)) (av ?_))));refine ag (aI (v:= .int .u16 ((iQ us c.r.p).toNat:Nat)) rfl rfl) (ag (aI (v:= .int .i64 (hG us c.r.p)) rfl rfl) (zp ?_));refine Gb (fun h7=>?_) fun h7=>?_
  ·
   refine au ?_;refine Gi ?_;exact aW (x:=(i)) (i+1) oF oF sb (fun w hw=>ai.mem hw)
  have hE7:hG ts c.r.p=hG us c.r.p:=by omega
  have hH7:iQ ts c.r.p=iQ us c.r.p:=UInt16.toNat_inj.1 oM;obtain⟨m1,m2⟩:=afn df nR qk G5 (by rw[←Th];exact alM hc) hE7 hH7;rw[←p2]at m1 m2;refine au ?_;refine ag (aR rfl rfl i rfl oM) (ag (aK rfl rfl) (ag (aK rfl rfl) (ag (rJ (j:=0) rfl i hc rfl (by decide)) (av ?_))));refine ag (aI (v:= .int .u16 ((iQ (jL ts us vs) c.r.p).toNat:Nat)) rfl rfl) (ag (aI (v:= .int .i64 (hG (jL ts us vs) c.r.p)) rfl rfl) (aH ?_));refine ag (aR rfl rfl i rfl oM) (ag (aK rfl rfl) (ag (bC (j:=19) rfl i hc rfl (by decide)) (cx ?_)));refine bo rfl rfl rfl (fun hg=>(Ry.yl (aR (aw hg rfl) (aw hg rfl) i rfl (by simp only[Z0,Z1,Z2,Z3,Z4,Z5,Z6,Z7,Z8,Z9]at hg;omega)))) (bo rfl rfl rfl (fun hg=>(Ry.yl (aK (aw hg rfl) rfl))) (bo rfl rfl rfl (fun hg=>(Ry.yl (bC (j:=19) (aw hg rfl) i hc rfl (by decide)))) (bo rfl rfl rfl (fun hg=>(Ry.yl (iz (aw hg rfl)))) (bo rfl rfl rfl (fun hg=>(Ry.yl (bf (aw hg rfl)))) (kK rfl rfl rfl (fun hg=>(Ry.yl (bf rfl))) (kK rfl rfl rfl (fun hg=>(Ry.yl (du (aw hg rfl) rfl rfl))) (kK rfl rfl rfl (fun hg=>(Ry.yl (bf (aw hg rfl)))) (lK rfl rfl rfl (fun hg=>(Ry.yl (bf rfl))) (lK rfl rfl rfl (fun hg=>(Ry.yl (bf rfl))) (lK rfl rfl rfl (fun hg=>(Ry.yl (bf rfl))) (lK rfl rfl rfl (fun hg=>(Ry.yl (aR (aw hg rfl) (aw hg rfl) i rfl (by simp only[Z0,Z1,Z2,Z3,Z4,Z5,Z6,Z7,Z8,Z9]at hg;omega)))) (lK rfl rfl rfl (fun hg=>(Ry.yl (aK (aw hg rfl) rfl))) ?_))))))))))));refine lK rfl rfl rfl (fun hg=>(Ry.yl (aK (aw hg rfl) rfl))) (lK rfl rfl rfl (fun hg=>(Ry.yl (bC (j:=18) (aw hg rfl) i hc rfl (by decide)))) (lK rfl rfl rfl (fun hg=>(Ry.yl (du (aw hg rfl) (aw hg rfl) rfl))) (kK rfl rfl rfl (fun hg=>(Ry.yl (wT (aw hg rfl) rfl (ti hg rfl)))) (bo rfl rfl rfl (fun hg=>(Ry.yl (wS (aw hg rfl) (ti hg rfl) rfl))) (av ?_)))));refine gW rfl (fun h8=>?_) (fun h8=>?_)
  ·
   exfalso;cases hg:c.gone with|true=>(rw[hg,m1 hg]at h8;simp at h8)|false=>(obtain⟨m3,m4⟩:=m2 hg;rw[hg,m3,m4]at h8;simp at h8)
  replace h8:=bz h8;refine au ?_;refine Gi ?_;exact aW (x:=(i)) (i+1) oF oF sb (fun w hw=>ai.mem hw)
 refine al ?_;refine Gr fun w1 hw=>?_;exact⟨rfl,ai.mem hw⟩
end Go.Proofs.YtkggjjnhnjjokaaGreatDoor
namespace Go.ay
open Go.ChangeShapes Go.WideShapes Go.ChangeAt Go.RowKit Go.Kb
variable {H:Type} {enc:TypeId×Value->H} {P:Program}
theorem Tj(hl:laidOutB P=true){W W':World}{sp:Nat->Bool}: ∀{ts:List TypeId} {vs:List Value} {ds:List (DataW H)} {ps:List MemPlace},
  (∀t∈ts,P.readableRec t=true/\t<P.types.size)->DataW.TrodAll enc P W 0 (fun _=>true) true ts vs ds ps->(∀p∈ps,W.sameAt W' p)->(∀p∈ps,sp p.block=true)->
  DataW.TrodAll enc P W' 0 sp true ts vs ds ps
 |[],_,_,_,_,h,_,_=>by
  obtain⟨rfl,rfl,rfl⟩:=trodAll_nil h;exact rfl
 |t::_,_,_,_,ht,h,hs,hp=>by
  obtain⟨v,Tk,d,Tl,a,b,rfl,rfl,rfl,h1,h2⟩:=trodAll_cons h;exact⟨a,b,WideElems.Trod_stays hl (ht t (by simp)).1 (ht t (by simp)).2 h1 (fun p h=>hs p (by simp[h])) (fun p h=>hp p (by simp[h])),
   Tj hl (fun t h=>ht t (by simp[h])) h2 (fun p h=>hs p (by simp[h])) (fun p h=>hp p (by simp[h])),rfl⟩
theorem Lb{W:World}{b:Nat}{sp:Nat->Bool}{hd:Bool}: ∀{ts:List TypeId} {vs:List Value} {ds:List (DataW H)} {ps:List MemPlace},
  DataW.TrodAll enc P W b sp hd ts vs ds ps->vs.length=ts.length/\ds.length=ts.length
 |[],_,_,_,h=>by
  obtain⟨rfl,rfl,rfl⟩:=trodAll_nil h;exact⟨rfl,rfl⟩
 |_::_,_,_,_,h=>by
  obtain⟨v,Tk,d,Tl,a,b,rfl,rfl,rfl,h1,h2⟩:=trodAll_cons h;have:=Lb h2;simp[this.1,this.2]
theorem afp(hl:laidOutB P=true){f:Func}{s:ChangeSpec}{apart fresh handsOn:Bool}{W W':World}{args:Array Value}{ds gs:List (DataW H)}{before:List MemPlace}{tb:TypeId}
  (hp:f.params.toList.all (fun t=>P.readableRec t&&decide (t<P.types.size))=true) (hr:f.resultTypes= #[tb]) (hb:P.underlying tb=some .bool) (hv:s.vars=[])
  (Db: ∀ds:List (DataW H),ds.length=f.params.size->s.fn H ds={results:=[.lit (.bool true)],args:=ds})
  (hW:DataW.Whole enc P f.params.toList s.vars apart W args.toList ds gs before) (Tm:Below W.heap.size W W'):
  s.post enc P f apart fresh handsOn false W args (.bool true) W':=by
 have bc:=hW.lt;have hW0:=hW;obtain⟨p,q,hA,hV,rfl,lN,cl⟩:=hW;rw[hv]at hV;obtain⟨rfl,rfl⟩:=trodVars_none hV;have hlen:=Lb hA;have e1:s.fn H (ds++[])={results:=[.lit (.bool true)],args:=ds}:=by rw[apZ];exact Db ds (by rw[hlen.2];simp)
 have lp: ∀t∈f.params.toList,P.readableRec t=true/\t<P.types.size:=fun t ht=>by
  simpa using apC.1 hp t ht
 refine⟨ds,[],p++[],[],p,[],hW0,?_,?_,?_,Tm.frame _,fun h=>by cases h⟩
 ·
  rw[e1,hr];exact trodAll_mk1 (shut_bool hb true)
 ·
  rw[e1];exact Tj hl lp hA (fun x hx=>Tm.same (bc x (by simp[hx]))) (fun x hx=>by simpa using bc x (by simp[hx]))
 ·
  rw[e1,hv];exact rfl
theorem afq{w:World}{b:Nat}{e:TypeId}{v:Value}(he:P.underlying e=some (.int .i64))(h:Cell.okWide P w .any b e v): ∃n:Int,v= .int .i64 n/\ -2^63<=n/\n<2^63:=by
 cases v with
 |int k n=>
  simp only[Cell.okWide,he,Cell.ok,IntKind.has]at h;obtain⟨rfl,h1,h2⟩:=h;have a1:(-2^63:Int)<=n:=h1;have a2:n<=(2^63 -1:Int):=h2;exact⟨n,rfl,a1,by omega⟩
 |_=>simp[Cell.okWide,he,Cell.ok]at h
theorem afr{w:World}{b:Nat}{t:TypeId}{v:Value}(he:P.underlying t=some (.int .i64))(h:Value.okWide P w .any b t v): ∃n:Int,v= .int .i64 n/\ -2^63<=n/\n<2^63:=by
 unfold Value.okWide at h;rw[he]at h;exact afq he h
theorem Tn{α:Type}{l:List α}(h:l.length=5): ∃a b c d e,l=[a,b,c,d,e]:=match l,h with|[a,b,c,d,e],_=>⟨a,b,c,d,e,rfl⟩
variable {P:Program}
theorem Lc{α:Type}{p:Nat->α->Prop}: ∀{n:Nat},(∀i,i<n-> ∃x,p i x)-> ∃l:List α,l.length=n/\ ∀i x,l[i]? =some x->p i x
 |0,_=>⟨[],rfl,fun i x h=>by simp at h⟩
 |n+1,h=>by
  obtain⟨l,hl,hp⟩:=Lc (n:=n) fun i hi=>h i (by omega);obtain⟨x,hx⟩:=h n (by omega);refine⟨l++[x],by simp[hl],fun i y hy=>?_⟩
  by_cases hi:i<n
  ·
   rw[apw (by omega)]at hy;exact hp i y hy
  have:i=n:=by
   have:=(ad2.1 hy).1;rw[af0,hl]at this;simp at this;omega
  subst this;rw[apx (by omega),hl]at hy;have:x=y:=by simpa using hy
  exact this▸hx
class lI(P:Program)(t:TypeId)(τ:Type)[Deep τ]:Prop where
 sz:P.cellsOf t=Deep.c τ
 h: ∀{H:Type} {enc:TypeId×Value->H} {w:World} {fuel:Nat} {cs:List Value} {d:DataW H} {ps:List MemPlace},DataW.trod enc P w 0 (fun _=>true) true fuel t cs=some (d,ps)->(∀n∈d.weights P t,n<=reachBytes)->
  ∃x:τ,(Deep.cells x).toList=cs/\Deep.dJ (hp w) x
theorem afs{w:World}{b:Nat}{a:Addr}{n:Nat}{cs:List Value}(h:w.cells? b a n=some cs):cs.length=n/\ ∀j,j<n->w.cell? (a.add j)=cs[j]? :=by
 unfold World.cells? at h;split at h
 ·
  have hl:=mapM_some_length h;refine⟨by simpa using hl,fun j hj=>?_⟩;exact mapM_some_get h j j (by simp[hj])
 cases h
theorem Le{H:Type}{e:TypeId}{n:Nat}: ∀{l:List (DataW H)} {d:DataW H},d∈l->n∈d.weights P e->n∈DataW.weightsAll P e l
 |x::l,d,hd,hn=>by
  rw[DataW.weightsAll];rcases apn.1 hd with rfl|hd
  ·
   exact aqc _ hn
  exact List.mem_append_right _ (Le hd hn)
theorem Lf{H:Type}{n:Nat}: ∀{ts:List TypeId} {l:List (DataW H)} {i:Nat} {t:TypeId} {d:DataW H},ts[i]? =some t->l[i]? =some d->n∈d.weights P t->n∈DataW.weightsEach P ts l
 |[],_,i,_,_,h,_,_=>by simp at h
 |_::_,[],i,_,_,_,h,_=>by simp at h
 |t0::ts,d0::l,0,t,d,ht,hd,hn=>by
  obtain rfl:t0=t:=by simpa using ht
  obtain rfl:d0=d:=by simpa using hd
  rw[DataW.weightsEach];exact aqc _ hn
 |t0::ts,d0::l,i+1,t,d,ht,hd,hn=>by
  rw[DataW.weightsEach];exact List.mem_append_right _ (Lf (i:=i) (by simpa using ht) (by simpa using hd) hn)
theorem aft:reachBytes<=140737488355328:=by decide
theorem y5{t e:TypeId}{τ:Type}[Deep τ](hu:P.underlying t=some (.slice e))(cD:Nat.ble 1 (P.bytesOf e)=true)(hc:1<=Deep.c τ)(hs:P.cellsOf t=1)[o:lI P e τ]:lI P t (Sl τ):=⟨hs,fun{H enc w fuel cs d ps} h hw=>by
 have hb:1<=P.bytesOf e:=Nat.le_of_ble_eq_true cD;rcases Go.Deep.open_slice hu h with⟨rfl,_⟩|⟨a,len,cap,m,n,D,Pl,rfl,_,hl,_,hm,hx,D6⟩
 ·
  exact⟨⟨Sv.none,[]⟩,rfl,vd⟩
 simp only[if_true]at hm;subst hm;have hd:d= .slice ((List.range len).map D) ((List.range (m -len)).map fun j=>D (len+j)):=congrArg Prod.fst hx;subst hd;simp only[DataW.weights,hu,apQ,List.length_range]at hw;have vb:m<=140737488355328:=by
  have h1:=hw _ (apu ..);have h2:(len+(m -len))*1<=(len+(m -len))*P.bytesOf e:=Nat.mul_le_mul_left _ hb;have:=aft;omega
 have To: ∀i,i<m-> ∃cs',(cs'.length=Deep.c τ/\ ∀j,j<Deep.c τ->w.cell? ((a.add (i*Deep.c τ)).add j)=cs'[j]?)/\DataW.trod enc P w 0 (fun _=>true) true n e cs'=some (D i,Pl i):=fun i hi=>by
  obtain⟨cs',h1,h2⟩:=D6 i hi;rw[o.sz]at h1;exact⟨cs',afs h1,h2⟩
 have Tp:0<m->a.spot=none:=fun hm=>by
  obtain⟨cs',⟨h1,h2⟩,_⟩:=To 0 hm;have h3:=h2 0 (by omega);have e0:(a.add (0*Deep.c τ)).add 0=a:=by simp[Addr.add]
  rw[e0,apF (by omega)]at h3;unfold World.cell? at h3;split at h3
  ·
   split at h3
   ·
    cases h3
   rename_i hs;simpa using hs
  cases h3
 obtain⟨l,ot,GG⟩:=Lc (p:=fun i (x:τ)=>(∀j,j<Deep.c τ->w.cell? ((a.add (i*Deep.c τ)).add j)=(Deep.cells x)[j]?)/\Deep.dJ (hp w) x) (n:=len) fun i hi=>by
  obtain⟨cs',⟨h1,h2⟩,h3⟩:=To i (by omega);obtain⟨x,p8,jh⟩:=o.h h3 (fun k hk=>hw k (apL _ (aqc _ (Le (aqr.2 ⟨i,aqi.2 hi,rfl⟩) hk))));refine⟨x,fun j hj=>?_,jh⟩;rw[h2 j hj,←p8];simp
 refine⟨⟨⟨false,a.block,a.off,len,m,a.spot⟩,l⟩,rfl,⟨⟨(fun h=>by cases h),hl,by simp only;omega,Tp⟩,by simp[ot],fun i x hi j hj=>?_⟩,fun x hx=>?_⟩
 ·
  have dF:i<len:=by rw[←ot];exact(ad2.1 hi).1
  have h1:=(GG i x hi).1 j hj;have hs:=Tp (by omega);have ea:(a.add (i*Deep.c τ)).add j=⟨a.block,a.off+i*Deep.c τ+j,none⟩:=by
   obtain⟨ab,ao,asp⟩:=a;simp only at hs;subst hs;rw[Addr.gg,Addr.gg]
  rw[ea,qB]at h1;exact h1
 obtain⟨i,hi⟩:=aqj hx;exact(GG i x hi).2⟩
theorem Dc{H:Type}{enc:TypeId×Value->H}{w:World}{fuel:Nat}{t:TypeId}{cs:List Value}{d:DataW H}{ps:List MemPlace}{fs:Array Field}(hu:P.underlying t=some (.struct fs))(h:DataW.trod enc P w 0 (fun _=>true) true fuel t cs=some (d,ps))(hw: ∀n∈d.weights P t,n<=reachBytes)
  {i tf off:Nat} (lO:(fs[i]?).map (fun f=>(f.type,f.offset))=some (tf,off)) (τ:Type) [Deep τ] [o:lI P tf τ]:cs.length=P.cellsOf t/\ ∃x:τ,(Deep.cells x).toList=(cs.drop off).take (Deep.c τ)/\Deep.dJ (hp w) x:=by
 obtain⟨f,hf,e⟩:=aqf.1 lO;obtain⟨rfl,rfl⟩:=Prod.mk.inj e;obtain⟨xs,n,_,hx,hl,hlen,hg⟩:=DataW.trod_struct hu h;have h1:=hg i f hf;have hi:i<xs.length:=by rw[hlen];exact(aqT.1 hf).1
 rw[apF hi,o.sz]at h1;have hd:d= .agg (xs.map (·.1)):=congrArg Prod.fst hx;subst hd;obtain⟨x,p8,jh⟩:=o.h (d:=xs[i].1) (ps:=xs[i].2) h1 (fun k hk=>hw k (by
  simp only[DataW.weights,hu];exact Lf (i:=i) (t:=f.type) (d:=xs[i].1) (by
   have:fs.toList[i]? =some f:=by simpa using hf
   rw[apG,this];rfl) (by simp[hi]) hk))
 exact⟨hl,x,p8,jh⟩
theorem afu{H:Type}{enc:TypeId×Value->H}{w:World}{fuel:Nat}{t e:TypeId}{m:Nat}{cs:List Value}{d:DataW H}{ps:List MemPlace}(hu:P.underlying t=some (.array m e))(h:DataW.trod enc P w 0 (fun _=>true) true fuel t cs=some (d,ps))(hw: ∀n∈d.weights P t,n<=reachBytes)
  (τ:Type) [Deep τ] [o:lI P e τ]:cs.length=P.cellsOf t/\ ∀i,i<m-> ∃x:τ,(Deep.cells x).toList=(cs.drop (i*Deep.c τ)).take (Deep.c τ)/\Deep.dJ (hp w) x:=by
 cases fuel with
 |zero=>simp[DataW.trod]at h
 |succ n=>
  unfold DataW.trod at h;rw[hu]at h;split at h<;>simp_all
  rename_i m' e' heq;obtain⟨hl,xs,fj,hd⟩:=h;obtain⟨rfl,rfl⟩:=heq;intro i hi;have hlen:=mapM_some_length fj;have nZ:i<xs.length:=by simpa[hlen]using hi
  have h1:=mapM_some_get fj i i (by simp[hi]);rw[apF nZ,o.sz]at h1;obtain⟨rfl,-⟩:=hd;exact o.h (d:=xs[i].1) (ps:=xs[i].2) h1 (fun k hk=>hw k (by
   simp only[DataW.weights,hu];exact Le (aqb (ar4 nZ)) hk))
theorem Tq{α:Type}{cs:List α}{a b:Nat}(h:cs.length=a+b):(cs.drop 0).take a++(cs.drop a).take b=cs:=by
 rw[aqB,apy (l:=cs.drop a) (by rw[apr];omega),apH]
theorem afv{α:Type}{cs:List α}{a b c:Nat}(h:cs.length=a+b+c):(cs.drop 0).take a++(cs.drop a).take b++(cs.drop (a+b)).take c=cs:=by
 have h1:=Tq (cs:=cs) (a:=a+b) (b:=c) (by omega)
 conv=>rhs;rw[←h1]
 congr 1;rw[aqB,List.take_add]
def Lg(n:Int):Array Value:= #[.int .i64 n]
instance:bk Lg 1:=⟨fun _=>rfl,fun _=>by simp[Lg,Value.oneCell']⟩
instance:Deep Int:=Deep.flat Lg 1
def Dd(n:UInt16):Array Value:= #[.int .u16 n.toNat]
instance:bk Dd 1:=⟨fun _=>rfl,fun _=>by simp[Dd,Value.oneCell']⟩
instance:Deep UInt16:=Deep.flat Dd 1
theorem afw{t:TypeId}(hu:P.underlying t=some (.int .i64))(hs:P.cellsOf t=1):lI P t Int:=⟨hs,fun h _=>by
 obtain⟨n,rfl,_,_⟩:=DataW.trod_int hu h;exact⟨n,rfl,trivial⟩⟩
theorem afx{t:TypeId}(hu:P.underlying t=some (.int .u8))(hs:P.cellsOf t=1):lI P t UInt8:=⟨hs,fun h _=>by
 obtain⟨n,rfl,_,hw⟩:=DataW.trod_int hu h;simp only[Lit.wf,anc,decide_eq_true_eq]at hw;have h1:(0:Int)<=n:=hw.1;have h2:n<=(255:Int):=hw.2;refine⟨UInt8.ofNat n.toNat,?_,trivial⟩;have:((UInt8.ofNat n.toNat).toNat:Int)=n:=by simp;omega
 show(aP (UInt8.ofNat n.toNat)).toList=_;simp only[aP,this]⟩
theorem afy{t:TypeId}(hu:P.underlying t=some (.int .u16))(hs:P.cellsOf t=1):lI P t UInt16:=⟨hs,fun h _=>by
 obtain⟨n,rfl,_,hw⟩:=DataW.trod_int hu h;simp only[Lit.wf,anc,decide_eq_true_eq]at hw;have h1:(0:Int)<=n:=hw.1;have h2:n<=(65535:Int):=hw.2;refine⟨UInt16.ofNat n.toNat,?_,trivial⟩;have:((UInt16.ofNat n.toNat).toNat:Int)=n:=by simp;omega
 show(Dd (UInt16.ofNat n.toNat)).toList=_;simp only[Dd,this]⟩
theorem afz{H:Type}{enc:TypeId×Value->H}{w:World}{b:Nat}{t e:TypeId}{τ:Type}[Deep τ][o:lI P t (Sl τ)](hu:P.underlying t=some (.slice e)){v:Value}{d:DataW H}{ps:List MemPlace}(hv:Value.okWide P w .any b t v)(h:DataW.Trod enc P w 0 (fun _=>true) true t v d ps)(hw: ∀n∈d.weights P t,n<=reachBytes):
  ∃x:Sl τ,v=x.sv.val/\Deep.dJ (hp w) x:=by
 obtain⟨fuel,h⟩:=h;obtain⟨x,h1,h2⟩:=o.h h hw;refine⟨x,?_,h2⟩;have hc:v.cells= #[v]:=by
  unfold Value.okWide at hv;rw[hu]at hv;unfold Cell.okWide at hv;rw[hu]at hv
  cases v<;>simp_all[Cell.ok,Value.cells]
 rw[hc]at h1;have:[x.sv.val]=[v]:=h1;simpa using this.symm
theorem afA{H:Type}{enc:TypeId×Value->H}{w:World}{b:Nat}{t:TypeId}{τ:Type}[Deep τ][o:lI P t τ](hu: ∃d,P.underlying t=some d/\uW d=true){v:Value}{d:DataW H}{ps:List MemPlace}(hv:Value.okWide P w .any b t v)(h:DataW.Trod enc P w 0 (fun _=>true) true t v d ps)(hw: ∀n∈d.weights P t,n<=reachBytes):
  ∃x:τ,v= .agg (Deep.cells x)/\Deep.dJ (hp w) x:=by
 obtain⟨fuel,h⟩:=h;obtain⟨x,h1,h2⟩:=o.h h hw;refine⟨x,?_,h2⟩;obtain⟨dd,Q7,zX⟩:=hu;have hc: ∃cs,v= .agg cs:=by
  unfold Value.okWide at hv;rw[Q7]at hv
  cases dd<;>simp[uW]at zX
  ·
   obtain⟨cs,rfl,_⟩:=hv;exact⟨cs,rfl⟩
  ·
   obtain⟨cs,rfl,_⟩:=hv;exact⟨cs,rfl⟩
 obtain⟨cs,rfl⟩:=hc;have:(Deep.cells x).toList=cs.toList:=h1;rw[Array.toList_inj.1 this]
structure Arg(H:Type)(enc:TypeId×Value->H)(P:Program)(W:World)(b:Nat)(t:TypeId)(v:Value):Prop where
 ok:Value.okWide P W .any b t v
 trod: ∃d ps,DataW.Trod enc P W 0 (fun _=>true) true t v d ps/\ ∀n∈d.weights P t,n<=reachBytes
theorem Arg.sl{H:Type}{enc:TypeId×Value->H}{W:World}{b:Nat}{t e:TypeId}{v:Value}(h:Arg H enc P W b t v)(hu:P.underlying t=some (.slice e))(τ:Type)[Deep τ][o:lI P t (Sl τ)]: ∃x:Sl τ,v=x.sv.val/\Deep.dJ (hp W) x:=by
 obtain⟨d,ps,h1,h2⟩:=h.trod;exact afz hu h.ok h1 h2
theorem Arg.agg{H:Type}{enc:TypeId×Value->H}{W:World}{b:Nat}{t:TypeId}{v:Value}(h:Arg H enc P W b t v){n:Nat}(hu:dX P t n)(τ:Type)[Deep τ][o:lI P t τ]: ∃x:τ,v= .agg (Deep.cells x)/\Deep.dJ (hp W) x:=by
 obtain⟨d,ps,h1,h2⟩:=h.trod;exact afA hu.row h.ok h1 h2
theorem Ts{H:Type}{enc:TypeId×Value->H}{W:World}{sp:Nat->Bool}{hd:Bool}: ∀{ts:List TypeId} {vs:List Value} {ds:List (DataW H)} {ps:List MemPlace},DataW.TrodAll enc P W 0 sp hd ts vs ds ps-> ∀(j:Nat) (t:TypeId) (v:Value),ts[j]? =some t->vs[j]? =some v->
  ∃d p,ds[j]? =some d/\DataW.Trod enc P W 0 sp hd t v d p
 |[],_,_,_,h,j,_,_,ht,_=>by simp at ht
 |t0::ts,vs,ds,ps,h,j,t,v,ht,hv=>by
  obtain⟨v0,Tk,d0,Tl,a,b,rfl,rfl,rfl,h1,h2⟩:=trodAll_cons h
  cases j with
  |zero=>
   obtain rfl:t0=t:=by simpa using ht
   obtain rfl:v0=v:=by simpa using hv
   exact⟨d0,a,rfl,h1⟩
  |succ j=>exact Ts h2 j t v (by simpa using ht) (by simpa using hv)
variable {P:Program}
theorem afB{H:Type}{enc:TypeId×Value->H}{C:Checked}{os:Os}{f:FuncId}{fn:Func}{s:ChangeSpec}{conds:List PathCond}{apart fresh handsOn:Bool}{tb:TypeId}{laid:List (String×DataW Unit)}
  (own:ownKnob C.prog.godebug=none) (started:os.Started) (afC:C.prog.inits.idxOf? f=none) (afD:C.prog.funcs[f]? =some fn)
  (wit: ∃(w:World) (tape:Tape) (i:Input),w.os=os/\(w.forCall tape i).Shaped C.prog/\i.vars=[]/\Input.okWide C.prog (w.forCall tape i) .any w.heap.size f i/\
   ((s.pre enc C.prog fn conds apart (w.forCall tape i).memory i.args/\laidMetH C.prog laid (w.forCall tape i).memory)/\sizedMet enc C.prog fn (OpenSpec.ofChange s) apart (w.forCall tape i).memory i.args)/\({}:Assume).holds C.prog (lone (Frame.enter C.prog f i.args .normal) [] (w.forCall tape i)))
  (hl:laidOutB C.prog=true) (hp:fn.params.toList.all (fun t=>C.prog.readableRec t&&decide (t<C.prog.types.size))=true) (hr:fn.resultTypes= #[tb]) (hb:C.prog.underlying tb=some .bool)
  (hv:s.vars=[]) (Db: ∀ds:List (DataW H),ds.length=fn.params.size->s.fn H ds={results:=[.lit (.bool true)],args:=ds})
  (afE: ∀(W:World) (base:Nat) (vs:List Value),W.ShapedOpen C.prog->laidMetH C.prog laid W->vs.length=fn.params.size->(∀(j:Nat) t v,fn.params[j]? =some t->vs[j]? =some v->Arg H enc C.prog W base t v)->
   Calls C.prog f vs.toArray W fun e W'=>e= .returned (.bool true)/\Mem W [] W'):
  ReturnsInHanded {} C os f .any (fun w args=>(s.pre enc C.prog fn conds apart w args/\laidMetH C.prog laid w)/\sizedMet enc C.prog fn (OpenSpec.ofChange s) apart w args) (s.post enc C.prog fn apart fresh handsOn false):=by
 refine returnsInHanded_of_calls own started afC wit ?_;intro w tape i _ hsh _ bI aA apc;obtain⟨_,_,_,Tt,afF,_,_,_,_,afG⟩:=bI;have e:Tt=fn:=api (afF.symm.trans afD);subst e;obtain⟨⟨⟨ds,gs,before,hw,hc⟩,hx⟩,hz⟩:=aA;have hW:=DataW.Whole.of_heap (w':=w.forCall tape i) (by rfl) hw;have pF:=hz.weights hw;have hlen:i.args.toList.length=Tt.params.size:=by
  obtain⟨p,q,hA,_⟩:=hW;rw[(Lb hA).1];simp
 have h:=afE (w.forCall tape i) w.heap.size i.args.toList hsh (laidMetH.of_heap (by rfl) hx) hlen (fun j t v h1 h2=>⟨afG j t v h1 (by simpa using h2),by
  obtain⟨p,q,hA,_⟩:=hW;obtain⟨d,pp,hd,ht⟩:=Ts hA j t v (by simpa using h1) h2;refine⟨d,pp,ht,fun n hn=>?_⟩;have hh:=apC.1 pF n (Lf (i:=j) (t:=t) (d:=d) (by rw[apw (by have:=(aqT.1 h1).1;simpa using this)];simpa using h1)
   (by rw[apw (ad2.1 hd).1];exact hd) hn)
  simpa using hh⟩)
 rw[Array.toArray_toList]at h;refine h.mono fun e W' hh=>?_;obtain⟨he,hm⟩:=hh;subst he;exact ChangeSpec.post_blind (afp hl hp hr hb hv Db hW hm.below)
end Go.ay
namespace Go.Proofs.YtkggjjnhnjjokaaGreatDoor
open Go.ay Go.Kb
instance op3:lI Tryz.prog 3 Int:=afw Tryz.underlying3 (by kernel_rfl)
instance op5:lI Tryz.prog 5 UInt8:=afx Tryz.underlying5 (by kernel_rfl)
instance apd:lI Tryz.prog 27 UInt16:=afy Tryz.underlying27 (by kernel_rfl)
instance:bk bR 16:=⟨fD,fun k=>(inferInstance:eU (bR k) 16).one⟩
instance:Deep Key:=Deep.flat bR 16
instance:bk bV 18:=⟨oL,fun k=>(inferInstance:eU (bV k) 18).one⟩
instance:Deep ba:=Deep.flat bV 18
instance ape:lI Tryz.prog 25 Key:=⟨by kernel_rfl,fun h hw=>by
 obtain⟨hl,he⟩:=afu Tryz.underlying25 h hw UInt8;rw[show Tryz.prog.cellsOf 25=16 from by kernel_rfl]at hl;obtain⟨l,ot,GG⟩:=Lc (p:=fun i (x:UInt8)=>_) he;refine⟨n7 fun i=>(l.getD i 0).toNat,?_,trivial⟩;refine ap2 fun i=>?_;rw[Array.getElem?_toList];rcases apo i 16 with hi|hi
 ·
  have hx:l[i]? =some (l.getD i 0):=kL (by omega);have h1:=congrArg (·[0]?) (GG i _ hx).1;simp only[aqy,apU]at h1;rw[if_pos (by decide),show i*Deep.c UInt8+0=i from aqS i]at h1;have h3:some (Value.int .u8 (l.getD i 0).toNat)=_:=h1;have e8:(l.getD i 0).toNat%2^8=(l.getD i 0).toNat:=ap3 (l.getD i 0).toNat_lt;show(bR _)[i]? =_;rw[ki _ _ hi,tu _ _ hi,e8,←h3]
 show(bR _)[i]? =_;rw[Mt _ _ hi,apt (by omega)]⟩
instance apf:lI Tryz.prog 32 ba:=⟨by kernel_rfl,fun h hw=>by
 obtain⟨hl,x0,h0,-⟩:=Dc Tryz.underlying32 h hw (i:=0) (tf:=3) (off:=0) rfl Int;obtain⟨-,x1,h1,-⟩:=Dc Tryz.underlying32 h hw (i:=1) (tf:=3) (off:=1) rfl Int;obtain⟨-,x2,h2,-⟩:=Dc Tryz.underlying32 h hw (i:=2) (tf:=25) (off:=2) rfl Key;refine⟨⟨x0,x1,x2⟩,?_,trivial⟩;refine Eq.trans ?_ (afv (a:=1) (b:=1) (c:=16) (hl.trans (by kernel_rfl)));rw[show(Deep.cells (⟨x0,x1,x2⟩:ba)).toList=(Deep.cells x0).toList++(Deep.cells x1).toList++(Deep.cells x2).toList from by show(bV _).toList=_;unfold bV;rw[Array.toList_append];rfl,h0,h1,h2];rfl⟩
instance apg:lI Tryz.prog 34 Rt:=⟨by kernel_rfl,fun h hw=>by
 obtain⟨hl,x0,h0,-⟩:=Dc Tryz.underlying34 h hw (i:=0) (tf:=32) (off:=0) rfl ba;obtain⟨-,x1,h1,-⟩:=Dc Tryz.underlying34 h hw (i:=1) (tf:=27) (off:=18) rfl UInt16;refine⟨⟨x0,x1⟩,?_,trivial⟩;refine Eq.trans ?_ (Tq (a:=18) (b:=1) (hl.trans (by kernel_rfl)));rw[show(Deep.cells (⟨x0,x1⟩:Rt)).toList=(Deep.cells x0).toList++(Deep.cells x1).toList from by show(aq _).toList=_;unfold aq;rw[Array.toList_append];rfl,h0,h1];rfl⟩
instance aph:lI Tryz.prog 22 (Sl Rt):=y5 Tryz.underlying22 (by kernel_rfl) (by decide) (by kernel_rfl)
end Go.Proofs.YtkggjjnhnjjokaaGreatDoor

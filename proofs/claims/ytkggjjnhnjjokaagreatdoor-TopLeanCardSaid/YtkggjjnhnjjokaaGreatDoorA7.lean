/- Part of a proof. -/
import Derived.Test.YtkggjjnhnjjokaaGreatDoorA6
import Derived.Test.YtkggjjnhnjjokaaGreatDoorA3
import Derived.Test.YtkggjjnhnjjokaaGreatDoorA2
import Derived.Test.YtkggjjnhnjjokaaGreatDoorA4
set_option maxRecDepth 20000
set_option linter.unusedSimpArgs false
set_option linter.unusedVariables false
namespace Go.ax
open Go.Kb
variable {t u:List Ch} {p:aZ} {r:Ch}
def jx(r:Ch):Nat:=yC r.r.p
def An(l:List Ch):Prop:= ∀c∈l,bo c.r.p=true
structure oN(t:List Ch):Prop where
 may: ∀r∈t,bo r.r.p=true
 less:t.Pairwise fun a b=>cH a.r.p b.r.p=true
theorem oN.sub{s t:List Ch}(h:oN t)(hs:s.Sublist t):oN s:=⟨fun r hr=>h.may r (hs.subset hr),h.less.sublist hs⟩
theorem oN.uniq{t:List Ch}(h:oN t){a b:Ch}(ha:a∈t)(hb:b∈t)(e:a.r.p=b.r.p):a=b:=by
 obtain⟨i,hi,rfl⟩:=aul ha;obtain⟨j,hj,rfl⟩:=aul hb;have hp:=atV.1 h.less;have hm:=h.may _ hb;rcases avA i j with h1|h1|h1
 ·
  have:=hp i j hi hj h1;rw[e,mZ hm]at this;cases this
 ·
  subst h1;rfl
 have:=hp j i hj hi h1;rw[e,mZ hm]at this;cases this
theorem oN.ext: ∀{s t:List Ch},oN s->oN t->(∀x,x∈s↔x∈t)->s=t
 |[],[],_,_,_=>rfl
 |[],b::t,_,_,h=>by have:=(h b).2 (as5);cases this
 |a::s,[],_,_,h=>by have:=(h a).1 (as5);cases this
 |a::s,b::t,hs,ht,h=>by
  have ha:=(atn.1 hs.less);have hb:=(atn.1 ht.less);have ma:=hs.may a as5;have mb:=ht.may b as5;have e:a=b:=by
   apply atc;intro hn;rcases as2.1 ((h a).1 as5)with h1|h1
   ·
    exact hn h1
   rcases as2.1 ((h b).2 as5)with h2|h2
   ·
    exact hn h2.symm
   have h3:=hb.1 a h1;have h4:=ha.1 b h2;rw[EC mb ma h3]at h4;cases h4
  subst e;have bM: ∀x,(∀y∈s,cH a.r.p y.r.p=true)->x∈s->x≠a:=fun x hy hx e=>by
   subst e;have:=hy x hx;rw[mZ ma]at this;cases this
  rw[oN.ext (hs.sub (atO _ _)) (ht.sub (atO _ _)) fun x=>⟨fun hx=>?_,fun hx=>?_⟩]
  ·
   rcases as2.1 ((h x).1 (atd _ hx))with h1|h1
   ·
    exact absurd h1 (bM x ha.1 hx)
   exact h1
  rcases as2.1 ((h x).2 (atd _ hx))with h1|h1
  ·
   subst h1;have:=hb.1 x hx;rw[mZ ma]at this;cases this
  exact h1
def NG(ys:List Ch)(i:Nat):Bool:=match ys[i]?,ys[i+1]?with
 |some x,some y=>decide (y.r.p=x.r.p)
 |_,_=>false
def rv(ys:List Ch):Nat->List Ch
 |0=>[]
 |i+1=>if NG ys i=true then rv ys i else rv ys i++(ys[i]?).toList
theorem ahj{ys:List Ch}{i:Nat}{x y:Ch}(hx:ys[i]? =some x)(hy:ys[i+1]? =some y)(h:y.r.p=x.r.p):rv ys (i+1)=rv ys i:=by
 rw[rv,if_pos (by unfold NG;rw[hx,hy];simp[h])]
theorem ahk{ys:List Ch}{i:Nat}{x:Ch}(hx:ys[i]? =some x)(h: ∀y,ys[i+1]? =some y->y.r.p≠x.r.p):rv ys (i+1)=rv ys i++[x]:=by
 rw[rv,if_neg (by
  unfold NG;rw[hx]
  cases hy:ys[i+1]?with
  |none=>simp
  |some y=>simp[h y hy]),hx];rfl
def ry(xs:List Ch):List Ch:=xs.filter fun r=>bo r.r.p
theorem NH(xs:List Ch):An (ry xs):=fun x hx=>by
 have:=(atl.1 hx).2;simpa using this
def Cg(ts:List Ch):List Ch:=rv (nq jx (ry ts)) (nq jx (ry ts)).length
theorem NI{ys:List Ch}{x:Ch}: ∀i,i<=ys.length->(x∈rv ys i↔ ∃j,j<i/\ys[j]? =some x/\ ∀y,ys[j+1]? =some y->y.r.p≠x.r.p)
 |0,_=>by simp[rv]
 |i+1,hi=>by
  obtain⟨e,he⟩:=get_some (xs:=ys) (i:=i) (by omega);have ih:=NI (ys:=ys) (x:=x) i (by omega)
  by_cases hs: ∀y,ys[i+1]? =some y->y.r.p≠e.r.p
  ·
   rw[ahk he hs,as8,ih];constructor
   ·
    rintro(⟨j,h1,h2,h3⟩|h)
    ·
     exact⟨j,by omega,h2,h3⟩
    obtain rfl:x=e:=by simpa using h
    exact⟨i,by omega,he,hs⟩
   rintro⟨j,h1,h2,h3⟩;rcases Nat.eq_or_lt_of_le (Nat.le_of_lt_succ h1)with rfl|h4
   ·
    right;rw[he]at h2;simp[(asY h2).symm]
   exact .inl ⟨j,h4,h2,h3⟩
  obtain⟨y,hy,hyp⟩: ∃y,ys[i+1]? =some y/\y.r.p=e.r.p:=by
   apply atc;intro hc;exact hs fun y hy h=>hc ⟨y,hy,h⟩
  rw[ahj he hy hyp,ih];constructor
  ·
   rintro⟨j,h1,h2,h3⟩;exact⟨j,by omega,h2,h3⟩
  rintro⟨j,h1,h2,h3⟩;rcases Nat.eq_or_lt_of_le (Nat.le_of_lt_succ h1)with rfl|h4
  ·
   rw[he]at h2;obtain rfl:=asY h2;exact absurd hyp (h3 y hy)
  exact⟨j,h4,h2,h3⟩
theorem VF{l:List Ch}(hm:An l)(hp:bo p=true):(l.filter fun r=>decide (r.r.p=p))=l.filter fun r=>decide (jx r=yC p):=by
 refine List.filter_congr fun r hr=>?_;rw[decide_eq_decide];exact⟨fun e=>by rw[jx,e],fun e=>NF (hm r hr) hp e⟩
theorem ahl{l ys:List Ch}(h:pP jx l ys)(hm:An l)(hp:bo p=true):gg ys p=gg l p:=by
 unfold gg;rw[VF (fun x hx=>hm x (h.mem.1 hx)) hp,VF hm hp,h.same]
theorem ahm{ys:List Ch}(hs:yA jx ys)(hm:An ys){x:Ch}:(∃j,j<ys.length/\ys[j]? =some x/\ ∀y,ys[j+1]? =some y->y.r.p≠x.r.p)↔gg ys x.r.p=some x:=by
 constructor
 ·
  rintro⟨j,hj,hx,hn⟩;obtain⟨_,hv⟩:=ad2.1 hx;have e:ys=ys.take j++x::ys.drop (j+1):=by rw[←hv,avE,atz]
  have hz:(ys.drop (j+1)).filter (fun r=>decide (r.r.p=x.r.p))=[]:=by
   rw[auH];intro y hy;obtain⟨i,hi⟩:=aue.1 hy;rw[aug]at hi;obtain⟨z,hz⟩:=get_some (xs:=ys) (i:=j+1) (by have:=(ad2.1 hi).1;omega);have hle: ∀s t a b,s<=t->ys[s]? =some a->ys[t]? =some b->jx a<=jx b:=fun s t a b bq ha hb=>by
    obtain⟨h1,rfl⟩:=ad2.1 ha;obtain⟨h2,rfl⟩:=ad2.1 hb;rcases Nat.eq_or_lt_of_le bq with rfl|h3
    ·
     exact as4 _
    exact(atV.1 hs) s t h1 h2 h3
   have h1:=hle j (j+1) x z (by omega) hx hz;have h2:=hle (j+1) (j+1+i) z y (by omega) hz hi;have h3:=hn z hz;simp only[decide_eq_true_eq];intro h4;have h5:jx y=jx x:=by rw[jx,h4];rfl
   exact h3 (NF (hm z (alM hz)) (hm x (alM hx)) (by show jx z=jx x;omega))
  unfold gg;rw[e,at3,atw,if_pos (by simp),hz];simp
 intro h;obtain⟨A,hA⟩:=List.getLast?_eq_some_iff.1 h;obtain⟨l1,l2,e1,_,e2⟩:=List.filter_eq_append_iff.1 hA;obtain⟨m1,m2,e3,_,_,e4⟩:=List.filter_eq_cons_iff.1 e2;subst e3;have ey:ys=(l1++m1)++x::m2:=by rw[e1,ate]
 refine⟨(l1++m1).length,by rw[ey];simp,by rw[ey];simp,fun y hy=>?_⟩;rw[ey,ata (by omega)]at hy;rw[show(l1++m1).length+1 -(l1++m1).length=0+1 by omega,List.getElem?_cons_succ]at hy;have:=auH.1 e4 y (alM hy);simpa using this
theorem VG(l:List Ch):oN (Cg l)/\ ∀x,x∈Cg l↔gg (ry l) x.r.p=some x:=by
 have bq:=Vv (f:=jx) (ry l);have Ci:An (nq jx (ry l)):=fun x hx=>NH l x (bq.mem.1 hx);have jD: ∀x,x∈Cg l↔gg (nq jx (ry l)) x.r.p=some x:=fun x=>by
  rw[Cg,NI _ (as4 _)];exact ahm bq.nq Ci
 have hG: ∀x,x∈Cg l->x∈nq jx (ry l):=fun x hx=>(Al ((jD x).1 hx)).1;have NJ: ∀i,i<=(nq jx (ry l)).length->(rv (nq jx (ry l)) i).Pairwise fun a b=>cH a.r.p b.r.p=true:=by
  generalize VH:nq jx (ry l)=ys at*;have hle: ∀s t a b,s<=t->ys[s]? =some a->ys[t]? =some b->jx a<=jx b:=fun s t a b yX ha hb=>by
   obtain⟨h1,rfl⟩:=ad2.1 ha;obtain⟨h2,rfl⟩:=ad2.1 hb;rcases Nat.eq_or_lt_of_le yX with rfl|h3
   ·
    exact as4 _
   exact(atV.1 bq.nq) s t h1 h2 h3
  intro i
  induction i with
  |zero=>intro _;exact List.Pairwise.nil
  |succ i ih=>
   intro hi;obtain⟨e,he⟩:=get_some (xs:=ys) (i:=i) (by omega);rw[rv];split
   ·
    exact ih (by omega)
   rw[he];refine auP.2 ⟨ih (by omega),by simp,fun a ha b hb=>?_⟩;obtain rfl:b=e:=by simpa using hb
   obtain⟨j,h1,h2,h3⟩:=(NI i (by omega)).1 ha;obtain⟨z,hz⟩:=get_some (xs:=ys) (i:=j+1) (by omega);have g1:=hle j (j+1) a z (by omega) h2 hz;have g2:=hle (j+1) i z b (by omega) hz he;have ma:=Ci a (alM h2);have mz:=Ci z (alM hz);have g3:jx a≠jx z:=fun e=>h3 z hz (NF mz ma e.symm);rw[ahc ma (Ci b (alM he)),decide_eq_true_eq];show jx a<jx b;omega
 refine⟨⟨fun x hx=>Ci x (hG x hx),NJ _ (as4 _)⟩,fun x=>?_⟩;rw[jD]
 cases hx:bo x.r.p with
 |true=>rw[ahl bq (NH l) hx]
 |false=>
  constructor
  ·
   intro h;have:=Ci x (Al h).1;rw[hx]at this;cases this
  intro h;have:=NH l x (Al h).1;rw[hx]at this;cases this
theorem ahn{l:List Ch}(h:An l):ry l=l:=by
 rw[ry,List.filter_eq_self];exact fun x hx=>h x hx
variable {t u v:List Rt} {p:aZ} {l:List Ch}
def gC(t:List Rt)(p:aZ):Option Rt:=t.find? fun x=>decide (x.p=p)
theorem Ix(ho:Ord t){x:Rt}:gC t p=some x↔x∈t/\x.p=p:=by
 unfold gC;constructor
 ·
  intro h;exact⟨List.mem_of_find?_eq_some h,by simpa using List.find?_some h⟩
 rintro⟨h1,h2⟩
 cases h:t.find? fun x=>decide (x.p=p)with
 |some y=>
  have h3:=auV h;have h4:y.p=p:=by simpa using List.find?_some h
  rw[ho.uniq h1 h3 (h2.trans h4.symm)]
 |none=>
  have:=auZ.1 h x h1;simp[h2]at this
theorem Iy:gC t p=none↔ ∀x∈t,x.p≠p:=by
 unfold gC;rw[auZ];exact⟨fun h x hx=>by simpa using h x hx,fun h x hx=>by simpa using h x hx⟩
theorem VI{x:Rt}(h:gC t p=some x):x.p=p:=by
 unfold gC at h;simpa using List.find?_some h
theorem NK{x:Rt}(h:gC t p=some x):x∈t:=by
 unfold gC at h;exact auV h
theorem aho(h1:Ord t)(h2:Ord u)(h: ∀p,gC t p=gC u p):t=u:=
 Go.Kb.Ord.ext h1 h2 fun x=>by
  have:=h x.p;constructor
  ·
   intro hx;exact NK (this▸(Ix h1).2 ⟨hx,rfl⟩)
  intro hx;exact NK (this.symm▸(Ix h2).2 ⟨hx,rfl⟩)
def rz(l:List Ch):Prop:=l.Pairwise fun a b=>a.r.p≠b.r.p
theorem rz.uniq(h:rz l){a b:Ch}(ha:a∈l)(hb:b∈l)(e:a.r.p=b.r.p):a=b:=by
 obtain⟨i,hi,rfl⟩:=aul ha;obtain⟨j,hj,rfl⟩:=aul hb;have hp:=atV.1 h;rcases avA i j with h1|h1|h1
 ·
  exact absurd e (hp i j hi hj h1)
 ·
  subst h1;rfl
 exact absurd e.symm (hp j i hj hi h1)
theorem oN.dst(h:oN l):rz l:=h.less.imp_of_mem fun{a b} ha _ rD=>Iv (h.may a ha) rD
theorem NL(h:rz l){c:Ch}:gg l p=some c↔c∈l/\c.r.p=p:=by
 constructor
 ·
  exact Al
 rintro⟨h1,h2⟩
 cases hl:gg l p with
 |some d=>
  obtain⟨h3,h4⟩:=Al hl;rw[h.uniq h1 h3 (h2.trans h4.symm)]
 |none=>
  have:(l.filter fun c=>decide (c.r.p=p))=[]:=List.getLast?_eq_none_iff.1 hl;have:=auH.1 this c h1;simp[h2]at this
theorem VJ:gg l p=none↔ ∀c∈l,c.r.p≠p:=by
 constructor
 ·
  intro hl c hc;have:(l.filter fun c=>decide (c.r.p=p))=[]:=List.getLast?_eq_none_iff.1 hl;have:=auH.1 this c hc;simpa using this
 exact ahg
theorem ahp{m:List Ch}(hl:rz l)(hm:rz m)(h: ∀c,c∈l↔c∈m)(p:aZ):gg l p=gg m p:=by
 cases h1:gg m p with
 |some c=>
  obtain⟨h2,h3⟩:=(NL hm).1 h1;exact(NL hl).2 ⟨(h c).2 h2,h3⟩
 |none=>
  rw[VJ]at h1⊢;exact fun c hc=>h1 c ((h c).1 hc)
def aC:Option Ch->Option Rt->Option Rt
 |some c,_=>if c.gone=true then none else some c.r
 |none,o=>o
theorem VK(h:br t=true)(he:dr t l=0)(p:aZ):gC (cj t l) p=aC (gg l p) (gC t p):=by
 have hu:=kz (VD h l);have key: ∀x:Rt,x.p=p->(x∈cj t l↔aC (gg l p) (gC t p)=some x):=fun x hx=>by
  rw[ahi h he,hx]
  cases hl:gg l p with
  |none=>simp only[aC];rw[Ix (kz h)];exact⟨fun h=>⟨h,hx⟩,fun h=>h.1⟩
  |some c=>
   simp only[aC]
   cases c.gone<;>simp[eq_comm]
 cases ha:aC (gg l p) (gC t p)with
 |some x=>
  have hx:x.p=p:=by
   cases hl:gg l p with
   |none=>rw[hl]at ha;exact VI ha
   |some c=>
    rw[hl]at ha;simp only[aC]at ha;split at ha
    ·
     cases ha
    rw[←asY ha];exact(Al hl).2
  exact(Ix hu).2 ⟨(key x hx).2 ha,hx⟩
 |none=>
  rw[Iy];intro x hx e;have:=(key x e).1 hx;rw[ha]at this;cases this
theorem ahq(h:br t=true){c:Ch}(hm:bo c.r.p=true)(hg:c.gone=true->gC t c.r.p≠none)(hl:c.gone=false->t.length<256):dY t c=0:=by
 rw[ag8 h]
 cases hh:gC t c.r.p with
 |some x=>
  have h2:=Tx h (NK hh);rw[VI hh,(ahd h).1]at h2;rw[h2.1,if_neg (by simp),if_neg (by simp)]
 |none=>
  have h2:=VC hm (Iy.1 hh);have u5:c.gone=false:=by
   cases u5:c.gone with
   |false=>rfl
   |true=>exact absurd hh (hg u5)
  have:=hl u5;rw[h2.1,if_neg (by simp[u5]),if_neg (by omega)]
theorem ahr(h:br t=true)(c:Ch):(ib t c).length<=t.length+(if c.gone=true then 0 else 1):=by
 unfold ib;split
 ·
  split
  ·
   simp only[af0,as6,as9];omega
  split
  ·
   simp
  have:=LZ t c.r.p;simp only[af0,as6,asZ,as9];omega
 omega
theorem ahs(h:br t=true){c:Ch}(he:dY t c=0)(p:aZ):gC (ib t c) p=if c.r.p=p then(if c.gone=true then none else some c.r)else gC t p:=by
 obtain⟨e1,e2⟩:=ahf h he;have:=VK h e1 p;rw[e2]at this;rw[this];unfold gg
 by_cases hp:c.r.p=p
 ·
  rw[if_pos hp];simp[hp,aC]
 rw[if_neg hp];simp[hp,aC]
def rA(l:List Ch):Nat:=l.countP fun c=> !c.gone
theorem ED(c:Ch)(l:List Ch):rA (c::l)=rA l+(if c.gone=true then 0 else 1):=by
 unfold rA;rw[List.countP_cons]
 cases c.gone<;>simp
theorem VL: ∀{l:List Ch} {t:List Rt},br t=true->rz l->(∀c∈l,bo c.r.p=true/\(c.gone=true->gC t c.r.p≠none))->t.length+rA l<=256->(iI t l).2=0
 |[],_,_,_,_,_=>rfl
 |c::l,t,h,hd,hc,hn=>by
  rw[ED]at hn;obtain⟨h1,h2⟩:=atn.1 hd;obtain⟨h3,h4⟩:=hc c as5;have he:dY t c=0:=ahq h h3 h4 fun hg=>by rw[hg]at hn;simp at hn;omega
  rw[iI,if_pos he];have qL:=ahr h c;refine VL (Iw h c) h2 (fun d BY=>?_) (by omega);obtain⟨h5,h6⟩:=hc d (atd _ BY);refine⟨h5,fun hg=>?_⟩;rw[ahs h he,if_neg (h1 d BY)];exact h6 hg
theorem VM(h:br t=true)(hd:rz l)(hc: ∀c∈l,bo c.r.p=true/\(c.gone=true->gC t c.r.p≠none))(hn:t.length+rA l<=256):dr t l=0:=by
 rw[dr,if_pos h];exact VL h hd hc hn
theorem aht(a b:List Ch):rA (a++b)=rA a+rA b:=by unfold rA;exact List.countP_append
def bU:List Rt->List Rt->List Ch
 |[],[]=>[]
 |a::t,[]=>⟨a,true⟩::bU t []
 |[],b::u=>⟨b,false⟩::bU [] u
 |a::t,b::u=>if cH a.p b.p=true then⟨a,true⟩::bU t (b::u)else if a.p=b.p then(if a.bV≠b.bV then[⟨b,false⟩]else[])++bU t u else⟨b,false⟩::bU (a::t) u
termination_by t u=>t.length+u.length
theorem EE:bU [] []=[]:=by rw[bU]
theorem ahu{a:Rt}(h:u=[]\/ ∃b u',u=b::u'/\cH a.p b.p=true):bU (a::t) u=⟨a,true⟩::bU t u:=by
 rcases h with rfl|⟨b,u',rfl,h⟩
 ·
  rw[bU]
 rw[bU,if_pos h]
theorem ahv{b:Rt}(h:t=[]\/ ∃a t',t=a::t'/\cH a.p b.p=false/\a.p≠b.p):bU t (b::u)=⟨b,false⟩::bU t u:=by
 rcases h with rfl|⟨a,t',rfl,h,h'⟩
 ·
  rw[bU]
 rw[bU,if_neg (by rw[h];simp),if_neg h']
theorem Cj: ∀{t u:List Rt} {c:Ch},c∈bU t u->(c.gone=true/\c.r∈t)\/(c.gone=false/\c.r∈u):=by
 intro t u
 induction t,u using bU.induct with
 |case1=>intro c hc;rw[EE]at hc;cases hc
 |case2 a t ih=>
  intro c hc;rw[bU]at hc;rcases as2.1 hc with rfl|hc
  ·
   exact .inl ⟨rfl,as5⟩
  rcases ih hc with⟨h1,h2⟩|⟨h1,h2⟩
  ·
   exact .inl ⟨h1,atd _ h2⟩
  exact .inr ⟨h1,h2⟩
 |case3 b u ih=>
  intro c hc;rw[bU]at hc;rcases as2.1 hc with rfl|hc
  ·
   exact .inr ⟨rfl,as5⟩
  rcases ih hc with⟨h1,h2⟩|⟨h1,h2⟩
  ·
   exact .inl ⟨h1,h2⟩
  exact .inr ⟨h1,atd _ h2⟩
 |case4 a t b u h ih=>
  intro c hc;rw[bU,if_pos h]at hc;rcases as2.1 hc with rfl|hc
  ·
   exact .inl ⟨rfl,as5⟩
  rcases ih hc with⟨h1,h2⟩|⟨h1,h2⟩
  ·
   exact .inl ⟨h1,atd _ h2⟩
  exact .inr ⟨h1,h2⟩
 |case5 a t b u h h' ih=>
  intro c hc;rw[bU,if_neg h,if_pos h']at hc;rcases as8.1 hc with hc|hc
  ·
   split at hc
   ·
    obtain rfl:c=⟨b,false⟩:=by simpa using hc
    exact .inr ⟨rfl,as5⟩
   cases hc
  rcases ih hc with⟨h1,h2⟩|⟨h1,h2⟩
  ·
   exact .inl ⟨h1,atd _ h2⟩
  exact .inr ⟨h1,atd _ h2⟩
 |case6 a t b u h h' ih=>
  intro c hc;rw[bU,if_neg h,if_neg h']at hc;rcases as2.1 hc with rfl|hc
  ·
   exact .inr ⟨rfl,as5⟩
  rcases ih hc with⟨h1,h2⟩|⟨h1,h2⟩
  ·
   exact .inl ⟨h1,h2⟩
  exact .inr ⟨h1,atd _ h2⟩
theorem NM: ∀{t u:List Rt},(bU t u).length<=t.length+u.length/\rA (bU t u)<=u.length:=by
 intro t u
 induction t,u using bU.induct with
 |case1=>rw[EE];exact⟨Nat.le_refl _,as4 _⟩
 |case2 a t ih=>rw[bU,ED];simp only[asZ,if_true]at ih⊢;omega
 |case3 b u ih=>rw[bU,ED];simp only[asZ,atD,if_false]at ih⊢;omega
 |case4 a t b u h ih=>rw[bU,if_pos h,ED];simp only[asZ,if_true]at ih⊢;omega
 |case5 a t b u h h' ih=>
  rw[bU,if_neg h,if_pos h',aht,af0];have:(if a.bV≠b.bV then[(⟨b,false⟩:Ch)]else[]).length<=1/\rA (if a.bV≠b.bV then[(⟨b,false⟩:Ch)]else[])<=1:=by
   split
   ·
    exact⟨Nat.le_refl _,as4 _⟩
   exact⟨Nat.zero_le _,atv _⟩
  simp only[asZ]at ih⊢;omega
 |case6 a t b u h h' ih=>rw[bU,if_neg h,if_neg h',ED];simp only[asZ,atD,if_false]at ih⊢;omega
theorem oO{a:Rt}(h:Ord (a::t)):Ord t/\ ∀x∈t,cH a.p x.p=true:=⟨h.sub (atO _ _),(atn.1 h.less).1⟩
theorem Ck: ∀{t u:List Rt},Ord t->Ord u->oN (bU t u):=by
 intro t u;have cons: ∀{c:Ch} {m:List Ch},bo c.r.p=true->oN m->(∀d∈m,cH c.r.p d.r.p=true)->oN (c::m):=fun hc hm hl=>
  ⟨fun x hx=>by
   rcases as2.1 hx with rfl|hx
   ·
    exact hc
   exact hm.may x hx,atn.2 ⟨hl,hm.less⟩⟩
 induction t,u using bU.induct with
 |case1=>intro _ _;rw[EE];exact⟨fun _ h=>(by cases h),List.Pairwise.nil⟩
 |case2 a t ih=>
  intro h1 h2;obtain⟨g1,g2⟩:=oO h1;rw[bU];refine cons (h1.may a as5) (ih g1 h2) fun d hd=>?_;rcases Cj hd with⟨_,h⟩|⟨_,h⟩
  ·
   exact g2 _ h
  cases h
 |case3 b u ih=>
  intro h1 h2;obtain⟨g1,g2⟩:=oO h2;rw[bU];refine cons (h2.may b as5) (ih h1 g1) fun d hd=>?_;rcases Cj hd with⟨_,h⟩|⟨_,h⟩
  ·
   cases h
  exact g2 _ h
 |case4 a t b u h ih=>
  intro h1 h2;obtain⟨g1,g2⟩:=oO h1;obtain⟨_,k2⟩:=oO h2;have ma:=h1.may a as5;have mb:=h2.may b as5;rw[bU,if_pos h];refine cons ma (ih g1 h2) fun d hd=>?_;rcases Cj hd with⟨_,h3⟩|⟨_,h3⟩
  ·
   exact g2 _ h3
  rcases as2.1 h3 with h4|h4
  ·
   rw[h4];exact h
  exact Cf ma mb (h2.may _ h3) h (k2 _ h4)
 |case5 a t b u h h' ih=>
  intro h1 h2;obtain⟨g1,g2⟩:=oO h1;obtain⟨k1,k2⟩:=oO h2;rw[bU,if_neg h,if_pos h'];split
  ·
   rw[avf];refine cons (h2.may b as5) (ih g1 k1) fun d hd=>?_;rcases Cj hd with⟨_,h3⟩|⟨_,h3⟩
   ·
    show cH b.p _=true;rw[←h'];exact g2 _ h3
   exact k2 _ h3
  rw[atQ];exact ih g1 k1
 |case6 a t b u h h' ih=>
  intro h1 h2;obtain⟨_,g2⟩:=oO h1;obtain⟨k1,k2⟩:=oO h2;have ma:=h1.may a as5;have mb:=h2.may b as5;rw[bU,if_neg h,if_neg h'];have va:cH b.p a.p=true:=EB ma mb (by simpa using h) h';refine cons mb (ih h1 k1) fun d hd=>?_;rcases Cj hd with⟨_,h3⟩|⟨_,h3⟩
  ·
   rcases as2.1 h3 with h4|h4
   ·
    rw[h4];exact va
   exact Cf mb ma (h1.may _ h3) va (g2 _ h4)
  exact k2 _ h3
def dC:Option Rt->Option Rt->Option Ch
 |none,none=>none
 |some x,none=>some ⟨x,true⟩
 |none,some y=>some ⟨y,false⟩
 |some x,some y=>if x=y then none else some ⟨y,false⟩
theorem Cl(a:Rt)(t:List Rt):gC (a::t) p=if a.p=p then some a else gC t p:=by
 unfold gC;rw[List.find?_cons]
 by_cases h:a.p=p<;>simp[h]
theorem VN:gC [] p=none:=rfl
theorem rY{a:aZ}(ha:bo a=true)(h: ∀x∈t,cH a x.p=true):gC t a=none:=Iy.2 fun x hx e=>by
 have:=h x hx;rw[e,mZ ha]at this;cases this
theorem NO: ∀{t u:List Rt},Ord t->Ord u-> ∀p,gg (bU t u) p=dC (gC t p) (gC u p):=by
 intro t u
 induction t,u using bU.induct with
 |case1=>intro _ _ p;rw[EE];rfl
 |case2 a t ih=>
  intro h1 h2 p;obtain⟨g1,g2⟩:=oO h1;rw[bU,Am,ih g1 h2,Cl,VN]
  by_cases hp:a.p=p
  ·
   subst hp;rw[if_pos rfl,if_pos rfl,rY (h1.may a as5) g2];rfl
  rw[if_neg hp,if_neg hp,Option.or_none]
 |case3 b u ih=>
  intro h1 h2 p;obtain⟨g1,g2⟩:=oO h2;rw[bU,Am,ih h1 g1,Cl,VN]
  by_cases hp:b.p=p
  ·
   subst hp;rw[if_pos rfl,if_pos rfl,rY (h2.may b as5) g2];rfl
  rw[if_neg hp,if_neg hp,Option.or_none]
 |case4 a t b u h ih=>
  intro h1 h2 p;obtain⟨g1,g2⟩:=oO h1;obtain⟨_,k2⟩:=oO h2;have ma:=h1.may a as5;have mb:=h2.may b as5;rw[bU,if_pos h,Am,ih g1 h2,Cl a]
  by_cases hp:a.p=p
  ·
   subst hp;have hz:gC (b::u) a.p=none:=rY ma fun x hx=>by
    rcases as2.1 hx with rfl|qT
    ·
     exact h
    exact Cf ma mb (h2.may _ hx) h (k2 _ qT)
   rw[if_pos rfl,if_pos rfl,rY ma g2,hz];rfl
  rw[if_neg hp,if_neg hp,Option.or_none]
 |case5 a t b u h h' ih=>
  intro h1 h2 p;obtain⟨g1,g2⟩:=oO h1;obtain⟨k1,k2⟩:=oO h2;have ma:=h1.may a as5;have mb:=h2.may b as5;rw[bU,if_neg h,if_pos h',Cl,Cl]
  by_cases hp:b.p=p
  ·
   subst hp;rw[if_pos h',if_pos rfl];have e1:=ih g1 k1 b.p;rw[rY mb k2,rY mb (by rw[←h'];exact g2)]at e1
   by_cases hh:a.bV=b.bV
   ·
    rw[if_neg (by simpa using hh),atQ,e1];have:a=b:=by obtain⟨ap,ah⟩:=a;obtain⟨bp,bh⟩:=b;simp only at h' hh;rw[h',hh]
    simp[dC,this]
   rw[if_pos hh,avf,Am,e1];have:a≠b:=fun e=>hh (by rw[e]);simp[dC,this]
  have ha: ¬a.p=p:=by rw[h'];exact hp
  rw[if_neg ha,if_neg hp,←ih g1 k1 p]
  by_cases hh:a.bV=b.bV
  ·
   rw[if_neg (by simpa using hh),atQ]
  rw[if_pos hh,avf,Am,if_neg hp,Option.or_none]
 |case6 a t b u h h' ih=>
  intro h1 h2 p;obtain⟨_,g2⟩:=oO h1;obtain⟨k1,k2⟩:=oO h2;have ma:=h1.may a as5;have mb:=h2.may b as5;have va:cH b.p a.p=true:=EB ma mb (by simpa using h) h';rw[bU,if_neg h,if_neg h',Am,ih h1 k1,Cl b]
  by_cases hp:b.p=p
  ·
   subst hp;have hz:gC (a::t) b.p=none:=rY mb fun x hx=>by
    rcases as2.1 hx with rfl|qT
    ·
     exact va
    exact Cf mb ma (h1.may _ hx) va (g2 _ qT)
   rw[if_pos rfl,if_pos rfl,rY mb k2,hz];rfl
  rw[if_neg hp,if_neg hp,Option.or_none]
theorem ahw{x y:Option Rt}:aC (dC x y) x=y:=by
 cases x<;>cases y
 ·
  rfl
 ·
  rfl
 ·
  rfl
 simp only[dC];split
 ·
  rename_i h;rw[h];rfl
 rfl
theorem VO(h1:br t=true)(h2:Ord u){m:List Ch}(hd:rz m)(hm: ∀c,c∈m↔c∈bU t u)(he:dr t m=0):cj t m=u:=by
 refine aho (kz (VD h1 m)) h2 fun p=>?_;rw[VK h1 he,ahp hd (Ck (kz h1) h2).dst hm,NO (kz h1) h2,ahw]
theorem VP(h1:Ord t)(h2:Ord u){c:Ch}(hc:c∈bU t u):bo c.r.p=true/\(c.gone=true->gC t c.r.p≠none):=by
 refine⟨(Ck h1 h2).may c hc,fun hg hn=>?_⟩;rcases Cj hc with⟨_,h⟩|⟨h,_⟩
 ·
  exact Iy.1 hn c.r h rfl
 rw[hg]at h;cases h
def rB(p q:aZ):Int:=if cH p q=true then -1 else if cH q p=true then 1 else 0
theorem ahx{p q:aZ}:rB p q<0↔cH p q=true:=by
 unfold rB;split
 ·
  rename_i h;simp[h]
 rename_i h;split<;>simp[h]
theorem ahy{p q:aZ}(hp:bo p=true)(hq:bo q=true):rB p q=0↔p=q:=by
 unfold rB;constructor
 ·
  intro h;split at h
  ·
   omega
  split at h
  ·
   omega
  rename_i h1 h2;apply atc;intro hn;exact h2 (EB hp hq (by simpa using h1) hn)
 rintro rfl;rw[mZ hp];rfl
theorem ahz{p q:aZ}(hp:bo p=true)(hq:bo q=true):0<rB p q↔cH q p=true:=by
 unfold rB;split
 ·
  rename_i h;rw[EC hp hq h];simp
 split
 ·
  rename_i h;simp[h]
 rename_i h;simp[h]
end Go.ax
namespace Go.Proofs.YtkggjjnhnjjokaaGreatDoor
open Go.ax Go.Kb
variable {w0:World}{L:List aj}
instance asB{p:aZ}{q:aZ}:cx Tryz.prog 196 w0 L [.agg (cz p), .agg (cz q)] (.int .i64 (rB p q)) (True):=⟨fun aF w hw=>by
 refine cQ Tryz.func196 rfl Tryz.ntmps196 rfl ?_;refine Gc ?_;refine bN rfl fun b2=>bN rfl fun b3=>dv ?_;refine Gb (fun h0=>?_) fun h0=>?_
 ·
  refine al ?_;refine Gr fun w1 hw=>?_;exact Gf ((by rw[rB,if_pos h0])) hw
 refine ba ?_;refine Gb (fun h1=>?_) fun h1=>?_
 ·
  refine al ?_;refine Gr fun w1 hw=>?_;exact Gf ((by rw[rB,if_neg (by rw[h0];simp),if_pos h1])) hw
 refine al ?_;refine Gr fun w1 hw=>?_;exact⟨congrArg (fun b=>Ending.returned (Value.int .i64 b)) ((by rw[rB,if_neg (by rw[h0];simp),if_neg (by rw[h1];simp)])),ai.mem hw⟩⟩
end Go.Proofs.YtkggjjnhnjjokaaGreatDoor
namespace Go.ax
open Go.Kb
variable {t u v ts us ys zs a b:List Rt} {p:aZ} {l ls:List Ch} {i k:Nat}
def rC(t u:List Rt):Int:=if(br t&&br u)=true then 0 else 1
def pQ(t u:List Rt):List Ch:=if rC t u=0 then bU t u else[]
def fB(l:List Ch):List Ch:=l.filter fun c=>c.gone
def NP(l:List Ch):List Ch:=l.filter fun c=> !c.gone
theorem rz.perm{m:List Ch}(h:rz l)(hp:m.Perm l):rz m:=(hp.pairwise_iff fun h=>fun e=>h e.symm).2 h
theorem ahA(l:List Ch):(fB l++NP l).Perm l:=List.filter_append_perm _ _
theorem ahB{m:List Ch}(h:m.Perm l):rA m=rA l:=h.countP_eq _
theorem makes(h1:br t=true)(h2:br u=true)(hl:t.length<=100)(hu:u.length<=100):dr t (fB (bU t u)++NP (bU t u))=0/\cj t (fB (bU t u)++NP (bU t u))=u:=by
 have o1:=kz h1;have o2:=kz h2;have hp:=ahA (bU t u);have hd:=(Ck o1 o2).dst.perm hp;have hn:=ahB hp;have wo:=(NM (t:=t) (u:=u)).2;have he:=VM h1 hd (fun c hc=>VP o1 o2 (hp.mem_iff.1 hc)) (by omega);exact⟨he,VO h1 o2 hd (fun c=>hp.mem_iff) he⟩
theorem ahC(l m:List Ch)(p:aZ):gg (l++m) p=(gg m p).or (gg l p):=by
 unfold gg;rw[at3,List.getLast?_append]
def VQ(t u v:List Rt):List Ch:=Cg (bU t u++bU u v)
theorem ahD(h1:Ord t)(h2:Ord u)(h3:Ord v):An (bU t u++bU u v):=fun c hc=>by
 rcases as8.1 hc with h|h
 ·
  exact(Ck h1 h2).may c h
 exact(Ck h2 h3).may c h
theorem Vy(h1:Ord t)(h2:Ord u)(h3:Ord v)(p:aZ):gg (VQ t u v) p=(dC (gC u p) (gC v p)).or (dC (gC t p) (gC u p)):=by
 have hm:=ahD h1 h2 h3;obtain⟨k1,k2⟩:=VG (bU t u++bU u v);rw[ahn hm]at k2;rw[←NO h1 h2,←NO h2 h3,←ahC]
 cases h:gg (bU t u++bU u v) p with
 |some c=>
  have hp:=(Al h).2;exact(NL k1.dst).2 ⟨(k2 c).2 (by rw[hp];exact h),hp⟩
 |none=>
  rw[VJ];intro c hc e;have:=(k2 c).1 hc;rw[e,h]at this;cases this
theorem Vx(t u v:List Rt):oN (VQ t u v):=(VG _).1
open Go.RowKit
variable {t u v ts us y:List Rt} {p:aZ} {l ls:List Ch} {i k:Nat} {h:Int}
def sF(y v:List Rt)(h:Int):Prop:=(h<0/\ ∃a,y[0]? =some a/\ ∀b,v[0]? =some b->cH a.p b.p=true)\/(0<h/\ ∃b,v[0]? =some b/\ ∀a,y[0]? =some a->cH a.p b.p=false/\a.p≠b.p)\/(h=0/\ ∃a b,y[0]? =some a/\v[0]? =some b/\cH a.p b.p=false/\a.p=b.p)
theorem ahE(hv:v.length=0)(hy:0<y.length):sF y v (-1):=by
 obtain⟨a,ha⟩:=get_some hy;refine .inl ⟨by decide,a,ha,fun b hb=>?_⟩;have:=(ad2.1 hb).1;omega
theorem ahF(hv:0<v.length)(hy:y.length=0):sF y v 1:=by
 obtain⟨b,hb⟩:=get_some hv;refine .inr (.inl ⟨by decide,b,hb,fun a ha=>?_⟩);have:=(ad2.1 ha).1;omega
theorem ahG{a b:Rt}(hy:yD y)(hv:yD v)(ha:y[0]? =some a)(hb:v[0]? =some b):sF y v (rB a.p b.p):=by
 have ma:=hy a (alM ha);have mb:=hv b (alM hb);rcases Int.lt_trichotomy (rB a.p b.p) 0 with h|h|h
 ·
  exact .inl ⟨h,a,ha,fun c hc=>by rw[hb]at hc;rw[←asY hc];exact ahx.1 h⟩
 ·
  have e:=(ahy ma mb).1 h;exact .inr (.inr ⟨h,a,b,ha,hb,by rw[e];exact mZ mb,e⟩)
 have e:=(ahz ma mb).1 h;exact .inr (.inl ⟨h,b,hb,fun c hc=>by
  rw[ha]at hc;rw[←asY hc];exact⟨EC mb ma e,fun e2=>by rw[e2,mZ mb]at e;cases e⟩⟩)
theorem sF.lens(h1:sF y v h):(0<h\/0<y.length)/\(h<0\/0<v.length):=by
 rcases h1 with⟨h1,a,ha,_⟩|⟨h1,b,hb,_⟩|⟨h1,a,b,ha,hb,_⟩
 ·
  exact⟨.inr (ad2.1 ha).1, .inl h1⟩
 ·
  exact⟨.inl h1, .inr (ad2.1 hb).1⟩
 exact⟨.inr (ad2.1 ha).1, .inr (ad2.1 hb).1⟩
theorem Cm{α:Type}{l:List α}{a:α}(h:l[0]? =some a):l=a::l.drop 1:=by
 cases l with
 |nil=>cases h
 |cons b l=>simp at h;rw[h];rfl
theorem sF.gone{a:Rt}(h1:sF y v h)(hn:h<0)(ha:y[0]? =some a):bU y v=[⟨a,true⟩]++bU (if h<=0 then y.drop 1 else y) (if 0<=h then v.drop 1 else v):=by
 rw[if_pos (by omega),if_neg (by omega)];rcases h1 with⟨_,a',vu,hb⟩|⟨h2,_⟩|⟨h2,_⟩
 ·
  rw[ha]at vu;obtain rfl:=asY vu
  conv=>lhs;rw[Cm ha]
  rw[avf];refine ahu ?_
  cases v with
  |nil=>exact .inl rfl
  |cons b v=>exact .inr ⟨b,v,rfl,hb b rfl⟩
 ·
  omega
 omega
theorem sF.new{b:Rt}(h1:sF y v h)(hn: ¬h<0)(hb:v[0]? =some b)(hc:0<h\/(y.getD 0 cI).bV≠(v.getD 0 cI).bV):bU y v=[⟨b,false⟩]++bU (if h<=0 then y.drop 1 else y) (if 0<=h then v.drop 1 else v):=by
 have nP:v.getD 0 cI=b:=by simp[List.getD,hb]
 rcases h1 with⟨h2,_⟩|⟨h2,b',cN,ha⟩|⟨h2,a,b',ha,cN,h3,h4⟩
 ·
  omega
 ·
  rw[if_neg (by omega),if_pos (by omega)];rw[hb]at cN;obtain rfl:=asY cN
  conv=>lhs;rw[Cm hb]
  rw[avf];refine ahv ?_
  cases y with
  |nil=>exact .inl rfl
  |cons a y=>exact .inr ⟨a,y,rfl,ha a rfl⟩
 rw[if_pos (by omega),if_pos (by omega)];rw[hb]at cN;obtain rfl:=asY cN;have yS:y.getD 0 cI=a:=by simp[List.getD,ha]
 rw[yS,nP]at hc
 conv=>lhs;rw[Cm ha,Cm hb]
 rw[bU,if_neg (by rw[h3];simp),if_pos h4,if_pos (hc.resolve_left (by omega))]
theorem sF.none(h1:sF y v h)(hn: ¬h<0)(hc: ¬0<h/\(y.getD 0 cI).bV=(v.getD 0 cI).bV):bU y v=bU (if h<=0 then y.drop 1 else y) (if 0<=h then v.drop 1 else v):=by
 rcases h1 with⟨h2,_⟩|⟨h2,_⟩|⟨h2,a,b,ha,hb,h3,h4⟩
 ·
  omega
 ·
  omega
 rw[if_pos (by omega),if_pos (by omega)];have yS:y.getD 0 cI=a:=by simp[List.getD,ha]
 have nP:v.getD 0 cI=b:=by simp[List.getD,hb]
 rw[yS,nP]at hc
 conv=>lhs;rw[Cm ha,Cm hb]
 rw[bU,if_neg (by rw[h3];simp),if_pos h4,if_neg (by rw[hc.2];simp)];rfl
theorem Iz{H:Nat->Option Obj}{x:Sv}(hx:dJ au 19 H x y)(hl:0<y.length):dJ au 19 H (x.sub 19 1 y.length) (y.drop 1):=by
 have:=hx.sub (lo:=1) (hi:=y.length) hl (as4 _);rwa [ath (by rw[as9];omega)]at this
theorem IA(h:yD y):yD (y.drop 1):=fun x hx=>h x (avQ hx)
variable {t a b:List Rt} {p:aZ}
end Go.ax
namespace Go.Proofs.YtkggjjnhnjjokaaGreatDoor
open Go.ax Go.Kb
instance asC(r:Rt):pY Tryz.prog 47 [(0, .agg (au r)),(1, .bool true)] (.agg (fU ⟨r,true⟩)):=⟨fun w=>by kernel_rfl⟩
variable {w0:World}{L:List aj}
instance asD{t:Sv}{ts:List Rt}{u:Sv}{us:List Rt}[ht:cP w0 L au 19 t ts][hu:cP w0 L au 19 u us]:bQ Tryz.prog 121 w0 L [t.val,u.val] (Sv) (fun zz=>zz.val) (fun zz=>own fU 20 zz (bU ts us)::L) (fun zz=>True) (yD ts/\yD us/\ts.length<=1000/\us.length<=1000):=⟨fun aF w hw=>Gk (fun zz=>[own fU 20 zz (bU ts us)]) hw (by
 have ht:=ht.h w hw;have hu:=hu.h w hw;have oH:Gv w t au 19 ts:=⟨ht⟩;have ghu:Gv w u au 19 us:=⟨hu⟩;obtain⟨gL,gX,kO,Ew⟩:=aF;refine cQ Tryz.func121 rfl Tryz.ntmps121 rfl ?_;refine aN ?_;refine bR (X:=Sv×List Rt×Sv×List Rt×Sv×List Ch) (fun zz=>[(0,zz.1.val),(1,zz.2.2.1.val),(5,zz.2.2.2.2.1.val)]) (fun zz=>[own fU 20 zz.2.2.2.2.1 zz.2.2.2.2.2]) (fun zz=>dJ au 19 (hp w) zz.1 zz.2.1/\dJ au 19 (hp w) zz.2.2.1 zz.2.2.2.1/\bU ts us=zz.2.2.2.2.2++bU zz.2.1 zz.2.2.2.1/\zz.2.2.2.2.2.length+zz.2.1.length+zz.2.2.2.1.length<=ts.length+us.length/\yD zz.2.1/\yD zz.2.2.2.1) (fun zz=>zz.2.1.length+zz.2.2.2.1.length) (t,ts,u,us,Sv.none,[]) ⟨ht,hu,rfl,by simp,gL,gX⟩ sb (fun w hw=>Mem.dA fU 20 (ai.mem hw)) ?_;rintro⟨x,y,z,v,o,q⟩ ⟨bg,aH,bA,dj,tJ,u9⟩;dsimp only;simp only at bg aH bA dj tJ u9;have gx:Gv w x au 19 y:=⟨bg⟩;have gz:Gv w z au 19 v:=⟨aH⟩;refine s8 ?_;refine Gb (fun h0=>?_) fun h0=>?_
 ·
  refine aA ?_;refine ij ?_;refine AF (X:=Int) (fun zz=>[(6, .int .i64 zz),(0,x.val),(1,z.val),(5,o.val)]) (fun zz=>[own fU 20 o q]) (fun zz=>sF y v zz) ?_ ?_
  ·
   refine ba ?_;refine Gb (fun h1=>?_) fun h1=>?_
   ·
    refine Gi ?_;refine Gs ?_;refine ij ?_;exact pZ (-1) (ahE oF oF) sb (fun w hw=>ai.mem hw)
   refine ba ?_;refine Gb (fun h2=>?_) fun h2=>?_
   ·
    refine Gi ?_;refine Gs ?_;refine ij ?_;exact pZ 1 (ahF oF oF) sb (fun w hw=>ai.mem hw)
   refine gm oK oK (Gq ?_);obtain⟨e16,VR⟩:=get_some (xs:=y) (i:=0) oM;refine bE (aX rfl rfl 0 rfl oM) (bE (aL rfl rfl) (bE (FA (j:=0) rfl 0 VR rfl (by decide)) (Gq ?_)));obtain⟨Es,VS⟩:=get_some (xs:=v) (i:=0) oM;refine bE (aX rfl rfl 0 rfl oM) (bE (aL rfl rfl) (bE (FA (j:=0) rfl 0 VS rfl (by decide)) (qI (cl rfl trivial) (Gq ?_))));refine ij ?_;exact pZ (rB e16.p Es.p) (ahG tJ u9 VR VS) sb (fun w hw=>ai.mem hw)
  rintro h hN;have hz:=hN.lens;have IB:=hz.1;have hz2:=hz.2;refine AF (X:=Sv×List Ch) (fun zz=>[(5,zz.1.val),(0,x.val),(1,z.val),(6, .int .i64 h)]) (fun zz=>[own fU 20 zz.1 zz.2]) (fun zz=>bU ts us=zz.2++bU (if h<=0 then y.drop 1 else y) (if 0<=h then v.drop 1 else v)/\zz.2.length<=q.length+1) ?_ ?_
  ·
   refine aN ?_;refine Gb (fun h3=>?_) fun h3=>?_
   ·
    refine Gi ?_;refine aA ?_;obtain⟨IC,VT⟩:=get_some (xs:=y) (i:=0) oM;refine ag (aX rfl rfl 0 rfl oM) (ag (gQ rfl 0 VT rfl) (ag (gF rfl) ?_));refine mc (enc:=fU) (vals:=[_]) [(⟨IC,true⟩:Ch)] rfl rfl rfl (by decide) (by decide) fun qz=>?_;refine kV (s:=o) (ys:=[(⟨IC,true⟩:Ch)]) rfl rfl (by decide) (fun w hw=>jN (s:=⟨false,qz,0,1,1,none⟩) Tryz.underlying45 (by decide) ((inferInstance:Hd _ _ ⟨false,qz,0,1,1,none⟩ fU 20 [(⟨IC,true⟩:Ch)]).h w hw)) (by simp only[af0,asZ,as0];omega) (by simp only[af0,asZ,as0];omega) fun NQ ahH ahI=>?_;refine Gs ?_;refine ij ?_;exact pZ (NQ,q++[⟨IC,true⟩]) ⟨by rw[bA,hN.gone oF VT,ate],by simp only[af0,asZ,as0];omega⟩ sb (fun w hw=>ai.mem hw)
   refine Gi ?_;refine gm oK oK (av ?_);refine eK rfl rfl rfl (fun hg=>(Ry.yl (aX (az hg rfl) rfl 0 rfl (by simp only[Z0,Z1,Z2,Z3,Z4,Z5,Z6,Z7,Z8,Z9]at hg;omega)))) (eK rfl rfl rfl (fun hg=>(Ry.yl (aL (az hg rfl) rfl))) (eK rfl rfl rfl (fun hg=>(Ry.yl (bL (j:=18) (az hg rfl) 0 (mN (xs:=y) (i:=0) (d:=cI) (by simp only[Z0,Z1,Z2,Z3,Z4,Z5,Z6,Z7,Z8,Z9]at hg;omega)) rfl (by decide)))) (Gh ?_)));refine eK rfl rfl rfl (fun hg=>(Ry.yl (aX (az hg rfl) rfl 0 rfl (by simp only[Z0,Z1,Z2,Z3,Z4,Z5,Z6,Z7,Z8,Z9]at hg;omega)))) (eK rfl rfl rfl (fun hg=>(Ry.yl (aL (az hg rfl) rfl))) (eK rfl rfl rfl (fun hg=>(Ry.yl (bL (j:=18) (az hg rfl) 0 (mN (xs:=v) (i:=0) (d:=cI) (by simp only[Z0,Z1,Z2,Z3,Z4,Z5,Z6,Z7,Z8,Z9]at hg;omega)) rfl (by decide)))) (av ?_)));refine Gb (fun h4=>?_) fun h4=>?_
   ·
    have NR:0<h\/(y.getD 0 cI).bV≠(v.getD 0 cI).bV:=h4.imp_right fun e1 e2=>e1 (by rw[e2]);refine Gi ?_;refine aA ?_;obtain⟨ID,VU⟩:=get_some (xs:=v) (i:=0) oM;refine ag (aX rfl rfl 0 rfl oM) (ag (gQ rfl 0 VU rfl) (ag (gF rfl) ?_));refine mc (enc:=fU) (vals:=[_]) [(⟨ID,false⟩:Ch)] rfl rfl rfl (by decide) (by decide) fun VW=>?_;refine kV (s:=o) (ys:=[(⟨ID,false⟩:Ch)]) rfl rfl (by decide) (fun w hw=>jN (s:=⟨false,VW,0,1,1,none⟩) Tryz.underlying45 (by decide) ((inferInstance:Hd _ _ ⟨false,VW,0,1,1,none⟩ fU 20 [(⟨ID,false⟩:Ch)]).h w hw)) (by simp only[af0,asZ,as0];omega) (by simp only[af0,asZ,as0];omega) fun s62 asE asF=>?_;refine Gs ?_;refine ij ?_;exact pZ (s62,q++[⟨ID,false⟩]) ⟨by rw[bA,hN.new oF VU NR,ate],by simp only[af0,asZ,as0];omega⟩ sb (fun w hw=>ai.mem hw)
   have NR: ¬0<h/\(y.getD 0 cI).bV=(v.getD 0 cI).bV:=⟨by omega,UInt16.toNat_inj.1 oM⟩;refine ij ?_;exact pZ (o,q) ⟨by rw[bA,hN.none oF NR],oF⟩ sb (fun w hw=>ai.mem hw)
  rintro⟨o2,q2⟩ ⟨yg,pa⟩;dsimp only;simp only at yg pa;refine av ?_;refine Gb (fun h5=>?_) fun h5=>?_
  ·
   refine Gi ?_;refine Gs ?_;have ahJ:Rg 1 y.length y.length:=⟨by omega⟩;refine ag (y7 rfl rfl 1 rfl ahJ.h.1) (aN ?_);refine Gb (fun h6=>?_) fun h6=>?_
   ·
    refine Gi ?_;refine Gs ?_;have NT:Rg 1 v.length v.length:=⟨by omega⟩;refine ag (y7 rfl rfl 1 rfl NT.h.1) (Gs ?_);refine ij ?_;exact bm (x:=(x,y,z,v,o,q)) (x.sub 19 1 y.length,y.drop 1,z.sub 19 1 v.length,v.drop 1,o2,q2) ⟨Iz bg oF,Iz aH oF,by rw[yg,if_pos oF,if_pos oF],by simp only[as9];omega,IA tJ,IA u9⟩ (by simp only[as9];omega) sb (fun w hw=>ai.mem hw)
   refine ij ?_;exact bm (x:=(x,y,z,v,o,q)) (x.sub 19 1 y.length,y.drop 1,z,v,o2,q2) ⟨Iz bg oF,aH,by rw[yg,if_pos oF,if_neg oF],by simp only[as9];omega,IA tJ,u9⟩ (by simp only[as9];omega) sb (fun w hw=>ai.mem hw)
  refine av ?_;refine Gb (fun h6=>?_) fun h6=>?_
  ·
   refine Gi ?_;refine Gs ?_;have NT:Rg 1 v.length v.length:=⟨by omega⟩;refine ag (y7 rfl rfl 1 rfl NT.h.1) (Gs ?_);refine ij ?_;exact bm (x:=(x,y,z,v,o,q)) (x,y,z.sub 19 1 v.length,v.drop 1,o2,q2) ⟨bg,Iz aH oF,by rw[yg,if_neg oF,if_pos oF],by simp only[as9];omega,tJ,IA u9⟩ (by simp only[as9];omega) sb (fun w hw=>ai.mem hw)
  refine ij ?_;exact bm (x:=(x,y,z,v,o,q)) (x,y,z,v,o2,q2) (by exfalso;omega) (by exfalso;omega) sb (fun w hw=>ai.mem hw)
 have mM:y=[]:=ati.1 oM;have Io:v=[]:=ati.1 oM;rw[mM,Io,EE,atK]at bA;refine av ?_;refine Gr fun w1 hw=>?_;exact⟨o,rfl,trivial,by rw[bA];exact ai.mem hw⟩)⟩
instance asG{t:Sv}{ts:List Rt}{u:Sv}{us:List Rt}[ht:cP w0 L au 19 t ts][hu:cP w0 L au 19 u us]:bQ Tryz.prog 53 w0 L [t.val,u.val] (Sv) (fun zz=> .tuple #[zz.val, .int .i64 (rC ts us)]) (fun zz=>own fU 20 zz (pQ ts us)::L) (fun zz=>True) (True):=⟨fun aF w hw=>Gk (fun zz=>[own fU 20 zz (pQ ts us)]) hw (by
 have ht:=ht.h w hw;have hu:=hu.h w hw;have oH:Gv w t au 19 ts:=⟨ht⟩;have ghu:Gv w u au 19 us:=⟨hu⟩;refine cQ Tryz.func53 rfl Tryz.ntmps53 rfl ?_;refine iF ?_;refine bn rfl rfl rfl (fun hg=>cl (dy (az hg rfl) gD) trivial) (bn rfl rfl rfl (fun hg=>(Ry.yl (jM (az hg rfl)))) (aA ?_));refine Gb (fun h0=>?_) fun h0=>?_
 ·
  have hE:rC ts us=1:=by rw[rC,if_neg (by rcases h0 with h|h<;>rw[h]<;>simp)]
  have hL:pQ ts us=[]:=by rw[pQ,if_neg (by rw[hE];decide)]
  refine av ?_;refine Gr fun w1 hw=>?_;exact⟨Sv.none,by rw[hE];rfl,trivial,by rw[hL];exact(ai.mem hw:Mem w [] _).dA fU 20⟩
 obtain⟨NU,NV⟩:=h0;have hE:rC ts us=0:=by rw[rC,if_pos (by rw[NU,NV];rfl)]
 have hL:pQ ts us=bU ts us:=by rw[pQ,if_pos hE]
 have k1:=(kz NU).may;have k2:=(kz NV).may;have k3:=uB NU;have k4:=uB NV;refine al ?_;refine bj rfl ⟨k1,k2,by omega,by omega⟩ fun aE kP=>al ?_;refine Gr fun w1 hw=>?_;exact⟨aE,by rw[hE],trivial,by rw[hL];exact ai.mem hw⟩)⟩
end Go.Proofs.YtkggjjnhnjjokaaGreatDoor
namespace Go.Kb
open Go.ax
theorem NW{x:Int}(h0:0<=x)(h1:x<256):((cW x).toNat:Int)=x:=by
 rw[cW,b8,avO h0 h1];simp;omega
theorem Cn{α:Type}{a b:List α}{n:Nat}(h:n=a.length):(a++b).drop n=b:=by subst h;simp
theorem IE{α:Type}{a b:List α}{n:Nat}(h:n=a.length):(a++b).take n=a:=by subst h;simp
theorem VX{p:PV}{n:Int}(h:mu p n=true): ∃k d:UInt8,∃z:List UInt8,(k.toNat:Int)=p.kind/\(d.toNat:Int)=p.id/\(∀x∈z,x=0)/\
  (dn p n).1=[k,d]++(be p.gen 6++(be p.body.length 2++(p.body++(z++be (po (jT p n.toNat)) 4))))/\jT p n.toNat=[k,d]++(be p.gen 6++(be p.body.length 2++(p.body++z)))/\(dn p n).2=0/\(z.length:Int)=n -14 -p.body.length:=by
 obtain⟨h1,h2,h3,h4,h5,h6⟩:=rZ.1 h;have hf:=te.1 h1;rw[dU,if_pos h1]at h6;refine⟨cW p.kind,cW p.id,List.replicate (n.toNat -4 -10 -p.body.length) 0,NW (by omega) (by omega),NW h3 (by omega),fun x hx=>List.eq_of_mem_replicate hx,?_,?_,?_,?_⟩
 ·
  rw[dn,if_pos h];simp only[jT,ate]
 ·
  simp only[jT,ate]
 ·
  rw[dn,if_pos h]
 ·
  rw[atT];omega
theorem EF{p:PV}{n:Int}(h:mu p n=true):((dn p n).1.length:Int)=n:=by
 obtain⟨k,d,z,_,_,_,e,_,_,hz⟩:=VX h;rw[e];simp only[af0,asZ,as0,jP];omega
theorem NX{p:PV}{n:Int}(h:mu p n=true):cE (dn p n).1=(p,0):=by
 have hl:=EF h;obtain⟨k,d,z,hk,hd,hz,e,eB,_,rj⟩:=VX h;obtain⟨h1,h2,h3,h4,h5,h6⟩:=rZ.1 h;have hf:=te.1 h1;have Bz:=h6;rw[dU,if_pos h1]at Bz;have hn:((dn p n).1.length:Int)=n:=hl;generalize hc:po (jT p n.toNat)=C at e;have hC:C<2^32:=by rw[←hc];exact KL _
 generalize hb:(dn p n).1=b at*;have e4:b=jT p n.toNat++be C 4:=by rw[e,eB];simp only[ate]
 have l4:b.length -4=(jT p n.toNat).length:=by rw[e4,af0,jP];omega
 have hG:mv b=jT p n.toNat:=by
  rw[mv,l4,auu,Nat.sub_zero,e4];exact IE rfl
 have HU:de (zx b)=C:=by
  rw[zx,l4];have:b.drop (jT p n.toNat).length=be C 4:=by rw[e4];exact Cn rfl
  rw[this,ath (by rw[jP];omega),Gu,atN hC]
 have nP:b.getD 0 0=k:=by rw[e];rfl
 have rn:b.getD 1 0=d:=by rw[e];rfl
 have AJ:b.drop 2=be p.gen 6++(be p.body.length 2++(p.body++(z++be C 4))):=by rw[e];exact Cn rfl
 have VY:b.drop 8=be p.body.length 2++(p.body++(z++be C 4)):=by
  rw[show(8:Nat)=2+6 from rfl,←au5,AJ];exact Cn (by rw[jP])
 have ahK:b.drop 10=p.body++(z++be C 4):=by
  rw[show(10:Nat)=8+2 from rfl,←au5,VY];exact Cn (by rw[jP])
 have ahL:de ((b.drop 2).take (8 -2))=p.gen:=by
  rw[AJ,IE (by rw[jP]),Gu,atN (Nat.lt_of_lt_of_eq h5 (by decide))]
 have NY:iG b=p.body.length:=by
  rw[iG,VY,IE (by rw[jP]),Gu,atN (by omega)]
 have VZ:vV b={p with body:=[]}:=by
  rw[vV,ahL,nP,rn];obtain⟨pk,pi,pg,pb⟩:=p;simp only at hk hd;simp only[hk,hd]
 have ahM:ko b=false:=by
  cases zU:ko b with
  |false=>rfl
  |true=>
   have h9:=Dx.1 zU k (by rw[e];simp);rw[h9]at hk;have:((255:UInt8).toNat:Int)=255:=by decide
   omega
 have ahN:pA b=true:=by
  have hm:mu (vV b) b.length=true:=by
   rw[VZ,hn];exact rZ.2 ⟨h1,h2,h3,h4,h5,by rw[dU,if_pos h1];simp only[as0];omega⟩
  rw[pA,hm,NY,hn,Bool.and_true,decide_eq_true_eq];exact h6
 have hzero:xJ (ou b)=true:=by
  refine K6.2 fun x hx=>hz x ?_;have ahO:(mv b).drop (10+iG b)=z:=by
   rw[hG,NY,eB,←au5];have:([k,d]++(be p.gen 6++(be p.body.length 2++(p.body++z)))).drop 10=p.body++z:=by
    rw[show[k,d]++(be p.gen 6++(be p.body.length 2++(p.body++z)))=([k,d]++be p.gen 6++be p.body.length 2)++(p.body++z) by simp only[ate]];exact Cn (by simp only[af0,asZ,as0,jP])
   rw[this];exact Cn rfl
  rw[ou,ahO]at hx;exact au0 hx
 have Mj:(b.drop 10).take (10+iG b -10)=p.body:=by
  rw[ahK,NY];exact IE (by omega)
 rw[cE,if_neg (by rw[hn,h1];simp),if_neg (by rw[ahM];simp),if_neg (by rw[HU,hG,hc];exact fun h=>h rfl),if_neg (by rw[ahN];simp),if_neg (by rw[hzero];simp),VZ,Mj]
theorem ahP{x:Int}(h0:0<=x)(h1:x<=65535):((uk (cW (x/256)) (cW x)).toNat:Int)=x:=by
 have e2:((cW x).toNat:Int)=x%256:=by
  rw[cW,b8];simp;omega
 have e1:=NW (x:=x/256) (by omega) (by omega);rw[JS];omega
theorem V0: ∀(l:List Int) (i:Nat) (x:Int),l[i]? =some x->(hQ l).getD (2*i) 0=cW (x/256)/\(hQ l).getD (2*i+1) 0=cW x
 |y::r,0,x,h=>by obtain rfl:y=x:=by simpa using h
                 exact⟨rfl,rfl⟩
 |y::r,i+1,x,h=>by
  have h2:=V0 r i x (by simpa using h);have e:hQ (y::r)=cW (y/256)::cW y::hQ r:=rfl;rw[e,show 2*(i+1)=2*i+1+1 by omega];exact h2
theorem ahQ{l:List Int}(h: ∀x∈l,zy x=true):qj (hQ l)=l:=by
 refine at5 fun i=>?_;rcases as3 i l.length with hi|hi
 ·
  obtain⟨x,hx⟩: ∃x,l[i]? =some x:=⟨l[i],as1 hi⟩;obtain⟨e1,e2⟩:=V0 l i x hx;have gV:=Dy.1 (h x (alM hx));rw[qj,atg,Bj,aun (by omega),hx,atJ,r8,e1,e2,ahP gV.1 gV.2]
 rw[as7 hi,as7 (by rw[G5,Bj];omega)]
theorem NZ{r:RV}{n:Int}(h:pB r n=true):mu ⟨2,max 0 ((r.at_.length:Int) -1),r.gen,hQ r.at_⟩ n=true:=by
 obtain⟨h1,h2,h3,h4⟩:=xK.1 h;have hf:ot n=true:=by
  cases hf:ot n with
  |true=>rfl
  |false=>rw[dU,if_neg (by rw[hf];simp)]at h1;exact absurd rfl h1
 rw[kI]at h3;have hr:dU n=n -16:=by rw[dU,if_pos hf]
 refine rZ.2 ⟨hf, .inr rfl,?_,?_,h2,?_⟩
 ·
  show 0<=max 0 _;omega
 ·
  show max 0 _<(64:Int);omega
 show((hQ r.at_).length:Int)<=_;rw[Bj];omega
theorem ahR{r:RV}{n:Int}(h:pB r n=true):bF (cZ r n).1=(r,0):=by
 have hp:=NX (NZ h);have h4:=(xK.1 h).2.2.2;rw[cZ,if_pos h,bF,hp];have hl:(hQ r.at_).length/2=r.at_.length:=by rw[Bj];omega
 rw[if_neg (by simp),if_neg (by simp),if_neg,ahQ h4];simp only[vX,Bool.not_eq_false,anc,decide_eq_true_eq];refine⟨⟨trivial,by rw[Bj];omega⟩,?_⟩;rw[hl]
theorem V1{r:RV}{n:Int}(h:pB r n=true):((cZ r n).1.length:Int)=n:=by
 rw[cZ,if_pos h];exact EF (NZ h)
theorem ahS{r:RV}{n:Int}(h:(cZ r n).2=0):pB r n=true:=by
 cases hm:pB r n with
 |true=>rfl
 |false=>rw[cZ,if_neg (by rw[hm];simp)]at h;cases h
theorem V2{p:PV}{n:Int}(h:(dn p n).2=0):mu p n=true:=by
 cases hm:mu p n with
 |true=>rfl
 |false=>rw[dn,if_neg (by rw[hm];simp)]at h;cases h
theorem vd{c:CV}{b:Nat}{o:Int}{f:Bool}{B:BV}(hb:b<c.blocks.length)(k:Int):ak {c with ops:=o,off:=f,blocks:=c.blocks.set b B} k=if k.toNat=b then B else ak c k:=by
 simp only[ak,List.getD,atI]
 by_cases h:b=k.toNat
 ·
  rw[if_pos h,if_pos (by omega),if_pos h.symm];rfl
 rw[if_neg h,if_neg (fun g=>h g.symm)]
structure Kd(L:List Int)(c d:CV):Prop where
 bT:dO c d
 ok:bb c=true->bb d=true
 oP:d.aV=c.aV
 IF: ∀b:Int,(ak c b).bad=true->ak d b=ak c b
 on:c.off=false->(∀f∈c.aV,f.cut=false)->d.off=false
 ops:c.ops<=d.ops
 nm: ∀n∈L,n≠0->lf c (n -1)=true->lf d (n -1)=true/\bK d (n -1)=bK c (n -1)
structure Kp(L:List Int)(c d:CV):Prop extends Kd L c d where
 r0: ∀b:Int,b<2->(ak d b).pages=(ak c b).pages/\(ak d b).used=(ak c b).used
theorem Kd.dh(L:List Int)(c:CV):Kd L c c:=⟨.dh c,id,rfl,fun _ _=>rfl,fun h _=>h,atW _,fun _ _ _ h=>⟨h,rfl⟩⟩
theorem Kp.dh(L:List Int)(c:CV):Kp L c c:=⟨.dh L c,fun _ _=>⟨rfl,rfl⟩⟩
theorem Kd.trans{L:List Int}{c d e:CV}(h:Kd L c d)(g:Kd L d e):Kd L c e where
 bT:=h.bT.trans g.bT
 ok:=fun k=>g.ok (h.ok k)
 oP:=g.oP.trans h.oP
 IF:=fun b hb=>by
  have h1:=h.IF b hb;rw[←h1]at hb;exact(g.IF b hb).trans h1
 on:=fun h1 h2=>g.on (h.on h1 h2) (by rw[h.oP];exact h2)
 ops:=Int.le_trans h.ops g.ops
 nm:=fun n hn h0 hp=>by
  obtain⟨h1,h2⟩:=h.nm n hn h0 hp;obtain⟨g1,g2⟩:=g.nm n hn h0 h1;exact⟨g1,g2.trans h2⟩
theorem Kp.trans{L:List Int}{c d e:CV}(h:Kp L c d)(g:Kp L d e):Kp L c e:=
 ⟨h.toKd.trans g.toKd,fun b hb=>⟨(g.r0 b hb).1.trans (h.r0 b hb).1,(g.r0 b hb).2.trans (h.r0 b hb).2⟩⟩
theorem Kd.sub{L M:List Int}{c d:CV}(h:Kd L c d)(hs: ∀n∈M,n∈L):Kd M c d:={h with nm:=fun n hn=>h.nm n (hs n hn)}
theorem Kp.sub{L M:List Int}{c d:CV}(h:Kp L c d)(hs: ∀n∈M,n∈L):Kp M c d:=⟨h.toKd.sub hs,h.r0⟩
theorem N1{L:List Int}{c:CV}{b:Int}{o:Int}{f:Bool}{B:BV}(hh:ir c b=true)(hk:bb c=true->bb {c with ops:=o,off:=f,blocks:=c.blocks.set b.toNat B}=true)(ahT:(ak c b).bad=true->B=ak c b)
  (fV:c.off=false->(∀f∈c.aV,f.cut=false)->f=false) (ho:c.ops<=o)
  (hn: ∀n∈L,n≠0->lf c (n -1)=true->(n -1)/c.pages=b->(n -1)%c.pages<B.used/\B.pages.getD ((n -1)%c.pages).toNat []=(ak c b).pages.getD ((n -1)%c.pages).toNat []):
  Kd L c {c with ops:=o,off:=f,blocks:=c.blocks.set b.toNat B} where
 bT:=⟨rfl,rfl,by simp⟩
 ok:=hk
 oP:=rfl
 IF:=fun k hb=>by
  obtain⟨_,h2,h3⟩:=iu.1 hh;rw[vd (by omega)];split
  ·
   rename_i e;have e2:ak c k=ak c b:=by simp only[ak,e]
   rw[e2]at hb⊢;exact ahT hb
  ·
   rfl
 on:=fV
 ops:=ho
 nm:=fun n hm h0 hp=>by
  obtain⟨_,h2,h3⟩:=iu.1 hh;obtain⟨p1,p2,p3⟩:=mR.1 hp;have e:=vd (c:=c) (o:=o) (f:=f) (B:=B) (show b.toNat<c.blocks.length by omega) ((n -1)/c.pages)
  by_cases h:(n -1)/c.pages=b
  ·
   rw[h,if_pos rfl]at e;obtain⟨g1,g2⟩:=hn n hm h0 hp h;refine⟨mR.2 ⟨p1,by simpa using p2,?_⟩,?_⟩
   ·
    show _<(ak _ ((n -1)/c.pages)).used;rw[h,e];exact g1
   ·
    show(ak _ ((n -1)/c.pages)).pages.getD _ []=(ak c ((n -1)/c.pages)).pages.getD _ [];rw[h,e];exact g2
  ·
   rw[if_neg (by omega)]at e;refine⟨mR.2 ⟨p1,by simpa using p2,?_⟩,?_⟩
   ·
    show _<(ak _ ((n -1)/c.pages)).used;rw[e];exact p3
   ·
    show(ak _ ((n -1)/c.pages)).pages.getD _ []=(ak c ((n -1)/c.pages)).pages.getD _ [];rw[e]
theorem Kd.roots{L:List Int}{c:CV}{b:Int}{o:Int}{f:Bool}{B:BV}(hh:ir c b=true)(h2:2<=b)(h:Kd L c {c with ops:=o,off:=f,blocks:=c.blocks.set b.toNat B}):Kp L c {c with ops:=o,off:=f,blocks:=c.blocks.set b.toNat B}:=
 ⟨h,fun k hk=>by
  obtain⟨_,h3,h4⟩:=iu.1 hh;rw[vd (by omega),if_neg (by omega)];exact⟨rfl,rfl⟩⟩
theorem V3{c:CV}(h: ∀f∈c.aV,f.cut=false):((bt c).2&&(bt c).1.cut)=false:=by
 rw[bt]
 cases hf:c.aV.find? fun f=>decide (f.op=c.ops)with
 |none=>rfl
 |some x=>simp only[h x (auV hf),Bool.and_false]
theorem ahU{L:List Int}{c:CV}{b:Int}{p:List UInt8}:Kd L c (gT c b (ak c b).used p):=by
 by_cases h:oo c b (ak c b).used p=true/\c.off=false/\(ak c b).bad=false/\(ak c b).used=(ak c b).used
 ·
  have e:gT c b (ak c b).used p=iM c b (ak c b).used p:=if_pos h;have hk:=Lj (c:=c) (b:=b) (g:=(ak c b).used) (p:=p);rw[e]at hk;obtain⟨h1,h2,h3,_⟩:=h;obtain⟨j1,j2,j3,j4,j5⟩:=jS.1 h1;rw[e,iM];refine N1 j1 hk (fun g=>by rw[h3]at g;cases g) (fun _ g=>V3 g) (by omega) fun n _ _ hp hb=>?_;obtain⟨p1,p2,p3⟩:=mR.1 hp;rw[hb]at p3;have h0:0<=(n -1)%c.pages:=ave _ (by omega);refine⟨by simp only;omega,?_⟩;simp only[List.getD];rw[att (by omega)]
 rw[gT,if_neg h];exact .dh L c
theorem ahV{L:List Int}{c:CV}{b:Int}:Kd L c (mo c b):=by
 by_cases h:qi c b=0
 ·
  have hk:=So (c:=c) (b:=b);rw[mo,if_pos h]at hk⊢;have hh:ir c b=true:=by
   cases hq:ir c b with
   |true=>rfl
   |false=>rw[qi,if_neg (by rw[hq];simp)]at h;cases h
  refine N1 (o:=c.ops) (f:=c.off) hh hk (fun g=>?_) (fun g _=>g) (atW _) fun n _ _ hp hb=>?_
  ·
   cases hB:ak c b with|mk a1 a2 a3 a4=>rw[hB]at g;simp only at g;rw[g]
  obtain⟨p1,p2,p3⟩:=mR.1 hp;rw[hb]at p3;exact⟨p3,rfl⟩
 rw[mo,if_neg h];exact .dh L c
theorem V4{c:CV}{b k:Int}:(ak (mo c b) k).pages=(ak c k).pages/\(ak (mo c b) k).used=(ak c k).used:=by
 rw[mo];split
 ·
  rename_i h;have hh:ir c b=true:=by
   cases hq:ir c b with
   |true=>rfl
   |false=>rw[qi,if_neg (by rw[hq];simp)]at h;cases h
  obtain⟨_,h3,h4⟩:=iu.1 hh;have e:=vd (c:=c) (o:=c.ops) (f:=c.off) (B:={ak c b with bad:=true}) (show b.toNat<c.blocks.length by omega) k
  rw[e];split
  ·
   rename_i e2;have e3:ak c k=ak c b:=by simp only[ak,e2]
   rw[e3];exact⟨rfl,rfl⟩
  exact⟨rfl,rfl⟩
 exact⟨rfl,rfl⟩
theorem EG{L:List Int}{c:CV}{b e:Int}:Kp L c (jq c b e):=by
 rw[jq];split
 ·
  exact⟨ahV,fun k _=>V4⟩
 exact .dh L c
theorem IG{L:List Int}{c:CV}{b:Int}{p:List UInt8}:Kd L c (bC c b p):=ahU.trans EG.toKd
theorem V5{c:CV}{b k g:Int}{p:List UInt8}(h:k.toNat≠b.toNat):ak (gT c b g p) k=ak c k:=by
 rw[gT];split
 ·
  rename_i hk;obtain⟨_,h3,h4⟩:=iu.1 (jS.1 hk.1).1;rw[iM,vd (by omega),if_neg h]
 rfl
theorem IH{L:List Int}{c:CV}{b:Int}{p:List UInt8}(h2:2<=b):Kp L c (bC c b p):=
 ⟨IG,fun k hk=>by
  have h1:=(EG (L:=L) (c:=gT c b (ak c b).used p) (b:=b) (e:=bB c b p)).r0 k hk;rw[bC,h1.1,h1.2,V5 (by omega)];exact⟨rfl,rfl⟩⟩
def kS(L:List Int)(c:CV)(b:Int):Prop:= ∀n∈L,n≠0->(n -1)/c.pages≠b
theorem V6{L:List Int}{c:CV}{b:Int}(hd: ∀n∈L,n≠0->lf c (n -1)=true->(n -1)/c.pages≠b):Kd L c (gv c b):=by
 by_cases h:px c b=true/\c.off=false/\(ak c b).bad=false
 ·
  have hk:=Lk (c:=c) (b:=b);rw[gv,if_pos h]at hk⊢;obtain⟨h1,h2,h3⟩:=h;have hh:=(qh.1 h1).1;rw[k9]at hk⊢;exact N1 hh hk (fun g=>by rw[h3]at g;cases g) (fun _ g=>V3 g) (by omega) fun n hn h0 hp hb=>absurd hb (hd n hn h0 hp)
 rw[gv,if_neg h];exact .dh L c
theorem ahW{L:List Int}{c:CV}{b:Int}(hd:kS L c b):Kd L c (gv c b):=V6 fun n hn h0 _=>hd n hn h0
theorem ahX{L:List Int}{c:CV}{b:Int}(hb:b<2):Kd L c (dq c b):=(V6 fun n _ _ hp=>by have:=(mR.1 hp).1;omega).trans EG.toKd
theorem ahY{L:List Int}{c:CV}{b:Int}(hd:kS L c b):Kd L c (dq c b):=(ahW hd).trans EG.toKd
theorem Co{c:CV}{b k:Int}(h:k.toNat≠b.toNat):ak (gv c b) k=ak c k:=by
 rw[gv];split
 ·
  rename_i hk;obtain⟨_,h3,h4⟩:=iu.1 (qh.1 hk.1).1;rw[k9,vd (by omega),if_neg h]
 rfl
theorem ahZ{L:List Int}{c:CV}{b:Int}(h2:2<=b)(hd:kS L c b):Kp L c (dq c b):=
 ⟨ahY hd,fun k hk=>by
  have h1:=(EG (L:=L) (c:=gv c b) (b:=b) (e:=dZ c b)).r0 k hk;rw[dq,h1.1,h1.2,Co (by omega)];exact⟨rfl,rfl⟩⟩
theorem kS.bT{L:List Int}{c d:CV}{b:Int}(h:kS L c b)(g:dO c d):kS L d b:=fun n hn h0=>by rw[g.pages];exact h n hn h0
theorem V7{L:List Int}: ∀(n:Nat) {c:CV} {b:Int},2<=b->kS L c b->Kp L c (fL n c b).1
 |0,c,b,h2,hd=>ahZ h2 hd
 |n+1,c,b,h2,hd=>by
  rw[fL];split
  ·
   exact IH h2
  exact(IH h2).trans (V7 n h2 (hd.bT (iP _ _ _)))
theorem Ao{L:List Int}{c:CV}{b:Int}(h2:2<=b)(hd:kS L c b):Kp L c (cC c b).1:=V7 _ h2 hd
theorem ah0{c:CV}{b g:Int}{p:List UInt8}(h:kH c b g p=7):(gT c b g p).off=true:=by
 rw[kH]at h
 by_cases h1:oo c b g p=true
 ·
  rw[if_pos h1]at h
  by_cases h2:c.off=true
  ·
   rw[gT,if_neg (fun k=>by rw[h2]at k;cases k.2.1)];exact h2
  rw[if_neg h2]at h
  by_cases h3:(ak c b).bad=true\/g≠(ak c b).used
  ·
   rw[if_pos h3]at h;cases h
  rw[if_neg h3]at h
  by_cases h4:(bt c).2=true
  ·
   rw[if_pos h4,mn]at h;have h5:(bt c).1.cut=true:=by
    cases hc:(bt c).1.cut with
    |true=>rfl
    |false=>rw[if_neg (by rw[hc];simp)]at h;cases h
   have BZ:(ak c b).bad=false:=by
    cases hb:(ak c b).bad with
    |true=>exact absurd (.inl hb) h3
    |false=>rfl
   rw[gT,if_pos ⟨h1,by simpa using h2,BZ,atc fun k=>h3 (.inr k)⟩,iM,h4,h5];rfl
  rw[if_neg h4]at h;cases h
 rw[if_neg h1]at h;cases h
theorem V8(c:CV)(b e:Int):(jq c b e).off=c.off:=by
 rw[jq];split
 ·
  rw[mo];split<;>rfl
 rfl
theorem II{c:CV}{b:Int}{p:List UInt8}(h:bB c b p=7):(bC c b p).off=true:=by rw[bC,V8];exact ah0 h
theorem V9{c:CV}{b:Int}(h:dZ c b=7):(dq c b).off=true:=by
 rw[dq,V8];rw[dZ]at h
 by_cases h1:px c b=true
 ·
  rw[if_pos h1]at h
  by_cases h2:c.off=true
  ·
   rw[gv,if_neg (fun k=>by rw[h2]at k;cases k.2.1)];exact h2
  rw[if_neg h2]at h
  by_cases h3:(ak c b).bad=true
  ·
   rw[if_pos h3]at h;cases h
  rw[if_neg h3]at h
  by_cases h4:(bt c).2=true
  ·
   rw[if_pos h4,mn]at h;have h5:(bt c).1.cut=true:=by
    cases hc:(bt c).1.cut with
    |true=>rfl
    |false=>rw[if_neg (by rw[hc];simp)]at h;cases h
   rw[gv,if_pos ⟨h1,by simpa using h2,by simpa using h3⟩,k9,h4,h5];rfl
  rw[if_neg h4]at h;cases h
 rw[if_neg h1]at h;cases h
theorem Wa: ∀(n:Nat) {c:CV} {b:Int},(fL n c b).2=7->(fL n c b).1.off=true
 |0,c,b,h=>V9 h
 |n+1,c,b,h=>by
  rw[fL]at h⊢
  by_cases h0:bB c b (iO c)≠0
  ·
   rw[if_pos h0]at h⊢;exact II h
  rw[if_neg h0]at h⊢;exact Wa n h
theorem EH{c:CV}{b:Int}(h:(cC c b).2=7):(cC c b).1.off=true:=Wa _ h
def Pl(c:CV)(a:List Int):Prop:=(∀(i:Nat) (y:Int),a[i]? =some y->y≠0->ov c (i:Int) y=true)/\ ∀(i j:Nat) (y:Int),a[i]? =some y->a[j]? =some y->y≠0->i=j
theorem N2{a:List Int}{i:Nat}{y:Int}:(a.take i).contains y=true↔ ∃j,j<i/\a[j]? =some y:=by
 rw[auk,List.mem_take_iff_getElem];constructor
 ·
  rintro⟨j,hj,e⟩;exact⟨j,by omega,by rw[as1 (by omega),e]⟩
 rintro⟨j,hj,e⟩;obtain⟨hl,e2⟩:=ad2.1 e;exact⟨j,by omega,e2⟩
theorem Wb{c:CV}{a:List Int}:vY c a=true↔Pl c a:=by
 rw[Dz];constructor
 ·
  intro h;have hp: ∀(i:Nat) (y:Int),a[i]? =some y->y≠0->(a.take i).contains y=false/\ov c (i:Int) y=true:=fun i y hy h0=>by
   have hi:=(ad2.1 hy).1;have h1:=h i hi;rw[S0 (qk hy),decide_eq_false h0,avB,anc,at0]at h1;exact h1
  refine⟨fun i y hy h0=>(hp i y hy h0).2,fun i j y hi hj h0=>?_⟩;rcases avA i j with hl|hl|hl
  ·
   have:=(hp j y hj h0).1;rw[N2.2 ⟨i,hl,hi⟩]at this;cases this
  ·
   exact hl
  have:=(hp i y hi h0).1;rw[N2.2 ⟨j,hl,hj⟩]at this;cases this
 rintro⟨h1,h2⟩ i hi;have hy:=as1 hi;rw[S0 (qk hy)]
 by_cases h0:a[i]=0
 ·
  rw[decide_eq_true h0];rfl
 rw[h1 i _ hy h0,Bool.and_true,aui];right
 cases hc:(a.take i).contains a[i]with
 |false=>rfl
 |true=>
  obtain⟨j,hj,e⟩:=N2.1 hc;have:=h2 i j _ hy e h0;omega
theorem EI{c:CV}{i n:Int}(h:ov c i n=true):lf c (n -1)=true/\(cE (bK c (n -1))).2=0/\(cE (bK c (n -1))).1.kind=1/\(cE (bK c (n -1))).1.id=i:=by
 rw[ov,anc,G6]at h;simp only[anc,decide_eq_true_eq]at h;exact⟨h.1,h.2.1.1,h.2.1.2,h.2.2⟩
theorem ah1{c:CV}{i n:Int}{p:PV}(h:lf c (n -1)=true)(h2:cE (bK c (n -1))=(p,0))(hk:p.kind=1)(hi:p.id=i):ov c i n=true:=by
 rw[ov,h,h2,G6];simp[hk,hi]
theorem Pl.kd{c d:CV}{a L:List Int}(h:Pl c a)(k:Kd L c d)(hs: ∀n∈a,n∈L):Pl d a:=
 ⟨fun i y hy h0=>by
  have h1:=h.1 i y hy h0;obtain⟨g1,g2⟩:=k.nm y (hs y (alM hy)) h0 (EI h1).1;rw[ov,g1,g2];rw[ov,(EI h1).1]at h1;exact h1,h.2⟩
theorem IJ{c d:CV}{a L:List Int}(h:Pl c a)(k:Kd L c d)(hs: ∀n∈a,n∈L):a.map (eQ d)=a.map (eQ c):=by
 refine at6 fun y hy=>?_
 by_cases h0:y=0
 ·
  rw[h0];rfl
 obtain⟨i,hi⟩:=ato hy;obtain⟨_,g2⟩:=k.nm y (hs y hy) h0 (EI (h.1 i y hi h0)).1;rw[eQ,eQ,jm,jm,g2]
theorem Pl.place{c:CV}{a:List Int}(h:Pl c a){n:Int}(hn:n∈a)(h0:n≠0):lf c (n -1)=true:=by
 obtain⟨i,hi⟩:=ato hn;exact(EI (h.1 i n hi h0)).1
structure fD(x:VV):Prop where
 bears:gy x.ae=true
 roots:(bP x.ae).2.2=0
 used:(bP x.ae).1%x.ae.pages<(ak x.ae ((bP x.ae).1/x.ae.pages)).used
 pl:Pl x.ae x.at_
 at_:(bP x.ae).2.1.at_=x.at_
 gen:(bP x.ae).2.1.gen=x.gen
 last:(bP x.ae).1/x.ae.pages=x.last
theorem Cq{x:VV}:mw x=true↔fD x:=by
 rw[acH,anc];constructor
 ·
  rintro⟨h1,h2⟩;simp only[anc,decide_eq_true_eq]at h2;obtain⟨⟨⟨g1,g2⟩,g3⟩,g4⟩:=h2;rw[wa]at g1 g2 g3 g4
  by_cases k1:(bP x.ae).2.2≠0
  ·
   rw[if_pos k1]at g1;exact absurd g1 k1
  rw[if_neg k1]at g1 g2 g3 g4
  by_cases k2:mS x.ae=false
  ·
   rw[if_pos k2]at g1;cases g1
  rw[if_neg k2]at g2 g3 g4;have N3:mS x.ae=true:=by simpa using k2
  rw[mS,anc,decide_eq_true_eq]at N3;refine⟨h1,by simpa using k1,N3.1,?_,g2.symm,g3.symm,g4.symm⟩;rw[g2];exact Wb.1 N3.2
 intro h;refine⟨h.bears,?_⟩;have hl:mS x.ae=true:=by
  rw[mS,anc,decide_eq_true_eq];exact⟨h.used,by rw[h.at_];exact Wb.2 h.pl⟩
 rw[wa,if_neg (fun g=>g h.roots),if_neg (by rw[hl];simp)];simp only[h.at_,h.gen,h.last,decide_true,auN]
theorem ah2{L:List Int}{c d:CV}(k:Kp L c d):bP d=bP c:=by
 rw[bP,bP,(k.r0 0 (by decide)).1,(k.r0 1 (by decide)).1]
theorem ah3{L:List Int}{c d:CV}(k:Kd L c d)(h:gy c=true):gy d=true:=by
 obtain⟨h1,h2,h3,h4⟩:=fX.1 h;exact fX.2 ⟨k.ok h1,by rw[k.bT.len];exact h2,by rw[k.bT.pages];exact h3,by rw[k.bT.size];exact h4⟩
theorem EJ{c:CV}(h:gy c=true):((ak c 0).pages.length:Int)=c.pages/\((ak c 1).pages.length:Int)=c.pages:=by
 obtain⟨h1,h2,h3,h4⟩:=fX.1 h;exact⟨(fm.1 (ti h1 (by decide) (by omega))).1,(fm.1 (ti h1 (by decide) (by omega))).1⟩
theorem Wc{c:CV}(h:gy c=true):0<=(bP c).1/\(bP c).1<2*c.pages:=by
 obtain⟨h1,h2⟩:=EJ h;obtain⟨_,_,h3,_⟩:=fX.1 h;have:=Lb (l:=(ak c 0).pages++(ak c 1).pages) (by rw[af0];omega);rw[af0]at this;rw[bP];omega
theorem fD.kp{x:VV}(h:fD x){d:CV}(k:Kp x.at_ x.ae d):fD {x with ae:=d}:=by
 have e:=ah2 k;have ep:=k.bT.pages;have hr:=Wc h.bears;have hp:0<x.ae.pages:=by have:=(fX.1 h.bears).2.2.1;omega
 exact⟨ah3 k.toKd h.bears,by show(bP d).2.2=0;rw[e];exact h.roots,by
  show(bP d).1%d.pages<(ak d ((bP d).1/d.pages)).used;rw[e,ep,(k.r0 _ (Int.ediv_lt_of_lt_mul hp hr.2)).2];exact h.used,h.pl.kd k.toKd fun _ g=>g,by show(bP d).2.1.at_=_;rw[e];exact h.at_,by show(bP d).2.1.gen=_;rw[e];exact h.gen,by show(bP d).1/d.pages=_;rw[e,ep];exact h.last⟩
theorem Wd{l:List Int}{n:Int}(h0:n≠0): ∀k,n∈l.take k-> ∃j,j<k/\j<l.length/\l.getD j 0=n/\nI l j=true
 |0,h=>by simp at h
 |k+1,h=>by
  by_cases hk:n∈l.take k
  ·
   obtain⟨j,h1,h2⟩:=Wd h0 k hk;exact⟨j,by omega,h2⟩
  rw[atf,as8]at h;rcases h with h|h
  ·
   exact absurd h hk
  have hx:l[k]? =some n:=by simpa[Option.mem_toList]using h
  refine⟨k,by omega,(ad2.1 hx).1,qk hx,?_⟩;rw[nI,qk hx,decide_eq_true h0,atU,at0]
  cases hc:(l.take k).contains n with
  |false=>rfl
  |true=>exact absurd (auk.1 hc) hk
theorem We{pages:Int}{l:List Int}{i:Nat}(h:kr pages l l.length i=0): ∀n∈l,n≠0->(n -1)/pages≠(i:Int)+2:=by
 intro n hn h0 hb;obtain⟨j,h1,h2,h3,h4⟩:=Wd h0 l.length (by rw[atr];exact hn);rw[kr,ati]at h;have hm:j∈(List.range l.length).filter fun j=>nI l j&&decide ((l.getD j 0 -1)/pages=(i:Int)+2):=atl.2 ⟨List.mem_range.2 h2,by rw[h4,h3,decide_eq_true hb];rfl⟩;rw[h]at hm;cases hm
theorem ah4{c:CV}{fl:List Int}{i:Nat}{x:aB}(h:(aw c fl)[i]? =some x)(hb:x.bad=false)(hl:x.live=0):kS fl c ((i:Int)+2):=by
 have hi:=(ad2.1 h).1;rw[lP]at hi;rw[Lo hi]at h;have e:=asY h;intro n hn h0;refine We (l:=fl) ?_ n hn h0;rw[pC]at e;split at e
 ·
  rw[←e]at hb;cases hb
 rw[←e]at hl;simp only[uE]at hl;omega
def sG(c:CV)(fl:List Int)(l:List aB):Prop:= ∀(i:Nat) (x:aB),l[i]? =some x->x.bad=false->x.live=0->kS fl c ((i:Int)+2)
theorem IK(c:CV)(fl:List Int):sG c fl (aw c fl):=fun _ _ h hb hl=>ah4 h hb hl
theorem sG.set{c:CV}{fl:List Int}{l:List aB}(h:sG c fl l)(i:Nat):sG c fl (l.set i bf):=by
 intro j x hx hb hl;rw[atI]at hx;split at hx
 ·
  split at hx
  ·
   obtain rfl:=asY hx;cases hb
  cases hx
 exact h j x hx hb hl
theorem IL{c:CV}{fl:List Int}{l:List aB}(h:sG c fl l){R:aB->Bool}{p:Int}(hd:(fK (bS R l) p).2=true):kS fl c ((fK (bS R l) p).1+2)/\0<=(fK (bS R l) p).1:=by
 obtain⟨x,hx,h1,_,h3,h4,_⟩:=pD (fun x h=>(lR h).1) hd;have:=h _ x hx h1 (lR h3).2.1;refine⟨?_,h4⟩;change 0<=(fK (bS R l) p).1 at h4;change kS fl c ((((fK (bS R l) p).1.toNat:Nat):Int)+2)at this;rwa [aub h4]at this
theorem Wf{c:CV}{fl:List Int}(hk:bb c=true)(h2:3<=c.blocks.length)(hi:dP (aw c fl)≠0)(hb: ¬(kv c fl).2=true):(fK (bS gJ (aw c fl)) c.pages).2=true:=by
 have hd:=eX hk;have dX:=lP c fl;have hw:mA (bS gJ (aw c fl)) c.pages=true:=th.2 ⟨by rw[xP];omega,by rw[xP];omega,by omega,by omega,fun x hx=>by
  obtain⟨i,hi⟩:=ato hx;obtain⟨y,hy,rfl⟩:=Lp hi;have t:=uK hk (alM hy);have ra:cV=1099511627776:=rfl;unfold iH;split
  ·
   exact sa.2 (by simp only[bf];omega)
  rename_i hn;have hl:y.live=0:=by
   cases hR:gJ y with
   |true=>simpa[gJ]using hR
   |false=>exact absurd (.inr hR) hn
  exact sa.2 ⟨by omega,by have:=t.DG;omega,t.Bv,t.SC,t.SD⟩⟩
 have se:(kv c fl).2=false:=by simpa using hb
 have Lr:=uG hw (show(fB _ _ _ _).2=false from se);have Bw:0<((aw c fl).filter fun x=> !x.bad&&decide (x.live=0)).length:=by rw[dP]at hi;omega
 obtain⟨x,hx⟩:=List.exists_mem_of_length_pos Bw;obtain⟨pE,gV⟩:=atl.1 hx;simp only[anc,at0,decide_eq_true_eq]at gV;have xQ:iH gJ x=x:=by
  unfold iH;rw[if_neg];rintro(g|g)
  ·
   rw[gV.1]at g;cases g
  rw[show gJ x=true by simp[gJ,gV.2]]at g;cases g
 have DH:x∈bS gJ (aw c fl):=by
  rw[←xQ];exact atp pE
 have DI:=Lr x DH;have t:=uK hk pE;have mU:my x=true:=by
  have: ¬x.used<c.pages:=fun h=>by
   rw[mT,gV.1,decide_eq_true h]at DI;cases DI
  simp only[my,gV.1,au4,atU,anc,decide_eq_true_eq];omega
 cases hq:(fK (bS gJ (aw c fl)) c.pages).2 with
 |true=>rfl
 |false=>have:=uG hw hq x DH;rw[mU]at this;cases this
theorem ah5{c:CV}{fl:List Int}{aG:Bool}(hk:bb c=true)(h2:3<=c.blocks.length):Kp fl c (bk c fl aG).1/\((bk c fl aG).2.2=7->(bk c fl aG).1.off=true):=by
 rw[bk]
 by_cases h1:(mB c fl).2=true
 ·
  rw[if_pos h1];exact⟨.dh _ _,fun h=>absurd (show(0:Int)=7 from h) (by decide)⟩
 rw[if_neg h1]
 by_cases h3:dP (aw c fl)=0\/(dP (aw c fl)=1/\aG=false)
 ·
  rw[if_pos h3];exact⟨.dh _ _,fun h=>absurd (show(5:Int)=7 from h) (by decide)⟩
 rw[if_neg h3]
 by_cases h4:(kv c fl).2=true
 ·
  rw[if_pos h4];exact⟨.dh _ _,fun h=>absurd (show(0:Int)=7 from h) (by decide)⟩
 rw[if_neg h4];obtain⟨d1,d2⟩:=IL (IK c fl) (Wf hk h2 (fun e=>h3 (.inl e)) h4);exact⟨Ao (by show 2<=jG c fl+2;change 0<=jG c fl at d2;omega) d1,EH⟩
theorem IM{L:List Int}{c:CV}{b:Int}{p:List UInt8}(h2:2<=b)(h:bB c b p=0):lf (bC c b p) (b*c.pages+(ak c b).used)=true/\bK (bC c b p) (b*c.pages+(ak c b).used)=p/\
  0<=b*c.pages+(ak c b).used/\lf c (b*c.pages+(ak c b).used)=false:=by
 obtain⟨h1,h3,h4,h5,e⟩:=ql h;obtain⟨j1,j2,j3,j4,j5⟩:=jS.1 h1;obtain⟨k1,k2,k3⟩:=iu.1 j1;have hd:(b*c.pages+(ak c b).used)/c.pages=b:=by
  rw[auY,auh _ _ (by omega),atY j2 j3,au3]
 have hm:(b*c.pages+(ak c b).used)%c.pages=(ak c b).used:=by
  rw[auY,avG,avO j2 j3]
 have bX:=(fm.1 (qZ j1)).1;rw[e];refine⟨mR.2 ?_,?_,?_,?_⟩
 ·
  show 2<=(b*c.pages+(ak c b).used)/c.pages/\(b*c.pages+(ak c b).used)/c.pages<((c.blocks.set b.toNat _).length:Int)/\(b*c.pages+(ak c b).used)%c.pages<(ak _ ((b*c.pages+(ak c b).used)/c.pages)).used;rw[hd,hm,iM,q9 j1,atC];exact⟨h2,k3,by simp only;omega⟩
 ·
  show(ak _ ((b*c.pages+(ak c b).used)/c.pages)).pages.getD ((b*c.pages+(ak c b).used)%c.pages).toNat []=p;rw[hd,hm,iM,q9 j1];simp only[List.getD];rw[atj (by omega),pw,h5];rfl
 ·
  have:0<=b*c.pages:=auO (by omega) (by omega);omega
 ·
  cases hq:lf c (b*c.pages+(ak c b).used)with
  |false=>rfl
  |true=>
   obtain⟨p1,p2,p3⟩:=mR.1 hq;rw[hd,hm]at p3;omega
structure EK(fl:List Int)(c d:CV)(n:Int)(p:List UInt8):Prop where
 pos:1<=n
 ok:lf d (n -1)=true
 pg:bK d (n -1)=p
 new: ∀m∈fl,m≠0->lf c (m -1)=true->m≠n
theorem N4: ∀(n:Nat) {c:CV} {fl:List Int} {aG:Bool} {b:List UInt8},bb c=true->3<=c.blocks.length->(cV -c.ops).toNat<n->
  Kp fl c (jd n c fl aG b).1/\((jd n c fl aG b).2.2=0->EK fl c (jd n c fl aG b).1 (jd n c fl aG b).2.1 b)/\((jd n c fl aG b).2.2=7->(jd n c fl aG b).1.off=true)
 |0,c,fl,aG,b,_,_,hn=>by omega
 |n+1,c,fl,aG,b,hk,h2,hn=>by
  obtain⟨f1,f2,f3,f4,f5⟩:=Ls (fl:=fl) (aG:=aG) hk h2;obtain⟨k1,k2⟩:=ah5 (fl:=fl) (aG:=aG) hk h2;rw[jd]
  by_cases h0:(bk c fl aG).2.2=0
  ·
   rw[if_pos h0];obtain⟨g1,g2,g3⟩:=f4 h0;have kp:=k1.trans (IH (c:=(bk c fl aG).1) (p:=b) (L:=fl) g1)
   by_cases h1:bB (bk c fl aG).1 (bk c fl aG).2.1 b=0
   ·
    rw[if_pos h1];refine⟨kp,fun _=>?_,fun h=>absurd (show(0:Int)=7 from h) (by decide)⟩;obtain⟨q1,q2,q3,q4⟩:=IM (L:=fl) g1 h1;rw[f2.pages]at q1 q2 q3 q4;have e:(bk c fl aG).2.1*c.pages+(ak (bk c fl aG).1 (bk c fl aG).2.1).used+1 -1=(bk c fl aG).2.1*c.pages+(ak (bk c fl aG).1 (bk c fl aG).2.1).used:=by omega
    refine⟨by simp only;omega,by simp only;rw[e];exact q1,by simp only;rw[e];exact q2,fun m hm h0 hp he=>?_⟩;have:=(k1.nm m hm h0 hp).1;simp only at he;rw[he,e,q4]at this;cases this
   ·
    rw[if_neg h1]
    by_cases h9:bB (bk c fl aG).1 (bk c fl aG).2.1 b≠9
    ·
     rw[if_pos h9];exact⟨kp,fun h=>absurd h h1,II⟩
    ·
     rw[if_neg h9];have ho:=uH g3 (p:=b) (.inl (by simpa using h9));have bD:=lO f1 (bk c fl aG).2.1 b;have hl:=f2.trans (iP (bk c fl aG).1 (bk c fl aG).2.1 b);have hle:=tl bD;obtain⟨t1,t2,t3⟩:=N4 n (fl:=fl) (aG:=aG) (b:=b) bD (by rw[hl.len];exact h2) (by omega);refine⟨kp.trans t1,fun h=>?_,t3⟩;have g:=t2 h;exact⟨g.pos,g.ok,g.pg,fun m hm h0 hp=>g.new m hm h0 (kp.nm m hm h0 hp).1⟩
  ·
   rw[if_neg h0]
   by_cases h9:(bk c fl aG).2.2≠9
   ·
    rw[if_pos h9];exact⟨k1,fun h=>absurd h h0,k2⟩
   ·
    rw[if_neg h9];have ho:=f5 (by simpa using h9);have hle:=tl f1;obtain⟨t1,t2,t3⟩:=N4 n (fl:=fl) (aG:=aG) (b:=b) f1 (by rw[f2.len];exact h2) (by omega);refine⟨k1.trans t1,fun h=>?_,t3⟩;have g:=t2 h;exact⟨g.pos,g.ok,g.pg,fun m hm h0 hp=>g.new m hm h0 (k1.nm m hm h0 hp).1⟩
theorem Wg{c:CV}{fl:List Int}{aG:Bool}{p:PV}(hk:bb c=true)(h2:3<=c.blocks.length):
  Kp fl c (da c fl aG p).1/\((da c fl aG p).2.2=0->mu p c.size=true/\EK fl c (da c fl aG p).1 (da c fl aG p).2.1 (dn p c.size).1)/\((da c fl aG p).2.2=7->(da c fl aG p).1.off=true):=by
 rw[da];split
 ·
  rename_i h;refine⟨.dh _ _,fun g=>absurd g h,fun g=>?_⟩;rcases Bx p c.size with e|e
  ·
   exact absurd e h
  ·
   simp only at g;rw[e]at g;cases g
 ·
  rename_i h;obtain⟨t1,t2,t3⟩:=N4 ((cV -c.ops).toNat+1) (fl:=fl) (aG:=aG) (b:=(dn p c.size).1) hk h2 (by omega);exact⟨t1,fun g=>⟨V2 (by simpa using h),t2 g⟩,t3⟩
def ve(bs:List (List UInt8))(l:List (Int×List UInt8)):List (List UInt8):=l.foldl (fun b x=>b.set x.1.toNat x.2) bs
theorem N5{α β:Type}{f:α->β}{l:List α}{i:Nat}{x:α}:(l.set i x).map f=(l.map f).set i (f x):=by rw[avr]
theorem Pl.zero{c:CV}{a:List Int}(h:Pl c a)(i:Nat):Pl c (a.set i 0):=by
 have hs: ∀(j:Nat) (y:Int),(a.set i 0)[j]? =some y->y≠0->a[j]? =some y:=fun j y hy h0=>by
  rw[atI]at hy;split at hy
  ·
   split at hy
   ·
    exact absurd (asY hy).symm h0
   cases hy
  exact hy
 exact⟨fun j y hy h0=>h.1 j y (hs j y hy h0) h0,fun j k y hj hk h0=>h.2 j k y (hs j y hj h0) (hs k y hk h0) h0⟩
theorem Pl.put{c d:CV}{a fl:List Int}{i:Nat}{n:Int}{p:PV}{pg:List UInt8}(h:Pl c a)(k:Kd fl c d)(hs: ∀m∈a,m∈fl)(g:EK fl c d n pg)(hp:cE pg=(p,0))(hk:p.kind=1)(hi:p.id=(i:Int)):Pl d (a.set i n):=by
 have hd:=h.kd k hs;have hn: ∀m∈a,m≠n:=fun m hm e=>by
  have h0:m≠0:=by have:=g.pos;omega
  exact g.new m (hs m hm) h0 (h.place hm h0) e
 have N6: ∀(j:Nat) (y:Int),(a.set i n)[j]? =some y->(j=i/\y=n)\/(a[j]? =some y/\y≠n):=fun j y hy=>by
  rw[atI]at hy;split at hy
  ·
   rename_i e;split at hy
   ·
    exact .inl ⟨e.symm,(asY hy).symm⟩
   cases hy
  exact .inr ⟨hy,hn y (alM hy)⟩
 refine⟨fun j y hy h0=>?_,fun j l y hj hl h0=>?_⟩
 ·
  rcases N6 j y hy with⟨rfl,rfl⟩|⟨e,_⟩
  ·
   exact ah1 g.ok (by rw[g.pg];exact hp) hk hi
  exact hd.1 j y e h0
 rcases N6 j y hj with⟨e1,e2⟩|⟨e1,e2⟩<;>rcases N6 l y hl with⟨e3,e4⟩|⟨e3,e4⟩
 ·
  rw[e1,e3]
 ·
  exact absurd e2 e4
 ·
  exact absurd e4 e2
 exact h.2 j l y e1 e3 h0
theorem Wh{fl:List Int}{c d:CV}{n:Int}{p:PV}{pg:List UInt8}(g:EK fl c d n pg)(hp:cE pg=(p,0)):eQ d n=p.body:=by
 rw[eQ,if_neg (by have:=g.pos;omega),jm,g.pg,hp,if_pos rfl]
theorem IN{v:VV}{aG:Bool}: ∀(l:List (Int×List UInt8)) {c:CV} {a:List Int},bb c=true->3<=c.blocks.length->Pl c v.at_->Pl c a->(∀x∈l,0<=x.1)->
  Kp v.at_ c (gY v aG l c a).1/\((gY v aG l c a).2.2=0->Pl (gY v aG l c a).1 (gY v aG l c a).2.1/\(gY v aG l c a).2.1.map (eQ (gY v aG l c a).1)=ve (a.map (eQ c)) l/\(gY v aG l c a).2.1.length=a.length)/\((gY v aG l c a).2.2=7->(gY v aG l c a).1.off=true)
 |[],c,a,_,_,_,ha,_=>⟨.dh _ _,fun _=>⟨ha,rfl,rfl⟩,fun h=>absurd (show(0:Int)=7 from h) (by decide)⟩
 |x::r,c,a,hk,h2,hv,ha,hid=>by
  have Wi: ∀y∈r,0<=y.1:=fun y hy=>hid y (atd _ hy);have vG:=hid x as5;rw[gY]
  by_cases h0:x.2.length=0
  ·
   rw[if_pos h0];obtain⟨t1,t2,t3⟩:=IN (v:=v) (aG:=aG) r hk h2 hv (ha.zero x.1.toNat) Wi;refine⟨t1,fun h=>?_,t3⟩;obtain⟨g1,g2,g3⟩:=t2 h;refine⟨g1,?_,by rw[g3,atC]⟩;rw[g2,N5,show eQ c 0=x.2 from(ati.1 h0).symm];rfl
  ·
   rw[if_neg h0];obtain⟨k1,k2,k3⟩:=Wg (fl:=v.at_++a) (aG:=aG) (p:=iS v x) hk h2
   by_cases h1:(da c (v.at_++a) aG (iS v x)).2.2≠0
   ·
    rw[if_pos h1];exact⟨k1.sub fun n hn=>atA _ hn,fun h=>absurd h h1,k3⟩
   ·
    rw[if_neg h1];obtain⟨m1,m2⟩:=k2 (by simpa using h1);have hb:=NX m1;have bX:=ha.put k1.toKd (fun n hn=>aur _ hn) m2 hb rfl (i:=x.1.toNat) (by show x.1=_;omega);have BS:=hv.kd k1.toKd fun n hn=>atA _ hn;obtain⟨t1,t2,t3⟩:=IN (v:=v) (aG:=aG) r (k1.ok hk) (by rw[k1.bT.len];exact h2) BS bX Wi;refine⟨(k1.sub fun n hn=>atA _ hn).trans t1,fun h=>?_,t3⟩;obtain⟨g1,g2,g3⟩:=t2 h;refine⟨g1,?_,by rw[g3,atC]⟩;rw[g2,N5,Wh m2 hb,IJ ha k1.toKd fun n hn=>aur _ hn];rfl
theorem ah6{c:CV}{a0 a:List Int}{src tgt:Int}(h:(cq c a0 a src tgt).2=true)(hs:2<=src)(ht:0<=tgt->tgt≠src):(cq c a0 a src tgt).1≠src:=by
 rw[cq]at h⊢
 by_cases h1:tgt<0
 ·
  rw[if_pos h1]at h⊢
  by_cases h2:(fC ((aw c (a0++a)).set (src -2).toNat bf) c.pages).2=true
  ·
   rw[if_pos h2];obtain⟨f1,f2,f3,f4⟩:=Br h2;intro e;simp only at e;have e2:(fC ((aw c (a0++a)).set (src -2).toNat bf) c.pages).1.toNat=(src -2).toNat:=by omega
   change mT c.pages (((aw c (a0++a)).set (src -2).toNat bf).getD (fC ((aw c (a0++a)).set (src -2).toNat bf) c.pages).1.toNat ei)=true at f4;change(fC ((aw c (a0++a)).set (src -2).toNat bf) c.pages).1<_ at f3;change 0<=(fC ((aw c (a0++a)).set (src -2).toNat bf) c.pages).1 at f2;rw[atC]at f3;rw[e2]at f4;simp only[List.getD]at f4;rw[atj (by omega)]at f4
   cases f4
  rw[if_neg h2]at h;cases h
 rw[if_neg h1];exact ht (by omega)
theorem IP{v:VV}{src tgt:Int}(nz:2<=src)(pR:0<=tgt->tgt≠src)(Hi:1<=v.ae.pages): ∀(l:List Int) (id:Nat) {c:CV} {a:List Int},bb c=true->Pl v.ae v.at_->Kp v.at_ v.ae c->Pl c a->a.map (eQ c)=v.at_.map (eQ v.ae)->
  (0<=tgt->2<=tgt/\tgt<c.blocks.length/\(ak c tgt).bad=false)->v.at_.drop id=l->(∀j,id<=j->a[j]? =v.at_[j]?)->(∀j n,j<id->a[j]? =some n->n≠0->(n -1)/v.ae.pages≠src)->a.length=v.at_.length->
  Kp v.at_ v.ae (bZ v src tgt l id c a).c/\((bZ v src tgt l id c a).e=none->Pl (bZ v src tgt l id c a).c (bZ v src tgt l id c a).a/\(bZ v src tgt l id c a).a.map (eQ (bZ v src tgt l id c a).c)=v.at_.map (eQ v.ae)/\(bZ v src tgt l id c a).a.length=v.at_.length/\
   kS (bZ v src tgt l id c a).a v.ae src)/\((bZ v src tgt l id c a).e=some 7->(bZ v src tgt l id c a).c.off=true)/\(bZ v src tgt l id c a).e≠some 9
 |[],id,c,a,hk,hv,n8,ha,hb,ht,hl,jJ,eS,dW=>by
  refine⟨n8,fun _=>⟨ha,hb,dW,fun n hn h0=>?_⟩,fun h=>by simp[bZ]at h,by simp[bZ]⟩;obtain⟨j,hj⟩:=ato hn;have hlen:v.at_.length<=id:=List.drop_eq_nil_iff.1 hl;have:=(ad2.1 hj).1;exact eS j n (by simp only[bZ]at this;omega) hj h0
 |n::r,id,c,a,hk,hv,n8,ha,hb,ht,hl,jJ,eS,dW=>by
  have hn:v.at_[id]? =some n:=by
   have:=congrArg (fun l:List Int=>l[0]?) hl;simpa using this
  have hr:v.at_.drop (id+1)=r:=by
   rw[←au5,hl];rfl
  have hp:=n8.bT.pages;rw[bZ]
  by_cases h1:n=0\/(n -1)/v.ae.pages≠src
  ·
   rw[if_pos h1];refine IP nz pR Hi r (id+1) hk hv n8 ha hb ht hr (fun j hj=>jJ j (by omega)) (fun j m hj hm h0=>?_) dW
   by_cases e:j=id
   ·
    rw[e,jJ id (as4 _),hn]at hm;obtain rfl:=asY hm;exact h1.resolve_left h0
   ·
    exact eS j m (by omega) hm h0
  ·
   rw[if_neg h1];have h0:n≠0:=fun e=>h1 (.inl e)
   by_cases h2:(cq c v.at_ a src tgt).2=false
   ·
    rw[if_pos h2];exact⟨n8,fun h=>by simp at h,fun h=>by simp at h,by simp⟩
   ·
    rw[if_neg h2];have Wj:(cq c v.at_ a src tgt).2=true:=by simpa using h2
    obtain⟨m1,m2,m3⟩:=SO Wj ht;have mne:=ah6 Wj nz pR;generalize cq c v.at_ a src tgt=B at*
    by_cases h3:(ez c ((v.gen:Int)+1) id n).2≠0
    ·
     rw[if_pos h3];have By:(ez c ((v.gen:Int)+1) id n).2=1:=(Bx _ _).resolve_left h3;exact⟨n8,fun h=>by simp at h,fun h=>absurd (By.symm.trans (asY h)) (by decide),fun h=>absurd (By.symm.trans (asY h)) (by decide)⟩
    ·
     rw[if_neg h3];have Cr:=V2 (p:=⟨1,id,((v.gen:Int)+1).toNat,jm c n⟩) (n:=c.size) (by simpa[ez]using h3);have EL:=NX Cr;have EM:=IH (L:=v.at_++a) (c:=c) (p:=(ez c ((v.gen:Int)+1) id n).1) m1
     by_cases h4:bB c B.1 (ez c ((v.gen:Int)+1) id n).1≠0
     ·
      rw[if_pos h4];refine⟨n8.trans (EM.sub fun n hn=>atA _ hn),fun h=>by simp at h,fun h=>?_,fun h=>?_⟩
      ·
       have h:=asY h;rw[ku]at h;split at h
       ·
        cases h
       ·
        exact II h
      ·
       have h:=asY h;rw[ku]at h;split at h
       ·
        cases h
       ·
        rename_i h9;exact h9 h
     ·
      rw[if_neg h4];have xU:bB c B.1 (ez c ((v.gen:Int)+1) id n).1=0:=by simpa using h4
      obtain⟨q1,q2,q3,q4⟩:=IM (L:=v.at_++a) m1 xU;rw[hp]at q1 q2 q3 q4;have e1:B.1*v.ae.pages+(ak c B.1).used+1 -1=B.1*v.ae.pages+(ak c B.1).used:=by omega
      have B7:EK (v.at_++a) c (bC c B.1 (ez c ((v.gen:Int)+1) id n).1) (B.1*v.ae.pages+(ak c B.1).used+1) (ez c ((v.gen:Int)+1) id n).1:=
       ⟨by omega,by rw[e1];exact q1,by rw[e1];exact q2,fun m hm _ yE he=>by rw[he,e1,q4]at yE;cases yE⟩
      have bX:=ha.put EM.toKd (fun n hn=>aur _ hn) B7 EL rfl (i:=id) rfl;have qu:=Wh B7 EL;have fY:=jS.1 (ql xU).1;have hq:(B.1*v.ae.pages+(ak c B.1).used+1 -1)/v.ae.pages=B.1:=by
       rw[e1,auY,auh _ _ (by omega),atY fY.2.1 (by rw[←hp];exact fY.2.2.1),au3]
      have Bb:eQ c n=jm c n:=by
       rw[eQ];split
       ·
        rename_i ah7;have HK:=hv.place (alM hn) h0;have asH:=(mR.1 HK).1;have:(n -1)/v.ae.pages<0:=avL ah7 (by omega);omega
       ·
        rfl
      refine IP nz pR Hi r (id+1) (EM.ok hk) hv (n8.trans (EM.sub fun n hn=>atA _ hn)) bX ?_ (fun h=>?_) hr (fun j hj=>?_) (fun j m hj hm oE=>?_) (by rw[atC,dW])
      ·
       rw[N5,qu,IJ ha EM.toKd fun n hn=>aur _ hn,hb];refine xI ?_;have e3:=congrArg (fun l:List (List UInt8)=>l[id]?) hb;simp only[atg]at e3;rw[jJ id (as4 _),hn]at e3;rw[atg,hn];simp only[atJ]at e3⊢;rw[←e3,Bb]
      ·
       have:=ht h;rw[(iP c _ _).len,LC xU];exact this
      ·
       rw[att (by omega)];exact jJ j (by omega)
      ·
       rw[atI]at hm;split at hm
       ·
        split at hm
        ·
         obtain rfl:=asY hm;rw[hq];exact mne
        ·
         cases hm
       ·
        exact eS j m (by omega) hm oE
def iW(c:CV):Prop:= ∀f∈c.aV,f.mask=0\/f.mask=255
theorem iW.kd{L:List Int}{c d:CV}(h:iW c)(k:Kd L c d):iW d:=by unfold iW;rw[k.oP];exact h
theorem iW.EN{c:CV}(h:iW c)(hs:(bt c).2=true):(bt c).1.mask=0\/(bt c).1.mask=255:=by
 rw[bt]at hs⊢
 cases hf:c.aV.find? fun f=>decide (f.op=c.ops)with
 |none=>rw[hf]at hs;cases hs
 |some x=>exact h x (auV hf)
theorem Wk(p:List UInt8):cY 0 p=p:=by
 rw[cY]
 conv=>rhs;rw[←List.map_id p]
 exact at6 fun x _=>by simp
theorem Wl(p:List UInt8):ko (cY 255 p)=true:=by
 refine Dx.2 fun x hx=>?_;obtain⟨y,_,rfl⟩:=at7.1 hx;apply UInt8.eq_of_toBitVec_eq;show y.toBitVec|||255#8=255#8;exact BitVec.or_allOnes
theorem N7{p:List UInt8}(h:ko p=true):(bF p).2≠0:=by
 rw[bF]
 by_cases h1:ot p.length=false
 ·
  rw[if_pos (by rw[cE,if_pos h1];decide)];rw[cE,if_pos h1];decide
 have e:cE p=(km,0):=by rw[cE,if_neg h1,if_pos h]
 rw[e,if_neg (by decide),if_pos (show(km,(0:Int)).1.kind=0 from rfl)];decide
theorem ah8(n:Int):ko (iv n)=true:=Dx.2 fun _ hx=>List.eq_of_mem_replicate hx
theorem vf{c:CV}(hb:gy c=true){k:Nat}(hk:(k:Int)<2*c.pages):((ak c 0).pages++(ak c 1).pages).getD k []=bK c k:=by
 obtain⟨l0,l1⟩:=EJ hb;have hp:2<=c.pages:=(fX.1 hb).2.2.1;rw[bK]
 by_cases h:(k:Int)<c.pages
 ·
  rw[atY (by omega) h,avO (by omega) h,at4];simp only[List.getD];rw[atb (by omega)]
 have e1:(k:Int)/c.pages=1:=by
  have:(k:Int)=(k -c.pages)+1*c.pages:=by omega
  rw[this,auh _ _ (by omega),atY (by omega) (by omega)];rfl
 have e2:(k:Int)%c.pages=k -c.pages:=by
  have:(k:Int)=(k -c.pages)+1*c.pages:=by omega
  rw[this,avG,avO (by omega) (by omega)];omega
 rw[e1,e2];simp only[List.getD];rw[ata (by omega)];congr 2;omega
theorem Wm{c:CV}(hb:gy c=true){i:Int}(h0:0<=i)(h1:i<2*c.pages)(hi:(bF (bK c i)).2=0)(ja: ∀k,0<=k->k<2*c.pages->(bF (bK c k)).2=0-> ¬((bF (bK c i)).1.gen<(bF (bK c k)).1.gen\/((bF (bK c k)).1.gen=(bF (bK c i)).1.gen/\i<k))):
  bP c=(i,(bF (bK c i)).1,0):=by
 obtain⟨l0,l1⟩:=EJ hb;obtain⟨n,rfl⟩: ∃n:Nat,i=n:=⟨i.toNat,by omega⟩;have hl:((ak c 0).pages++(ak c 1).pages).length=(ak c 0).pages.length+(ak c 1).pages.length:=af0;have hn:n<((ak c 0).pages++(ak c 1).pages).length:=by omega
 have:=SZ hn (Hp.2 ⟨by rw[vf hb h1];exact hi,fun k hk hv=>by
  rw[vf hb h1,vf hb (by omega)];rw[vf hb (by omega)]at hv;have:=ja k (by omega) (by omega) hv;omega⟩)
 rw[bP,this,vf hb h1]
theorem Wn{c:CV}(hb:gy c=true)(h:(bP c).2.2=0):bF (bK c (bP c).1)=((bP c).2.1,0)/\ ∀k,0<=k->k<2*c.pages->(bF (bK c k)).2=0-> ¬((bP c).2.1.gen<(bF (bK c k)).1.gen\/((bF (bK c k)).1.gen=(bP c).2.1.gen/\(bP c).1<k)):=by
 obtain⟨l0,l1⟩:=EJ hb;have hl:((ak c 0).pages++(ak c 1).pages).length=(ak c 0).pages.length+(ak c 1).pages.length:=af0
 by_cases hex: ∃i,i<((ak c 0).pages++(ak c 1).pages).length/\zG ((ak c 0).pages++(ak c 1).pages) i=true
 ·
  obtain⟨i,hi,Wo⟩:=hex;have e:=SZ hi Wo;obtain⟨g1,g2⟩:=Hp.1 Wo;rw[vf hb (by omega)]at e g1;rw[bP,e];refine⟨by rw[←g1],fun k k0 k1 hv=>?_⟩;obtain⟨n,rfl⟩: ∃n:Nat,k=n:=⟨k.toNat,by omega⟩;have:=g2 n (by omega) (by rw[vf hb k1];exact hv);rw[vf hb k1,vf hb (by omega)]at this;simp only;omega
 have:=acF (l:=(ak c 0).pages++(ak c 1).pages) fun i hi=>by
  cases hq:zG ((ak c 0).pages++(ak c 1).pages) i with
  |false=>rfl
  |true=>exact absurd ⟨i,hi,hq⟩ hex
 rw[bP,this]at h;simp only at h;split at h<;>cases h
structure Wv(g:Nat)(at_:List Int)(last:Int)(a:List Int)(c:CV):Prop where
 bears:gy c=true
 BP: ∃i:Int,0<=i/\i<2*c.pages/\bF (bK c i)=(⟨g,at_⟩,0)/\i/c.pages=last/\i%c.pages<(ak c last).used/\
  ∀k,0<=k->k<2*c.pages->(bF (bK c k)).2=0->(bF (bK c k)).1.gen<g\/((bF (bK c k)).1.gen=g/\k<=i)\/(bF (bK c k)=(⟨g+1,a⟩,0)/\k%c.pages<(ak c (k/c.pages)).used)
theorem fD.wv{x:VV}(h:fD x)(a:List Int):Wv x.gen x.at_ x.last a x.ae:=by
 obtain⟨h1,h2⟩:=Wn h.bears h.roots;have hr:=Wc h.bears;refine⟨h.bears,(bP x.ae).1,hr.1,hr.2,?_,h.last,by rw[←h.last];exact h.used,fun k k0 k1 hv=>?_⟩
 ·
  rw[h1,←h.at_,←h.gen]
 have:=h2 k k0 k1 hv;rw[h.gen]at this;omega
theorem Wv.step{g:Nat}{at_ a:List Int}{last:Int}{c d:CV}(h:Wv g at_ last a c)(hb:gy d=true)(hP:d.pages=c.pages)
  (hl: ∀i,0<=i->i/c.pages=last->i%c.pages<(ak c last).used->bK d i=bK c i/\i%c.pages<(ak d last).used)
  (hk: ∀k,0<=k->k<2*c.pages->(bF (bK d k)).2=0->(bK d k=bK c k/\(k%c.pages<(ak c (k/c.pages)).used->k%c.pages<(ak d (k/c.pages)).used))\/(bF (bK d k)=(⟨g+1,a⟩,0)/\k%c.pages<(ak d (k/c.pages)).used)):Wv g at_ last a d:=by
 obtain⟨i,i0,i1,i2,i3,i4,i5⟩:=h.BP;obtain⟨e1,e2⟩:=hl i i0 i3 i4;refine⟨hb,i,i0,by rw[hP];exact i1,by rw[e1];exact i2,by rw[hP];exact i3,by rw[hP];exact e2,fun k k0 k1 hv=>?_⟩;rw[hP]at k1⊢;rcases hk k k0 k1 hv with⟨q1,q2⟩|q
 ·
  rw[q1]at hv⊢;rcases i5 k k0 k1 hv with r|r|r
  ·
   exact .inl r
  ·
   exact .inr (.inl r)
  ·
   exact .inr (.inr ⟨r.1,q2 r.2⟩)
 ·
  exact .inr (.inr q)
theorem Wv.Wp{g:Nat}{at_ a:List Int}{last:Int}{c:CV}(h:Wv g at_ last a c)(hp:Pl c at_)(fZ: ∀k,0<=k->k<2*c.pages->bF (bK c k)≠(⟨g+1,a⟩,0)):fD ⟨c,at_,g,last⟩:=by
 obtain⟨i,i0,i1,i2,i3,i4,i5⟩:=h.BP;have e:=Wm h.bears i0 i1 (by rw[i2]) (fun k k0 k1 hv=>by
  rw[i2];rcases i5 k k0 k1 hv with r|r|r
  ·
   simp only;omega
  ·
   simp only;omega
  exact absurd r.1 (fZ k k0 k1))
 rw[i2]at e;exact⟨h.bears,by show(bP c).2.2=0;rw[e],by show(bP c).1%c.pages<(ak c ((bP c).1/c.pages)).used;rw[e];simp only;rw[i3];exact i4,hp,by show(bP c).2.1.at_=at_;rw[e],by show(bP c).2.1.gen=g;rw[e],by show(bP c).1/c.pages=last;rw[e];exact i3⟩
theorem Wq{P:Int->Prop}{m:Int}: ∀(n:Nat),(∃k,0<=k/\k<m/\P k/\m -k<=n)-> ∃i,0<=i/\i<m/\P i/\ ∀k,k<m->P k->k<=i
 |0,⟨k,_,h1,_,h3⟩=>by omega
 |n+1,⟨k,h0,h1,h2,h3⟩=>by
  by_cases h: ∃j,0<=j/\j<m/\P j/\m -j<=n
  ·
   exact Wq n h
  refine⟨k,h0,h1,h2,fun j hj hP=>?_⟩;apply atc;intro bc;exact h ⟨j,by omega,hj,hP,by omega⟩
theorem Wv.Ws{g:Nat}{at_ a:List Int}{last:Int}{c:CV}(h:Wv g at_ last a c)(hp:Pl c a){k0:Int}(q0:0<=k0)(q1:k0<2*c.pages)(q2:bF (bK c k0)=(⟨g+1,a⟩,0)):
  ∃i,fD ⟨c,a,g+1,i/c.pages⟩/\0<=i/\i<2*c.pages/\bF (bK c i)=(⟨g+1,a⟩,0)/\ ∀k,k<2*c.pages->bF (bK c k)=(⟨g+1,a⟩,0)->k<=i:=by
 obtain⟨i,i0,i1,i2,i3⟩:=Wq (P:=fun k=>bF (bK c k)=(⟨g+1,a⟩,0)) (m:=2*c.pages) (2*c.pages -k0).toNat ⟨k0,q0,q1,q2,by omega⟩;obtain⟨j,j0,j1,j2,j3,j4,j5⟩:=h.BP;have e:=Wm h.bears i0 i1 (by rw[i2]) (fun k k0 k1 hv=>by
  rw[i2];rcases j5 k k0 k1 hv with r|r|r
  ·
   simp only;omega
  ·
   simp only;omega
  ·
   have:=i3 k k1 r.1;rw[r.1];simp only;omega)
 rw[i2]at e;have hu:i%c.pages<(ak c (i/c.pages)).used:=by
  rcases j5 i i0 i1 (by rw[i2])with r|r|r
  ·
   rw[i2]at r;simp only at r;omega
  ·
   rw[i2]at r;simp only at r;omega
  ·
   exact r.2
 exact⟨i,⟨h.bears,by show(bP c).2.2=0;rw[e],by show(bP c).1%c.pages<(ak c ((bP c).1/c.pages)).used;rw[e];exact hu,hp,by show(bP c).2.1.at_=a;rw[e],by show(bP c).2.1.gen=g+1;rw[e],by show(bP c).1/c.pages=_;rw[e]⟩,i0,i1,i2,i3⟩
theorem Wv.some{g:Nat}{at_ a:List Int}{last:Int}{c:CV}(h:Wv g at_ last a c)(h1:Pl c at_)(h2:Pl c a): ∃u,fD u/\u.ae=c/\(u=⟨c,at_,g,last⟩\/(u.at_=a/\u.gen=g+1)):=by
 by_cases hex: ∃k,0<=k/\k<2*c.pages/\bF (bK c k)=(⟨g+1,a⟩,0)
 ·
  obtain⟨k,k0,k1,k2⟩:=hex;obtain⟨i,hi,_⟩:=h.Ws h2 k0 k1 k2;exact⟨_,hi,rfl, .inr ⟨rfl,rfl⟩⟩
 exact⟨_,h.Wp h1 fun k k0 k1 e=>hex ⟨k,k0,k1,e⟩,rfl, .inl rfl⟩
theorem wN{c:CV}{b e k:Int}:(ak (jq c b e) k).pages=(ak c k).pages/\(ak (jq c b e) k).used=(ak c k).used:=by
 rw[jq];split
 ·
  exact V4
 exact⟨rfl,rfl⟩
theorem IQ{c:CV}{b e k:Int}:bK (jq c b e) k=bK c k:=by
 rw[bK,bK,(G9 c b e).pages,wN.1]
theorem Wt{c:CV}{b k:Int}(bX:iW c)(hk:0<=k)(hp:1<=c.pages)(qV:k/c.pages=b)(hv:(bF (bK (dq c b) k)).2=0):bK (dq c b) k=bK c k/\(k%c.pages<(ak c b).used->k%c.pages<(ak (dq c b) b).used):=by
 rw[dq,IQ]at hv⊢;rw[wN.2]
 by_cases h:px c b=true/\c.off=false/\(ak c b).bad=false
 ·
  have hh:=(qh.1 h.1).1;have e:gv c b=k9 c b:=if_pos h;have eb:ak (k9 c b) b={ak c b with used:=if(bt c).2=true then c.pages else 0,aR:=(ak c b).aR+1,pages:=td c (ak c b).pages}:=q9 hh
  have oE:0<=k%c.pages:=ave _ (by omega);have nN:k%c.pages<c.pages:=avj _ (by omega);have D4:=(fm.1 (qZ hh)).1;have EO:bK (k9 c b) k=(td c (ak c b).pages).getD (k%c.pages).toNat []:=by
   show(ak (k9 c b) (k/c.pages)).pages.getD _ []=_;rw[qV,eb];rfl
  obtain⟨x,hx⟩: ∃x,(ak c b).pages[(k%c.pages).toNat]? =some x:=⟨_,as1 (by omega)⟩;have ec:bK c k=x:=by rw[bK,qV];simp[List.getD,hx]
  rw[e]at hv⊢;rw[EO,td]at hv⊢
  by_cases hs:(bt c).2=true
  ·
   rw[if_pos hs]at hv⊢;have eg:((ak c b).pages.map (cY (bt c).1.mask)).getD (k%c.pages).toNat []=cY (bt c).1.mask x:=by simp[List.getD,hx]
   rw[eg]at hv⊢;rcases bX.EN hs with m|m
   ·
    rw[m,Wk,ec,eb];exact⟨rfl,fun _=>by simp only;rw[if_pos hs];exact nN⟩
   rw[m]at hv;exact absurd hv (N7 (Wl x))
  rw[if_neg hs]at hv;have eg:((ak c b).pages.map fun _=>iv c.size).getD (k%c.pages).toNat []=iv c.size:=by simp[List.getD,hx]
  rw[eg]at hv;exact absurd hv (N7 (ah8 _))
 rw[gv,if_neg h];exact⟨rfl,id⟩
theorem Wv.erase{g:Nat}{at_ a:List Int}{last:Int}{c:CV}(h:Wv g at_ last a c)(bX:iW c){b:Int}(hb:b≠last)(nP:0<=b)(mg:0<=last):Wv g at_ last a (dq c b):=by
 have hP:=(xN c b).pages;have hp:2<=c.pages:=(fX.1 h.bears).2.2.1;have qp:gy (dq c b)=true:=by
  obtain⟨h1,h2,h3,h4⟩:=fX.1 h.bears;exact fX.2 ⟨DD h1 b,by rw[(xN c b).len];exact h2,by rw[hP];exact h3,by rw[(xN c b).size];exact h4⟩
 have tP: ∀k,0<=k->k≠b->(ak (dq c b) k).pages=(ak c k).pages/\(ak (dq c b) k).used=(ak c k).used:=fun k k0 hk=>by
  rw[dq,wN.1,wN.2,Co (by omega)];exact⟨rfl,rfl⟩
 refine h.step qp hP (fun i i0 i1 i2=>?_) fun k k0 k1 hv=> .inl ?_
 ·
  obtain⟨e1,e2⟩:=tP last mg (fun e=>hb e.symm);exact⟨by rw[bK,bK,hP,i1,e1],by rw[e2];exact i2⟩
 by_cases e:k/c.pages=b
 ·
  have:=Wt bX k0 (by omega) e hv;rw[e];exact this
 obtain⟨e1,e2⟩:=tP (k/c.pages) (avb k0 (by omega)) e;exact⟨by rw[bK,bK,hP,e1],by rw[e2];exact id⟩
theorem ah9{c:CV}{b k:Int}{p:List UInt8}(bX:iW c)(hk:0<=k)(hp:1<=c.pages)(qV:k/c.pages=b)(hv:(bF (bK (bC c b p) k)).2=0):
  (bK (bC c b p) k=bK c k/\(k%c.pages<(ak c b).used->k%c.pages<(ak (bC c b p) b).used))\/(bK (bC c b p) k=p/\k%c.pages<(ak (bC c b p) b).used):=by
 rw[bC,IQ]at hv⊢;rw[wN.2]
 by_cases h:oo c b (ak c b).used p=true/\c.off=false/\(ak c b).bad=false/\(ak c b).used=(ak c b).used
 ·
  obtain⟨hh,u0,u1,_,_⟩:=jS.1 h.1;have e:gT c b (ak c b).used p=iM c b (ak c b).used p:=if_pos h;have eb:ak (iM c b (ak c b).used p) b={ak c b with used:=(ak c b).used+1,pages:=(ak c b).pages.set (ak c b).used.toNat (pw c p)}:=q9 hh
  have oE:0<=k%c.pages:=ave _ (by omega);have nN:k%c.pages<c.pages:=avj _ (by omega);have D4:=(fm.1 (qZ hh)).1;have EO:bK (iM c b (ak c b).used p) k=((ak c b).pages.set (ak c b).used.toNat (pw c p)).getD (k%c.pages).toNat []:=by
   show(ak (iM c b (ak c b).used p) (k/c.pages)).pages.getD _ []=_;rw[qV,eb];rfl
  rw[e]at hv⊢;rw[EO]at hv⊢
  by_cases hj:k%c.pages=(ak c b).used
  ·
   have eg:((ak c b).pages.set (ak c b).used.toNat (pw c p)).getD (k%c.pages).toNat []=pw c p:=by
    rw[hj];simp only[List.getD];rw[atj (by omega)];rfl
   rw[eg]at hv⊢;right;refine⟨?_,by rw[eb];simp only;omega⟩;rw[pw]at hv⊢;split
   ·
    rename_i hs;rw[if_pos hs]at hv;rcases bX.EN hs with m|m
    ·
     rw[m]at hv;exact absurd hv (N7 (Wl p))
    ·
     rw[m];exact Wk p
   ·
    rfl
  ·
   left;refine⟨?_,fun bc=>by rw[eb];simp only;omega⟩;simp only[List.getD];rw[att (by omega),bK,qV];rfl
 ·
  left;rw[gT,if_neg h];exact⟨rfl,id⟩
theorem aia{c:CV}{b k:Int}{p:List UInt8}(hp:1<=c.pages)(qV:k/c.pages=b)(hu:k%c.pages<(ak c b).used):bK (bC c b p) k=bK c k/\k%c.pages<(ak (bC c b p) b).used:=by
 rw[bC,IQ,wN.2]
 by_cases h:oo c b (ak c b).used p=true/\c.off=false/\(ak c b).bad=false/\(ak c b).used=(ak c b).used
 ·
  obtain⟨hh,u0,u1,_,_⟩:=jS.1 h.1;have e:gT c b (ak c b).used p=iM c b (ak c b).used p:=if_pos h;have eb:ak (iM c b (ak c b).used p) b={ak c b with used:=(ak c b).used+1,pages:=(ak c b).pages.set (ak c b).used.toNat (pw c p)}:=q9 hh
  have oE:0<=k%c.pages:=ave _ (by omega);have EO:bK (iM c b (ak c b).used p) k=((ak c b).pages.set (ak c b).used.toNat (pw c p)).getD (k%c.pages).toNat []:=by
   show(ak (iM c b (ak c b).used p) (k/c.pages)).pages.getD _ []=_;rw[qV,eb];rfl
  rw[e,EO,eb];refine⟨?_,by simp only;omega⟩;simp only[List.getD];rw[att (by omega),bK,qV];rfl
 rw[gT,if_neg h];exact⟨rfl,hu⟩
theorem Wv.prog{g:Nat}{at_ a:List Int}{last:Int}{c:CV}{p:List UInt8}(h:Wv g at_ last a c)(bX:iW c){b:Int}(nP:0<=b)(mg:0<=last)(hr:bF p=(⟨g+1,a⟩,0)):Wv g at_ last a (bC c b p):=by
 have hP:=(iP c b p).pages;have hp:2<=c.pages:=(fX.1 h.bears).2.2.1;have qp:gy (bC c b p)=true:=by
  obtain⟨h1,h2,h3,h4⟩:=fX.1 h.bears;exact fX.2 ⟨lO h1 b p,by rw[(iP c b p).len];exact h2,by rw[hP];exact h3,by rw[(iP c b p).size];exact h4⟩
 have tP: ∀k,0<=k->k≠b->(ak (bC c b p) k).pages=(ak c k).pages/\(ak (bC c b p) k).used=(ak c k).used:=fun k k0 hk=>by
  rw[bC,wN.1,wN.2,V5 (by omega)];exact⟨rfl,rfl⟩
 refine h.step qp hP (fun i i0 i1 i2=>?_) fun k k0 k1 hv=>?_
 ·
  by_cases e:last=b
  ·
   have:=aia (p:=p) (show 1<=c.pages by omega) (i1.trans e) (by rw[←e];exact i2);rw[e];exact this
  obtain⟨e1,e2⟩:=tP last mg e;exact⟨by rw[bK,bK,hP,i1,e1],by rw[e2];exact i2⟩
 by_cases e:k/c.pages=b
 ·
  rcases ah9 bX k0 (by omega) e hv with q|q
  ·
   left;rw[e];exact q
  right;rw[q.1,e];exact⟨hr,q.2⟩
 obtain⟨e1,e2⟩:=tP (k/c.pages) (avb k0 (by omega)) e;exact .inl ⟨by rw[bK,bK,hP,e1],by rw[e2];exact id⟩
def IS(c:CV):Prop:=cV<=c.ops\/ ∃b,cV<=(ak c b).aR
def tT(g:Nat)(a:List Int)(c:CV):Prop:= ∀k,0<=k->k<2*c.pages->bF (bK c k)≠(⟨g+1,a⟩,0)
theorem aib{c:CV}(h:c.aV=[]):(bt c).2=false:=by rw[bt,h];rfl
theorem Wu{c:CV}{b:Int}{p:List UInt8}(h:c.aV=[])(he:bB c b p≠0):gT c b (ak c b).used p=c:=by
 rw[gT,if_neg];rintro⟨h1,h2,h3,h4⟩;apply he;rw[bB,kH,if_pos h1,if_neg (by rw[h2];simp),if_neg (by rw[h3];simp),if_neg (by rw[aib h];simp)]
theorem tT.erase{g:Nat}{a:List Int}{c:CV}(h:tT g a c)(hb:gy c=true)(bX:iW c){b:Int}(nP:0<=b):tT g a (dq c b):=by
 have hP:=(xN c b).pages;have hp:2<=c.pages:=(fX.1 hb).2.2.1;intro k k0 k1 he;rw[hP]at k1
 by_cases e:k/c.pages=b
 ·
  have:=(Wt bX k0 (by omega) e (by rw[he])).1;rw[this]at he;exact h k k0 k1 he
 have:bK (dq c b) k=bK c k:=by
  have hk:=avb k0 (show 0<=c.pages by omega);rw[bK,bK,hP,dq,wN.1,Co (by omega)]
 rw[this]at he;exact h k k0 k1 he
theorem aic{c:CV}{b:Int}(q:dZ c b=1):px c b=false:=by
 cases ho:px c b with
 |false=>rfl
 |true=>
  exfalso;rw[dZ,if_pos ho]at q
  by_cases h1:c.off=true
  ·
   rw[if_pos h1]at q;cases q
  rw[if_neg h1]at q
  by_cases h2:(ak c b).bad=true
  ·
   rw[if_pos h2]at q;cases q
  rw[if_neg h2]at q
  by_cases h3:(bt c).2=true
  ·
   rw[if_pos h3,mn]at q;split at q<;>cases q
  rw[if_neg h3]at q;cases q
theorem aid{g:Nat}{at_ a:List Int}{last:Int}{c:CV}(h:Wv g at_ last a c)(bX:iW c)(hl:last=0\/last=1):
  (∀L,Kd L c (aW c last).1)/\Wv g at_ last a (aW c last).1/\(tT g a c->tT g a (aW c last).1)/\((aW c last).2.2=7->(aW c last).1.off=true)/\
   ((aW c last).2.2=0->((aW c last).2.1=0\/(aW c last).2.1=1)/\0<eo (aW c last).1 (aW c last).2.1)/\((aW c last).2.2≠0->(aW c last).2.2=7\/(aW c last).2.2=9\/((aW c last).2.2=1/\IS (aW c last).1)):=by
 have hk:=(fX.1 h.bears).1;have h4:=(fX.1 h.bears).2.1;have z7: ∀{P:Prop},(0:Int)=7->P:=fun h=>absurd h (by decide);rw[aW]
 by_cases h1:0<eo c last
 ·
  rw[if_pos h1];exact⟨fun L=> .dh _ _,h,id,fun h=>z7 h,fun _=>⟨hl,h1⟩,fun h=>absurd rfl h⟩
 ·
  rw[if_neg h1]
  by_cases h2:0<eo c (1 -last)
  ·
   rw[if_pos h2];exact⟨fun L=> .dh _ _,h,id,fun h=>z7 h,fun _=>⟨by simp only;omega,h2⟩,fun h=>absurd rfl h⟩
  ·
   rw[if_neg h2]
   by_cases h3:(ak c (1 -last)).bad=true
   ·
    rw[if_pos h3];exact⟨fun L=> .dh _ _,h,id,fun h=>absurd (show(9:Int)=7 from h) (by decide),fun h=>absurd (show(9:Int)=0 from h) (by decide),fun _=> .inr (.inl rfl)⟩
   ·
    rw[if_neg h3];refine⟨fun L=>ahX (by omega),h.erase bX (by omega) (by omega) (by omega),fun g=>g.erase h.bears bX (by omega),V9,fun he=>⟨by simp only;omega,?_⟩,fun he=>?_⟩
    ·
     obtain⟨e1,e2,e3,e4,e5⟩:=DJ he;have hh:=(qh.1 e1).1;have hd:=eX hk;show 0<eo (dq c (1 -last)) (1 -last);rw[e5,eo,k9,q9 hh,e4,e3];simp only[atD,if_false];omega
    ·
     simp only at he;rcases LF c (1 -last)with q|q|q|q
     ·
      exact absurd q he
     ·
      refine .inr (.inr ⟨q,?_⟩);simp only;have fZ:=aic q;have aie:dq c (1 -last)=c:=by rw[dq,q,jq,if_neg (by decide),gv,if_neg (by rw[fZ];simp)]
      rw[aie];have hh:ir c (1 -last)=true:=iu.2 ⟨hk,by omega,by omega⟩
      by_cases ho:c.ops<cV
      ·
       right;refine⟨1 -last,?_⟩;apply atc;intro hw;rw[qh.2 ⟨hh,ho,by omega⟩]at fZ;cases fZ
      ·
       exact .inl (by omega)
     ·
      exact .inl q
     ·
      exact .inr (.inl q)
theorem aif{c:CV}{b:Int}{p:List UInt8}(hh:ir c b=true)(hf:0<eo c b)(hl:(p.length:Int)=c.size)(h:bB c b p=1):cV<=c.ops/\gT c b (ak c b).used p=c:=by
 have fZ:oo c b (ak c b).used p=false:=by
  cases ho:oo c b (ak c b).used p with
  |false=>rfl
  |true=>
   rw[bB,kH,if_pos ho]at h;split at h
   ·
    cases h
   split at h
   ·
    cases h
   split at h
   ·
    rw[mn]at h;split at h<;>cases h
   cases h
 have hu:=(fm.1 (qZ hh)).2.1;have hb:=Hf hf;rw[eo,if_neg (by rw[hb];simp)]at hf;refine⟨?_,by rw[gT,if_neg (by rw[fZ];simp)]⟩;apply atc;intro hw;rw[jS.2 ⟨hh,hu,by omega,hl,by omega⟩]at fZ;cases fZ
theorem tT.prog{g:Nat}{a:List Int}{c:CV}{b:Int}{p:List UInt8}(h:tT g a c)(hf:c.aV=[])(he:bB c b p≠0):tT g a (bC c b p):=by
 intro k k0 k1 e;rw[bC,IQ,Wu hf he]at e;rw[bC,(G9 _ _ _).pages,Wu hf he]at k1;exact h k k0 k1 e
theorem Ww{p:List UInt8}: ∀(l:List (List UInt8)) (m:Nat),m<=l.foldl (fun m p=>max m (lg p)) m/\(p∈l->lg p<=l.foldl (fun m p=>max m (lg p)) m)
 |[],m=>⟨Nat.le_refl _,fun h=>by cases h⟩
 |q::r,m=>by
  obtain⟨h1,h2⟩:=Ww (p:=p) r (max m (lg q));refine⟨by rw[auA];omega,fun h=>?_⟩;rw[auA];rcases as2.1 h with rfl|h
  ·
   omega
  exact h2 h
theorem N8{M:Nat}: ∀(l:List (List UInt8)) (m:Nat),m<=M->(∀p∈l,lg p<=M)->l.foldl (fun m p=>max m (lg p)) m<=M
 |[],m,h,_=>h
 |q::r,m,h,hp=>by
  rw[auA];exact N8 r _ (by have:=hp q as5;omega) fun p fG=>hp p (atd _ fG)
theorem Wv.last{g:Nat}{at_ a:List Int}{last:Int}{c:CV}(h:Wv g at_ last a c)(hp:Pl c a){b:Int}(hb:b=0\/b=1){k0:Int}(q0:0<=k0)(q1:k0/c.pages=b)(q2:bF (bK c k0)=(⟨g+1,a⟩,0)):
  fD ⟨c,a,g+1,if lQ c 1=g+1 then 1 else b⟩:=by
 have gX:2<=c.pages:=(fX.1 h.bears).2.2.1;obtain⟨l0,l1⟩:=EJ h.bears;have bc: ∀k:Int,k/c.pages<2->k<2*c.pages:=fun k hk=>by
  apply atc;intro hn;have:2<=k/c.pages:=by
   have:=Int.ediv_le_ediv (show 0<c.pages by omega) (show 2*c.pages<=k by omega);rwa [Int.mul_ediv_cancel _ (by omega)]at this
  omega
 obtain⟨i,hR,i0,i1,i2,i3⟩:=h.Ws hp q0 (bc k0 (by omega)) q2;have MS:i/c.pages=0\/i/c.pages=1:=by
  have h1:=avb i0 (show 0<=c.pages by omega);have h2:i/c.pages<2:=Int.ediv_lt_of_lt_mul (by omega) i1;omega
 have hle: ∀k,0<=k->k<2*c.pages->lg (bK c k)<=g+1:=fun k k0 k1=>by
  rw[lg];split
  ·
   rename_i hv;obtain⟨j,_,_,_,_,_,j5⟩:=h.BP;rcases j5 k k0 k1 hv with r|r|r
   ·
    omega
   ·
    omega
   ·
    rw[r.1];exact as4 _
  ·
   omega
 have Wx: ∀p∈(ak c 1).pages,∃k,c.pages<=k/\k<2*c.pages/\bK c k=p:=fun p yE=>by
  obtain⟨j,hj⟩:=ato yE;have iX:=(ad2.1 hj).1;refine⟨c.pages+j,by omega,by omega,?_⟩;have:=vf h.bears (k:=(ak c 0).pages.length+j) (by omega);rw[show(((ak c 0).pages.length+j:Nat):Int)=c.pages+j by omega]at this;rw[←this];simp only[List.getD];rw[ata (by omega),aus,hj];rfl
 have aih:i/c.pages=(if lQ c 1=g+1 then 1 else b):=by
  rcases MS with e|e
  ·
   have dL:i<c.pages:=by
    apply atc;intro hn;have:=Int.ediv_le_ediv (show 0<c.pages by omega) (show c.pages<=i by omega);rw[Int.ediv_self (by omega)]at this;omega
   have hg:lQ c 1<=g:=by
    refine N8 _ 0 (atv _) fun p yE=>?_;obtain⟨k,yg,pa,rfl⟩:=Wx p yE;rw[lg];split
    ·
     rename_i hv;obtain⟨j,_,_,_,_,_,j5⟩:=h.BP;rcases j5 k (by omega) pa hv with r|r|r
     ·
      omega
     ·
      omega
     ·
      have:=i3 k pa r.1;omega
    ·
     omega
   rw[if_neg (by omega),e];have asI:=i3 k0 (bc k0 (by omega)) q2;have:k0/c.pages=0:=atY q0 (by omega);omega
  ·
   have dL:c.pages<=i:=by
    apply atc;intro hn;have:i/c.pages=0:=atY i0 (by omega);omega
   have hg:lQ c 1=g+1:=by
    have h1:lQ c 1<=g+1:=N8 _ 0 (atv _) fun p yE=>by
     obtain⟨k,yg,pa,rfl⟩:=Wx p yE;exact hle k (by omega) pa
    have h2:bK c i∈(ak c 1).pages:=by
     rw[bK,e];have oE:0<=i%c.pages:=ave _ (by omega);have nN:i%c.pages<c.pages:=avj _ (by omega);have hj:(i%c.pages).toNat<(ak c 1).pages.length:=by omega
     simp only[List.getD];rw[as1 hj];exact auS hj
    have h3:=(Ww (p:=bK c i) (ak c 1).pages 0).2 h2;have h4:lg (bK c i)=g+1:=by rw[lg,if_pos (by rw[i2]),i2]
    have h5:lQ c 1=(ak c 1).pages.foldl (fun m p=>max m (lg p)) 0:=rfl;omega
   rw[if_pos hg,e]
 rw[←aih];exact hR
theorem Wz: ∀(n:Nat) {x:WV} {a:List Int} {b:List UInt8},cX x->Wv x.v.gen x.v.at_ x.v.last a x.v.ae->Pl x.v.ae a->iW x.v.ae->bF b=(⟨x.v.gen+1,a⟩,0)->(b.length:Int)=x.v.ae.size->(cV -x.v.ae.ops).toNat<n->
  (∀L,Kd L x.v.ae (hU n x a b).1.v.ae)/\((hU n x a b).2=0->fD (hU n x a b).1.v/\(hU n x a b).1.v.at_=a)/\
  ((hU n x a b).2≠0->(hU n x a b).1=x.on (hU n x a b).1.v.ae/\Wv x.v.gen x.v.at_ x.v.last a (hU n x a b).1.v.ae/\(x.v.ae.aV=[]->tT x.v.gen a x.v.ae->tT x.v.gen a (hU n x a b).1.v.ae)/\
   ((hU n x a b).2=7\/(hU n x a b).2=9\/((hU n x a b).2=1/\IS (hU n x a b).1.v.ae)))/\((hU n x a b).2=7->(hU n x a b).1.v.ae.off=true)
 |0,x,a,b,_,_,_,_,_,_,hn=>by omega
 |n+1,x,a,b,hx,hw,ha,bX,hr,dX,hn=>by
  have hl:=hx.last;obtain⟨k1,k2,k3,k4,k5,k6⟩:=aid hw bX hl;obtain⟨o1,o2,o3,o4⟩:=Hg (last:=x.v.last) hx.ae hl;have mg:0<=x.v.last:=by omega
  rw[hU]
  by_cases h0:(aW x.v.ae x.v.last).2.2≠0
  ·
   rw[if_pos h0];exact⟨k1,fun h=>absurd h h0,fun _=>⟨rfl,k2,fun _ g=>k3 g,k6 h0⟩,k4⟩
  ·
   rw[if_neg h0];obtain⟨g1,g2⟩:=k5 (by simpa using h0);have aii:iW (aW x.v.ae x.v.last).1:=bX.kd (k1 []);have hh:ir (aW x.v.ae x.v.last).1 (aW x.v.ae x.v.last).2.1=true:=by
    have:=(fX.1 k2.bears).2.1;exact iu.2 ⟨o1,by omega,by omega⟩
   have nP:0<=(aW x.v.ae x.v.last).2.1:=by omega
   have ft:=k2.prog aii nP mg hr;have wO: ∀L,Kd L x.v.ae (bC (aW x.v.ae x.v.last).1 (aW x.v.ae x.v.last).2.1 b):=fun L=>(k1 L).trans IG
   by_cases h1:bB (aW x.v.ae x.v.last).1 (aW x.v.ae x.v.last).2.1 b=0
   ·
    rw[if_pos h1];refine⟨wO,fun _=>⟨?_,rfl⟩,fun h=>absurd rfl h,fun h=>absurd (show(0:Int)=7 from h) (by decide)⟩;have hz:=ql h1;obtain⟨j1,j2,j3,j4,j5⟩:=jS.1 hz.1;have hP:=(iP (aW x.v.ae x.v.last).1 (aW x.v.ae x.v.last).2.1 b).pages;generalize(aW x.v.ae x.v.last).1=c at*;generalize(aW x.v.ae x.v.last).2.1=B at*;have hd:(B*c.pages+(ak c B).used)/c.pages=B:=by
     rw[auY,auh _ _ (by omega),atY j2 j3,au3]
    have hm:(B*c.pages+(ak c B).used)%c.pages=(ak c B).used:=by
     rw[auY,avG,avO j2 j3]
    have D4:=(fm.1 (qZ j1)).1;have qt:bK (bC c B b) (B*c.pages+(ak c B).used)=b:=by
     rw[hz.2.2.2.2];show(ak _ ((B*c.pages+(ak c B).used)/c.pages)).pages.getD ((B*c.pages+(ak c B).used)%c.pages).toNat []=b;rw[hd,hm,iM,q9 j1];simp only[List.getD];rw[atj (by omega),pw,hz.2.2.2.1];rfl
    have:0<=B*c.pages:=auO nP (by omega);exact ft.last (k0:=B*c.pages+(ak c B).used) (ha.kd (wO a) fun _ g=>g) g1 (by omega) (by rw[hP,hd]) (by rw[qt];exact hr)
   ·
    rw[if_neg h1]
    by_cases h9:bB (aW x.v.ae x.v.last).1 (aW x.v.ae x.v.last).2.1 b≠9
    ·
     rw[if_pos h9];refine⟨wO,fun h=>absurd h h1,fun _=>⟨rfl,ft,fun hf fZ=>(k3 fZ).prog (by rw[(k1 []).oP];exact hf) h1,?_⟩,II⟩;rcases DK (aW x.v.ae x.v.last).1 (aW x.v.ae x.v.last).2.1 (ak (aW x.v.ae x.v.last).1 (aW x.v.ae x.v.last).2.1).used b with q|q|q|q
     ·
      exact absurd q h1
     ·
      obtain⟨t1,t2⟩:=aif hh g2 (by rw[dX,o2.size]) q;refine .inr (.inr ⟨q, .inl ?_⟩);simp only[WV.on];rw[bC,DE,t2];exact t1
     ·
      exact .inl q
     ·
      exact absurd q h9
    ·
     rw[if_neg h9];have e9:bB (aW x.v.ae x.v.last).1 (aW x.v.ae x.v.last).2.1 b=9:=by simpa using h9
     have ho:=uH (Hf g2) (p:=b) (.inl e9);have bD:=lO o1 (aW x.v.ae x.v.last).2.1 b;have fy:=o2.trans (iP (aW x.v.ae x.v.last).1 (aW x.v.ae x.v.last).2.1 b);have hle:=tl bD;have fV:=hx.on bD fy;obtain⟨t1,t2,t3,t4⟩:=Wz n (x:=x.on (bC (aW x.v.ae x.v.last).1 (aW x.v.ae x.v.last).2.1 b)) (a:=a) (b:=b) fV ft (ha.kd (wO a) fun _ g=>g) (bX.kd (wO [])) hr (by rw[dX];exact fy.size.symm) (by simp only[WV.on];omega);refine⟨fun L=>(wO L).trans (t1 L),t2,fun h=>?_,t4⟩;obtain⟨s1,s2,s3,s4⟩:=t3 h;refine⟨by rw[s1,SM];rfl,s2,fun hf fZ=>s3 (by rw[←hf];exact(wO []).oP) ((k3 fZ).prog (by rw[(k1 []).oP];exact hf) h1),s4⟩
structure Sf(x:WV)(bs:List (List UInt8))(y:WV)(e:Int):Prop where
 kd:Kd [] x.v.ae y.v.ae
 len:y.v.at_.length=x.v.at_.length
 cM:e=0->fD y.v/\ct y.v=bs
 err:e≠0->(e=7\/e=9\/(e=1/\IS y.v.ae))\/(fD y.v/\ct y.v=ct x.v)
 Ap:e≠0->x.v.ae.aV=[]->fD y.v/\ct y.v=ct x.v
 any: ∃u:VV,fD u/\u.ae=y.v.ae/\u.at_.length=x.v.at_.length/\(ct u=ct x.v\/ct u=bs)
 off:e=7->y.v.ae.off=true
theorem WA{v:VV}{c:CV}(hp:Pl v.ae v.at_)(k:Kd v.at_ v.ae c):ct {v with ae:=c}=ct v:=IJ hp k fun _ h=>h
theorem Sf.data{x:WV}(h:fD x.v){c:CV}(k:Kp x.v.at_ x.v.ae c){e:Int}{bs:List (List UInt8)}(wF:e=0->bs=ct x.v)(ho:e=7->c.off=true):Sf x bs (x.on c) e:=by
 have h2:fD (x.on c).v/\ct (x.on c).v=ct x.v:=⟨h.kp k,WA h.pl k.toKd⟩;exact⟨k.toKd.sub fun _ h=>absurd h avt,rfl,fun g=>⟨h2.1,by rw[wF g];exact h2.2⟩,fun _=> .inr h2,fun _ _=>h2,⟨_,h2.1,rfl,rfl, .inl h2.2⟩,ho⟩
theorem Sf.trans{x y z:WV}{bs:List (List UInt8)}{e:Int}(h:Sf x (ct x.v) y 0)(g:Sf y bs z e):Sf x bs z e:=by
 have hb:=(h.cM rfl).2;refine⟨h.kd.trans g.kd,g.len.trans h.len,g.cM,fun he=>?_,fun he hf=>?_,?_,g.off⟩
 ·
  rw[←hb];exact g.err he
 ·
  rw[←hb];exact g.Ap he (by rw[h.kd.oP];exact hf)
 rw[←hb,←h.len];exact g.any
theorem N9{x:WV}{a:List Int}(hx:cX x)(h:fD x.v)(bX:iW x.v.ae)(ha:Pl x.v.ae a)(dW:a.length=x.v.at_.length):Sf x (a.map (eQ x.v.ae)) (eu x a).1 (eu x a).2/\((eu x a).2=0->(eu x a).1.v.at_=a):=by
 rw[eu]
 by_cases h0:(cZ ⟨x.v.gen+1,a⟩ x.v.ae.size).2≠0
 ·
  rw[if_pos h0];refine⟨?_,fun g=>absurd g h0⟩;have:=Sf.data (x:=x) h (.dh _ _) (e:=(cZ ⟨x.v.gen+1,a⟩ x.v.ae.size).2) (bs:=a.map (eQ x.v.ae)) (fun g=>absurd g h0) (fun g=>by
   rw[cZ]at g;split at g
   ·
    rcases Bx ⟨2,max 0 ((a.length:Int) -1),x.v.gen+1,hQ a⟩ x.v.ae.size with q|q
    ·
     rw[q]at g;cases g
    rw[q]at g;cases g
   cases g)
  rw[SL]at this;exact this
 rw[if_neg h0];have hm:=ahS (by simpa using h0);obtain⟨t1,t2,t3,t4⟩:=Wz ((cV -x.v.ae.ops).toNat+1) (b:=(cZ ⟨x.v.gen+1,a⟩ x.v.ae.size).1) hx (h.wv a) ha bX (ahR hm) (V1 hm) (by omega);generalize hU ((cV -x.v.ae.ops).toNat+1) x a (cZ ⟨x.v.gen+1,a⟩ x.v.ae.size).1=W at*;have qu:ct ⟨W.1.v.ae,a,x.v.gen+1,0⟩=a.map (eQ x.v.ae):=IJ ha (t1 a) fun _ g=>g;have oQ:ct ⟨W.1.v.ae,x.v.at_,x.v.gen,x.v.last⟩=ct x.v:=WA h.pl (t1 x.v.at_);have fY:=h.pl.kd (t1 x.v.at_) fun _ g=>g;have rh:=ha.kd (t1 a) fun _ g=>g;have aij:tT x.v.gen a x.v.ae:=fun k k0 k1 e=>by
  have:=(Wn h.bears h.roots).2 k k0 k1 (by rw[e]);rw[e,h.gen]at this;simp only at this;omega
 refine⟨⟨t1 [],?_,fun g=>?_,fun g=>?_,fun g hf=>?_,?_,t4⟩,fun g=>(t2 g).2⟩
 ·
  by_cases g:W.2=0
  ·
   rw[(t2 g).2,dW]
  rw[(t3 g).1];rfl
 ·
  obtain⟨q1,q2⟩:=t2 g;refine⟨q1,?_⟩;show W.1.v.at_.map (eQ W.1.v.ae)=_;rw[q2];exact qu
 ·
  exact .inl (t3 g).2.2.2
 ·
  obtain⟨q1,q2,q3,_⟩:=t3 g;have:=q2.Wp fY (q3 hf aij);rw[q1];exact⟨this,oQ⟩
 by_cases g:W.2=0
 ·
  obtain⟨q1,q2⟩:=t2 g;refine⟨W.1.v,q1,rfl,by rw[q2,dW], .inr ?_⟩;show W.1.v.at_.map (eQ W.1.v.ae)=_;rw[q2];exact qu
 obtain⟨q1,q2,_⟩:=t3 g;obtain⟨u,hu,hc,IT⟩:=q2.some fY rh;rcases IT with rfl|⟨e1,e2⟩
 ·
  exact⟨_,hu,rfl,rfl, .inl oQ⟩
 refine⟨u,hu,hc,by rw[e1,dW], .inr ?_⟩;show u.at_.map (eQ u.ae)=_;rw[e1,hc];exact qu
theorem Sf.by{x y:WV}{bs:List (List UInt8)}{e:Int}(h:Sf x bs y e)(b:Bool):Sf x bs {y with beyond:=b} e:=⟨h.kd,h.len,h.cM,h.err,h.Ap,h.any,h.off⟩
theorem Sf.cL{x y:WV}{bs:List (List UInt8)}{e:Int}{b:Bool}(h:Sf {x with beyond:=b} bs y e):Sf x bs y e:=⟨h.kd,h.len,h.cM,h.err,h.Ap,h.any,h.off⟩
theorem Sf.ne{x y:WV}{bs:List (List UInt8)}{e:Int}(h:Sf x (ct x.v) y e)(he:e≠0):Sf x bs y e:=
 ⟨h.kd,h.len,fun g=>absurd g he,h.err,h.Ap,by
  obtain⟨u,h1,h2,h3,h4⟩:=h.any;exact⟨u,h1,h2,h3, .inl (h4.elim id id)⟩,h.off⟩
theorem Sf.stay{x:WV}(h:fD x.v){e:Int}(he:e≠7):Sf x (ct x.v) x e:=by
 have:=Sf.data (x:=x) h (.dh _ _) (e:=e) (bs:=ct x.v) (fun _=>rfl) (fun g=>absurd g he);rw[SL]at this;exact this
theorem Sf.zero{x y:WV}{bs:List (List UInt8)}{e:Int}(h:Sf x bs y e)(h0:e≠0)(h7:e≠7)(h9:e≠9)(h1:e≠1):Sf x (ct x.v) y 0:=by
 have hr:fD y.v/\ct y.v=ct x.v:=(h.err h0).resolve_left fun g=>by
  rcases g with g|g|g
  ·
   exact h7 g
  ·
   exact h9 g
  exact h1 g.1
 exact⟨h.kd,h.len,fun _=>hr,fun g=>absurd rfl g,fun g=>absurd rfl g,⟨y.v,hr.1,rfl,h.len, .inl hr.2⟩,fun g=>absurd g (by decide)⟩
theorem aik{x:WV}{src tgt:Int}(hx:cX x)(h:fD x.v)(bX:iW x.v.ae)(nz:2<=src)(pR:0<=tgt->tgt≠src)(ht:0<=tgt->2<=tgt/\tgt<x.v.ae.blocks.length/\(ak x.v.ae tgt).bad=false):
  Sf x (ct x.v) (db x src tgt).1 (db x src tgt).2.2/\((db x src tgt).2.1=true->(db x src tgt).2.2=0/\kS (db x src tgt).1.v.at_ x.v.ae src)/\((db x src tgt).2.2=6->(db x src tgt).1=x.on (db x src tgt).1.v.ae):=by
 have hp:1<=x.v.ae.pages:=by have:=hx.pages;omega
 obtain⟨t1,t2,t3,t4⟩:=IP nz pR hp x.v.at_ 0 (c:=x.v.ae) (a:=x.v.at_) hx.ae h.pl (.dh _ _) h.pl rfl ht rfl (fun _ _=>rfl) (fun j n hj=>by omega) rfl;rw[db];split
 ·
  rename_i e he;exact⟨Sf.data h t1 (fun _=>rfl) (fun g=>t3 (by rw[he];exact congrArg some g)),fun g=>absurd (show false=true from g) (by simp),fun _=>rfl⟩
 ·
  rename_i he;obtain⟨g1,g2,g3,g4⟩:=t2 he;have fV:=hx.on (t1.ok hx.ae) t1.bT;have hw:=N9 fV (h.kp t1) (bX.kd t1.toKd) g1 g3;have hs:=Sf.data h t1 (e:=0) (bs:=ct x.v) (fun _=>rfl) (fun g=>absurd g (by decide));have mL:=hw.1;rw[show List.map (eQ (x.on (bZ x.v src tgt x.v.at_ 0 x.v.ae x.v.at_).c).v.ae) (bZ x.v src tgt x.v.at_ 0 x.v.ae x.v.at_).a=ct x.v from g2]at mL;refine⟨hs.trans mL,fun g=>?_,fun g=>absurd g (LG _ _)⟩;simp only[decide_eq_true_eq]at g;refine⟨g,?_⟩;rw[hw.2 g];exact g4
theorem ail{c:CV}{l:List aB}{fl:List Int}(hd:sG c fl l):Kp fl c (bW c l).1/\((bW c l).2.2=7->(bW c l).1.off=true)/\((bW c l).2.2=0-> ∃(j:Nat) (x:aB),(bW c l).2.1=(j:Int)+2/\l[j]? =some x/\x.bad=false):=by
 rw[bW]
 by_cases h1:(mD c l).2=true
 ·
  rw[if_pos h1];obtain⟨x,hx,k1,_,_,k4,_⟩:=pD (fun x h=>(tj h).1) h1;exact⟨.dh _ _,fun h=>absurd (show(0:Int)=7 from h) (by decide),fun _=>⟨_,x,by show(mD c l).1+2=(((mD c l).1.toNat:Nat):Int)+2;rw[aub (show 0<=(mD c l).1 from k4)],hx,k1⟩⟩
 rw[if_neg h1]
 by_cases h2:(jU c l).2=true
 ·
  rw[if_pos h2];obtain⟨x,hx,k1,_,_,k4,_⟩:=pD (fun x h=>(lR h).1) h2;obtain⟨d1,d2⟩:=IL hd h2;exact⟨Ao (by show 2<=(jU c l).1+2;change 0<=(jU c l).1 at d2;omega) d1,EH,fun _=>⟨_,x,by show(jU c l).1+2=(((jU c l).1.toNat:Nat):Int)+2;rw[aub (show 0<=(jU c l).1 from k4)],hx,k1⟩⟩
 rw[if_neg h2]
 by_cases h3:(jV c l).2=true
 ·
  rw[if_pos h3];obtain⟨x,hx,k1,_,_,k4,_⟩:=pD (fun x h=>(lR h).1) h3;obtain⟨d1,d2⟩:=IL hd h3;exact⟨Ao (by show 2<=(jV c l).1+2;change 0<=(jV c l).1 at d2;omega) d1,EH,fun _=>⟨_,x,by show(jV c l).1+2=(((jV c l).1.toNat:Nat):Int)+2;rw[aub (show 0<=(jV c l).1 from k4)],hx,k1⟩⟩
 rw[if_neg h3];exact⟨.dh _ _,fun h=>absurd (show(6:Int)=7 from h) (by decide),fun h=>absurd (show(6:Int)=0 from h) (by decide)⟩
theorem Oa{e:Int}(h:ku e=7):e=7:=by rw[ku]at h;split at h<;>omega
theorem WB{x:WV}{l:List aB}{i:Int}(hx:cX x)(h:fD x.v)(bX:iW x.v.ae)(ht:ll x.v.ae l)(hd:sG x.v.ae x.v.at_ l)(h0:0<=i)(hi:i<l.length):
  Sf x (ct x.v) (fM x l i).1 (fM x l i).2/\((fM x l i).2=6->(fM x l i).1=x.on (fM x l i).1.v.ae):=by
 obtain⟨k1,k2,k3⟩:=ail (hd.set i.toNat);have fT: ∀{e:Int},(e=7->(bW x.v.ae (l.set i.toNat bf)).1.off=true)->Sf x (ct x.v) (x.on (bW x.v.ae (l.set i.toNat bf)).1) e:=fun ho=>Sf.data h k1 (fun _=>rfl) ho;rw[fM]
 by_cases qy:(cS x.v.ae l i).2≠0
 ·
  rw[if_pos qy];refine⟨fT fun g=>k2 ?_,fun _=>rfl⟩;have g:=Oa g;rw[cS]at g;split at g
  ·
   cases g
  ·
   exact g
 ·
  rw[if_neg qy];have Ob:(cS x.v.ae l i).2=0:=by simpa using qy
  have l8:=Hl (i:=i) hx.ae ht Ob;have fV:=hx.on (k1.ok hx.ae) k1.bT;have bM:0<=(cS x.v.ae l i).1->(cS x.v.ae l i).1≠i+2:=fun hn e=>by
   have ea:rb x.v.ae l i=false:=by
    cases hq:rb x.v.ae l i with
    |false=>rfl
    |true=>rw[cS,if_pos hq]at hn;exact absurd (show(0:Int)<= -1 from hn) (by decide)
   rw[cS,if_neg (by rw[ea];simp)]at e Ob;obtain⟨j,z,e1,e2,e3⟩:=k3 Ob;have:j=i.toNat:=by omega
   rw[this,atj (by omega)]at e2;obtain rfl:=asY e2;cases e3
  obtain⟨m1,m2,m3⟩:=aik (x:=x.on (bW x.v.ae (l.set i.toNat bf)).1) (src:=i+2) (tgt:=(cS x.v.ae l i).1) fV (h.kp k1) (bX.kd k1.toKd) (by omega) bM (fun hn=>by
   have:=l8 hn;exact⟨this.1,by simp only[WV.on];rw[k1.bT.len];exact this.2.1,this.2.2⟩)
  have mok:=Hj (x:=x.on (bW x.v.ae (l.set i.toNat bf)).1) (src:=i+2) (tgt:=(cS x.v.ae l i).1) fV (fun hn=>by
   have:=l8 hn;exact⟨this.1,by simp only[WV.on];rw[k1.bT.len];exact this.2.1,this.2.2⟩)
  have IB:Sf x (ct x.v) (x.on (bW x.v.ae (l.set i.toNat bf)).1) 0:=fT fun g=>absurd g (by decide);rw[(IB.cM rfl).2]at m1;generalize db (x.on (bW x.v.ae (l.set i.toNat bf)).1) (i+2) (cS x.v.ae l i).1=M at*
  by_cases h1:M.2.1=false\/(l.getD i.toNat ei).used=x.v.ae.pages
  ·
   rw[if_pos h1];exact⟨IB.trans m1,fun g=>by rw[m3 g,SM];rfl⟩
  ·
   rw[if_neg h1];have hdn:M.2.1=true:=by
    cases hq:M.2.1 with
    |true=>rfl
    |false=>exact absurd (.inl hq) h1
   obtain⟨e0,hdd⟩:=m2 hdn;rw[e0]at m1;have hR:=m1.cM rfl;have aim:kS M.1.v.at_ M.1.v.ae (i+2):=hdd.bT m1.kd.bT;have hc:=Ao (c:=M.1.v.ae) (by omega) aim;have Hy:=Sf.data (x:=M.1) hR.1 hc (e:=ku (cC M.1.v.ae (i+2)).2) (bs:=ct M.1.v) (fun _=>rfl) (fun g=>EH (Oa g));have ain:=IB.trans m1;rw[hR.2]at Hy;exact⟨ain.trans Hy,fun g=>absurd (Hk g) (SR _ _)⟩
theorem Oc{x:WV}{l:List aB}(h:fD x.v)(hd:sG x.v.ae x.v.at_ l):Sf x (ct x.v) (kL x l).1 (kL x l).2:=by
 rw[kL];split
 ·
  exact Sf.stay h (e:=6) (by decide)
 rename_i hq;obtain⟨d1,d2⟩:=IL hd (show(ox x.v.ae l).2=true by simpa using hq);exact Sf.data h (Ao (by show 2<=(ox x.v.ae l).1+2;change 0<=(ox x.v.ae l).1 at d2;omega) d1) (fun _=>rfl) (fun g=>EH (Oa g))
theorem sG.bT{c d:CV}{fl:List Int}{l:List aB}(h:sG c fl l)(g:dO c d):sG d fl l:=fun i x hx hb hl=>(h i x hx hb hl).bT g
theorem aio{x:WV}(hx:cX x)(h:fD x.v)(bX:iW x.v.ae):Sf x (ct x.v) (eY x).1 (eY x).2:=by
 have ht:ll x.v.ae (df x):=zF _ _;have hd:sG x.v.ae x.v.at_ (df x):=IK _ _;rw[eY];split
 ·
  rename_i hv;have IU:=Lz (l:=df x) hv.1;obtain⟨r1,r2⟩:=WB (i:=(tr x).1) hx h bX ht hd IU.1 IU.2;split
  ·
   exact r1
  rename_i h6;have Bz:(fM x (df x) (tr x).1).2=6:=by simpa using h6
  have hz:=r1.zero (by omega) (by omega) (by omega) (by omega);have e:=r2 Bz;have hR:=hz.cM rfl;have lS:(fM x (df x) (tr x).1).1.v.at_=x.v.at_:=by rw[e];rfl
  have:=Oc hR.1 (l:=df x) (by rw[lS];exact hd.bT hz.kd.bT);rw[hR.2]at this;exact hz.trans this
 exact Oc h hd
theorem WC: ∀(n:Nat) {x:WV} {need:Int},cX x->fD x.v->iW x.v.ae->Sf x (ct x.v) (nM n x need).1 (nM n x need).2
 |0,x,need,hx,h,bX=>Sf.stay h (e:=0) (by decide)
 |n+1,x,need,hx,h,bX=>by
  have hc:=aio hx h bX;have FI:=Hm hx;rw[nM];split
  ·
   exact Sf.stay h (e:=0) (by decide)
  split
  ·
   exact(Sf.stay h (e:=0) (by decide)).by true
  split
  ·
   rename_i h0;rw[h0]at hc;have hR:=hc.cM rfl;have:=WC n (need:=need) FI.1.ok hR.1 (bX.kd hc.kd);rw[hR.2]at this;exact hc.trans this
  split
  ·
   exact hc
  rename_i h6;have Bz:(eY x).2=6:=by simpa using h6
  have hz:=hc.zero (by omega) (by omega) (by omega) (by omega);have hR:=hz.cM rfl;split
  ·
   exact hz.by true
  have:=Sf.stay (x:=(eY x).1) hR.1 (e:=5) (by decide);rw[hR.2]at this;exact hz.trans this
theorem WD{x:WV}{need:Int}(hx:cX x)(h:fD x.v)(bX:iW x.v.ae):Sf x (ct x.v) (kM x need).1 (kM x need).2:=WC _ hx h bX
theorem WE{x:WV}{l:List (Int×List UInt8)}(hx:cX x)(h:fD x.v)(bX:iW x.v.ae)(hid: ∀y∈l,0<=y.1):Sf x (ve (ct x.v) l) (iz x l).1 (iz x l).2:=by
 have hs:Sf x (ct x.v) (cJ x l).1 (cJ x l).2:=(WD (x:={x with beyond:=false}) (need:=mE l) (hx.by false) h bX).cL
 have ho:=Hn (l:=l) hx;rw[iz]
 by_cases h0:(cJ x l).2≠0
 ·
  rw[if_pos h0];exact hs.ne h0
 rw[if_neg h0];rw[show(cJ x l).2=0 by simpa using h0]at hs;have hR:=hs.cM rfl;obtain⟨t1,t2,t3⟩:=IN (v:=(cJ x l).1.v) (aG:=(cJ x l).1.beyond) l (c:=(cJ x l).1.v.ae) (a:=(cJ x l).1.v.at_) ho.ok.ae (by have:=ho.ok.tn;omega) hR.1.pl hR.1.pl hid
 by_cases h1:(gA x l).2.2≠0
 ·
  rw[if_pos h1];exact hs.trans (Sf.data hR.1 t1 (fun g=>absurd g h1) t3)
 rw[if_neg h1];obtain⟨g1,g2,g3⟩:=t2 (Classical.not_not.1 h1);have fV:=ho.ok.on (t1.ok ho.ok.ae) t1.bT;have hw:=(N9 fV (hR.1.kp t1) ((bX.kd hs.kd).kd t1.toKd) g1 g3).1;have e:List.map (eQ (gA x l).1) (gA x l).2.1=ve (ct x.v) l:=by rw[←hR.2];exact g2
 have hd:=Sf.data (x:=(cJ x l).1) hR.1 t1 (e:=0) (bs:=ct (cJ x l).1.v) (fun _=>rfl) (fun g=>absurd g (by decide));have ft:Sf ((cJ x l).1.on (gA x l).1) (ve (ct x.v) l) (eu ((cJ x l).1.on (gA x l).1) (gA x l).2.1).1 (eu ((cJ x l).1.on (gA x l).1) (gA x l).2.1).2:=by rw[←e];exact hw
 exact hs.trans (Sf.trans hd ft)
theorem WG{l:List (Int×List UInt8)}(hid: ∀y∈l,0<=y.1): ∀(n:Nat) {x:WV},cX x->fD x.v->iW x.v.ae->x.v.ae.blocks.length<n+nJ x.v.ae->Sf x (ve (ct x.v) l) (pG n x l).1 (pG n x l).2
 |0,x,hx,h,bX,hn=>by have:=SV x.v.ae;omega
 |n+1,x,hx,h,bX,hn=>by
  have hb:=WE (l:=l) hx h bX hid;have ho:=LM (l:=l) hx;rw[pG];split
  ·
   rename_i h5;rw[h5.1]at hb;have hz:=hb.zero (by decide) (by decide) (by decide) (by decide);have hR:=hz.cM rfl;have:=WG hid n ho.ok hR.1 (bX.kd hz.kd) (by have:=ho.bT.len;omega);rw[hR.2]at this;exact hz.trans this
  exact hb
theorem WH{v:VV}{l:List (Int×List UInt8)}(h:fD v)(bX:iW v.ae):Sf ⟨v,false⟩ (ve (ct v) l) ⟨(gh v l).1,false⟩ (gh v l).2:=by
 rw[gh];split
 ·
  exact(Sf.stay (x:=⟨v,false⟩) h (e:=1) (by decide)).ne (by decide)
 rename_i h1;have GC:=Classical.not_not.1 h1;split
 ·
  rename_i ho;have:=Sf.data (x:=⟨v,false⟩) h (.dh _ _) (e:=7) (bs:=ve (ct v) l) (fun g=>absurd g (by decide)) (fun _=>ho);exact this
 have hid: ∀y∈l,0<=y.1:=fun y hy=>by
  obtain⟨j,hj⟩:=ato hy;have:=DL.1 GC.2.2 j (ad2.1 hj).1;rw[uM,show l.getD j (0,[])=y by simp[List.getD,hj],anc,uL,anc,anc,decide_eq_true_eq]at this;exact this.1.1.1
 have:=WG hid (v.ae.blocks.length+1) (x:=⟨v,false⟩) (Ho GC.1) h bX (by show v.ae.blocks.length<_;omega);exact this.by false
theorem aip{t:List Rt}(h:br t=true): ∀l:List Ch,br (iI t l).1=true:=by
 intro l
 induction l generalizing t with
 |nil=>exact h
 |cons c r ih=>
  rw[iI];split
  ·
   exact ih (Iw h c)
  exact h
theorem aiq{t:List Rt}(h:br t=true)(l:List Ch):br (cj t l)=true:=by
 rw[cj];split
 ·
  exact aip h l
 exact h
def powC(c:CV):CV:={c with off:=false}
theorem fD.on{v:VV}(h:fD v)(b:Bool):fD {v with ae:={v.ae with off:=b}}:=by
 obtain⟨h1,h2,h3,h4,h5,h6,h7⟩:=h;exact⟨h1,h2,h3,h4,h5,h6,h7⟩
theorem WI{v:VV}(h:fD v):bG (powC v.ae)=(⟨powC v.ae,v.at_,v.gen,v.last⟩,0):=by
 have h2:=Cq.2 (h.on false);rw[mw]at h2;simp only[anc,decide_eq_true_eq]at h2;obtain⟨⟨⟨g1,g2⟩,g3⟩,g4⟩:=h2;have hc:=TW g1;change(bG (powC v.ae)).2=0 at g1;change(bG (powC v.ae)).1.gen=v.gen at g2;change(bG (powC v.ae)).1.last=v.last at g3;change(bG (powC v.ae)).1.at_=v.at_ at g4;change(bG (powC v.ae)).1.ae=powC v.ae at hc;generalize bG (powC v.ae)=F at*;obtain⟨⟨f1,f2,f3,f4⟩,f5⟩:=F;simp only at g1 g2 g3 g4 hc;subst g1 g2 g3 g4 hc;rfl
structure jg(f:FV):Prop where
 rt:fD f.ar
 jI:eH f.ar.ae≠0
 ids:(f.ar.at_.length:Int)=eG f.ar.ae
 Od:lu (ct f.ar)=0
 eq:f.table=jW (ct f.ar)
theorem WJ{v:VV}(h:fD v)(hm:eH v.ae≠0)(hi:(v.at_.length:Int)=eG v.ae)(ht:lu (ct v)=0):dI (powC v.ae)=(⟨⟨powC v.ae,v.at_,v.gen,v.last⟩,jW (ct v)⟩,0)/\lC (powC v.ae)=ct v:=by
 have hf:=WI h;have:=HB (c:=powC v.ae) hm (by rw[hf]) (by rw[hf];exact hi) (by rw[hf];exact ht);rw[hf]at this;exact this
theorem jg.load{f:FV}(h:jg f):dI (powC f.ar.ae)=(⟨⟨powC f.ar.ae,f.ar.at_,f.ar.gen,f.ar.last⟩,f.table⟩,0)/\lC (powC f.ar.ae)=ct f.ar:=by
 rw[h.eq];exact WJ h.rt h.jI h.ids h.Od
theorem yF{f:FV}:jr f=true↔jg f:=by
 constructor
 ·
  intro h;rw[adQ]at h;simp only[anc,decide_eq_true_eq]at h;obtain⟨⟨h1,h2⟩,h3⟩:=h;obtain⟨g0,g1,g2,g3⟩:=HC h1;have hr:=Cq.1 h2;have hf:=WI hr;change(bG (powC f.ar.ae)).2=0 at g1;change(((bG (powC f.ar.ae)).1.at_.length:Nat):Int)=_ at g2;change lu (ct (bG (powC f.ar.ae)).1)=0 at g3;rw[hf]at g2 g3;refine⟨hr,g0,g2,g3,?_⟩;rw[←h3];exact congrArg (fun z:FV×Int=>z.1.table) (WJ hr g0 g2 g3).1
 intro h;rw[Mf];change(dI (powC f.ar.ae)).2=0/\f.ar.gen=(dI (powC f.ar.ae)).1.ar.gen/\f.ar.last=(dI (powC f.ar.ae)).1.ar.last/\f.ar.at_=(dI (powC f.ar.ae)).1.ar.at_/\f.table=(dI (powC f.ar.ae)).1.table;rw[h.load.1];exact⟨rfl,rfl,rfl,rfl,rfl⟩
theorem jg.right{f:FV}(h:jg f):br f.table=true:=by rw[h.eq];exact adR h.Od
theorem Oe{c d:CV}(h:dO c d):eH d=eH c/\eG d=eG c:=by
 rw[eH,eH,eG,eG,h.len,h.pages,h.size];exact⟨rfl,rfl⟩
theorem WK: ∀(l:List (Int×List UInt8)) (bs:List (List UInt8)) (i:Nat),l.Pairwise (fun p q=>p.1≠q.1)->(∀p∈l,0<=p.1)->(ve bs l)[i]? =match l.find? fun p=>decide (p.1=(i:Int))with
  |some p=>if i<bs.length then some p.2 else none
  |none=>bs[i]?
 |[],bs,i,_,_=>rfl
 |p::r,bs,i,hw,h0=>by
  obtain⟨mL,ft⟩:=atn.1 hw;have ih:=WK r (bs.set p.1.toNat p.2) i ft fun q hq=>h0 q (atd _ hq);have hp0:=h0 p as5;show(ve (bs.set p.1.toNat p.2) r)[i]? =_;rw[ih,List.find?_cons]
  by_cases e:p.1=(i:Int)
  ·
   have hn:(r.find? fun q=>decide (q.1=(i:Int)))=none:=auZ.2 fun q hq=>by
    rw[decide_eq_true_eq];intro e2;exact mL q hq (by rw[e,e2])
   rw[hn,decide_eq_true e];simp only;rw[atI,if_pos (by omega)]
   by_cases hl:i<bs.length
   ·
    rw[if_pos (by omega),if_pos hl]
   ·
    rw[if_neg (by omega),if_neg hl]
  ·
   rw[decide_eq_false e];simp only
   cases hf:r.find? fun q=>decide (q.1=(i:Int))with
   |some q=>simp only;rw[atC]
   |none=>simp only;rw[att (by omega)]
theorem WL{a b:List (List UInt8)}(hl:a.length=b.length):ve a (ff a b)=b:=by
 have hs:=Ig a b (max a.length b.length);have NJ:(ff a b).Pairwise fun p q=>p.1≠q.1:=hs.imp fun h=>by omega
 have hm: ∀p∈ff a b,∃i:Nat,i<max a.length b.length/\p=((i:Int),b.getD i [])/\ ¬a.getD i []=b.getD i []:=fun p hp=>Nk hp;refine at5 fun i=>?_;rw[WK (ff a b) a i NJ fun p hp=>by obtain⟨j,_,rfl,_⟩:=hm p hp;exact Int.natCast_nonneg _]
 cases hf:(ff a b).find? fun p=>decide (p.1=(i:Int))with
 |some p=>
  obtain⟨j,h1,h2,h3⟩:=hm p (auV hf);have e:=List.find?_some hf;rw[decide_eq_true_eq,h2]at e;simp only at e;have e':j=i:=by omega
  subst e';simp only
  by_cases hi:j<a.length
  ·
   rw[if_pos hi,h2,as1 (by omega)];simp[List.getD,show j<b.length by omega]
  rw[if_neg hi,as7 (by omega)]
 |none=>
  simp only;rcases as3 i a.length with hi|hi
  ·
   have fZ:=auZ.1 hf;have hq:a.getD i []=b.getD i []:=by
    apply atc;intro bM;have jD:((i:Int),b.getD i [])∈ff a b:=by
     rw[ff,oz];exact List.mem_filterMap.2 ⟨i,aty.2 (by omega),by rw[uP,if_neg bM]⟩
    have:=fZ _ jD;simp at this
   simp only[List.getD,as1 hi,as1 (show i<b.length by omega),auT]at hq;rw[as1 hi,as1 (show i<b.length by omega),hq]
  rw[as7 hi,as7 (by omega)]
structure Af(f:FV)(t:List Rt)(o:FV)(e:Int):Prop where
 kd:Kd [] f.ar.ae o.ar.ae
 cM:e=0->jg o/\o.table=t
 bad:e≠0->o.table=f.table
 err:e≠0->(e=7\/e=9\/(e=1/\IS o.ar.ae))\/jg o
 Ap:e≠0->f.ar.ae.aV=[]->jg o
 any: ∃g:FV,jg g/\g.ar.ae=o.ar.ae/\(g.table=f.table\/g.table=t)
 off:e=7->o.ar.ae.off=true
theorem Cs{f:FV}{l:List Ch}(h:jg f):xY f l=if eH f.ar.ae<(cj f.table l).length then 5 else 0:=by
 have hr:=aiq h.right l;have hm:jI (eG f.ar.ae) (dU f.ar.ae.size)=eH f.ar.ae:=rfl;rw[xY,kx,if_neg,hm];rintro(g|g)
 ·
  rw[hr]at g;cases g
 exact h.jI g
theorem Of{f:FV}{l:List Ch}(h:jg f)(he:dr f.table l≠0):cK f l=(f,dr f.table l):=TX (yF.2 h) he
theorem Og{f:FV}{l:List Ch}(h:jg f)(he:dr f.table l=0)(hm:eH f.ar.ae<(cj f.table l).length):cK f l=(f,5):=by
 have:=Cs (l:=l) h;rw[if_pos hm]at this;rw[TY (yF.2 h) he (by rw[this];decide),this]
theorem tU{f:FV}(h:jg f):eR f=ct f.ar:=h.load.2
theorem IV{f:FV}{l:List Ch}(h:jg f)(he:dr f.table l=0)(hm: ¬eH f.ar.ae<(cj f.table l).length)(hc:ff (eR f) (dF f l)=[]):cK f l=(f,0)/\cj f.table l=f.table:=by
 have hE:=Cs (l:=l) h;rw[if_neg hm]at hE;have hlen:(eR f).length=(dF f l).length:=by
  have:=(Eu hE).1;have h2:=h.ids;rw[tU h,BF];have:((dF f l).length:Int)=eG f.ar.ae:=this;omega
 have heq:=(afY hlen).1 hc;have ht:jW (dF f l)=cj f.table l:=(Ve hE).1;have e:cj f.table l=f.table:=by
  rw[←ht,←heq,tU h];exact h.eq.symm
 rw[TZ (yF.2 h) he hE hc,e];exact⟨rfl,rfl⟩
theorem WM{f:FV}{l:List Ch}(h:jg f)(bX:iW f.ar.ae)(he:dr f.table l=0)(hm: ¬eH f.ar.ae<(cj f.table l).length):Af f (cj f.table l) (cK f l).1 (cK f l).2:=by
 have hE:=Cs (l:=l) h;rw[if_neg hm]at hE
 by_cases hc:ff (eR f) (dF f l)=[]
 ·
  obtain⟨e1,e2⟩:=IV h he hm hc;rw[e1,e2];exact⟨.dh _ _,fun _=>⟨h,rfl⟩,fun g=>absurd rfl g,fun g=>absurd rfl g,fun g=>absurd rfl g,⟨f,h,rfl, .inl rfl⟩,fun g=>absurd (show(0:Int)=7 from g) (by decide)⟩
 have hlen:(eR f).length=(dF f l).length:=by
  have:=(Eu hE).1;have h2:=h.ids;rw[tU h,BF];have:((dF f l).length:Int)=eG f.ar.ae:=this;omega
 have hs:=WH (l:=ff (eR f) (dF f l)) h.rt bX;rw[←tU h,WL hlen]at hs;have ht:=Ve hE;rw[HG (yF.2 h) he hE hc];generalize gh f.ar (ff (eR f) (dF f l))=W at*;have fy:=Oe hs.kd.bT;change eH W.1.ae=eH f.ar.ae/\eG W.1.ae=eG f.ar.ae at fy;have Oh:W.1.at_.length=f.ar.at_.length:=hs.len;have oQ:ct (⟨f.ar,false⟩:WV).v=eR f:=(tU h).symm;have mk: ∀{u:VV} {t:List Rt},fD u->dO f.ar.ae u.ae->u.at_.length=f.ar.at_.length->lu (ct u)=0->t=jW (ct u)->jg ⟨u,t⟩:=fun hu hk hl hte air=>by
  have:=Oe hk;exact⟨hu,by show eH _≠0;rw[this.1];exact h.jI,by show(_:Int)=eG _;rw[this.2,hl];exact h.ids,hte,air⟩
 have hold:lu (eR f)=0/\f.table=jW (eR f):=by rw[tU h];exact⟨h.Od,h.eq⟩
 refine⟨hs.kd,fun g=>?_,fun g=>?_,fun g=>?_,fun g hf=>?_,?_,hs.off⟩
 ·
  obtain⟨q1,q2⟩:=hs.cM g;change fD W.1 at q1;change ct W.1=dF f l at q2;simp only at g;refine⟨mk q1 hs.kd.bT Oh (by rw[q2];exact ht.2) (by rw[if_neg (fun k=>k g),q2];exact ht.1.symm),by rw[if_neg (fun k=>k g)]⟩
 ·
  simp only at g⊢;rw[if_pos g]
 ·
  simp only at g;refine(hs.err g).imp id fun q=>?_;rw[oQ]at q;exact mk q.1 hs.kd.bT Oh (by rw[show ct W.1=eR f from q.2];exact hold.1) (by rw[if_pos g,show ct W.1=eR f from q.2];exact hold.2)
 ·
  simp only at g;have q:=hs.Ap g hf;rw[oQ]at q;exact mk q.1 hs.kd.bT Oh (by rw[show ct W.1=eR f from q.2];exact hold.1) (by rw[if_pos g,show ct W.1=eR f from q.2];exact hold.2)
 obtain⟨u,q1,q2,q3,q4⟩:=hs.any;change u.ae=W.1.ae at q2;have pS:dO f.ar.ae u.ae:=by rw[q2];exact hs.kd.bT
 rw[oQ]at q4;rcases q4 with q4|q4
 ·
  exact⟨⟨u,f.table⟩,mk q1 pS q3 (by rw[q4];exact hold.1) (by rw[q4];exact hold.2),q2, .inl rfl⟩
 exact⟨⟨u,cj f.table l⟩,mk q1 pS q3 (by rw[q4];exact ht.2) (by rw[q4];exact ht.1.symm),q2, .inr rfl⟩
theorem iW.nil{c:CV}(h:c.aV=[]):iW c:=fun f hf=>by rw[h]at hf;cases hf
theorem jg.small{f:dt}(h:jg (ca f)):gU f.ar.ae/\f.ar.at_.xs.length<=1000000/\f.table.xs.length<=1000000:=by
 have hk:=(fX.1 h.rt.bears).1;have hw:=(Ho (b:=false) (Cq.2 h.rt)).kK;have ht:=uB h.right;change f.ar.at_.xs.length<=64 at hw;change f.table.xs.length<=256 at ht;exact⟨rX hk,by omega,by omega⟩
theorem jg.WN{f:FV}(h:jg f):jr f=true:=yF.2 h
theorem jg.IW{f:FV}(h:jg f)(k:Key)(bits:Int):zQ f k bits=kN f.table k bits/\zR f k bits=ky f.table k bits:=by
 rw[zQ,zR,if_pos h.WN,if_pos h.WN];exact⟨rfl,rfl⟩
theorem ais(t:List Rt)(c:List Ch):(iI t c).2=0\/(iI t c).2=1\/(iI t c).2=5\/(iI t c).2=6:=by
 induction c generalizing t with
 |nil=>exact .inl rfl
 |cons x r ih=>
  rw[iI];split
  ·
   exact ih _
  show dY t x=0\/dY t x=1\/dY t x=5\/dY t x=6;rw[dY];repeat' split
  all_goals decide
theorem ait(t:List Rt)(l:List Ch):dr t l=0\/dr t l=1\/dr t l=5\/dr t l=6:=by
 rw[dr];split
 ·
  exact ais t l
 exact .inr (.inl rfl)
theorem aiu(t:List Rt)(l:List Ch):dr t l≠7:=by have:=ait t l;omega
theorem aiv{f:FV}(h:jg f)(hf:f.ar.ae.aV=[])(ho:f.ar.ae.off=false)(l:List Ch):
  jg (cK f l).1/\(cK f l).1.ar.ae.aV=[]/\(cK f l).1.ar.ae.off=false/\((cK f l).2=0->dr f.table l=0/\(cK f l).1.table=cj f.table l)/\((cK f l).2≠0->(cK f l).1.table=f.table)/\
   ((cK f l).2≠7)/\(dr f.table l≠0->cK f l=(f,dr f.table l)):=by
 have hE7:=aiu f.table l
 by_cases he:dr f.table l=0
 ·
  by_cases hm:eH f.ar.ae<(cj f.table l).length
  ·
   rw[Og h he hm];exact⟨h,hf,ho,fun g=>absurd (show(5:Int)=0 from g) (by decide),fun _=>rfl,show(5:Int)≠7 by decide,fun g=>absurd he g⟩
  ·
   have ha:=WM h (.nil hf) he hm;have nj:=ha.kd.on ho (by rw[hf];intro x hx;cases hx);refine⟨?_,ha.kd.oP.trans hf,nj,fun g=>⟨he,(ha.cM g).2⟩,ha.bad,fun g=>?_,fun g=>absurd he g⟩
   ·
    by_cases g:(cK f l).2=0
    ·
     exact(ha.cM g).1
    ·
     exact ha.Ap g hf
   ·
    have:=ha.off g;rw[nj]at this;cases this
 ·
  rw[Of h he];exact⟨h,hf,ho,fun g=>absurd g he,fun _=>rfl,hE7,fun _=>rfl⟩
theorem WO{P Q:Nat->Bool}{j0:Nat}(hp:P j0=false)(hq: ∀j,Q j=(P j||decide (j=j0))): ∀n,((List.range n).filter Q).length=((List.range n).filter P).length+(if j0<n then 1 else 0)
 |0=>by simp
 |n+1=>by
  have ih:=WO hp hq n;rw[aua,at3,at3,af0,af0,ih]
  by_cases e:n=j0
  ·
   have h1:Q n=true:=by rw[hq n,decide_eq_true e,Bool.or_true]
   have h2:P n=false:=by rw[e];exact hp
   rw[List.filter_cons_of_pos h1,List.filter_cons_of_neg (by rw[h2];simp),if_neg (by omega),if_pos (by omega)];simp
  have h1:Q n=P n:=by rw[hq n,decide_eq_false e,Bool.or_false]
  have h2:([n].filter Q).length=([n].filter P).length:=by simp[atw,h1]
  rw[h2]
  by_cases h:j0<n
  ·
   rw[if_pos h,if_pos (by omega)];omega
  rw[if_neg h,if_neg (by omega)];omega
def cT(pages:Int)(fl:List Int)(i:Nat):Nat:=((List.range pages.toNat).filter fun j:Nat=>fl.contains (((i:Int)+2)*pages+j+1)).length
theorem yG{pages:Int}{fl gl:List Int}{i:Nat}(h: ∀n:Int,(n -1)/pages=(i:Int)+2->(n∈fl↔n∈gl))(hp:1<=pages):cT pages fl i=cT pages gl i:=by
 rw[cT,cT];congr 1;refine List.filter_congr fun j hj=>?_;have jh:=aty.1 hj;have hd:(((i:Int)+2)*pages+j+1 -1)/pages=(i:Int)+2:=by
  rw[auz,auY,auh _ _ (by omega),atY (by omega) (by omega),au3]
 rw[avn,auk,auk];exact h _ hd
theorem aiw{pages n:Int}(hp:1<=pages){i:Nat}(hb:(n -1)/pages=(i:Int)+2): ∃j:Nat,j<pages.toNat/\n=((i:Int)+2)*pages+j+1/\(n -1)%pages=j:=by
 have h0:0<=(n -1)%pages:=ave _ (by omega);have h1:(n -1)%pages<pages:=avj _ (by omega);have h2:=Int.mul_ediv_add_emod (n -1) pages;rw[hb,Int.mul_comm]at h2;exact⟨((n -1)%pages).toNat,by omega,by omega,by omega⟩
theorem Oi{pages n:Int}{fl gl:List Int}{i0:Nat}(hp:1<=pages)(hb:(n -1)/pages=(i0:Int)+2)(hn:n∉fl)(h: ∀m,m∈gl↔m∈fl\/m=n)(i:Nat):cT pages gl i=cT pages fl i+(if i=i0 then 1 else 0):=by
 by_cases e:i=i0
 ·
  subst e;obtain⟨j0,IX,en,_⟩:=aiw hp hb;rw[if_pos rfl,cT,cT];have:=WO (P:=fun j:Nat=>fl.contains (((i:Int)+2)*pages+j+1)) (Q:=fun j:Nat=>gl.contains (((i:Int)+2)*pages+j+1)) (j0:=j0) (by
   rw[←en]
   cases hc:fl.contains n with
   |false=>rfl
   |true=>exact absurd (auk.1 hc) hn) (fun j=>by
   rw[avn,aui,auk,auk,decide_eq_true_eq,h,en];constructor
   ·
    rintro(g|g)
    ·
     exact .inl g
    exact .inr (by omega)
   rintro(g|g)
   ·
    exact .inl g
   exact .inr (by rw[g])) pages.toNat
  rw[if_pos IX]at this;exact this
 rw[if_neg e,atZ];refine yG (fun m hm=>?_) hp;rw[h];constructor
 ·
  rintro(g|g)
  ·
   exact g
  rw[g,hb]at hm;omega
 exact .inl
theorem WQ{pages:Int}{l:List Int}(hp:1<=pages)(i:Nat)(h: ∀n∈l,n=0\/1<=n): ∀k,k<=l.length->kr pages l k i=cT pages (l.take k) i
 |0,_=>by
  rw[cT,auH.2 (fun j _=>by simp)];simp[kr]
 |k+1,hk=>by
  have ih:=WQ hp i h k (by omega);obtain⟨y,hy⟩: ∃y,l[k]? =some y:=⟨_,as1 (by omega)⟩;have jD: ∀m,m∈l.take (k+1)↔m∈l.take k\/m=y:=fun m=>by
   rw[atf,hy,as8];simp
  rw[DC,ih,qk hy];have uX:nI l k=(decide (y≠0)&& !(l.take k).contains y):=by rw[nI,qk hy]
  by_cases h0:y=0
  ·
   rw[uX,decide_eq_false (fun g=>g h0),avk,avk,if_neg (by simp),atZ];refine yG (fun m hm=>?_) hp;rw[jD];refine⟨.inl,fun g=>g.elim id fun g=>?_⟩;exfalso;rw[g,h0]at hm;have:((0:Int) -1)/pages<0:=avL (by decide) (by omega);omega
  by_cases hc:(l.take k).contains y=true
  ·
   rw[uX,hc,Bool.not_true,Bool.and_false,avk,if_neg (by simp),atZ];refine yG (fun m _=>?_) hp;rw[jD];exact⟨.inl,fun g=>g.elim id fun g=>by rw[g];exact auk.1 hc⟩
  have hn:y∉l.take k:=fun g=>hc (auk.2 g);have hcf:(l.take k).contains y=false:=by simpa using hc
  rw[uX,hcf,decide_eq_true h0,au4,auN,atU]
  by_cases hb:(y -1)/pages=(i:Int)+2
  ·
   rw[decide_eq_true hb,if_pos rfl,Oi hp hb hn jD i,if_pos rfl]
  rw[decide_eq_false hb,if_neg (by simp),atZ];refine yG (fun m hm=>?_) hp;rw[jD];exact⟨.inl,fun g=>g.elim id fun g=>by rw[g]at hm;exact absurd hm hb⟩
theorem IY{pages:Int}{l:List Int}(hp:1<=pages)(i:Nat)(h: ∀n∈l,n=0\/1<=n):kr pages l l.length i=cT pages l i:=by
 have:=WQ hp i h l.length (as4 _);rwa [atr]at this
def Std(c:CV)(fl:List Int):Prop:= ∀n∈fl,n≠0->lf c (n -1)=true
theorem Pl.nr{c:CV}{a:List Int}(h:Pl c a):Std c a:=fun _ hn h0=>h.place hn h0
theorem Std.append{c:CV}{a b:List Int}(h:Std c a)(g:Std c b):Std c (a++b):=fun n hn=>(as8.1 hn).elim (h n) (g n)
theorem Std.pos{c:CV}{fl:List Int}(h:Std c fl)(hp:1<=c.pages): ∀n∈fl,n=0\/1<=n:=fun n hn=>by
 by_cases h0:n=0
 ·
  exact .inl h0
 right;have:=(mR.1 (h n hn h0)).1;apply atc;intro bc;have:(n -1)/c.pages<0:=avL (by omega) (by omega);omega
theorem Std.kd{c d:CV}{fl L:List Int}(h:Std c fl)(k:Kd L c d)(hs: ∀n∈fl,n∈L):Std d fl:=fun n hn h0=>(k.nm n (hs n hn) h0 (h n hn h0)).1
def pT(c:CV)(fl:List Int)(i:Nat):aB:=if(ak c ((i:Int)+2)).bad=true then bf else⟨cT c.pages fl i,(ak c ((i:Int)+2)).used,(ak c ((i:Int)+2)).aR,false⟩
theorem Aq{c:CV}{fl:List Int}(hp:1<=c.pages)(h:Std c fl):aw c fl=(List.range (c.blocks.length -2)).map (pT c fl):=by
 rw[aw,jo,kt,List.map_map];refine at6 fun i _=>?_;simp only[Function.comp];rw[IY hp i (h.pos hp),pC,pT,uE];split
 ·
  rfl
 rename_i hb;have:(ak c ((i:Int)+2)).bad=false:=by simpa using hb
 rw[this]
theorem WR{c:CV}{fl:List Int}(hp:1<=c.pages)(h:Std c fl)(i:Nat)(hu:0<=(ak c ((i:Int)+2)).used):(cT c.pages fl i:Int)<=(ak c ((i:Int)+2)).used:=by
 have nw: ∀j,j∈(List.range c.pages.toNat).filter (fun j:Nat=>fl.contains (((i:Int)+2)*c.pages+j+1))->j<(ak c ((i:Int)+2)).used.toNat:=fun j hj=>by
  obtain⟨h1,h2⟩:=atl.1 hj;have jh:=aty.1 h1;have hm:=auk.1 h2;have h0:0<=((i:Int)+2)*c.pages:=auO (by omega) (by omega);have bX:=mR.1 (h _ hm (by omega));have hd:(((i:Int)+2)*c.pages+j+1 -1)/c.pages=(i:Int)+2:=by
   rw[auz,auY,auh _ _ (by omega),atY (by omega) (by omega),au3]
  have vI:(((i:Int)+2)*c.pages+j+1 -1)%c.pages=j:=by
   rw[auz,auY,avG,avO (by omega) (by omega)]
  rw[hd,vI]at bX;omega
 have key: ∀(n m:Nat) (P:Nat->Bool),(∀j,j∈(List.range n).filter P->j<m)->((List.range n).filter P).length<=m:=by
  intro n m P
  induction n generalizing m with
  |zero=>intro _;simp
  |succ n ih=>
   intro hs;rw[aua,at3,af0]
   by_cases hP:P n=true
   ·
    have hm:n<m:=hs n (atl.2 ⟨List.mem_range.2 (by omega),hP⟩);have:=ih n fun j hj=>aty.1 (atl.1 hj).1;simp only[atw,ava,hP,if_true,asZ,as0];omega
   have:=ih m fun j hj=>hs j (by rw[aua,at3];exact atA _ hj);simp only[atw,ava,hP];simpa using this
 have:=key c.pages.toNat (ak c ((i:Int)+2)).used.toNat _ nw;rw[cT];omega
theorem vg{c:CV}{fl:List Int}(hp:1<=c.pages)(h:Std c fl)(i:Nat):cT c.pages fl i=0↔kS fl c ((i:Int)+2):=by
 constructor
 ·
  intro h0;rw[←IY hp i (h.pos hp)]at h0;exact We h0
 intro hd;rw[cT,ati,auH];intro j hj hc;have jh:=aty.1 hj;have hm:=auk.1 hc;have h0:0<=((i:Int)+2)*c.pages:=auO (by omega) (by omega);refine hd _ hm (by omega) ?_;rw[auz,auY,auh _ _ (by omega),atY (by omega) (by omega),au3]
theorem Oj{c d:CV}{fl gl:List Int}{i0:Nat}{x:aB}(hp:1<=c.pages)(h:Std c fl)(hg:Std d gl)(hk:dO c d)(ho: ∀i:Nat,i≠i0->ak d ((i:Int)+2)=ak c ((i:Int)+2)/\cT c.pages gl i=cT c.pages fl i)(hx:pT d gl i0=x):aw d gl=(aw c fl).set i0 x:=by
 rw[Aq (by rw[hk.pages];exact hp) hg,Aq hp h,hk.len];refine at5 fun i=>?_;rw[atI]
 by_cases e:i0=i
 ·
  subst e;rw[if_pos rfl,atL,av0,atg]
  by_cases hi:i0<c.blocks.length -2
  ·
   rw[aun hi,if_pos hi,atJ,hx]
  rw[if_neg hi,as7 (by simpa using hi)];rfl
 rw[if_neg e,atg,atg]
 by_cases hi:i<c.blocks.length -2
 ·
  rw[aun hi,atJ,atJ];obtain⟨o1,o2⟩:=ho i (fun g=>e g.symm);rw[pT,pT,o1,hk.pages,o2]
 rw[as7 (by simpa using hi)];rfl
theorem Ol{c d:CV}{fl gl:List Int}(hp:1<=c.pages)(h:Std c fl)(hg:Std d gl)(hk:dO c d)(ho: ∀i:Nat,(ak d ((i:Int)+2)).bad=(ak c ((i:Int)+2)).bad/\(ak d ((i:Int)+2)).used=(ak c ((i:Int)+2)).used/\(ak d ((i:Int)+2)).aR=(ak c ((i:Int)+2)).aR/\((ak c ((i:Int)+2)).bad=false->cT c.pages gl i=cT c.pages fl i)):aw d gl=aw c fl:=by
 rw[Aq (by rw[hk.pages];exact hp) hg,Aq hp h,hk.len];refine at6 fun i _=>?_;obtain⟨o1,o2,o3,o4⟩:=ho i;rw[pT,pT,o1,o2,o3,hk.pages]
 by_cases hb:(ak c ((i:Int)+2)).bad=true
 ·
  rw[if_pos hb,if_pos hb]
 rw[if_neg hb,if_neg hb,o4 (by simpa using hb)]
theorem wP{c:CV}{fl:List Int}{i:Nat}{x:aB}(hp:1<=c.pages)(h:Std c fl)(hx:(aw c fl)[i]? =some x):x=pT c fl i/\i<c.blocks.length -2:=by
 rw[Aq hp h,atg]at hx;obtain⟨j,hj,rfl⟩:=au6.1 hx;obtain⟨hl,e⟩:=ad2.1 hj;rw[List.getElem_range]at e;rw[av0]at hl;exact⟨by rw[e],hl⟩
theorem Om{c:CV}{fl:List Int}{i:Nat}(hb:(ak c ((i:Int)+2)).bad=false):pT c fl i=⟨cT c.pages fl i,(ak c ((i:Int)+2)).used,(ak c ((i:Int)+2)).aR,false⟩:=by rw[pT,if_neg (by rw[hb];simp)]
theorem On{c:CV}{fl:List Int}(hk:bb c=true)(h:Std c fl)(h2:3<=c.blocks.length):mA (aw c fl) c.pages=true:=by
 have hd:=eX hk;have dX:=lP c fl;refine th.2 ⟨by omega,by omega,by omega,by omega,fun x hx=>?_⟩;obtain⟨i,hi⟩:=ato hx;obtain⟨rfl,dL⟩:=wP (by omega) h hi;have ra:cV=1099511627776:=rfl;rw[pT];split
 ·
  exact sa.2 (by simp only[bf];omega)
 have hb:=fm.1 (ti hk (b:=(i:Int)+2) (by omega) (by omega));have:=WR (by omega) h i hb.2.1;exact sa.2 ⟨by simp only;omega,this,hb.2.2.1,hb.2.2.2.1,hb.2.2.2.2.1⟩
theorem Ct{R:aB->Bool}{l:List aB}{p:Int}(h:mA l p=true):mA (bS R l) p=true:=by
 obtain⟨h1,h2,h3,h4,h5⟩:=th.1 h;refine th.2 ⟨by rw[xP];exact h1,by rw[xP];exact h2,h3,h4,fun x hx=>?_⟩;obtain⟨y,hy,rfl⟩:=at7.1 hx;rw[iH];split
 ·
  have ra:cV=1099511627776:=rfl;exact sa.2 (by simp only[bf];omega)
 exact h5 y hy
theorem aix{l:List aB}{p:Int}(h:mA l p=true)(i:Nat):mA (l.set i bf) p=true:=by
 obtain⟨h1,h2,h3,h4,h5⟩:=th.1 h;refine th.2 ⟨by rw[atC];exact h1,by rw[atC];exact h2,h3,h4,fun x hx=>?_⟩;rcases atx hx with g|rfl
 ·
  exact h5 x g
 have ra:cV=1099511627776:=rfl;exact sa.2 (by simp only[bf];omega)
theorem IZ{c:CV}{b k:Int}{p:List UInt8}(h:bB c b p=0)(hk:k.toNat≠b.toNat):ak (bC c b p) k=ak c k:=by
 obtain⟨h1,_,_,_,e⟩:=ql h;obtain⟨_,h3,h4⟩:=iu.1 (jS.1 h1).1;rw[e,iM,vd (by omega),if_neg hk]
theorem EP{c:CV}{b:Int}{p:List UInt8}(h:bB c b p=0):(ak (bC c b p) b).used=(ak c b).used+1/\(ak (bC c b p) b).aR=(ak c b).aR/\(ak (bC c b p) b).bad=false:=by
 obtain⟨h1,_,h3,_,e⟩:=ql h;rw[e,iM,q9 (jS.1 h1).1];exact⟨rfl,rfl,h3⟩
theorem WS{c:CV}{fl gl:List Int}{i0:Nat}{pg:List UInt8}(hk:bb c=true)(h:Std c fl)(hz:bB c ((i0:Int)+2) pg=0)(hm: ∀m,m∈gl↔m∈fl\/m=((i0:Int)+2)*c.pages+(ak c ((i0:Int)+2)).used+1):
  aw (bC c ((i0:Int)+2) pg) gl=(aw c fl).set i0 ⟨cT c.pages fl i0+1,(ak c ((i0:Int)+2)).used+1,(ak c ((i0:Int)+2)).aR,false⟩/\Std (bC c ((i0:Int)+2) pg) gl:=by
 have hd:=eX hk;have fy:=iP c ((i0:Int)+2) pg;obtain⟨q1,q2,q3,q4⟩:=IM (L:=fl) (by omega) hz;have fY:=jS.1 (ql hz).1;have hb:(((i0:Int)+2)*c.pages+(ak c ((i0:Int)+2)).used+1 -1)/c.pages=(i0:Int)+2:=by
  rw[auz,auY,auh _ _ (by omega),atY fY.2.1 fY.2.2.1,au3]
 have hn:((i0:Int)+2)*c.pages+(ak c ((i0:Int)+2)).used+1∉fl:=fun hG=>by
  have:=h _ hG (by omega);rw[auz,q4]at this;cases this
 have hS:Std (bC c ((i0:Int)+2) pg) gl:=fun m vI h0=>by
  rcases(hm m).1 vI with g|g
  ·
   exact h.kd (IG (L:=fl)) (fun _ k=>k) m g h0
  ·
   rw[g,auz];exact q1
 have hl:=Oi (by omega) hb hn hm;obtain⟨a1,a2,a3⟩:=EP hz;refine⟨Oj (by omega) h hS fy (fun i hi=>⟨IZ hz (by omega),by rw[hl i,if_neg hi];rfl⟩) ?_,hS⟩;rw[Om a3,fy.pages,hl i0,if_pos rfl,a1,a2];rfl
theorem WT: ∀(n:Nat) {c:CV} {b:Int},(fL n c b).2=0->(∀k:Int,k.toNat≠b.toNat->ak (fL n c b).1 k=ak c k)/\(ak (fL n c b).1 b).used=0/\(ak (fL n c b).1 b).aR=(ak c b).aR+1/\(ak (fL n c b).1 b).bad=false
 |0,c,b,h=>by
  obtain⟨e1,_,e3,e4,e5⟩:=DJ h;have hh:=(qh.1 e1).1;obtain⟨_,h3,h4⟩:=iu.1 hh;show(∀k:Int,k.toNat≠b.toNat->ak (dq c b) k=ak c k)/\(ak (dq c b) b).used=0/\(ak (dq c b) b).aR=(ak c b).aR+1/\(ak (dq c b) b).bad=false;rw[e5];refine⟨fun k hk=>by rw[k9,vd (by omega),if_neg hk],?_⟩;rw[k9,q9 hh,e4];exact⟨rfl,rfl,e3⟩
 |n+1,c,b,h=>by
  rw[fL]at h⊢
  by_cases h0:bB c b (iO c)≠0
  ·
   rw[if_pos h0]at h;exact absurd h h0
  rw[if_neg h0]at h⊢;have rT:bB c b (iO c)=0:=by simpa using h0
  obtain⟨g1,g2,g3,g4⟩:=WT n h;exact⟨fun k hk=>(g1 k hk).trans (IZ rT hk),g2,by rw[g3,(EP rT).2.1],g4⟩
theorem I0{c:CV}{fl:List Int}{i0:Nat}(hk:bb c=true)(h:Std c fl)(hd:kS fl c ((i0:Int)+2))(hz:(cC c ((i0:Int)+2)).2=0):aw (cC c ((i0:Int)+2)).1 fl=(aw c fl).set i0 ⟨0,0,(ak c ((i0:Int)+2)).aR+1,false⟩/\Std (cC c ((i0:Int)+2)).1 fl:=by
 have hdm:=eX hk;have kp:=Ao (L:=fl) (c:=c) (b:=(i0:Int)+2) (by omega) hd;have hS:=h.kd kp.toKd fun _ g=>g;obtain⟨z1,z2,z3,z4⟩:=WT _ hz;change∀k:Int,k.toNat≠((i0:Int)+2).toNat->ak (cC c ((i0:Int)+2)).1 k=ak c k at z1;change(ak (cC c ((i0:Int)+2)).1 ((i0:Int)+2)).used=0 at z2;change(ak (cC c ((i0:Int)+2)).1 ((i0:Int)+2)).aR=_ at z3;change(ak (cC c ((i0:Int)+2)).1 ((i0:Int)+2)).bad=false at z4;refine⟨Oj (by omega) h hS kp.bT (fun i hi=>⟨z1 _ (by omega),rfl⟩) ?_,hS⟩;rw[Om z4,kp.bT.pages,z2,z3,(vg (by omega) h i0).2 hd];rfl
structure Ok(n:Nat)(c:CV):Prop where
 ok:gy c=true
 nb: ∀b:Int,(ak c b).bad=false
 off:c.off=false
 cut: ∀f∈c.aV,f.fail=true->f.cut=true
 ops:c.ops+n<cV
 aR: ∀b:Int,(ak c b).aR+n<cV
theorem Ok.mono{n m:Nat}{c:CV}(h:Ok n c)(hm:m<=n):Ok m c:=⟨h.ok,h.nb,h.off,h.cut,by have:=h.ops;omega,fun b=>by have:=h.aR b;omega⟩
theorem Ok.EN{n:Nat}{c:CV}(h:Ok n c)(hs:(bt c).2=true):(bt c).1.cut=true:=by
 rw[bt]at hs⊢
 cases hf:c.aV.find? fun f=>decide (f.op=c.ops)with
 |none=>rw[hf]at hs;cases hs
 |some x=>
  rw[hf]at hs;simp only[aui]at hs;exact hs.elim id fun g=>h.cut x (auV hf) g
theorem Ok.ae{n:Nat}{c:CV}(h:Ok n c):bb c=true:=(fX.1 h.ok).1
theorem WU{c d:CV}(h:gy c=true)(hk:bb d=true)(hl:dO c d):gy d=true:=by
 obtain⟨h1,h2,h3,h4⟩:=fX.1 h;exact fX.2 ⟨hk,by rw[hl.len];exact h2,by rw[hl.pages];exact h3,by rw[hl.size];exact h4⟩
theorem Ok.prog{n:Nat}{c:CV}{b:Int}{p:List UInt8}(h:Ok (n+1) c)(h0:0<=b)(h1:b<c.blocks.length)(hu:(ak c b).used<c.pages)(hl:(p.length:Int)=c.size):(bB c b p=0/\Ok n (bC c b p))\/bB c b p=7:=by
 have hh:ir c b=true:=iu.2 ⟨h.ae,h0,h1⟩;have oQ:=fm.1 (qZ hh);have WW:=h.ops;have fY:oo c b (ak c b).used p=true:=jS.2 ⟨hh,oQ.2.1,hu,hl,by omega⟩
 by_cases hs:(bt c).2=true
 ·
  right;rw[bB,kH,if_pos fY,if_neg (by rw[h.off];simp),if_neg (by rw[h.nb b];simp),if_pos hs,mn,if_pos (h.EN hs)]
 left;have hz:bB c b p=0:=by
  rw[bB,kH,if_pos fY,if_neg (by rw[h.off];simp),if_neg (by rw[h.nb b];simp),if_neg hs]
 refine⟨hz,?_⟩;have e:=(ql hz).2.2.2.2;have hf:(bC c b p).aV=c.aV:=by rw[e];rfl
 have ho:(bC c b p).ops=c.ops+1:=by rw[e];rfl
 have nj:(bC c b p).off=false:=by rw[e,iM,(show(bt c).2=false by simpa using hs)];rfl
 have lS:=EP hz;have tP: ∀k:Int,(ak (bC c b p) k).bad=false/\(ak (bC c b p) k).aR=(ak c k).aR:=fun k=>by
  by_cases hk:k.toNat=b.toNat
  ·
   have e1:ak (bC c b p) k=ak (bC c b p) b:=by simp only[ak,hk]
   have e2:ak c k=ak c b:=by simp only[ak,hk]
   rw[e1,e2];exact⟨lS.2.2,lS.2.1⟩
  rw[IZ hz hk];exact⟨h.nb k,rfl⟩
 exact⟨WU h.ok (lO h.ae b p) (iP c b p),fun k=>(tP k).1,nj,by rw[hf];exact h.cut,by rw[ho];omega,fun k=>by rw[(tP k).2];have:=h.aR k;omega⟩
theorem Ok.erase{n:Nat}{c:CV}{b:Int}(h:Ok (n+1) c)(h0:0<=b)(h1:b<c.blocks.length):(dZ c b=0/\Ok n (dq c b))\/dZ c b=7:=by
 have hh:ir c b=true:=iu.2 ⟨h.ae,h0,h1⟩;have WW:=h.ops;have hwb:=h.aR b;have WX:px c b=true:=qh.2 ⟨hh,by omega,by omega⟩
 by_cases hs:(bt c).2=true
 ·
  right;rw[dZ,if_pos WX,if_neg (by rw[h.off];simp),if_neg (by rw[h.nb b];simp),if_pos hs,mn,if_pos (h.EN hs)]
 left;have hz:dZ c b=0:=by
  rw[dZ,if_pos WX,if_neg (by rw[h.off];simp),if_neg (by rw[h.nb b];simp),if_neg hs]
 refine⟨hz,?_⟩;have e:=(DJ hz).2.2.2.2;have hf:(dq c b).aV=c.aV:=by rw[e];rfl
 have ho:(dq c b).ops=c.ops+1:=by rw[e];rfl
 have nj:(dq c b).off=false:=by rw[e,k9,(show(bt c).2=false by simpa using hs)];rfl
 obtain⟨_,h3,h4⟩:=iu.1 hh;have tP: ∀k:Int,(ak (dq c b) k).bad=false/\(ak (dq c b) k).aR<=(ak c k).aR+1:=fun k=>by
  rw[e,k9,vd (by omega)];split
  ·
   rename_i hk;have e2:ak c k=ak c b:=by simp only[ak,hk]
   rw[e2];exact⟨h.nb b,by simp only;omega⟩
  exact⟨h.nb k,by omega⟩
 exact⟨WU h.ok (DD h.ae b) (xN c b),fun k=>(tP k).1,nj,by rw[hf];exact h.cut,by rw[ho];omega,fun k=>by have:=(tP k).2;have:=h.aR k;omega⟩
theorem aiy{c:CV}(h:gy c=true):((iO c).length:Int)=c.size:=by
 obtain⟨h1,_,_,h4⟩:=fX.1 h;have hd:=eX h1;have hf:ot c.size=true:=te.2 ⟨h4,by omega⟩;exact EF (rZ.2 ⟨hf, .inl rfl,by decide,by decide,by show(0:Nat)<_;omega,by rw[dU,if_pos hf];simp only[as0];omega⟩)
theorem Ok.clear{n:Nat}: ∀(m:Nat) {c:CV} {b:Int},Ok (n+(m+1)) c->0<=b->b<c.blocks.length->(m:Int)<=c.pages -(ak c b).used->((fL m c b).2=0/\Ok n (fL m c b).1)\/(fL m c b).2=7
 |0,c,b,h,h0,h1,hm=>h.erase h0 h1
 |m+1,c,b,h,h0,h1,hm=>by
  rcases h.prog (n:=n+(m+1)) (p:=iO c) h0 h1 (by omega) (aiy h.ok)with⟨e,g⟩|e
  ·
   rw[fL,if_neg (by rw[e];simp)];have fy:=iP c b (iO c);exact Ok.clear m g h0 (by rw[fy.len];exact h1) (by rw[fy.pages,(EP e).1];omega)
  right;rw[fL,if_pos (by rw[e];decide)];exact e
theorem Ok.I1{n:Nat}{c:CV}{b:Int}(h:Ok (n+17) c)(h0:0<=b)(h1:b<c.blocks.length):((cC c b).2=0/\Ok n (cC c b).1)\/(cC c b).2=7:=by
 have hd:=eX h.ae;have oQ:=fm.1 (ti h.ae h0 h1);have hf:eo c b=c.pages -(ak c b).used:=by rw[eo,if_neg (by rw[h.nb b];simp)]
 exact Ok.clear (n:=n) (eo c b).toNat (h.mono (by omega)) h0 h1 (by omega)
theorem Ok.root{n:Nat}{c:CV}{last:Int}(h:Ok (n+1) c)(hl:last=0\/last=1):((aW c last).2.2=0/\Ok n (aW c last).1)\/(aW c last).2.2=7:=by
 have h4:=(fX.1 h.ok).2.1;rw[aW];split
 ·
  exact .inl ⟨rfl,h.mono (by omega)⟩
 split
 ·
  exact .inl ⟨rfl,h.mono (by omega)⟩
 split
 ·
  rename_i hb;rw[h.nb]at hb;cases hb
 exact h.erase (by omega) (by omega)
structure I2(c:CV)(g:Nat)(a:List Int):Prop where
 gen:g+1<281474976710656
 len:(a.length:Int)<=kI c.size
 num: ∀x∈a,0<=x/\x<=65535
theorem I2.put{c:CV}{g:Nat}{a:List Int}(h:I2 c g a)(hb:gy c=true):(cZ ⟨g+1,a⟩ c.size).2=0/\((cZ ⟨g+1,a⟩ c.size).1.length:Int)=c.size:=by
 obtain⟨h1,_,_,h4⟩:=fX.1 hb;have hd:=eX h1;have hf:ot c.size=true:=te.2 ⟨h4,by omega⟩;have hm:pB ⟨g+1,a⟩ c.size=true:=xK.2 ⟨by rw[dU,if_pos hf];omega,h.gen,h.len,fun x hx=>Dy.2 (h.num x hx)⟩;refine⟨?_,V1 hm⟩;rw[cZ,if_pos hm,dn,if_pos (NZ hm)]
theorem aiz{c:CV}{last:Int}(hl:last=0\/last=1)(i:Nat):ak (aW c last).1 ((i:Int)+2)=ak c ((i:Int)+2):=by
 rw[aW];split
 ·
  rfl
 split
 ·
  rfl
 split
 ·
  rfl
 show ak (dq c (1 -last)) ((i:Int)+2)=_;rw[dq,jq];split
 ·
  rw[mo];split
  ·
   rename_i hm;have hh:ir (gv c (1 -last)) (1 -last)=true:=by
    cases hq:ir (gv c (1 -last)) (1 -last)with
    |true=>rfl
    |false=>rw[qi,if_neg (by rw[hq];simp)]at hm;cases hm
   obtain⟨_,h3,h4⟩:=iu.1 hh;have:=vd (c:=gv c (1 -last)) (o:=(gv c (1 -last)).ops) (f:=(gv c (1 -last)).off) (B:={ak (gv c (1 -last)) (1 -last)with bad:=true}) (show(1 -last).toNat<(gv c (1 -last)).blocks.length by omega) ((i:Int)+2);rw[if_neg (by omega)]at this;rw[this,Co (by omega)]
  rw[Co (by omega)]
 rw[Co (by omega)]
theorem WY{n:Nat}{x:WV}{a:List Int}(hx:cX x)(h:Ok (n+2) x.v.ae)(hr:I2 x.v.ae x.v.gen a):((eu x a).2=0/\Ok n (eu x a).1.v.ae/\(eu x a).1.v.at_=a/\(eu x a).1.v.gen=x.v.gen+1/\(∀i:Nat,ak (eu x a).1.v.ae ((i:Int)+2)=ak x.v.ae ((i:Int)+2))/\(eu x a).1.beyond=x.beyond)\/(eu x a).2=7:=by
 obtain⟨p1,p2⟩:=hr.put h.ok;have WW:=h.ops;have hl:=hx.last;have h4:=(fX.1 h.ok).2.1;rw[eu,if_neg (by rw[p1];simp)];obtain⟨m,hm⟩: ∃m,(cV -x.v.ae.ops).toNat+1=m+1:=⟨_,rfl⟩;rw[hm,hU];rcases Ok.root (n:=n+1) (last:=x.v.last) h hl with⟨e,g⟩|e
 ·
  rw[if_neg (by rw[e];simp)];have bD:=Hg (c:=x.v.ae) (last:=x.v.last) h.ae hl;have mC:=(bD.2.2.2 e).1;have aiA:=aiB (c:=x.v.ae) (last:=x.v.last) h.ae hl e;rcases g.prog (n:=n) (b:=(aW x.v.ae x.v.last).2.1) (p:=(cZ ⟨x.v.gen+1,a⟩ x.v.ae.size).1) (by omega) (by rw[bD.2.1.len];omega) (by
   rw[eo,if_neg (by rw[g.nb];simp)]at aiA;omega) (by rw[bD.2.1.size];exact p2)with⟨e2,g2⟩|e2
  ·
   rw[if_pos e2];left;refine⟨rfl,g2,rfl,rfl,fun i=>?_,rfl⟩;show ak (bC (aW x.v.ae x.v.last).1 (aW x.v.ae x.v.last).2.1 _) ((i:Int)+2)=_;rw[IZ e2 (by omega)];exact aiz hl i
  right;rw[if_neg (by rw[e2];decide),if_pos (by rw[e2];decide)];exact e2
 right;rw[if_pos (by rw[e];decide)];exact e
where
 aiB {c:CV} {last:Int} (hk:bb c=true) (hl:last=0\/last=1) (he:(aW c last).2.2=0):0<eo (aW c last).1 (aW c last).2.1:=by
  rw[aW]at he⊢
  by_cases h1:0<eo c last
  ·
   rw[if_pos h1];exact h1
  rw[if_neg h1]at he⊢
  by_cases h2:0<eo c (1 -last)
  ·
   rw[if_pos h2];exact h2
  rw[if_neg h2]at he⊢
  by_cases h3:(ak c (1 -last)).bad=true
  ·
   rw[if_pos h3]at he;cases he
  rw[if_neg h3]at he⊢;obtain⟨e1,e2,e3,e4,e5⟩:=DJ he;have hh:=(qh.1 e1).1;have hd:=eX hk;show 0<eo (dq c (1 -last)) (1 -last);rw[e5,eo,k9,q9 hh,e4,e3];simp only[atD,if_false];omega
def kT(p:Int)(x:aB):Nat:=if x.bad=true then 0 else if x.live=0 then(if 0<x.used/\x.used<p then 1 else 0)else(x.used -x.live).toNat
def pU(p:Int)(l:List aB):Nat:=(l.map (kT p)).sum
theorem WZ{f:aB->Nat}: ∀{l:List aB} {i:Nat} {x y:aB},l[i]? =some y->((l.set i x).map f).sum+f y=(l.map f).sum+f x
 |[],i,x,y,h=>by simp at h
 |z::r,0,x,y,h=>by
  obtain rfl:z=y:=by simpa using h
  simp only[auq,atq,avK];omega
 |z::r,i+1,x,y,h=>by
  have:=WZ (f:=f) (l:=r) (i:=i) (x:=x) (y:=y) (by simpa using h);simp only[avw,atq,avK];omega
theorem ER{p:Int}{l:List aB}{i:Nat}{x y:aB}(h:l[i]? =some y):pU p (l.set i x)+kT p y=pU p l+kT p x:=WZ h
theorem W3{f:aB->Nat}: ∀{l:List aB},(∀x∈l,f x=0)->(l.map f).sum=0
 |[],_=>rfl
 |z::r,h=>by
  rw[atq,avK,h z as5,W3 fun x hx=>h x (atd _ hx)]
theorem aiC{b:List UInt8}(h:(cE b).2=0)(hk:(cE b).1.kind≠0):mu (cE b).1 b.length=true:=by
 rw[cE]at h hk⊢
 by_cases h1:ot b.length=false
 ·
  rw[if_pos h1]at h;cases h
 rw[if_neg h1]at h hk⊢
 by_cases h2:ko b=true
 ·
  rw[if_pos h2]at hk;exact absurd rfl hk
 rw[if_neg h2]at h hk⊢
 by_cases h3:de (zx b)≠po (mv b)
 ·
  rw[if_pos h3]at h;cases h
 rw[if_neg h3]at h hk⊢
 by_cases h4:pA b=false
 ·
  rw[if_pos h4]at h;cases h
 rw[if_neg h4]at h hk⊢
 by_cases h5:xJ (ou b)=false
 ·
  rw[if_pos h5]at h;cases h
 rw[if_neg h5];have hf:pA b=true:=by simpa using h4
 rw[pA,anc,decide_eq_true_eq]at hf;obtain⟨m1,m2,m3,m4,m5,m6⟩:=rZ.1 hf.2;exact rZ.2 ⟨m1,m2,m3,m4,m5,by
  have:((b.drop 10).take (10+iG b -10)).length<=iG b:=by rw[as6];omega
  show(((b.drop 10).take (10+iG b -10)).length:Int)<=_;omega⟩
theorem Ok.tell{n:Nat}{c:CV}{fl:List Int}(h:Ok n c)(i:Nat):pT c fl i=⟨cT c.pages fl i,(ak c ((i:Int)+2)).used,(ak c ((i:Int)+2)).aR,false⟩:=Om (h.nb _)
theorem Ok.get{n:Nat}{c:CV}{fl:List Int}(h:Ok n c)(hs:Std c fl){i:Nat}(hi:i<c.blocks.length -2):(aw c fl)[i]? =some ⟨cT c.pages fl i,(ak c ((i:Int)+2)).used,(ak c ((i:Int)+2)).aR,false⟩:=by
 have hd:=eX h.ae;rw[Aq (by omega) hs,atg,aun hi,atJ,h.tell]
theorem Ok.getD{n:Nat}{c:CV}{fl:List Int}(h:Ok n c)(hs:Std c fl){i:Nat}(hi:i<c.blocks.length -2):(aw c fl).getD i ei=⟨cT c.pages fl i,(ak c ((i:Int)+2)).used,(ak c ((i:Int)+2)).aR,false⟩:=by
 have:=h.get hs hi;simp only[List.getD,this,auT]
theorem Ok.Cu{n:Nat}{c:CV}(h:Ok n c){i:Nat}(hi:i<c.blocks.length -2):0<=(ak c ((i:Int)+2)).used/\(ak c ((i:Int)+2)).used<=c.pages:=by
 have hb:=fm.1 (ti h.ae (b:=(i:Int)+2) (by omega) (by omega));exact⟨hb.2.1,hb.2.2.1⟩
theorem Ok.W4{n:Nat}{c:CV}{fl:List Int}(h:Ok n c)(hs:Std c fl){i:Nat}(hi:i<c.blocks.length -2):(cT c.pages fl i:Int)<=(ak c ((i:Int)+2)).used:=by
 have hd:=eX h.ae;exact WR (by omega) hs i (h.Cu hi).1
theorem W5(l:List aB): ∀k,0<(gK l k).2->(gK l k).1.toNat<k/\(l.getD (gK l k).1.toNat ei).bad=false/\(l.getD (gK l k).1.toNat ei).live≠0/\(gK l k).2=(l.getD (gK l k).1.toNat ei).used -(l.getD (gK l k).1.toNat ei).live
 |0,h=>by simp[gK]at h
 |k+1,h=>by
  have ih:=W5 l k;rw[gK,xS]at h⊢
  by_cases h1:(l.getD k ei).bad=true\/(l.getD k ei).live=0\/cV<=(l.getD k ei).aR
  ·
   rw[if_pos h1]at h⊢;obtain⟨i1,i2⟩:=ih h;exact⟨by omega,i2⟩
  rw[if_neg h1]at h⊢
  by_cases h2:(gK l k).2<(l.getD k ei).used -(l.getD k ei).live
  ·
   rw[if_pos h2];simp only[at4];exact⟨by omega,by
    cases hb:(l.getD k ei).bad with
    |false=>rfl
    |true=>exact absurd (.inl hb) h1,fun g=>h1 (.inr (.inl g)),trivial⟩
  rw[if_neg h2]at h⊢;obtain⟨i1,i2⟩:=ih h;exact⟨by omega,i2⟩
theorem W6(l:List aB){j:Nat}(h1:(l.getD j ei).bad=false)(h2:(l.getD j ei).live≠0)(h3:(l.getD j ei).aR<cV): ∀k,j<k->(l.getD j ei).used -(l.getD j ei).live<=(gK l k).2
 |0,h=>by omega
 |k+1,h=>by
  rw[gK,xS]
  by_cases e:j=k
  ·
   subst e;rw[if_neg (by rintro(g|g|g);rw[h1]at g;cases g;exact h2 g;omega)];split
   ·
    exact atW _
   omega
  have ih:=W6 l h1 h2 h3 k (by omega);split
  ·
   exact ih
  split
  ·
   simp only;omega
  exact ih
theorem aiD{n:Nat}{c:CV}{fl:List Int}(h:Ok n c)(hs:Std c fl)(hv:(iR (aw c fl) c.pages).2=true):
  ∃i:Nat,(iR (aw c fl) c.pages).1=i/\i<c.blocks.length -2/\0<cT c.pages fl i/\(cT c.pages fl i:Int)<(ak c ((i:Int)+2)).used:=by
 have hd:=eX h.ae;have IU:=Lz hv;rw[lP]at IU;refine⟨(iR (aw c fl) c.pages).1.toNat,by omega,by omega,?_⟩;have nt:=h.getD hs (i:=(iR (aw c fl) c.pages).1.toNat) (by omega);rw[iR]at hv nt⊢
 by_cases h1:(vZ (aw c fl) c.pages).2=true
 ·
  rw[if_pos h1]at nt⊢;obtain⟨f1,f2,f3,f4⟩:=Br h1;simp only at nt⊢;change zC c.pages ((aw c fl).getD (vZ (aw c fl) c.pages).1.toNat ei)=true at f4;rw[nt,zC]at f4;simp only[atD,if_false,anc,decide_eq_true_eq]at f4;omega
 ·
  rw[if_neg h1]at hv nt⊢;simp only[decide_eq_true_eq]at hv nt⊢;obtain⟨_,s1,s2,s3⟩:=W5 _ _ hv;rw[nt]at s2 s3;simp only at s2 s3;omega
theorem aiE{n:Nat}{c:CV}{fl:List Int}(h:Ok n c)(hs:Std c fl){j:Nat}(hj:j<c.blocks.length -2)(h1:0<cT c.pages fl j)(h2:(cT c.pages fl j:Int)<(ak c ((j:Int)+2)).used):(iR (aw c fl) c.pages).2=true:=by
 rw[iR];split
 ·
  rfl
 have nt:=h.getD hs hj;have:=W6 (aw c fl) (j:=j) (by rw[nt]) (by rw[nt];simp only;omega) (by rw[nt];have:=h.aR ((j:Int)+2);simp only;omega) (aw c fl).length (by rw[lP];exact hj);rw[nt]at this;simp only[decide_eq_true_eq]at this⊢;omega
theorem Cv{R:aB->Bool}{x:aB}(h:x.bad=false)(hR:R x=true):iH R x=x:=by
 rw[iH,if_neg];rintro(g|g)
 ·
  rw[h]at g;cases g
 rw[hR]at g;cases g
theorem I3{α:Type}{l:List α}{i:Nat}{x:α}(h:l[i]? =some x):l.set i x=l:=xI h
theorem aiF{n:Nat}{c:CV}{fl:List Int}{i j:Nat}(h:Ok (n+17) c)(hs:Std c fl)(hj:j<c.blocks.length -2)(cy:j≠i)(hd0:cT c.pages fl j=0):
  (∃(t:Nat) (w:Int),t≠i/\t<c.blocks.length -2/\cT c.pages fl t=0/\(bW c ((aw c fl).set i bf)).2=((t:Int)+2,0)/\Ok n (bW c ((aw c fl).set i bf)).1/\aw (bW c ((aw c fl).set i bf)).1 fl=(aw c fl).set t ⟨0,0,w,false⟩/\Kp fl c (bW c ((aw c fl).set i bf)).1)\/(bW c ((aw c fl).set i bf)).2.2=7:=by
 have hd:=eX h.ae;have Nr:=On h.ae hs (by omega);have hw:=aix Nr i;have hgj:=h.get hs hj;have jD:(⟨cT c.pages fl j,(ak c ((j:Int)+2)).used,(ak c ((j:Int)+2)).aR,false⟩:aB)∈(aw c fl).set i bf:=by
  refine alM (i:=j) ?_;rw[att (fun e=>cy e.symm)];exact hgj
 have Oo:=h.Cu hj;have hwo:=h.aR ((j:Int)+2);have W7: ∀{k:Nat} {x:aB},((aw c fl).set i bf)[k]? =some x->x.bad=false->k≠i/\k<c.blocks.length -2/\x=⟨cT c.pages fl k,(ak c ((k:Int)+2)).used,(ak c ((k:Int)+2)).aR,false⟩:=fun{k x} hx hb=>by
  have hk:k≠i:=fun e=>by
   rw[e,atI]at hx;rw[if_pos rfl]at hx;split at hx
   ·
    obtain rfl:=asY hx;cases hb
   ·
    cases hx
  rw[att (fun e=>hk e.symm)]at hx;obtain⟨rfl,hl⟩:=wP (by omega) hs hx;exact⟨hk,hl,h.tell k⟩
 have W8: ∀{d:Int×Bool},(∃x,((aw c fl).set i bf)[d.1.toNat]? =some x/\x.bad=false/\x.live=0)->0<=d.1->
   ((∃(t:Nat) (w:Int),t≠i/\t<c.blocks.length -2/\cT c.pages fl t=0/\(d.1+2,(cC c (d.1+2)).2)=((t:Int)+2,0)/\Ok n (cC c (d.1+2)).1/\aw (cC c (d.1+2)).1 fl=(aw c fl).set t ⟨0,0,w,false⟩/\Kp fl c (cC c (d.1+2)).1)\/(cC c (d.1+2)).2=7):=fun{d} hx h0=>by
  obtain⟨x,hx,hb,hl⟩:=hx;obtain⟨k1,k2,k3⟩:=W7 hx hb;rw[k3]at hl;simp only at hl;have e:d.1=((d.1.toNat:Nat):Int):=by omega
  rw[e];have mU:=(vg (by omega) hs d.1.toNat).1 (by omega);rcases h.I1 (b:=((d.1.toNat:Nat):Int)+2) (by omega) (by omega)with⟨z,g⟩|z
  ·
   left;exact⟨d.1.toNat,_,k1,k2,by omega,by rw[z],g,(I0 h.ae hs mU z).1,Ao (by omega) mU⟩
  ·
   exact .inr z
 rw[bW]
 by_cases hA:(mD c ((aw c fl).set i bf)).2=true
 ·
  rw[if_pos hA];left;obtain⟨x,hx,a1,a2,a3,a4,a5⟩:=pD (fun x h=>(tj h).1) hA;have qT:((aw c fl).set i bf)[(mD c ((aw c fl).set i bf)).1.toNat]? =some x:=hx;change 0<=(mD c ((aw c fl).set i bf)).1 at a4;generalize mD c ((aw c fl).set i bf)=T at*;obtain⟨k1,k2,k3⟩:=W7 qT a1;simp only[sg,decide_eq_true_eq]at a2;rw[k3]at a2;simp only at a2;have US:=h.W4 hs k2;have mg:cT c.pages fl T.1.toNat=0:=by omega
  refine⟨T.1.toNat,(ak c ((T.1.toNat:Int)+2)).aR,k1,k2,mg,by simp only;rw[aub a4],h.mono (by omega),?_, .dh _ _⟩;refine(I3 ?_).symm;have:=h.get hs k2;rw[mg,a2]at this;exact this
 ·
  rw[if_neg hA];have Oq:=uG (Ct (R:=sg) hw) (show(fB (bS sg ((aw c fl).set i bf)) c.pages (mT c.pages) [Bn,tg]).2=false by simpa[mD,fC]using hA);have Ea:(ak c ((j:Int)+2)).used≠0:=fun e=>by
   have:=Oq _ (atp (f:=iH sg) jD);rw[Cv rfl (by simp[sg,e]),mT]at this;simp only[au4,atU,decide_eq_false_iff_not]at this;omega
  have I4:my ⟨cT c.pages fl j,(ak c ((j:Int)+2)).used,(ak c ((j:Int)+2)).aR,false⟩=true:=by
   simp only[my,hd0,au4,atU,anc,decide_eq_true_eq];exact⟨rfl,by omega⟩
  by_cases hB:(jU c ((aw c fl).set i bf)).2=true
  ·
   rw[if_pos hB];obtain⟨x,hx,a1,a2,a3,a4,a5⟩:=pD (fun x h=>(lR h).1) hB;exact W8 (d:=jU c ((aw c fl).set i bf)) ⟨x,hx,a1,(lR a3).2.1⟩ a4
  ·
   rw[if_neg hB];have Ot:=uG (Ct (R:=tp c.pages) hw) (show(fB (bS (tp c.pages) ((aw c fl).set i bf)) c.pages my [tg]).2=false by simpa[jU,fK]using hB);have hup:(ak c ((j:Int)+2)).used≠c.pages:=fun e=>by
    have:=Ot _ (atp (f:=iH (tp c.pages)) jD);rw[Cv rfl (by simp[tp,e]),I4]at this
    cases this
   by_cases hD:(jV c ((aw c fl).set i bf)).2=true
   ·
    rw[if_pos hD];obtain⟨x,hx,a1,a2,a3,a4,a5⟩:=pD (fun x h=>(lR h).1) hD;exact W8 (d:=jV c ((aw c fl).set i bf)) ⟨x,hx,a1,(lR a3).2.1⟩ a4
   ·
    exfalso;have nF:=uG (Ct (R:=tq) hw) (show(fB (bS tq ((aw c fl).set i bf)) c.pages my [tg]).2=false by simpa[jV,fK]using hD);have:=nF _ (atp (f:=iH tq) jD);rw[Cv rfl (by simp only[tq,decide_eq_true_eq];omega),I4]at this
    cases this
def I5(p:Int)(b:Int)(n:Int):Bool:=decide (0<n)&&decide ((n -1)/p=b)
def vh(p:Int)(b:Int)(l:List Int):Nat:=(l.filter (I5 p b)).length
theorem aiG(P:Int->Bool): ∀(l:List Int),((List.range l.length).filter fun j=>P (l.getD j 0)).length=(l.filter P).length:=by
 intro l;have key: ∀k,k<=l.length->((List.range k).filter fun j=>P (l.getD j 0)).length=((l.take k).filter P).length:=by
  intro k
  induction k with
  |zero=>intro _;simp
  |succ k ih=>
   intro hk;have hy:=as1 (show k<l.length by omega);rw[aua,at3,af0,ih (by omega),atf,hy,at3,af0,qk hy|>fun e=>(show(List.filter (fun j=>P (l.getD j 0)) [k]).length=(List.filter P [l[k]]).length by
    have:l.getD k 0=l[k]:=e;simp only[atw,ava,this];split<;>rfl)]
   rfl
 have:=key l.length (as4 _);rwa [atr]at this
theorem aiH{v:VV}(h:fD v)(i:Nat):vh v.ae.pages ((i:Int)+2) v.at_=cT v.ae.pages v.at_ i:=by
 have hp:1<=v.ae.pages:=by have:=(fX.1 h.bears).2.2.1;omega
 rw[←IY hp i (h.pl.nr.pos hp),acK (Cq.2 h) i,LP,vh];exact(aiG (I5 v.ae.pages ((i:Int)+2)) v.at_).symm
theorem W9{c:CV}{fl:List Int}(hk:bb c=true)(h:Std c fl): ∀x∈fl,0<=x/\x<=65535:=fun x hx=>by
 have hd:=eX hk;rcases h.pos (by omega) x hx with h0|h1
 ·
  omega
 have hp:=mR.1 (h x hx (by omega));have:=Lm (n:=x) hd.2.2.1 hd.2.2.2.1 hd.2.1 hp.2.1;omega
theorem aiI{c:CV}(hb:gy c=true){i n:Int}(h:ov c i n=true):mu (cE (bK c (n -1))).1 c.size=true/\(cE (bK c (n -1))).1.id=i/\jm c n=(cE (bK c (n -1))).1.body:=by
 obtain⟨h1,h2,h3,h4⟩:=EI h;obtain⟨p1,p2,p3⟩:=mR.1 h1;obtain⟨k1,_,k3,_⟩:=fX.1 hb;have oQ:=fm.1 (ti k1 (b:=(n -1)/c.pages) (by omega) p2);have h0:0<=(n -1)%c.pages:=ave _ (by omega);have hj:((n -1)%c.pages).toNat<(ak c ((n -1)/c.pages)).pages.length:=by omega
 have hl:((bK c (n -1)).length:Int)=c.size:=by
  rw[bK];simp only[List.getD];rw[as1 hj];exact oQ.2.2.2.2.2 _ (auS hj)
 refine⟨?_,h4,by rw[jm,if_pos h2]⟩;have:=aiC h2 (by rw[h3];decide);rwa [hl]at this
theorem Ou{v:VV}{src:Int}{t:Nat}(A5:(t:Int)+2≠src)(hg:v.gen+1<281474976710656): ∀(l:List Int) (id:Nat) {n:Nat} {c:CV} {a:List Int} {m:Nat} {w:Int},Ok (n+l.length) c->dO v.ae c->t<c.blocks.length -2->Pl c v.at_->Std c a->a.length=v.at_.length->v.at_.drop id=l->(∀j,id<=j->a[j]? =v.at_[j]?)->(∀(j:Nat) (y:Int),v.at_[j]? =some y->(y=0\/(y -1)/v.ae.pages≠src)->a[j]? =some y)->
  cT c.pages (v.at_++a) t=m->(ak c ((t:Int)+2)).used=m->(m:Int)+vh c.pages src l<=c.pages->
  ((bZ v src ((t:Int)+2) l id c a).e=none/\Ok n (bZ v src ((t:Int)+2) l id c a).c/\Std (bZ v src ((t:Int)+2) l id c a).c (bZ v src ((t:Int)+2) l id c a).a/\
   (∃m' w':Int,aw (bZ v src ((t:Int)+2) l id c a).c (v.at_++(bZ v src ((t:Int)+2) l id c a).a)=(aw c (v.at_++a)).set t ⟨m',m',w',false⟩)/\
   (∀(j:Nat) (y:Int),v.at_[j]? =some y->(y=0\/(y -1)/v.ae.pages≠src)->(bZ v src ((t:Int)+2) l id c a).a[j]? =some y))\/(bZ v src ((t:Int)+2) l id c a).e=some 7
 |[],id,n,c,a,m,w,h,fy,ht,hv,ha,dW,hl,jJ,eS,nN,nf,Ov=>by
  left;refine⟨rfl,h,ha,⟨m,(ak c ((t:Int)+2)).aR,?_⟩,eS⟩;have:=h.get (fl:=v.at_++a) (hv.nr.append ha) ht;rw[nN,nf]at this;exact(I3 this).symm
 |y::r,id,n,c,a,m,w,h,fy,ht,hv,ha,dW,hl,jJ,eS,nN,nf,Ov=>by
  have hy:v.at_[id]? =some y:=by
   have:=congrArg (fun l:List Int=>l[0]?) hl;simpa using this
  have hr:v.at_.drop (id+1)=r:=by rw[←au5,hl];rfl
  have hp:=fy.pages;have hd:=eX h.ae;rw[bZ]
  by_cases h1:y=0\/(y -1)/v.ae.pages≠src
  ·
   rw[if_pos h1];refine Ou A5 hg r (id+1) (n:=n) (w:=w) (h.mono (by simp only[asZ];omega)) fy ht hv ha dW hr (fun j hj=>jJ j (by omega)) eS nN nf ?_;have:vh c.pages src (y::r)=vh c.pages src r:=by
    rw[vh,List.filter_cons_of_neg];rfl;simp only[I5,anc,decide_eq_true_eq];rintro⟨g1,g2⟩;rcases h1 with g|g
    ·
     omega
    ·
     rw[←hp]at g;exact g g2
   rw[←this];exact Ov
  ·
   rw[if_neg h1];have mM:y≠0:=fun e=>h1 (.inl e);have VH:(y -1)/c.pages=src:=by rw[hp];exact Classical.not_not.1 fun e=>h1 (.inr e)
   have HL:1<=y:=(hv.nr.pos (by omega) y (alM hy)).resolve_left mM;have hb:cq c v.at_ a src ((t:Int)+2)=((t:Int)+2,true):=by rw[cq,if_neg (by omega)]
   rw[hb,if_neg (by simp)];have wA:=hv.1 id y hy mM;obtain⟨y1,y2,y3⟩:=aiI h.ok wA;obtain⟨z1,z2,z3,z4,z5,z6⟩:=rZ.1 y1;rw[y2]at z3 z4;have Cr:mu ⟨1,id,((v.gen:Int)+1).toNat,jm c y⟩ c.size=true:=rZ.2 ⟨z1, .inl rfl,z3,z4,by simp only;omega,by rw[y3];exact z6⟩;have Ow:ez c ((v.gen:Int)+1) id y=((ez c ((v.gen:Int)+1) id y).1,0):=by
    rw[ez,dn,if_pos Cr]
   have bX:((ez c ((v.gen:Int)+1) id y).1.length:Int)=c.size:=EF Cr;rw[if_neg (by rw[Ow];simp)];have aiJ:vh c.pages src (y::r)=vh c.pages src r+1:=by
    rw[vh,List.filter_cons_of_pos];rfl;simp only[I5,anc,decide_eq_true_eq];exact⟨by omega,VH⟩
   rw[aiJ]at Ov;rcases h.prog (n:=n+r.length) (b:=(t:Int)+2) (p:=(ez c ((v.gen:Int)+1) id y).1) (by omega) (by omega) (by omega) bX with⟨z,g⟩|z
   ·
    rw[if_neg (by rw[z];simp)];have e2:(t:Int)+2=((t:Nat):Int)+2:=rfl;generalize hN:((t:Int)+2)*v.ae.pages+(ak c ((t:Int)+2)).used+1=N;have jD: ∀k,k∈v.at_++a.set id N↔k∈v.at_++a\/k=((t:Int)+2)*c.pages+(ak c ((t:Int)+2)).used+1:=fun k=>by
     rw[hp,hN,as8,as8];have hid:id<a.length:=by rw[dW];exact(ad2.1 hy).1
     constructor
     ·
      rintro(q|q)
      ·
       exact .inl (.inl q)
      ·
       rcases atx q with q|q
       ·
        exact .inl (.inr q)
       ·
        exact .inr q
     ·
      rintro((q|q)|q)
      ·
       exact .inl q
      ·
       obtain⟨j,hj⟩:=ato q
       by_cases e:j=id
       ·
        rw[e,jJ id (as4 _)]at hj;exact .inl (alM hj)
       ·
        right;exact alM (i:=j) (by rw[att (fun g=>e g.symm)];exact hj)
      ·
       right;rw[q];exact alM (i:=id) (by rw[atj hid])
    obtain⟨b1,b2⟩:=WS h.ae (hv.nr.append ha) z jD;have wO:=IG (L:=v.at_) (c:=c) (b:=(t:Int)+2) (p:=(ez c ((v.gen:Int)+1) id y).1);have pS:=iP c ((t:Int)+2) (ez c ((v.gen:Int)+1) id y).1;have fY:=jS.1 (ql z).1;have lS:=EP z;have fx:(((t:Int)+2)*c.pages+(ak c ((t:Int)+2)).used+1 -1)/c.pages=(t:Int)+2:=by
     rw[auz,auY,auh _ _ (by omega),atY fY.2.1 fY.2.2.1,au3]
    have aiK:((t:Int)+2)*c.pages+(ak c ((t:Int)+2)).used+1∉v.at_++a:=fun hG=>by
     have Bw:0<=((t:Int)+2)*c.pages:=auO (by omega) (by omega);have:=hv.nr.append ha _ hG (by have:=fY.2.1;omega);rw[auz,(IM (L:=[]) (by omega) z).2.2.2]at this;cases this
    have Xa:=Oi (by omega) fx aiK jD t;rw[if_pos rfl,nN]at Xa;have ih:=Ou A5 hg r (id+1) (n:=n) (w:=w) (m:=m+1) (a:=a.set id N) g (fy.trans pS) (by rw[pS.len];exact ht) (hv.kd wO fun _ q=>q) (fun k hk=>b2 k (aur _ hk)) (by rw[atC,dW]) hr (fun j hj=>by rw[att (by omega)];exact jJ j (by omega)) (fun j q hq IT=>by
     by_cases e:j=id
     ·
      rw[e,hy]at hq;obtain rfl:=asY hq;exact absurd IT h1
     ·
      rw[att (fun g=>e g.symm)];exact eS j q hq IT) (by rw[pS.pages];exact Xa) (by rw[lS.1,nf];rfl) (by rw[pS.pages];omega)
    rcases ih with⟨i1,i2,i3,⟨m',w',i4⟩,i5⟩|i1
    ·
     left;refine⟨i1,i2,i3,⟨m',w',?_⟩,i5⟩;rw[i4,b1,avU]
    ·
     exact .inr i1
   ·
    right;rw[if_pos (by rw[z];decide)];show some (ku (bB c ((t:Int)+2) (ez c ((v.gen:Int)+1) id y).1))=some 7;rw[z];rfl
structure Lv(n:Nat)(x:WV):Prop where
 ok:Ok n x.v.ae
 wr:cX x
 rt:fD x.v
 pl:iW x.v.ae
 kK:(x.v.at_.length:Int)<=kI x.v.ae.size
 half:2*(x.v.at_.length:Int)<=((x.v.ae.blocks.length:Int) -4)*x.v.ae.pages
 idle: ∃j,j<x.v.ae.blocks.length -2/\cT x.v.ae.pages x.v.at_ j=0
theorem Lv.mono{n m:Nat}{x:WV}(h:Lv n x)(hm:m<=n):Lv m x:=⟨h.ok.mono hm,h.wr,h.rt,h.pl,h.kK,h.half,h.idle⟩
def nu(x:WV):Nat:=pU x.v.ae.pages (aw x.v.ae x.v.at_)
theorem Lv.next{n m:Nat}{x y:WV}(h:Lv m x)(s:Sf x (ct x.v) y 0)(o:cX y)(k:Ok n y.v.ae)(hi: ∃j,j<y.v.ae.blocks.length -2/\cT y.v.ae.pages y.v.at_ j=0):Lv n y:=
 ⟨k,o,(s.cM rfl).1,h.pl.kd s.kd,by rw[s.len,s.kd.bT.size];exact h.kK,by rw[s.len,s.kd.bT.len,s.kd.bT.pages];exact h.half,hi⟩
theorem aiL{n:Nat}{x:WV}{i:Nat}(h:Lv (n+100) x)(hg:x.v.gen+2<281474976710656)(hi:i<x.v.ae.blocks.length -2)(h0:0<cT x.v.ae.pages x.v.at_ i)(h1:(cT x.v.ae.pages x.v.at_ i:Int)<(ak x.v.ae ((i:Int)+2)).used):
  ((fM x (df x) i).2=0/\Lv n (fM x (df x) i).1/\nu (fM x (df x) i).1<nu x/\(fM x (df x) i).1.v.gen=x.v.gen+1)\/(fM x (df x) i).2=7:=by
 obtain⟨j,hj,IX⟩:=h.idle;have cy:j≠i:=fun e=>by rw[e]at IX;omega
 have hd:=eX h.ok.ae;have jy:=h.rt.pl.nr;have eL:x.v.at_.length<=64:=h.wr.kK;have mI:=WB (l:=df x) (i:=(i:Int)) h.wr h.rt h.pl (zF _ _) (IK _ _) (by omega) (by rw[show(df x).length=_ from lP _ _];omega);have l8:=LH (l:=df x) (i:=(i:Int)) h.wr (zF _ _);have sH:=mI.1;have Xb:=h.ok.get (fl:=x.v.at_) jy hi;have nt:(df x).getD i ei=_:=h.ok.getD (fl:=x.v.at_) jy hi;rcases aiF (n:=n+83) (i:=i) h.ok jy hj cy IX with⟨t,w,t1,t2,t3,t4,t5,t6,t7⟩|tz
 ·
  have dW:rb x.v.ae (df x) i=false:=by
   rw[rb,show(bW x.v.ae ((df x).set (i:Int).toNat bf)).2.2=0 from congrArg Prod.snd t4];rfl
  have pR:cS x.v.ae (df x) i=((t:Int)+2,0):=by
   rw[cS,if_neg (by rw[dW];simp)];exact t4
  rw[fM,pR]at sH l8⊢;rw[if_neg (by simp)]at sH l8⊢;have aH:(i:Int).toNat=i:=rfl;rw[aH]at sH l8⊢;change Ok (n+83) (bW x.v.ae ((df x).set i bf)).1 at t5;change aw (bW x.v.ae ((df x).set i bf)).1 x.v.at_=(df x).set t ⟨0,0,w,false⟩at t6;change Kp x.v.at_ x.v.ae (bW x.v.ae ((df x).set i bf)).1 at t7;generalize(bW x.v.ae ((df x).set i bf)).1=c1 at*;have ES:=h.rt.kp t7;have fy:=t7.bT;have qL:vh c1.pages ((i:Int)+2) x.v.at_=cT x.v.ae.pages x.v.at_ i:=by rw[fy.pages];exact aiH h.rt i
  have Oo:=h.ok.Cu hi;have Cx:Std c1 x.v.at_:=ES.pl.nr;have rn:aw c1 (x.v.at_++x.v.at_)=(df x).set t ⟨0,0,w,false⟩:=by
   rw[←t6];exact Ol (by rw[fy.pages];omega) Cx (Cx.append Cx) (.dh _) fun k=>⟨rfl,rfl,rfl,fun _=>yG (fun m _=>by rw[as8];exact or_self_iff) (by rw[fy.pages];omega)⟩
  have MF:t<c1.blocks.length -2:=by rw[fy.len];exact t2
  have AI:=t5.get (fl:=x.v.at_++x.v.at_) (Cx.append Cx) MF;rw[rn,atj (by rw[show(df x).length=_ from lP _ _];exact t2)]at AI;have Xc:=asY AI;have yp:(ak c1 ((t:Int)+2)).used=0:=(congrArg aB.used Xc).symm;have p0:cT c1.pages (x.v.at_++x.v.at_) t=0:=by have:=congrArg aB.live Xc;simp only at this;omega
  have Xd:=Ou (v:=x.v) (src:=(i:Int)+2) (t:=t) (by omega) (by omega) x.v.at_ 0 (n:=n+19) (c:=c1) (a:=x.v.at_) (m:=0) (w:=w) (t5.mono (by omega)) fy MF ES.pl Cx rfl rfl (fun _ _=>rfl) (fun _ _ q _=>q) p0 yp (by rw[qL,fy.pages];omega);have hmk:=IP (v:=(x.on c1).v) (src:=(i:Int)+2) (tgt:=(t:Int)+2) (by omega) (fun _=>by omega) (by show 1<=c1.pages;rw[fy.pages];omega) (x.on c1).v.at_ 0 (c:=(x.on c1).v.ae) (a:=(x.on c1).v.at_) (t7.ok h.ok.ae) ES.pl (.dh _ _) ES.pl rfl (fun _=>⟨by omega,by show(t:Int)+2<c1.blocks.length;omega,t5.nb _⟩) rfl (fun _ _=>rfl) (fun j n hj=>by omega) rfl;have kU:bZ x.v ((i:Int)+2) ((t:Int)+2) x.v.at_ 0 c1 x.v.at_=bZ (x.on c1).v ((i:Int)+2) ((t:Int)+2) (x.on c1).v.at_ 0 (x.on c1).v.ae (x.on c1).v.at_:=by
   exact aiM (v:=x.v) (u:=(x.on c1).v) fy.pages.symm rfl rfl _ _ _ _
  rw[kU]at Xd;rcases Xd with⟨e1,e2,e3,⟨m',w',e4⟩,e5⟩|e1
  ·
   obtain⟨k1,k2,_,_⟩:=hmk;obtain⟨k3,k4,k5,k6⟩:=k2 e1;have I6:db (x.on c1) ((i:Int)+2) ((t:Int)+2)=((eu ((x.on c1).on (bZ (x.on c1).v ((i:Int)+2) ((t:Int)+2) (x.on c1).v.at_ 0 (x.on c1).v.ae (x.on c1).v.at_).c) (bZ (x.on c1).v ((i:Int)+2) ((t:Int)+2) (x.on c1).v.at_ 0 (x.on c1).v.ae (x.on c1).v.at_).a).1,decide ((eu ((x.on c1).on (bZ (x.on c1).v ((i:Int)+2) ((t:Int)+2) (x.on c1).v.at_ 0 (x.on c1).v.ae (x.on c1).v.at_).c) (bZ (x.on c1).v ((i:Int)+2) ((t:Int)+2) (x.on c1).v.at_ 0 (x.on c1).v.ae (x.on c1).v.at_).a).2=0),(eu ((x.on c1).on (bZ (x.on c1).v ((i:Int)+2) ((t:Int)+2) (x.on c1).v.at_ 0 (x.on c1).v.ae (x.on c1).v.at_).c) (bZ (x.on c1).v ((i:Int)+2) ((t:Int)+2) (x.on c1).v.at_ 0 (x.on c1).v.ae (x.on c1).v.at_).a).2):=by
    rw[db,e1]
   generalize hM:bZ (x.on c1).v ((i:Int)+2) ((t:Int)+2) (x.on c1).v.at_ 0 (x.on c1).v.ae (x.on c1).v.at_=M at*;have pS:=fy.trans k1.bT;have fV:cX ((x.on c1).on M.c):=(h.wr.on (t7.ok h.ok.ae) fy).on e2.ae k1.bT;have aiN:I2 ((x.on c1).on M.c).v.ae ((x.on c1).on M.c).v.gen M.a:=⟨by show x.v.gen+1<_;omega,by rw[show M.a.length=x.v.at_.length from k5,show((x.on c1).on M.c).v.ae.size=x.v.ae.size from pS.size];exact h.kK,W9 e2.ae e3⟩;rcases WY (n:=n+17) fV (e2.mono (by omega)) aiN with⟨w1,w2,w3,w4,w5,w6⟩|w1
   ·
    have ET:=N9 (a:=M.a) fV (by
     have:=ES.kp k1;exact this) ((h.pl.kd t7.toKd).kd k1.toKd) k3 k5
    have hRW:=(ET.1.cM w1).1;have vi:dO x.v.ae (eu ((x.on c1).on M.c) M.a).1.v.ae:=pS.trans ET.1.kd.bT;rw[I6]at sH l8⊢;simp only[w1,decide_true]at sH l8⊢;generalize hW:(eu ((x.on c1).on M.c) M.a).1=W at*;have EU:Std W.v.ae M.a:=by have:=hRW.pl.nr;rwa [w3]at this
    have Xe:aw W.v.ae M.a=((df x).set t ⟨m',m',w',false⟩).set i ⟨0,(ak x.v.ae ((i:Int)+2)).used,(ak x.v.ae ((i:Int)+2)).aR,false⟩:=by
     have Xf:aw M.c (x.v.at_++M.a)=(df x).set t ⟨m',m',w',false⟩:=by
      rw[e4,rn,avU]
     have EV:Std M.c (x.v.at_++M.a):=(h.rt.pl.nr.kd t7.toKd (fun _ q=>q)|>.kd k1.toKd fun _ q=>q).append e3;have Xg:=e2.get (fl:=x.v.at_++M.a) EV (i:=i) (by rw[pS.len];exact hi);rw[Xf,att t1,show(df x)[i]? =_ from Xb]at Xg;have Xh:=asY Xg;have qt:1<=M.c.pages:=by rw[pS.pages];omega
     rw[←Xf];refine Oj qt EV EU (by have:=ET.1.kd.bT;exact this) (fun k hk=>⟨w5 k,yG (fun q hq=>?_) qt⟩) ?_
     ·
      rw[as8];refine⟨.inr,fun g=>g.elim (fun g=>?_) id⟩;obtain⟨z,hz⟩:=ato g;have:=e5 z q hz (.inr (by rw[←pS.pages,hq];omega));exact alM this
     ·
      have mU:kS M.a W.v.ae ((i:Int)+2):=by
       have:kS M.a c1 ((i:Int)+2):=k6;exact this.bT (k1.bT.trans ET.1.kd.bT)
      have:=(vg (by rw[vi.pages];omega) EU i).2 mU;rw[w2.tell,this,w5 i];have u1:=congrArg aB.used Xh;have u2:=congrArg aB.aR Xh;simp only at u1 u2;rw[show(ak ((x.on c1).on M.c).v.ae ((i:Int)+2)).used=_ from u1.symm,show(ak ((x.on c1).on M.c).v.ae ((i:Int)+2)).aR=_ from u2.symm];rfl
    have Ox:(df x)[t]? =_:=h.ok.get (fl:=x.v.at_) jy t2;have gL:=ER (p:=x.v.ae.pages) (x:=⟨m',m',w',false⟩) Ox;have asJ:kT x.v.ae.pages ⟨m',m',w',false⟩=0:=by
     rw[kT];simp only[atD,if_false];split
     ·
      rename_i e;rw[if_neg (by omega)]
     ·
      omega
    have Xi:((df x).set t ⟨m',m',w',false⟩)[i]? =_:=(att t1).trans Xb;have MD:1<=kT x.v.ae.pages ⟨cT x.v.ae.pages x.v.at_ i,(ak x.v.ae ((i:Int)+2)).used,(ak x.v.ae ((i:Int)+2)).aR,false⟩:=by
     rw[kT];simp only[atD,if_false];rw[if_neg (by omega)];omega
    have Oy:cT W.v.ae.pages W.v.at_ i=0:=by
     have mU:kS M.a W.v.ae ((i:Int)+2):=by
      have:kS M.a c1 ((i:Int)+2):=k6;exact this.bT (k1.bT.trans ET.1.kd.bT)
     rw[w3];exact(vg (by rw[vi.pages];omega) EU i).2 mU
    have Xj:i<W.v.ae.blocks.length -2:=by rw[vi.len];exact hi
    by_cases Xk:(ak x.v.ae ((i:Int)+2)).used=x.v.ae.pages
    ·
     rw[nt]at sH l8⊢;rw[if_pos (.inr Xk)]at sH l8⊢;left;refine⟨rfl,h.next sH l8.1.ok (w2.mono (by omega)) ⟨i,Xj,Oy⟩,?_,w4⟩;rw[nu,nu,vi.pages,w3,Xe];have gX:=ER (p:=x.v.ae.pages) (x:=⟨0,(ak x.v.ae ((i:Int)+2)).used,(ak x.v.ae ((i:Int)+2)).aR,false⟩) Xi;have Xl:kT x.v.ae.pages ⟨0,(ak x.v.ae ((i:Int)+2)).used,(ak x.v.ae ((i:Int)+2)).aR,false⟩=0:=by
      rw[kT];simp only[atD,if_false,if_true];rw[if_neg (by omega)]
     change _<pU x.v.ae.pages (df x);omega
    ·
     rw[nt]at sH l8⊢;rw[if_neg (by rintro(g|g);cases g;exact Xk g)]at sH l8⊢;rcases w2.I1 (n:=n) (b:=(i:Int)+2) (by omega) (by omega)with⟨q1,q2⟩|q1
     ·
      simp only[q1]at sH l8⊢;left;have mU:kS M.a W.v.ae ((i:Int)+2):=(vg (by rw[vi.pages];omega) EU i).1 (by rw[←w3];exact Oy);obtain⟨b1,b2⟩:=I0 w2.ae EU mU q1;have kc:=(xO ((i:Int)+2) w2.ae).2;refine⟨rfl,h.next sH l8.1.ok q2 ⟨i,by show i<(cC W.v.ae _).1.blocks.length -2;rw[kc.len];exact Xj,by show cT (cC W.v.ae ((i:Int)+2)).1.pages W.v.at_ i=0;rw[kc.pages];exact Oy⟩,?_,w4⟩;show pU (cC W.v.ae ((i:Int)+2)).1.pages (aw (cC W.v.ae ((i:Int)+2)).1 W.v.at_)<_;rw[w3,b1,Xe,kc.pages,vi.pages,avU];have gX:=ER (p:=x.v.ae.pages) (x:=⟨0,0,(ak W.v.ae ((i:Int)+2)).aR+1,false⟩) Xi;have Xl:kT x.v.ae.pages ⟨0,0,(ak W.v.ae ((i:Int)+2)).aR+1,false⟩=0:=by
       rw[kT];simp
      change _<pU x.v.ae.pages (df x);omega
     ·
      right;simp only[q1];rfl
   ·
    right;rw[I6];have hnz: ¬(eu ((x.on c1).on M.c) M.a).2=0:=by rw[w1];decide
    rw[if_pos (.inl (decide_eq_false hnz))];exact w1
  ·
   right;have I6:db (x.on c1) ((i:Int)+2) ((t:Int)+2)=((x.on c1).on (bZ (x.on c1).v ((i:Int)+2) ((t:Int)+2) (x.on c1).v.at_ 0 (x.on c1).v.ae (x.on c1).v.at_).c,false,7):=by
    rw[db,e1]
   rw[I6,if_pos (.inl rfl)]
 ·
  right;have Xm:(bW x.v.ae ((df x).set (i:Int).toNat bf)).2.2=7:=tz;have dW:rb x.v.ae (df x) i=false:=by rw[rb,Xm];rfl
  have pR:(cS x.v.ae (df x) i).2=7:=by rw[cS,if_neg (by rw[dW];simp)];exact Xm
  rw[fM,if_pos (by rw[pR];decide),pR];rfl
where
 aiM {v u:VV} {src tgt:Int} (h1:v.ae.pages=u.ae.pages) (h2:v.at_=u.at_) (h3:v.gen=u.gen) (l:List Int): ∀(id:Nat) (c:CV) (a:List Int),bZ v src tgt l id c a=bZ u src tgt l id c a:=by
  induction l with
  |nil=>intro id c a;rfl
  |cons n r ih=>
   intro id c a;rw[bZ,bZ,h1,h2,h3,ih,ih]
theorem aiO{n:Nat}{x:WV}{j:Nat}(h:Lv (n+17) x)(hj:j<x.v.ae.blocks.length -2)(h0:cT x.v.ae.pages x.v.at_ j=0)(h1:0<(ak x.v.ae ((j:Int)+2)).used)(h2:(ak x.v.ae ((j:Int)+2)).used<x.v.ae.pages):
  ((kL x (df x)).2=0/\Lv n (kL x (df x)).1/\nu (kL x (df x)).1<nu x/\(kL x (df x)).1.v.gen=x.v.gen)\/(kL x (df x)).2=7:=by
 have hd:=eX h.ok.ae;have jy:=h.rt.pl.nr;have hw:=On h.ok.ae jy (by omega);have hg:=h.ok.get (fl:=x.v.at_) jy hj;have hwo:=h.ok.aR ((j:Int)+2);have mI:=Oc (l:=df x) h.rt (IK _ _);have pR:=LK (l:=df x) h.wr (zF _ _);have hD:(ox x.v.ae (df x)).2=true:=by
  cases hq:(ox x.v.ae (df x)).2 with
  |true=>rfl
  |false=>
   have:=uG (Ct (R:=nL x.v.ae.pages) hw) hq _ (atp (f:=iH (nL x.v.ae.pages)) (alM hg));rw[Cv rfl (by simp only[nL,anc,decide_eq_true_eq];omega)]at this;have I4:my ⟨cT x.v.ae.pages x.v.at_ j,(ak x.v.ae ((j:Int)+2)).used,(ak x.v.ae ((j:Int)+2)).aR,false⟩=true:=by
    simp only[my,h0,au4,atU,anc,decide_eq_true_eq];exact⟨rfl,h1⟩
   rw[I4]at this;cases this
 obtain⟨z,hz,a1,a2,a3,a4,a5⟩:=pD (fun x h=>(lR h).1) (show(fB (bS (nL x.v.ae.pages) (df x)) x.v.ae.pages my [tg]).2=true from hD);have qB:(df x)[(ox x.v.ae (df x)).1.toNat]? =some z:=hz;change 0<=(ox x.v.ae (df x)).1 at a4;rw[kL,if_neg (by rw[hD];simp)]at mI pR⊢;generalize ox x.v.ae (df x)=T at*;obtain⟨e1,e2⟩:=wP (by omega) jy qB;rw[h.ok.tell]at e1;have mg:=(lR a3).2.1;have Ea:=(lR a3).2.2;rw[nL,anc,decide_eq_true_eq]at a2;have yp:=a2.1;rw[e1]at mg Ea yp;simp only at mg Ea yp;have eT:T.1=((T.1.toNat:Nat):Int):=by omega
 rw[eT]at mI pR⊢;have mU:=(vg (by omega) jy T.1.toNat).1 (by omega);rcases h.ok.I1 (n:=n) (b:=((T.1.toNat:Nat):Int)+2) (by omega) (by omega)with⟨q1,q2⟩|q1
 ·
  left;simp only[q1]at mI pR⊢;obtain⟨b1,b2⟩:=I0 h.ok.ae jy mU q1;have kc:=(xO (((T.1.toNat:Nat):Int)+2) h.ok.ae).2;refine⟨rfl,h.next mI pR.1.ok q2 ⟨T.1.toNat,by show _<(cC x.v.ae _).1.blocks.length -2;rw[kc.len];exact e2,by show cT (cC x.v.ae _).1.pages x.v.at_ _=0;rw[kc.pages];omega⟩,?_,rfl⟩;show pU (cC x.v.ae (((T.1.toNat:Nat):Int)+2)).1.pages (aw (cC x.v.ae (((T.1.toNat:Nat):Int)+2)).1 x.v.at_)<pU x.v.ae.pages (aw x.v.ae x.v.at_);rw[b1,kc.pages];have gX:=ER (p:=x.v.ae.pages) (x:=⟨0,0,(ak x.v.ae (((T.1.toNat:Nat):Int)+2)).aR+1,false⟩) qB;have Xl:kT x.v.ae.pages ⟨0,0,(ak x.v.ae (((T.1.toNat:Nat):Int)+2)).aR+1,false⟩=0:=by
   rw[kT];simp
  have kO:kT x.v.ae.pages z=1:=by
   rw[e1,kT];simp only[atD,if_false];rw[if_pos mg,if_pos ⟨Ea,yp⟩]
  change pU x.v.ae.pages ((df x).set _ _)<pU x.v.ae.pages (df x);omega
 ·
  right;simp only[q1];rfl
theorem aiP{p:Int}{l:List aB}(h:0<pU p l): ∃(i:Nat) (x:aB),l[i]? =some x/\kT p x≠0:=by
 apply atc;intro hn;have:pU p l=0:=W3 fun x hx=>by
  obtain⟨i,hi⟩:=ato hx;apply atc;intro bM;exact hn ⟨i,x,hi,bM⟩
 omega
theorem aiQ{n:Nat}{x:WV}(h:Lv (n+100) x)(hg:x.v.gen+2<281474976710656)(hP:0<nu x):
  ((eY x).2=0/\Lv n (eY x).1/\nu (eY x).1<nu x/\(eY x).1.v.gen<=x.v.gen+1)\/(eY x).2=7:=by
 have hd:=eX h.ok.ae;have jy:=h.rt.pl.nr;have BX:Bt x.v.gen=false:=decide_eq_false (by omega);rw[eY]
 by_cases hv:(tr x).2=true
 ·
  rw[if_pos ⟨hv,BX⟩];obtain⟨i,v1,v2,v3,v4⟩:=aiD h.ok jy hv;have v1':(tr x).1=i:=v1;rw[v1'];rcases aiL h hg v2 v3 v4 with⟨r1,r2,r3,r4⟩|r1
  ·
   rw[if_pos (by rw[r1];decide)];exact .inl ⟨r1,r2,r3,by omega⟩
  ·
   rw[if_pos (by rw[r1];decide)];exact .inr r1
 ·
  rw[if_neg (fun g=>hv g.1)];obtain⟨i,z,hz,bM⟩:=aiP hP;obtain⟨e1,e2⟩:=wP (by omega) jy hz;rw[h.ok.tell]at e1;have hu:=h.ok.Cu e2;rw[e1,kT]at bM;simp only[atD,if_false]at bM
  by_cases hl:cT x.v.ae.pages x.v.at_ i=0
  ·
   rw[if_pos (by omega)]at bM;have hb:0<(ak x.v.ae ((i:Int)+2)).used/\(ak x.v.ae ((i:Int)+2)).used<x.v.ae.pages:=by
    apply atc;intro hn;rw[if_neg hn]at bM;exact bM rfl
   rcases aiO (h.mono (by omega:n+17<=n+100)) e2 hl hb.1 hb.2 with⟨r1,r2,r3,r4⟩|r1
   ·
    exact .inl ⟨r1,r2,r3,by omega⟩
   ·
    exact .inr r1
  ·
   rw[if_neg (by omega)]at bM;exact absurd (aiE h.ok jy e2 (by omega) (by omega)) hv
def jz(p:Int)(x:aB):Int:=if x.bad=true then 0 else lh p x
def lY(p:Int)(x:aB):Int:=if x.bad=true then 0 else if x.live=0 then lh p x else 0
def pV(l:List Int):Int:=l.foldl max 0
theorem I7{M:Int}(l:List Int): ∀s:Int,l.foldl max s<=M↔s<=M/\ ∀x∈l,x<=M:=by
 induction l with
 |nil=>intro s;simp
 |cons y r ih=>
  intro s;rw[auA,ih,Int.max_le];simp only[as2,forall_eq_or_imp];exact and_assoc
theorem aiR{p:Int}(l:List aB)(h: ∀x∈l,0<=lh p x): ∀s:Int×Int,0<=s.2->l.foldl (tm p) s=(s.1+fR (l.map (jz p)),(l.map (lY p)).foldl max s.2):=by
 induction l with
 |nil=>intro s _;simp[fR]
 |cons y r ih=>
  intro s hs;have ih':=ih fun x hx=>h x (atd _ hx);have hy:=h y as5;rw[auA];have bq:0<=(tm p s y).2:=by
   rw[tm];split
   ·
    exact hs
   simp only;split<;>omega
  rw[ih' _ bq,atq,atq,auA,fR];rw[tm,jz,lY]
  by_cases hb:y.bad=true
  ·
   rw[if_pos hb,if_pos hb,if_pos hb];rw[au3,Int.max_eq_left hs]
  rw[if_neg hb,if_neg hb,if_neg hb]
  by_cases hl:y.live=0
  ·
   rw[if_pos hl,if_pos hl,Int.add_assoc]
  rw[if_neg hl,if_neg hl,Int.max_eq_left hs,Int.add_assoc]
theorem Xn{c:CV}{fl:List Int}(hk:bb c=true):lj c fl=(fR ((aw c fl).map (jz c.pages)) -pV ((aw c fl).map (lY c.pages)),fR ((aw c fl).map (jz c.pages))):=by
 have:=aiR (p:=c.pages) (aw c fl) (fun x hx=>(He (uK hk hx) hk).1) (0,0) (atW _);rw[lj,fS,this,pV];simp only[au3]
theorem Xo{f:aB->Int}: ∀{l:List aB} {i:Nat} {x y:aB},l[i]? =some y->fR ((l.set i x).map f)=fR (l.map f) -f y+f x
 |[],i,x,y,h=>by simp at h
 |z::r,0,x,y,h=>by
  obtain rfl:z=y:=by simpa using h
  simp only[auq,atq,fR];omega
 |z::r,i+1,x,y,h=>by
  have:=Xo (f:=f) (l:=r) (i:=i) (x:=x) (y:=y) (by simpa using h);simp only[avw,atq,fR];omega
theorem aiS{pages:Int}{l:List Int}: ∀(D k:Nat),((List.range D).map fun i=>kr pages l k i).sum<=k:=by
 have step: ∀(D:Nat) (P:Bool) (b:Int),((List.range D).map fun i:Nat=>if P&&decide (b=(i:Int)+2)then 1 else 0).sum<=(if 2<=b/\b<(D:Int)+2 then 1 else 0):=by
  intro D P b
  induction D with
  |zero=>simp
  |succ D ih=>
   rw[aua,atE,avY];simp only[atq,aud,avK,List.sum_nil,atZ]
   by_cases e:b=(D:Int)+2
   ·
    have hc:(if 2<=b/\b<(D:Int)+2 then 1 else 0)=0:=if_neg (by omega);have yq:(if 2<=b/\b<((D+1:Nat):Int)+2 then 1 else 0)=1:=if_pos (by omega);have B6:(if P&&decide (b=(D:Int)+2)then 1 else 0)<=1:=by split<;>omega
    rw[hc]at ih;rw[yq];omega
   have B6:(if P&&decide (b=(D:Int)+2)then 1 else 0)=0:=if_neg (by simp[e]);have hc4:(if 2<=b/\b<(D:Int)+2 then 1 else 0)<=(if 2<=b/\b<((D+1:Nat):Int)+2 then 1 else 0):=by
    by_cases g:2<=b/\b<(D:Int)+2
    ·
     rw[if_pos g,if_pos (by omega)];exact as4 _
    rw[if_neg g];exact atv _
   rw[B6];omega
 intro D k
 induction k with
 |zero=>
  have: ∀i∈List.range D,kr pages l 0 i=0:=fun i _=>by simp[kr]
  rw[at6 this];have: ∀n:Nat,((List.range n).map fun _:Nat=>(0:Nat)).sum=0:=fun n=>by
   induction n with
   |zero=>rfl
   |succ n ih=>rw[aua,atE,avY,ih];rfl
  rw[this];exact as4 _
 |succ k ih=>
  have: ∀i∈List.range D,kr pages l (k+1) i=kr pages l k i+(if nI l k&&decide ((l.getD k 0 -1)/pages=(i:Int)+2)then 1 else 0):=fun i _=>DC pages l k i;rw[at6 this];have JJ: ∀(f g:Nat->Nat) (n:Nat),((List.range n).map fun i=>f i+g i).sum=((List.range n).map f).sum+((List.range n).map g).sum:=fun f g n=>by
   induction n with
   |zero=>rfl
   |succ n ih=>
    rw[aua,atE,atE,atE,avY,avY,avY,ih];simp only[atq,aud,avK,List.sum_nil];omega
  have e:=JJ (fun i=>kr pages l k i) (fun i=>if nI l k&&decide ((l.getD k 0 -1)/pages=(i:Int)+2)then 1 else 0) D;have h2:=step D (nI l k) ((l.getD k 0 -1)/pages);have h1:(if 2<=(l.getD k 0 -1)/pages/\(l.getD k 0 -1)/pages<(D:Int)+2 then 1 else 0)<=1:=by split<;>omega
  refine avq (Nat.le_of_eq e) ?_;exact Nat.add_le_add ih (avq h2 h1)
theorem aiT{c:CV}{fl:List Int}{f:aB->Int}{g:Nat->Int}(hp:1<=c.pages)(hs:Std c fl)(h: ∀i,i<c.blocks.length -2->f (pT c fl i)=g i):fR ((aw c fl).map f)=fR ((List.range (c.blocks.length -2)).map g):=by
 rw[Aq hp hs,List.map_map];congr 1;refine at6 fun i hi=>?_;exact h i (aty.1 hi)
theorem Xp(p:Int)(f:Nat->Nat): ∀D:Nat,fR ((List.range D).map fun i=>p -(f i:Int))=(D:Int)*p -(((List.range D).map f).sum:Nat)
 |0=>by simp[fR]
 |D+1=>by
  have ih:=Xp p f D;rw[aua,atE,atE,Sk,avY,ih];simp only[atq,aud,fR,avK,List.sum_nil];rw[show((D+1:Nat):Int)*p=(D:Int)*p+p by rw[Int.natCast_add,Int.add_mul];omega];omega
theorem aiU{n:Nat}{x:WV}(h:Lv n x)(hP:nu x=0){need:Int}(hn:need<=x.v.at_.length):need<=(lj x.v.ae x.v.at_).1:=by
 have hd:=eX h.ok.ae;have hp:1<=x.v.ae.pages:=by omega
 have jy:=h.rt.pl.nr;have hz: ∀i,i<x.v.ae.blocks.length -2->kT x.v.ae.pages (pT x.v.ae x.v.at_ i)=0:=fun i hi=>by
  apply atc;intro bM;have hg:=h.ok.get (fl:=x.v.at_) jy hi;rw[←h.ok.tell]at hg;have:=ER (p:=x.v.ae.pages) (x:=bf) hg;have hb:kT x.v.ae.pages bf=0:=rfl;change pU x.v.ae.pages (aw x.v.ae x.v.at_)=0 at hP;omega
 have AI: ∀i,i<x.v.ae.blocks.length -2->lh x.v.ae.pages (pT x.v.ae x.v.at_ i)=x.v.ae.pages -(cT x.v.ae.pages x.v.at_ i:Nat):=fun i hi=>by
  have h0:=hz i hi;have hu:=h.ok.Cu hi;have hl:=h.ok.W4 jy hi;rw[h.ok.tell,kT]at h0;rw[h.ok.tell,lh];simp only[atD,if_false]at h0⊢
  by_cases mg:(cT x.v.ae.pages x.v.at_ i:Int)=0
  ·
   rw[if_pos mg]at h0;have hb: ¬(0<(ak x.v.ae ((i:Int)+2)).used/\(ak x.v.ae ((i:Int)+2)).used<x.v.ae.pages):=fun g=>by rw[if_pos g]at h0;cases h0
   split
   ·
    omega
   omega
  rw[if_neg mg]at h0;rw[if_neg (fun g=>mg g.1)];omega
 rw[Xn h.ok.ae];simp only;have aiV:fR ((aw x.v.ae x.v.at_).map (jz x.v.ae.pages))=((x.v.ae.blocks.length -2:Nat):Int)*x.v.ae.pages -(((List.range (x.v.ae.blocks.length -2)).map fun i=>cT x.v.ae.pages x.v.at_ i).sum:Nat):=by
  rw[aiT hp jy (g:=fun i=>x.v.ae.pages -(cT x.v.ae.pages x.v.at_ i:Nat)) fun i hi=>by
   rw[jz,if_neg (by rw[h.ok.tell];simp)];exact AI i hi]
  exact Xp _ _ _
 have vb:((List.range (x.v.ae.blocks.length -2)).map fun i=>cT x.v.ae.pages x.v.at_ i).sum<=x.v.at_.length:=by
  have:=aiS (pages:=x.v.ae.pages) (l:=x.v.at_) (x.v.ae.blocks.length -2) x.v.at_.length;rwa [at6 fun i _=>IY hp i (jy.pos hp)]at this
 have ND:pV ((aw x.v.ae x.v.at_).map (lY x.v.ae.pages))<=x.v.ae.pages:=by
  refine(I7 _ 0).2 ⟨by omega,fun z hz=>?_⟩;obtain⟨y,hy,rfl⟩:=at7.1 hz;have:=He (uK h.ok.ae hy) h.ok.ae;rw[lY];split
  ·
   omega
  split<;>omega
 have asK:=h.half;have hB:=h.wr.len;generalize x.v.ae.pages=p at*;generalize((List.range (x.v.ae.blocks.length -2)).map fun i=>cT p x.v.at_ i).sum=S at*;have e:((x.v.ae.blocks.length -2:Nat):Int)*p=((x.v.ae.blocks.length:Int) -4)*p+2*p:=by
  rw[←Int.add_mul];congr 1;omega
 rw[aiV,e];omega
end Go.Kb

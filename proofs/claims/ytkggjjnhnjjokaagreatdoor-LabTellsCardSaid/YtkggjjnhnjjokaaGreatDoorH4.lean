/- Laws and walks by which the law LabTells is proved, each with its own conditions. -/
import Derived.Test.YtkggjjnhnjjokaaGreatDoorH3
import Derived.Lib.BytesEntry
import Derived.Lib.ReflectliteSwap
set_option maxRecDepth 20000
set_option linter.unusedSimpArgs false
set_option linter.unusedVariables false
namespace Go.Kb
def mo(p:Nat->Bool):Nat->Nat->Nat->Nat
 |0,i,_=>i
 |f+1,i,j=>if i<j then(if p ((i+j)/2)=true then mo p f i ((i+j)/2)else mo p f ((i+j)/2+1) j)else i
def bs(p:Nat->Bool)(n:Nat):Nat:=mo p (n+1) 0 n
theorem Hp(p:Nat->Bool): ∀(f g i j:Nat),j -i<f->j -i<g->mo p f i j=mo p g i j
 |0,_,_,_,h,_=>by omega
 |_+1,0,_,_,_,h=>by omega
 |f+1,g+1,i,j,h1,h2=>by
  rw[mo,mo];split
  ·
   split
   ·exact Hp p f g _ _ (by omega) (by omega)
   exact Hp p f g _ _ (by omega) (by omega)
  rfl
theorem Tn{p:Nat->Bool}{f i j:Nat}(h:i<j)(hf:j -i<f):mo p f i j=if p ((i+j)/2)=true then mo p f i ((i+j)/2)else mo p f ((i+j)/2+1) j:=by
 match f,hf with
 |f+1,hf=>
  rw[mo,if_pos h];split
  ·exact Hp p f (f+1) _ _ (by omega) (by omega)
  exact Hp p f (f+1) _ _ (by omega) (by omega)
theorem aeh{p:Nat->Bool}{f i j:Nat}(h: ¬i<j)(hf:0<f):mo p f i j=i:=by
 match f,hf with
 |f+1,_=>rw[mo,if_neg h]
theorem LU{p:Nat->Bool}{n:Nat}(hm: ∀a b,a<=b->b<n->p a=true->p b=true): ∀(f i j:Nat),j -i<f->i<=j->j<=n->(∀a,a<i->p a=false)->(∀a,j<=a->a<n->p a=true)->
  mo p f i j<=n/\(∀a,a<mo p f i j->p a=false)/\ ∀a,mo p f i j<=a->a<n->p a=true
 |0,_,_,h,_,_,_,_=>by omega
 |f+1,i,j,h,pj,wQ,h1,h2=>by
  rw[mo];split
  ·
   rename_i bq;split
   ·rename_i hp;exact LU hm f _ _ (by omega) (by omega) (by omega) h1 fun a ha han=>hm _ a ha han hp
   ·
    rename_i hp;refine LU hm f _ _ (by omega) (by omega) wQ (fun a ha=>?_) h2
    cases fC:p a with
    |false=>rfl
    |true=>exact absurd (hm a ((i+j)/2) (by omega) (by omega) fC) hp
  ·
   obtain rfl:i=j:=by omega
   exact⟨wQ,h1,h2⟩
theorem To{p:Nat->Bool}{n:Nat}(hm: ∀a b,a<=b->b<n->p a=true->p b=true):bs p n<=n/\(∀a,a<bs p n->p a=false)/\ ∀a,bs p n<=a->a<n->p a=true:=
 LU hm (n+1) 0 n (by omega) (auo _) (at5 _) (fun a ha=>by omega) (fun a h1 h2=>by omega)
def behind(t:List Rt)(q:cK)(j:Nat):Bool:=match t[j]?with
 |some r=> !eG r.p q
 |none=>true
def dm(t:List Rt)(q:cK):Nat:=bs (behind t q) t.length
def mW(t:List Rt)(q:cK):Bool:=match t[dm t q]?with
 |some r=>decide (r.p=q)
 |none=>false
theorem LV{p:Nat->Bool}: ∀(f i j:Nat),i<=j->mo p f i j<=j
 |0,_,_,h=>h
 |f+1,i,j,h=>by
  rw[mo];split
  ·
   split
   ·exact awu (LV f _ _ (by omega)) (by omega)
   exact LV f _ _ (by omega)
  exact h
theorem Tp(t:List Rt)(q:cK):dm t q<=t.length:=LV _ _ _ (auo _)
theorem aei(t:List Rt)(q:cK):mW t q=(decide (((dm t q:Nat):Int)<(t.length:Int))&&decide ((t.getD (dm t q) bQ).p=q)):=by
 rcases aud (dm t q) t.length with h|h
 ·
  have e:t[dm t q]? =some t[dm t q]:=by simp[h]
  rw[mW,e,awy,e];simp[h]
 rw[mW,aub h,decide_eq_false (by omega)];rfl
def uV(t:List Rt)(k:Key)(bits:Int)(n:Nat):Option Rt:=if mW t ⟨bits,n,eF k n⟩=true then t[dm t ⟨bits,n,eF k n⟩]?else none
def su(t:List Rt)(k:Key)(bits:Int):Nat->Option Rt
 |0=>uV t k bits 0
 |n+1=>match uV t k bits (n+1)with
  |some r=>some r
  |none=>su t k bits n
def zu(t:List Rt)(k:Key)(bits:Int):Bool:=cS t&&bu ⟨bits,bits,k⟩
def xN(t:List Rt)(k:Key)(bits:Int):Rt:=if zu t k bits=true then(su t k bits bits.toNat).getD bQ else bQ
def uW(t:List Rt)(k:Key)(bits:Int):Int:=if zu t k bits=true then(if(su t k bits bits.toNat).isSome=true then 0 else 6)else 1
theorem Hq{t:List Rt}(h:cS t=true): ∀(i j:Nat) (a b:Rt),i<j->t[i]? =some a->t[j]? =some b->eG a.p b.p=true:=by
 intro i j
 induction j with
 |zero=>intro a b pj;omega
 |succ j ih=>
  intro a b pj ha hb;have km:=(zz.1 hb).1;obtain⟨c,hc⟩: ∃c,t[j]? =some c:=⟨t[j],by simp[show j<t.length by omega]⟩;have pX:eG c.p b.p=true:=by
   cases hx:eG c.p b.p with
   |true=>rfl
   |false=>
    have:=FH km (by rw[FI hb hc,hx];simp);rw[this]at h;cases h
  rcases aud i j with h1|h1
  ·have hac:=ih a c h1 ha hc;have m1:=AI h (atl ha);have m2:=AI h (atl hb);have m3:=AI h (atl hc);rw[nQ m1 m3]at hac;rw[nQ m3 m2]at pX;rw[nQ m1 m2];omega
  obtain rfl:i=j:=by omega
  obtain rfl:=at1 (ha.symm.trans hc);exact pX
theorem Dv{p:cK}(h:bu p=true):eG p p=false:=by
 cases hx:eG p p with
 |false=>rfl
 |true=>rw[nQ h h]at hx;omega
theorem Tq{t:List Rt}(h:cS t=true){q:cK}(hq:bu q=true)(a b:Nat)(ER:a<=b)(hb:b<t.length)(ha:behind t q a=true):behind t q b=true:=by
 obtain⟨x,hx⟩: ∃x,t[a]? =some x:=⟨t[a],by simp[show a<t.length by omega]⟩;obtain⟨y,hy⟩: ∃y,t[b]? =some y:=⟨t[b],by simp[hb]⟩;simp only[behind,hx,hy,au5]at ha⊢;rcases aud a b with h1|h1
 ·
  have hl:=Hq h a b x y h1 hx hy;have m1:=AI h (atl hx);have m2:=AI h (atl hy)
  cases hz:eG y.p q with
  |false=>rfl
  |true=>
   rw[nQ m1 m2]at hl;rw[nQ m2 hq]at hz;have:eG x.p q=true:=by rw[nQ m1 hq];omega
   rw[this]at ha;cases ha
 obtain rfl:a=b:=by omega
 obtain rfl:=at1 (hx.symm.trans hy);exact ha
theorem Ts{t:List Rt}(h:cS t=true){q:cK}(hq:bu q=true){r:Rt}(hr:r∈t)(e:r.p=q):t[dm t q]? =some r/\mW t q=true:=by
 obtain⟨h1,h2,h3⟩:=To (p:=behind t q) (n:=t.length) fun a b=>Tq h hq a b;obtain⟨i,hi⟩:=avv.1 hr;have fo:=(zz.1 hi).1;have e1:dm t q=i:=by
  have Tt:behind t q i=true:=by simp only[behind,hi,e,Dv hq];rfl
  rcases Nat.lt_trichotomy (dm t q) i with h4|h4|h4
  ·obtain⟨x,hx⟩: ∃x,t[dm t q]? =some x:=⟨t[dm t q],by simp[show dm t q<t.length by omega]⟩;have h5:=h3 (dm t q) (at5 _) (by omega);have h6:=Hq h _ _ x r h4 hx hi;simp only[behind,hx]at h5;rw[e]at h6;rw[h6]at h5;cases h5
  ·exact h4
  have:=h2 i h4;rw[this]at Tt;cases Tt
 rw[mW,e1,hi];exact⟨rfl,by simp[e]⟩
theorem Ba{t:List Rt}{q:cK}(h:mW t q=true): ∃r∈t,t[dm t q]? =some r/\r.p=q:=by
 rw[mW]at h
 cases e:t[dm t q]?with
 |none=>rw[e]at h;cases h
 |some r=>rw[e]at h;exact⟨r,atl e,rfl,by simpa using h⟩
section
variable {t:List Rt} {k:Key} {bits:Int}
theorem aej(hb:bits=32\/bits=128){n:Nat}(hn:(n:Int)<=bits):bu ⟨bits,n,eF k n⟩=true:=
 (uy _).2 ⟨hb,by simp,hn,by simp only;rw[PJ];congr 1;omega⟩
theorem LW(h:cS t=true)(hb:bits=32\/bits=128){n:Nat}(hn:(n:Int)<=bits){r:Rt}:uV t k bits n=some r↔r∈t/\r.p=⟨bits,n,eF k n⟩:=by
 constructor
 ·
  intro e;unfold uV at e;split at e
  ·rename_i hp;obtain⟨r',h1,h2,h3⟩:=Ba hp;rw[h2]at e;obtain rfl:=at1 e;exact⟨h1,h3⟩
  cases e
 rintro⟨h1,h2⟩;obtain⟨h3,h4⟩:=Ts h (aej hb hn) h1 h2;rw[uV,if_pos h4,h3]
theorem Tu(h:cS t=true)(hb:bits=32\/bits=128): ∀{n:Nat} {r:Rt},(n:Int)<=bits->su t k bits n=some r->r∈t/\(∃m:Nat,m<=n/\r.p=⟨bits,m,eF k m⟩)/\ ∀q∈t,∀m:Nat,m<=n->q.p=⟨bits,m,eF k m⟩->q.p.len<=r.p.len
 |0,r,hn,e=>by
  obtain⟨h1,h2⟩:=(LW h hb hn).1 e;exact⟨h1,⟨0,at5 _,h2⟩,fun q _ m hm hq=>by rw[hq,h2];simp;omega⟩
 |n+1,r,hn,e=>by
  rw[su]at e
  cases hx:uV t k bits (n+1)with
  |some r'=>
   rw[hx]at e;obtain rfl:=at1 e;obtain⟨h1,h2⟩:=(LW h hb hn).1 hx;exact⟨h1,⟨n+1,at5 _,h2⟩,fun q _ m hm hq=>by rw[hq,h2];simp;omega⟩
  |none=>
   rw[hx]at e;obtain⟨h1,⟨m,hm,h2⟩,h3⟩:=Tu h hb (by omega) e;refine⟨h1,⟨m,by omega,h2⟩,fun q hq m' Tw e'=>?_⟩;rcases aud n m' with h4|h4
   ·
    obtain rfl:m'=n+1:=by omega
    rw[(LW h hb hn).2 ⟨hq,e'⟩]at hx;cases hx
   exact h3 q hq m' h4 e'
end
structure Ord(t:List Rt):Prop where
 may: ∀r∈t,bu r.p=true
 less:t.Pairwise fun a b=>eG a.p b.p=true
theorem Dw{t:List Rt}(h:cS t=true):Ord t:=⟨fun _ hr=>AI h hr,by
 rw[avA];intro i j hi hj pj;exact Hq h i j _ _ pj (by simp[hi]) (by simp[hj])⟩
theorem aek{t:List Rt}(h:Ord t)(hl:t.length<=256):cS t=true:=by
 refine PR hl ?_;have key: ∀n,n<=t.length->sZ t n=true:=by
  intro n
  induction n with
  |zero=>intro _;rfl
  |succ n ih=>
   intro hn;rw[JR,ih (by omega),au2];have hi:t[n]? =some t[n]:=by simp[show n<t.length by omega]
   have hm:=h.may _ (atl hi)
   cases n with
   |zero=>rw[JS hi,hm]
   |succ m=>
    have hq:t[m]? =some t[m]:=by simp[show m<t.length by omega]
    rw[FI hi hq,hm,au2];exact(avA.1 h.less) m (m+1) (by omega) (by omega) (by omega)
 exact key _ (at5 _)
theorem Ord.sub{s t:List Rt}(h:Ord t)(hs:s.Sublist t):Ord s:=⟨fun r hr=>h.may r (hs.subset hr),h.less.sublist hs⟩
def cov(r:Rt)(p:cK):Bool:=decide (r.p≠p)&&ZH r.p p
def ael(t:List Rt)(p:cK):Option Rt:=t.reverse.find? fun r=>cov r p
def apF(t:List Rt)(r:Rt):Bool:=match ael t r.p with
 |none=>true
 |some o=> !decide (o.dN=r.dN)
structure Ch where
 r:Rt
 gone:Bool
 deriving DecidableEq
def Tx:Ch:=⟨bQ,false⟩
def dx(x:Ch):Array Value:=ay x.r++ #[.bool x.gone]
theorem Ty(x:Ch):(dx x).size=20:=by unfold dx;rw[auP,gW];rfl
theorem Tz(x:Ch)(j:Nat)(h:j<19):(dx x)[j]? =(ay x.r)[j]? :=by
 unfold dx;rw[auW (by rw[gW];exact h)]
theorem aem(x:Ch):(dx x)[19]? =some (.bool x.gone):=by
 unfold dx;rw[awd (by rw[gW];omega),gW];rfl
def eO(t:List Rt)(c:Ch):Int:=if bu c.r.p=true then(if mW t c.r.p=true then 0 else if c.gone=true then 6 else if 256<=t.length then 5 else 0)else 1
def jj(t:List Rt)(c:Ch):List Rt:=
 if eO t c=0 then(if c.gone=true then t.take (dm t c.r.p)++t.drop (dm t c.r.p+1)else if mW t c.r.p=true then t.set (dm t c.r.p) c.r else t.take (dm t c.r.p)++c.r::t.drop (dm t c.r.p))else t
theorem TA{t:List Rt}(h:t.length<=256)(c:Ch):(jj t c).length<=256:=by
 unfold jj;split
 ·
  rename_i he;split
  ·simp only[adr,at3,auh];omega
  split
  ·simpa using h
  rename_i h1 h2;have:t.length<256:=by
   apply aut;intro hn;unfold eO at he;rw[if_neg h2,if_neg h1,if_pos (show 256<=t.length by omega)]at he;split at he<;>omega
  have hp:=Tp t c.r.p;simp only[adr,at3,ad2,auh];omega
 exact h
def jk:List Rt->List Ch->List Rt×Int
 |t,[]=>(t,0)
 |t,c::l=>if eO t c=0 then jk (jj t c) l else(t,eO t c)
theorem TB{t:List Rt}{l:List Ch}{i:Nat}{c:Ch}(hc:l[i]? =some c):jk t (l.drop i)=if eO t c=0 then jk (jj t c) (l.drop (i+1))else(t,eO t c):=by
 obtain⟨hi,rfl⟩:=zz.1 hc;rw[av2 hi,jk]
def dF(t:List Rt)(l:List Ch):Int:=if cS t=true then(jk t l).2 else 1
def bT(t:List Rt)(l:List Ch):List Rt:=if dF t l=0 then(jk t l).1 else t
end Go.Kb
namespace Go.ax
def uX:Nat->Value->Value->Prop
 |0, .int k _, .int k' _=>k=k'
 |1, .bool _, .bool _=>True
 |2, .string _, .string _=>True
 |_,_,_=>False
def rA:Value->Bool
 | .agg _=>true
 |_=>false
def Bb(P:Program)(d:Nat)(t:TypeId)(kG:Bool)(ks:List Nat):Prop:=
 ∀(w:World) (x y:Value),rA x=kG->rA y=kG->x.cells.size=ks.length->y.cells.size=ks.length->
  (∀(i k:Nat),ks[i]? =some k-> ∃u v,x.cells[i]? =some u/\y.cells[i]? =some v/\uX k u v)->
  ∃r:Bool,(Op.equalIn d t x y).run P w= .ok r w/\(r=true↔ ∀i,i<ks.length->x.cells[i]? =y.cells[i]?)
section
variable {P:Program} {d:Nat} {t:TypeId}
theorem cells_one{x:Value}(h:rA x=false):x.cells= #[x]:=by
 cases x<;>simp_all[rA,Value.cells]
theorem LX{q:IntKind}(hu:P.underlying t=some (.int q)):Bb P (d+1) t false [0]:=fun w x y hx hy _ _ hk=>by
 obtain⟨u,v,h1,h2,h3⟩:=hk 0 0 rfl;rw[cells_one hx]at h1⊢;rw[cells_one hy]at h2⊢;simp at h1 h2;subst h1 h2
 cases x<;>cases y<;>simp only[uX]at h3
 subst h3;exact⟨_,run_equalIn_int w d t _ q _ _ hu,by simp⟩
theorem TC{e:TypeId}{kG:Bool}{n:Nat}(hA: ∃de,P.underlying e=some de/\wR de=kG)(hn:(P.info? e).map (·.size)=some n)(h1:kG=false->n=1)
  {xs:Array Value} {off:Nat} (bq:off+n<=xs.size) (hp: ∀i u,off<=i->i<off+n->xs[i]? =some u->rA u=false) (w:World):
  ∃a,(part e xs off).run P w= .ok a w/\rA a=kG/\a.cells.size=n/\ ∀i,i<n->a.cells[i]? =xs[off+i]? :=by
 obtain⟨de,hu,hr⟩:=hA
 cases kG with
 |true=>
  refine⟨.agg (xs.extract off (off+n)),?_,rfl,by simp[Value.cells];omega,fun i hi=>?_⟩
  ·simp only[part,Sem.run_bind,Ci w hu,hr,Result.andThen_ok,if_true,lT w hn,Sem.run_pure]
  ·simp[Value.cells,Array.getElem?_extract];intro h;omega
 |false=>
  have:=h1 rfl;subst this;have hx:xs[off]? =some xs[off]:=by simp[show off<xs.size by omega]
  have LY:=hp off _ (at5 _) oM hx;refine⟨xs[off],?_,LY,by rw[cells_one LY];rfl,fun i hi=>?_⟩
  ·simp only[part,Sem.run_bind,Ci w hu,hr,Result.andThen_ok,hx,auH,if_false,Sem.run_pure]
  ·
   obtain rfl:i=0:=by omega
   rw[cells_one LY,avk,hx];rfl
theorem TD{k:Nat}{u v:Value}(h:uX k u v):rA u=false/\rA v=false:=by
 unfold uX at h;split at h<;>simp_all[rA]
structure tG(P:Program)(d:Nat)(e:TypeId)(kG:Bool)(ks:List Nat):Prop where
 row: ∃de,P.underlying e=some de/\wR de=kG
 size:(P.info? e).map (·.size)=some ks.length
 one:kG=false->ks.length=1
 eq:Bb P d e kG ks
theorem TE{e:TypeId}{kG:Bool}{ks:List Nat}(he:tG P d e kG ks){xs ys:Array Value}{off:Nat}(hx:off+ks.length<=xs.size)(hy:off+ks.length<=ys.size)
  (hk: ∀(i k:Nat),ks[i]? =some k-> ∃u v,xs[off+i]? =some u/\ys[off+i]? =some v/\uX k u v) (w:World):
  ∃a b r,(part e xs off).run P w= .ok a w/\(part e ys off).run P w= .ok b w/\(Op.equalIn d e a b).run P w= .ok r w/\(r=true↔ ∀i,i<ks.length->xs[off+i]? =ys[off+i]?):=by
 have plain: ∀i,off<=i->i<off+ks.length-> ∃u v k,xs[i]? =some u/\ys[i]? =some v/\uX k u v:=fun i h1 h2=>by
  obtain⟨u,v,h3,h4,h5⟩:=hk (i -off) _ (at2 oM);rw[show off+(i -off)=i by omega]at h3 h4;exact⟨u,v,_,h3,h4,h5⟩
 obtain⟨a,a1,a2,a3,a4⟩:=TC he.row he.size he.one hx (fun i u h1 h2 h3=>by
  obtain⟨u',v,k,h4,h5,h6⟩:=plain i h1 h2;rw[h4]at h3;cases h3;exact(TD h6).1) w
 obtain⟨b,b1,b2,b3,b4⟩:=TC he.row he.size he.one hy (fun i u h1 h2 h3=>by
  obtain⟨u',v,k,h4,h5,h6⟩:=plain i h1 h2;rw[h5]at h3;cases h3;exact(TD h6).2) w
 obtain⟨r,r1,r2⟩:=he.eq w a b a2 b2 a3 b3 (fun i k oE=>by
  obtain⟨u,v,h1,h2,h3⟩:=hk i k oE;have hi:i<ks.length:=(zz.1 oE).1;exact⟨u,v,by rw[a4 i hi];exact h1,by rw[b4 i hi];exact h2,h3⟩)
 refine⟨a,b,r,a1,b1,r1,r2.trans ⟨fun h i hi=>?_,fun h i hi=>?_⟩⟩
 ·rw[←a4 i hi,←b4 i hi];exact h i hi
 ·rw[a4 i hi,b4 i hi];exact h i hi
theorem TF{e:TypeId}{kG:Bool}{ks:List Nat}(he:tG P d e kG ks){xs ys:Array Value}(w:World): ∀(is:List Nat),
  (∀j∈is,j*ks.length+ks.length<=xs.size/\j*ks.length+ks.length<=ys.size/\ ∀(i k:Nat),ks[i]? =some k-> ∃u v,xs[j*ks.length+i]? =some u/\ys[j*ks.length+i]? =some v/\uX k u v)->
  ∃r:Bool,(Op.eqItems d e ks.length xs ys is).run P w= .ok r w/\(r=true↔ ∀j∈is,∀i,i<ks.length->xs[j*ks.length+i]? =ys[j*ks.length+i]?)
 |[],_=>⟨true,by simp[Op.eqItems],by simp⟩
 |j::is,h=>by
  obtain⟨h1,h2,h3⟩:=h j (by simp);obtain⟨a,b,r,p1,p2,p3,wi⟩:=TE he h1 h2 h3 w;obtain⟨r',LZ,L3⟩:=TF he w is (fun j' jn=>h j' (by simp[jn]));simp only[Op.eqItems,Sem.run_bind,p1,p2,p3,Result.andThen_ok]
  cases r
  ·refine⟨false,by simp,?_⟩;simp only[auH,false_iff];intro e;exact absurd (wi.2 (e j (by simp))) (by simp)
  ·
   refine⟨r',by simpa using LZ,?_⟩;rw[L3];have:=wi.1 rfl;constructor
   ·
    intro e j' jn;rcases auc.1 jn with rfl|jn
    ·exact this
    ·exact e j' jn
   ·intro e j' jn;exact e j' (by simp[jn])
theorem AR{ks:List Nat}: ∀{n j i:Nat},j<n->i<ks.length->(List.replicate n ks).flatten[j*ks.length+i]? =ks[i]?
 |0,j,i,h,_=>by omega
 |n+1,0,i,_,hi=>by
  rw[awM,avn,Nat.zero_mul,auL,aus hi]
 |n+1,j+1,i,h,hi=>by
  rw[awM,avn,auf (by rw[auz];omega),auz,show j*ks.length+1*ks.length+i -ks.length=j*ks.length+i by omega];exact AR oM hi
theorem aen{e:TypeId}{n:Nat}{kG:Bool}{ks:List Nat}(hu:P.underlying t=some (.array n e))(he:tG P d e kG ks):Bb P (d+1) t true (List.replicate n ks).flatten:=fun w x y hx hy sx sy hk=>by
 cases x<;>simp only[rA,auH]at hx
 cases y<;>simp only[rA,auH]at hy
 rename_i xs ys;simp only[Value.cells]at sx sy hk⊢;have hl:(List.replicate n ks).flatten.length=n*ks.length:=by simp
 rw[hl]at sx sy⊢;obtain⟨i,hi⟩: ∃i,P.info? e=some i:=by
  cases h:P.info? e with
  |none=>have:=he.size;simp[h]at this
  |some i=>exact⟨i,rfl⟩
 have hc:P.cellsOf e=ks.length:=by have:=he.size;simp[Program.cellsOf,hi]at this⊢;exact this
 have bound: ∀j,j<n->j*ks.length+ks.length<=n*ks.length:=fun j hj=>by
  rw[←Nat.succ_mul];exact auj _ hj
 obtain⟨r,hr,wi⟩:=TF he (xs:=xs) (ys:=ys) w (List.range n) (fun j hj=>by
  have jn:=auB.1 hj;have:=bound j jn;refine⟨oM,oM,fun i k oE=>?_⟩;have fo:i<ks.length:=(zz.1 oE).1;exact hk (j*ks.length+i) k (by rw[AR jn fo];exact oE))
 refine⟨r,by rw[run_equalIn_array w d xs ys hu hi,hc];exact hr,wi.trans ⟨fun h q hq=>?_,fun h j hj i hi=>?_⟩⟩
 ·
  have xF:0<ks.length:=by
   rcases av5 ks.length with h0|h0
   ·rw[h0]at hq;omega
   exact h0
  have h1:q/ks.length<n:=Nat.div_lt_of_lt_mul (by rw[avs];exact hq);have h2:=h (q/ks.length) (auB.2 h1) (q%ks.length) (avV _ xF);rw[Nat.div_add_mod']at h2;exact h2
 have:=bound j (auB.1 hj);exact h _ oM
def Hr(P:Program)(d:Nat):Nat->List Field->List Nat->Prop
 |_,[],ks=>ks=[]
 |off,f::fs,ks=>f.name≠ "_" ∧f.offset=off∧ ∃kG k1 k2,ks=k1++k2∧tG P d f.type kG k1∧Hr P d (off+k1.length) fs k2
theorem TG{xs ys:Array Value}(w:World): ∀(fs:List Field) (off:Nat) (ks:List Nat),Hr P d off fs ks->off+ks.length<=xs.size->off+ks.length<=ys.size->
  (∀(i k:Nat),ks[i]? =some k-> ∃u v,xs[off+i]? =some u/\ys[off+i]? =some v/\uX k u v)->
  ∃r:Bool,(Op.eqFields d xs ys fs).run P w= .ok r w/\(r=true↔ ∀i,i<ks.length->xs[off+i]? =ys[off+i]?)
 |[],off,ks,h,_,_,_=>by
  simp only[Hr]at h;subst h;exact⟨true,by simp[Op.eqFields],by simp⟩
 |f::fs,off,ks,h,hx,hy,hk=>by
  obtain⟨hn,ho,kG,k1,k2,rfl,hp,F3⟩:=h;simp only[adr]at hx hy;obtain⟨a,b,r,p1,p2,p3,wi⟩:=TE hp (xs:=xs) (ys:=ys) (off:=off) oM oM (fun i k oE=>by
   have hi:i<k1.length:=(zz.1 oE).1;exact hk i k (by rw[aus hi];exact oE)) w
  obtain⟨r',LZ,L3⟩:=TG (xs:=xs) (ys:=ys) w fs (off+k1.length) k2 F3 oM oM (fun i k oE=>by
   have:=hk (k1.length+i) k (by rw[auf oM];simpa using oE);rw[avy];exact this)
  subst ho;simp only[Op.eqFields,hn,ne_eq,not_false_eq_true,if_true,Sem.run_bind,p1,p2,p3,Result.andThen_ok]
  cases r
  ·refine⟨false,by simp,?_⟩;simp only[auH,false_iff];intro e;exact absurd (wi.2 fun i hi=>e i (by simp;omega)) (by simp)
  ·
   refine⟨r',by simpa using LZ,?_⟩;rw[L3];have:=wi.1 rfl;simp only[adr];constructor
   ·
    intro e i hi
    by_cases h1:i<k1.length
    ·exact this i h1
    ·have:=e (i -k1.length) oM;rw[show f.offset+k1.length+(i -k1.length)=f.offset+i by omega]at this;exact this
   ·intro e i hi;have:=e (k1.length+i) oM;rw[avy];exact this
theorem L4{fs:Array Field}{ks:List Nat}(hu:P.underlying t=some (.struct fs))(hp:P.stoodInHeld t=false)(hf:Hr P d 0 fs.toList ks):Bb P (d+1) t true ks:=fun w x y hx hy sx sy hk=>by
 cases x<;>simp only[rA,auH]at hx
 cases y<;>simp only[rA,auH]at hy
 rename_i xs ys;simp only[Value.cells]at sx sy hk⊢;have lH:P.fieldsOf t=fs:=by simp[Program.fieldsOf,hu]
 obtain⟨r,hr,wi⟩:=TG (xs:=xs) (ys:=ys) w fs.toList 0 ks hf oM oM (fun i k oE=>by
  have:=hk i k oE;simpa using this)
 refine⟨r,?_,by simpa using wi⟩;rw[run_equalIn_struct w d t xs ys (by rw[lH];exact hu) hp,lH];exact hr
theorem Bb.val{kG:Bool}{ks:List Nat}(h:Bb P 10000 t kG ks)(hA:kG=true)(hg:P.eqGuardType P.depth t=false){xs ys:Array Value}{r:Bool}(sx:xs.size=ks.length)(sy:ys.size=ks.length)
  (hk: ∀(i k:Nat),ks[i]? =some k-> ∃u v,xs[i]? =some u/\ys[i]? =some v/\uX k u v) (hr:xs=ys↔r=true):yK P t (.agg xs) (.agg ys) r where
 h w:=by
  subst hA;obtain⟨q,h1,h2⟩:=h w (.agg xs) (.agg ys) rfl rfl sx sy hk;have:q=r:=by
   rw[awn,h2,←hr];simp only[Value.cells];constructor
   ·
    intro e;apply au8;intro i
    by_cases hi:i<ks.length
    ·exact e i hi
    ·simp[show ¬i<xs.size by omega,show ¬i<ys.size by omega]
   ·rintro rfl i _;rfl
  rw[h1,this]
 plain:=hg
 agg:=⟨xs,ys,rfl,rfl⟩
end
end Go.ax
namespace Go.Proofs.YtkggjjnhnjjokaaGreatDoor
open Go.ax Go.Kb Go.Proofs.Tryz
instance (k:Key):gB (bR k) 16:=⟨eU k,by
 rw[auR];intro v hv;simp only[bR,List.mem_toArray,ava]at hv;obtain⟨i,_,rfl⟩:=hv;rfl⟩
instance (p:cK):gB (cW p) 18:=⟨oA p,by
 have h:(bR p.key).all (·.oneCell')=true:=(inferInstance:gB (bR p.key) 16).one;rw[cW,awK,h];simp[Value.oneCell']⟩
instance (p:cK):bO (cW p) 0 (.int .i64 p.bits):=⟨yW p⟩
instance (p:cK):bO (cW p) 1 (.int .i64 p.len):=⟨yX p⟩
instance (p:cK):nk (cW p) 2 16 (bR p.key):=⟨eU _,fun j _=>q8 p j⟩
theorem aeo(d:Nat):tG prog (d+1) 5 false [0]:=⟨⟨_,underlying5,rfl⟩,kRq,fun _=>rfl,LX underlying5⟩
theorem Dx(d:Nat):tG prog (d+1) 3 false [0]:=⟨⟨_,underlying3,rfl⟩,kRq,fun _=>rfl,LX underlying3⟩
theorem L5(d:Nat):tG prog (d+1+1) 25 true (List.replicate 16 [0]).flatten:=⟨⟨_,underlying25,rfl⟩,kRq,(fun h=>by cases h),aen underlying25 (aeo d)⟩
theorem aep:prog.stoodInHeld 32=false:=kRq
theorem TH(d:Nat):tG prog (d+1+1+1) 32 true ([0]++([0]++((List.replicate 16 [0]).flatten++[]))):=⟨⟨_,underlying32,rfl⟩,kRq,(fun h=>by cases h),
 L4 underlying32 aep ⟨dDq,rfl,_,_,_,rfl,Dx _,dDq,rfl,_,_,_,rfl,Dx _,dDq,rfl,_,_,_,rfl,L5 _,rfl⟩⟩
theorem aeq:prog.eqGuardType prog.depth 25=false:=kRq
theorem aer:prog.eqGuardType prog.depth 32=false:=kRq
instance (a b:Key):yK prog 25 (.agg (bR a)) (.agg (bR b)) (decide (a=b)):=
 (L5 9998).eq.val rfl aeq (eU a) (eU b) (fun i k hk=>by
  have hi:i<16:=(zz.1 hk).1;have h0:k=0:=by
   have:k∈(List.replicate 16 [0]).flatten:=atl hk;simpa using this
  subst h0;exact⟨_,_,jr a i hi,jr b i hi,rfl⟩) (by rw[decide_eq_true_iff];exact⟨JQ,fun h=>by rw[h]⟩)
instance (a b:cK):yK prog 32 (.agg (cW a)) (.agg (cW b)) (decide (a=b)):=
 (TH 9997).eq.val rfl aer (oA a) (oA b) (fun i k hk=>by
  have h0:k=0:=by
   have:k∈([0]++([0]++((List.replicate 16 [0]).flatten++[]))):=atl hk;simpa using this
  subst h0;have hi:i<18:=(zz.1 hk).1
  match i,hi with
  |0,_=>exact⟨_,_,yW a,yW b,rfl⟩
  |1,_=>exact⟨_,_,yX a,yX b,rfl⟩
  |j+2,hi=>rw[awH j 2];exact⟨_,_,(q8 a j).trans (jr _ j oM),(q8 b j).trans (jr _ j oM),rfl⟩) (by rw[decide_eq_true_iff];exact⟨PK,fun h=>by rw[h]⟩)
theorem tH:bR 0#128=(List.replicate 16 (Value.int .u8 0)).toArray:=by
 apply awE;simp only[bR];refine List.eq_replicate_iff.2 ⟨by simp,fun v hv=>?_⟩;simp only[ava]at hv;obtain⟨i,_,rfl⟩:=hv;simp[bl]
instance (n m:Int)(k:Key):sP prog 32 [(0, .int .i64 n),(1, .int .i64 m),(2, .agg (bR k))] (.agg (cW ⟨n,m,k⟩)):=⟨fun w=>by kernel_rfl⟩
instance:eY prog 25 (.agg (bR 0#128)):=⟨by rw[tH];kernel_rfl⟩
instance:eY prog 32 (.agg (cW ⟨0,0,0#128⟩)):=⟨by unfold cW;rw[tH];kernel_rfl⟩
theorem aes(n:Int):rR prog 126 [.int .i64 n] (.bool (decide (n=32)||decide (n=128))):=⟨fun w=>by
 refine cx func126 rfl ntmps126 rfl ?_;refine aY ?_;refine bU rfl rfl rfl (fun hg=>(bm rfl).yl) (bU rfl rfl rfl (fun hg=>(eR (aG hg rfl) rfl rfl).yl) (al ?_));refine eE (.inl rfl) (ov rfl rfl) (fun w hw=>?_);exact⟨rfl,hw.sub (au3 _)⟩⟩
instance apG(n:Int):rR prog 126 [.int .i64 n] (.bool (decide (n=32)||decide (n=128))):=aes n
theorem aet(k:Key)(h:Nat)(hh:h<=16):over (bR 0#128) 0 ((bR k).extract 0 h)=bR (eF k ((8*h:Nat):Int)):=by
 refine JP (by simp[over,eU];omega) fun i hi=>?_;have hl:((bR k).extract 0 h).size=h:=by simp[eU];omega
 rw[CL k (8*h) i hi];simp only[over,hl,auw,auS,auL,avu]
 by_cases h1:i<h
 ·rw[aus (by simp[eU];omega),if_pos oM];have:=jr k i hi;simpa[h1]using this
 rw[auf (by simp[eU];omega),if_neg oM];have h2:(bR 0#128)[i]? =some (.int .u8 ((0:Nat):Int)):=by rw[jr _ i hi];simp[bl]
 simp only[av1,hl,avd,show h+(i -h)=i by omega];rw[Array.getElem?_toList,h2]
 by_cases h3:8*i<=8*h
 ·rw[if_pos h3,show 8 -(8*h -8*i)=8 by omega,Nat.div_eq_of_lt (jJ k i),Nat.zero_mul]
 rw[if_neg h3]
theorem aeu(b r:Nat)(hb:b<256)(hr:r<=8):nj .andNot .u8 b ((255/2^r:Nat):Int)=some (.int .u8 ((b/2^(8 -r)*2^(8 -r):Nat):Int)):=by
 have hm:255/2^r<256:=avI (Nat.div_le_self _ _) oM;rw[YH hb hm];have key:b&&&(256 -1 -255/2^r)=b/2^(8 -r)*2^(8 -r):=by
  have e1:255/2^r=2^(8 -r) -1:=by
   match r,hr with
   |0,_|1,_|2,_|3,_|4,_|5,_|6,_|7,_|8,_=>rfl
   |n+9,h=>omega
  rw[e1];apply Nat.eq_of_testBit_eq;intro j;have e2:256 -1 -(2^(8 -r) -1)=2^8 -(2^(8 -r) -1+1):=by omega
  rw[Nat.testBit_and,e2,Nat.testBit_two_pow_sub_succ (by have:2^(8 -r)<=2^8:=avr dDq oM;have:=Nat.two_pow_pos (8 -r);omega),Nat.testBit_two_pow_sub_one,Nat.testBit_mul_two_pow,Nat.testBit_div_two_pow]
  by_cases hj:8 -r<=j
  ·
   simp only[hj,show ¬j<8 -r by omega,decide_true,decide_false,avZ,Bool.and_true,au2,show j -(8 -r)+(8 -r)=j by omega]
   by_cases h8:j<8
   ·simp[h8]
   have:b.testBit j=false:=Nat.testBit_lt_two_pow (avB hb (by have:=avr (n:=2) dDq (show 8<=j by omega);simpa using this));simp[this]
  simp[hj,show j<8 -r by omega]
 show some (Value.int .u8 ((b&&&(256 -1 -255/2^r):Nat):Int))=_;rw[key]
theorem aev(k:Key)(n:Int)(h0:1<=n)(h1:n<128)(h2:0<n%8):(bR (eF k ((8*(n/8).toNat:Nat):Int))).setIfInBounds (n/8).toNat (.int .u8 ((bl k (n/8).toNat/2^(8 -(n%8).toNat)*2^(8 -(n%8).toNat):Nat):Int))=bR (eF k n):=by
 have hb:=jJ k (n/8).toNat;rw[ZC _ _ _ oM (avI (Nat.div_mul_le_self _ _) hb)];congr 1;refine uw fun i hi=>?_;rw[PG _ _ _ i hi (avI (Nat.div_mul_le_self _ _) hb),CL k _ i hi];have e:eF k n=eF k ((n.toNat:Nat):Int):=by rw[auU oM]
 rw[e,CL k n.toNat i hi]
 by_cases hj:i=(n/8).toNat
 ·rw[if_pos hj,if_neg oM,if_pos oM,hj,show n.toNat -8*(n/8).toNat=(n%8).toNat by omega]
 rw[if_neg hj]
 by_cases bq:i<(n/8).toNat
 ·rw[if_pos oM,if_pos oM]
 rw[if_neg oM,if_neg oM,if_neg oM,if_neg oM]
theorem aew(k:Key)(n:Int)(h0:1<=n)(h2: ¬0<n%8):eF k ((8*(n/8).toNat:Nat):Int)=eF k n:=by
 congr 1;omega
theorem aex(k:Key)(n:Int):rR prog 22 [.agg (bR k), .int .i64 n] (.agg (bR (eF k n))):=⟨fun w=>by
 refine dD func22 rfl ntmps22 rfl ?_;refine Gc ?_;refine cn rfl fun b2=>bn fun b4=>ar ?_;refine lU rfl (fun h0=>?_) (fun h0=>?_)
 ·have h0:=of_decide_eq_true h0;refine ar ?_;refine eE (.inl rfl) (Fi rfl rfl) (fun w hw=>?_);exact⟨by rw[PI k n oM],hw.sub (au3 _)⟩
 have h0:=of_decide_eq_false h0;refine Gc ?_;refine bn fun b5=>ar ?_;refine lU rfl (fun h1=>?_) (fun h1=>?_)
 ·have h1:=of_decide_eq_true h1;refine ar ?_;refine eE (.inl rfl) (Fi rfl rfl) (fun w hw=>?_);exact⟨by rw[ZD k n oM],hw.sub (au3 _)⟩
 have h1:=of_decide_eq_false h1;refine au ?_;refine ag (ou rfl rfl oM oM) (Gs ?_);refine j6 ?_;refine wV 4 [] oK oK ?_;simp only[ave,auw];refine Gq ?_;refine bX (Jk rfl rfl oM oM) (Gq ?_);refine bX (Jk rfl rfl oM oM) (vD (vE ?_));simp only[avD,avg];refine Js (vs:=(bR k).extract 0 (n/8).toNat) rfl rfl (by have e:Nat.min (n/8).toNat (n/8).toNat=(n/8).toNat:=Nat.min_self _;rw[e,Array.size_extract,eU];omega) (fun w hw j hj=>by rw[Addr.hQ,hw.cell (Has.h (b:=b2)),auL];simp at hj;simp[hj]) (YK (gB.one (cs:=bR k)) _ _) (by rw[Array.size_extract,eU,eU];omega) (aet k _ oM) (au ?_);refine ag (Cl rfl rfl oM oM) (aP ?_);refine lU rfl (fun h2=>?_) (fun h2=>?_)
 ·have h2:=of_decide_eq_true h2;refine wV 8 [] oK oK ?_;simp only[ave,auw];refine au ?_;refine bX (ot rfl rfl oM oM) (bX (Ac rfl (jr _ _ oM)) (Gq ?_));refine bX (wU (p:=255) rfl rfl dDq oM) (bX (eR rfl rfl (aeu _ _ (jJ _ _) oM)) (bX (ot rfl rfl oM oM) (vD (vE ?_))));simp only[avD,avg];refine dO rfl rfl (by rw[eU];omega) rfl (aev k n oM oM h2) (ar ?_);refine eE (.inl rfl) (Fi rfl rfl) (fun w hw=>?_);exact⟨rfl,hw.sub (au3 _)⟩
 have h2:=of_decide_eq_false h2;refine ar ?_;refine eE (.inl rfl) (Fi rfl rfl) (fun w hw=>?_);exact⟨by rw[aew k n oM h2],hw.sub (au3 _)⟩⟩
instance apH(k:Key)(n:Int):rR prog 22 [.agg (bR k), .int .i64 n] (.agg (bR (eF k n))):=aex k n
theorem aey(p:cK):rR prog 57 [.agg (cW p)] (.bool (bu p)):=⟨fun w=>by
 refine cx func57 rfl ntmps57 rfl ?_;refine Gc ?_;refine cn rfl fun b1=>ar ?_;refine cO (Ae rfl) (au ?_);refine bU rfl rfl rfl (fun hg=>(aM (o':=1) rfl rfl).yl) (bU rfl rfl rfl (fun hg=>(bE (aG hg rfl)).yl) (bU rfl rfl rfl (fun hg=>(eR (aG hg rfl) rfl rfl).yl) (au ?_)));refine bU rfl rfl rfl (fun hg=>(aM (o':=1) rfl rfl).yl) (bU rfl rfl rfl (fun hg=>(bE (aG hg rfl)).yl) (bU rfl rfl rfl (fun hg=>(aM (o':=0) rfl rfl).yl) (bU rfl rfl rfl (fun hg=>(bE (aG hg rfl)).yl) (bU rfl rfl rfl (fun hg=>(eR (aG hg rfl) (aG hg rfl) rfl).yl) (au ?_)))));refine lU rfl (fun h0=>?_) (fun h0=>?_)
 ·
  refine al ?_;refine eE (.inl rfl) (ov rfl rfl) (fun w hw=>?_);refine⟨?_,hw.sub (au3 _)⟩;have:bu p=false:=by unfold bu;simp at h0⊢;omega
  rw[this]
 refine Gc ?_;refine jI oK oK (Gq ?_);refine bX (fM rfl) (au ?_);refine uh (Ae rfl) (Gq ?_);refine bX (fM rfl) (bX (Jj rfl rfl) (au ?_));refine eE (.inl rfl) (ov rfl rfl) (fun w hw=>?_);refine⟨?_,hw.sub (au3 _)⟩;congr 2;unfold bu;simp at h0⊢;obtain⟨⟨h1,h2⟩,h3⟩:=h0;simp[h2,h3,show p.bits=32\/p.bits=128 by omega]⟩
instance apI(p:cK):rR prog 57 [.agg (cW p)] (.bool (bu p)):=aey p
open Go.RowKit
def tI(k:Key):List Int:=(List.range 16).map fun i=>(bl k i:Int)
theorem TI(k:Key)(j:Nat)(x:Int)(h:(tI k)[j]? =some x):j<16/\x=bl k j:=by
 have hl:j<16:=by have:=(zz.1 h).1;simpa[tI]using this
 refine⟨hl,?_⟩;simp[tI,hl]at h;exact h.symm
theorem aez{x y:UInt8}{xs ys:List UInt8}:Lib.compareBytes (x::xs) (y::ys)=if x.toNat<y.toNat then -1 else if y.toNat<x.toNat then 1 else Lib.compareBytes xs ys:=by
 simp[Lib.compareBytes,UInt8.lt_iff_toNat_lt]
theorem TJ(a b:Key): ∀(n i:Nat),i+n=16->(∀j,j<i->bl a j=bl b j)->
  Lib.compareBytes ((List.range' i n).map fun j=>(bl a j).toUInt8) ((List.range' i n).map fun j=>(bl b j).toUInt8)=rX a b
 |0,i,hi,hs=>by
  have:a=b:=uw fun j hj=>hs j oM;subst this;simp[Lib.compareBytes,rX]
 |n+1,i,hi,hs=>by
  have ha:=jJ a i;have hb:=jJ b i;rw[List.range'_succ,aum,aum,aez];have ea:(bl a i).toUInt8.toNat=bl a i:=by simp;omega
  have eb:(bl b i).toUInt8.toNat=bl b i:=by simp;omega
  rw[ea,eb]
  by_cases h1:bl a i<bl b i
  ·rw[if_pos h1];have:=PM oM hs h1;unfold rX;rw[if_pos this]
  ·
   rw[if_neg h1]
   by_cases h2:bl b i<bl a i
   ·rw[if_pos h2];have:=PM oM (fun j hj=>(hs j hj).symm) h2;unfold rX;rw[if_neg oM,if_pos this]
   ·
    rw[if_neg h2];exact TJ a b n (i+1) oM fun j hj=>by
     by_cases e:j=i
     ·subst e;omega
     ·exact hs j oM
theorem TK(k:Key):(⟨ByteArray.empty.data++(Lib.bytesOf (tI k)).toArray⟩:ByteArray).data.toList=(List.range' 0 16).map fun j=>(bl k j).toUInt8:=by
 simp[Lib.bytesOf,tI,List.range_eq_range']
theorem aeA(a b:Key)(p q:Addr)(c c':Nat)(w:World)(hp: ∀j,j<16->w.cell? (p.add j)=some (.int .u8 (bl a j)))(hq: ∀j,j<16->w.cell? (q.add j)=some (.int .u8 (bl b j))):
  Calls prog 66 [.slice (some p) 16 c, .slice (some q) 16 c'].toArray w fun e w'=>e= .returned (.int .i64 (rX a b))/\Mem w [] w':=by
 refine Al (args:=[_,_]) func66 rfl ntmps66 rfl ?_;change Cw _ _ _ _ _ [(0, .slice (some p) 16 c),(1, .slice (some q) 16 c')] [];refine Fc ?_;refine Fe ?_;refine ag (hO rfl) ?_;refine Fa ?_;refine Fg ?_;refine Fc ?_;refine Fe ?_;refine ag (bm rfl) ?_;refine ag (bm rfl) ?_;refine ag (v:= .int .i64 (rX a b)) ?_ ?_
 ·
  intro aa w1 ha hw;have wj: ∀j,j<16->w1.cell? (p.add j)=some (.int .u8 (bl a j)):=fun j hj=>by
   rw[←hp j hj];exact hw.below.cell (block_lt_of_cell (hp j hj))
  have hqb: ∀j,j<16->w1.cell? (q.add j)=some (.int .u8 (bl b j)):=fun j hj=>by
   rw[←hq j hj];exact hw.below.cell (block_lt_of_cell (hq j hj))
  have r1:=Lib.run_loadBytesX (P:=prog) w1 (tI a) p .empty (fun j x hx=>by obtain⟨h1,rfl⟩:=TI a j x hx;exact wj j h1);have r2:=Lib.run_loadBytesX (P:=prog) w1 (tI b) q .empty (fun j x hx=>by obtain⟨h1,rfl⟩:=TI b j x hx;exact hqb j h1);have l1:(tI a).length=16:=by simp[tI]
  have l2:(tI b).length=16:=by simp[tI]
  rw[l1]at r1;rw[l2]at r2;have e5:=ha.ev (x:= .tmp 5) (v:= .slice (some p) 16 c) rfl;have e6:=ha.ev (x:= .tmp 6) (v:= .slice (some q) 16 c') rfl;have gS:(callFunc 136 #[.slice (some p) 16 c, .slice (some q) 16 c']).run prog w1= .ok (.value (.int .i64 (rX a b))) w1:=by
   rw[run_callFunc_extern func136 kRq kRq kRq (e:=Extern.BytealgCompare.compare) kRq];have:(Extern.BytealgCompare.compare #[.slice (some p) 16 c, .slice (some q) 16 c']).run prog w1= .ok (.int .i64 (rX a b)) w1:=by
    change Sem.run prog (do pure (goInt (Extern.BytealgCompare.cmp (←Extern.Bytes.bytesOf (.slice (some p) 16 c)) (←Extern.Bytes.bytesOf (.slice (some q) 16 c'))))) w1=_;simp only[Extern.Bytes.bytesOf,Sem.run_bind,r1,r2,Sem.run_pure,Result.andThen];rw[Lib.cmp_eq,TK,TK,TJ a b 16 0 rfl (fun j h=>by omega)];rfl
   rw[this];rfl
  simp[execOp,resolve,Act.eval,Deferred.ofValue,invoke]at e5 e6⊢;rw[e5,e6,gS]
 refine ag (hO rfl) ?_;refine Fa ?_;refine Fg ?_;refine Ju ?_;refine eE (.inl rfl) (ov rfl rfl) (fun w hw=>?_);exact⟨rfl,hw.sub (au3 _)⟩
theorem TL{w0 w:World}{L:List ai}{b:Nat}{p:cK}{T:TypeId}{i:Nat}(hw:Mem w0 L w)[hh:Has L b (cW p) T i](j:Nat)(hj:j<16):w.cell? ((⟨b,2,none⟩:Addr).add j)=some (.int .u8 (bl p.key j)):=by
 rw[Addr.hQ,hw.cell hh.h,q8,jr _ j hj]
theorem L6{p q:cK}(h1:bu p=true)(h2:bu q=true):eG p q=(if p.bits≠q.bits then decide (p.bits=32)else if p.key≠q.key then decide (p.key.toNat<q.key.toNat)else decide (p.len<q.len)):=by
 unfold eG;rw[h1,h2];rfl
theorem aeB(p q:cK):rR prog 58 [.agg (cW p), .agg (cW q)] (.bool (eG p q)):=⟨fun w=>by
 refine dD func58 rfl ntmps58 rfl ?_;refine Gc ?_;refine cn rfl fun b2=>cn rfl fun b3=>al ?_;refine cO (Ae rfl) (au ?_);refine bU rfl rfl rfl (fun hg=>(jU rfl).yl) (bU rfl rfl rfl (fun hg=>Ae (fG (aG hg rfl) jG)) (bU rfl rfl rfl (fun hg=>(nJ (aG hg rfl)).yl) (au ?_)));refine lU rfl (fun h0=>?_) (fun h0=>?_)
 ·
  simp at h0;refine al ?_;refine eE (.inl rfl) (ov rfl rfl) (fun w hw=>?_);refine⟨?_,hw.sub (au3 _)⟩;have:eG p q=false:=by unfold eG;cases h1:bu p<;>cases h2:bu q<;>simp_all
  rw[this]
 simp at h0;obtain⟨m1,m2⟩:=h0;refine cX ?_;refine lU rfl (fun h1=>?_) (fun h1=>?_)
 ·simp at h1;refine aY ?_;refine eE (.inl rfl) (ov rfl rfl) (fun w hw=>?_);exact⟨by rw[L6 m1 m2,if_pos h1],hw.sub (au3 _)⟩
 simp at h1;refine Gc ?_;refine jI oK oK (Gq ?_);refine bX (yM rfl) (Gq ?_);refine bX (yM rfl) (uh (Ck rfl (fun w hw=>aeA p.key q.key _ _ _ _ w (TL hw) (TL hw))) (aP ?_));refine lU rfl (fun h2=>?_) (fun h2=>?_)
 ·simp at h2;refine aP ?_;refine eE (.inl rfl) (ov rfl rfl) (fun w hw=>?_);exact⟨by rw[L6 m1 m2,if_neg (by simpa using h1),if_pos (fun e=>h2 ((PN _ _).2 e)),decide_eq_decide.2 (ZI _ _)],hw.sub (au3 _)⟩
 simp at h2;refine fS ?_;refine eE (.inl rfl) (ov rfl rfl) (fun w hw=>?_);exact⟨by rw[L6 m1 m2,if_neg (by simpa using h1),if_neg (by simpa using(PN _ _).1 h2)],hw.sub (au3 _)⟩⟩
instance apJ(p q:cK):rR prog 58 [.agg (cW p), .agg (cW q)] (.bool (eG p q)):=aeB p q
instance apK:dS prog 22 34 19 40:=⟨underlying22,kRq⟩
instance apL:dS prog 45 47 20 48:=⟨underlying45,kRq⟩
instance apM:eY prog 53 (.slice none 0 0):=⟨kRq⟩
instance apN:dS prog 53 5 1 1:=⟨underlying53,kRq⟩
instance apO:dS prog 56 180 4 48:=⟨underlying56,kRq⟩
instance apP:dS prog 57 97 4 16:=⟨underlying57,kRq⟩
instance apQ:dS prog 60 3 1 8:=⟨underlying60,kRq⟩
instance apR:dS prog 74 73 38 80:=⟨underlying74,kRq⟩
instance apS:dS prog 155 9 1 16:=⟨underlying155,kRq⟩
instance apT:dS prog 178 53 1 24:=⟨underlying178,kRq⟩
instance apU:dS prog 191 269 2 32:=⟨underlying191,kRq⟩
instance apV:dS prog 366 60 1 24:=⟨underlying366,kRq⟩
instance apW:dS prog 396 178 1 24:=⟨underlying396,kRq⟩
instance apX:dS prog 399 402 4 32:=⟨underlying399,kRq⟩
instance apY:dS prog 443 433 1 8:=⟨underlying443,kRq⟩
instance:bp ay 19:=⟨gW,fun r=>by
 have h:(cW r.p).all (·.oneCell')=true:=(inferInstance:gB (cW r.p) 18).one;rw[ay,awK,h];simp[Value.oneCell']⟩
instance:Deep Rt:=Deep.flat ay 19
instance:gL Rt ay 19:=⟨rfl,fun _=>rfl⟩
instance (r:Rt):gB (ay r) 19:=⟨gW r,bp.one r⟩
instance (r:Rt):nk (ay r) 0 18 (cW r.p):=⟨oA _,fun j hj=>by rw[auL];exact nR r j hj⟩
instance (r:Rt):bO (ay r) 18 (.int .u16 r.dN.toNat):=⟨uz r⟩
instance (r:Rt):bO (ay r) 0 (.int .i64 r.p.bits):=⟨(nR r 0 dDq).trans (yW r.p)⟩
instance (r:Rt):bO (ay r) 1 (.int .i64 r.p.len):=⟨(nR r 1 dDq).trans (yX r.p)⟩
theorem aeC(d:Nat):tG prog (d+1) 27 false [0]:=⟨⟨_,underlying27,rfl⟩,kRq,fun _=>rfl,LX underlying27⟩
theorem aeD:prog.stoodInHeld 34=false:=kRq
theorem TM(d:Nat):tG prog (d+1+1+1+1) 34 true (([0]++([0]++((List.replicate 16 [0]).flatten++[])))++([0]++[])):=⟨⟨_,underlying34,rfl⟩,kRq,(fun h=>by cases h),
 L4 underlying34 aeD ⟨dDq,rfl,_,_,_,rfl,TH _,dDq,rfl,_,_,_,rfl,aeC _,rfl⟩⟩
theorem aeE:prog.eqGuardType prog.depth 34=false:=kRq
instance (a b:Rt):yK prog 34 (.agg (ay a)) (.agg (ay b)) (decide (a=b)):=
 (TM 9996).eq.val rfl aeE (gW a) (gW b) (fun i k hk=>by
  have h0:k=0:=by
   have:k∈(([0]++([0]++((List.replicate 16 [0]).flatten++[])))++([0]++[])):=atl hk;simpa using this
  subst h0;have hi:i<19:=(zz.1 hk).1
  match i,hi with
  |0,_=>exact⟨_,_,(inferInstance:bO (ay a) 0 _).h,(inferInstance:bO (ay b) 0 _).h,rfl⟩
  |1,_=>exact⟨_,_,(inferInstance:bO (ay a) 1 _).h,(inferInstance:bO (ay b) 1 _).h,rfl⟩
  |j+2,hi=>
   rcases aud j 16 with h|h
   ·rw[awH j 2];exact⟨_,_,(nR a _ oM).trans ((q8 a.p j).trans (jr _ j h)),(nR b _ oM).trans ((q8 b.p j).trans (jr _ j h)),rfl⟩
   obtain rfl:j=16:=by omega
   exact⟨_,_,uz a,uz b,rfl⟩) (by rw[decide_eq_true_iff];exact⟨PU,fun h=>by rw[h]⟩)
instance:sP prog 34 [] (.agg (ay bQ)):=⟨fun w=>by unfold ay cW bQ;rw[tH];kernel_rfl⟩
instance (p:cK)(h:UInt16):sP prog 34 [(0, .agg (cW p)),(1, .int .u16 h.toNat)] (.agg (ay ⟨p,h⟩)):=⟨fun w=>by kernel_rfl⟩
instance:eY prog 34 (.agg (ay bQ)):=⟨by unfold ay cW bQ;rw[tH];kernel_rfl⟩
end Go.Proofs.YtkggjjnhnjjokaaGreatDoor
namespace Go.Kb
open Go.ax
instance:Plain Rt:=⟨fun _=>rfl⟩
instance:gG Rt:=gG.flat fun _ _=>trivial
structure bL where
 aj:cB
 table:Sl Rt
def cV(x:bL):Array Value:= #[.int .i64 x.aj.ae.pages, .int .i64 x.aj.ae.size,x.aj.ae.blocks.sv.val, .int .i64 x.aj.ae.ops, .bool x.aj.ae.off,x.aj.ae.aA.sv.val,x.aj.at_.sv.val, .int .u64 x.aj.gen.toNat, .int .i64 x.aj.last,x.table.sv.val]
instance:bp cV 10:=⟨fun _=>rfl,fun x=>by
 simp only[cV,avN,avW,av7,Sv.one,uH,uI,avE]⟩
instance (x:bL):gB (cV x) 10:=⟨rfl,bp.one x⟩
instance (x:bL):bO (cV x) 1 (.int .i64 x.aj.ae.size):=⟨rfl⟩
instance (x:bL):bO (cV x) 3 (.int .i64 x.aj.ae.ops):=⟨rfl⟩
instance (x:bL):bO (cV x) 5 (x.aj.ae.aA.sv.val):=⟨rfl⟩
instance (x:bL):bO (cV x) 6 (x.aj.at_.sv.val):=⟨rfl⟩
instance (x:bL):bO (cV x) 7 (.int .u64 x.aj.gen.toNat):=⟨rfl⟩
instance (x:bL):bO (cV x) 8 (.int .i64 x.aj.last):=⟨rfl⟩
instance (x:bL):bO (cV x) 9 (x.table.sv.val):=⟨rfl⟩
instance (x:bL):nk (cV x) 0 9 (cF x.aj):=⟨rfl,fun j hj=>by
 match j,hj with
 |0,_=>rfl
 |1,_=>rfl
 |2,_=>rfl
 |3,_=>rfl
 |4,_=>rfl
 |5,_=>rfl
 |6,_=>rfl
 |7,_=>rfl
 |8,_=>rfl⟩
instance (x:bL):nk (cV x) 0 6 (aV x.aj.ae):=⟨rfl,fun j hj=>by
 match j,hj with
 |0,_=>rfl
 |1,_=>rfl
 |2,_=>rfl
 |3,_=>rfl
 |4,_=>rfl
 |5,_=>rfl⟩
instance:Deep bL where
 c:=10
 cells:=cV
 size:=bp.size
 one:=bp.one
 cP h x:=Deep.cP h x.aj/\Deep.cP h x.table
 cE x:= .two (Deep.cE x.aj) (Deep.cE x.table)
 ku h x hs:=⟨Deep.ku h x.aj hs.1,Deep.ku h x.table hs.2.1⟩
 mono w w' x hg hb:=⟨Deep.mono w w' x.aj hg.1 hb,Deep.mono w w' x.table hg.2 hb⟩
instance:gG bL where
 reach x k:=gG.reach x.aj k\/gG.reach x.table k
 congr h h' x e hg:=⟨gG.congr h h' x.aj (fun k hk=>e k (.inl hk)) hg.1,gG.congr h h' x.table (fun k hk=>e k (.inr hk)) hg.2⟩
variable {w0:World}{L:List ai}
instance{x:bL}[q:aX w0 L x]:aX w0 L x.aj:=⟨fun w hw=>(q.h w hw).1⟩
instance{x:bL}[q:aX w0 L x]:aX w0 L x.table:=⟨fun w hw=>(q.h w hw).2⟩
instance{aj:cB}{table:Sl Rt}[q0:aX w0 L aj][q1:aX w0 L table]:aX w0 L (bL.mk aj table):=⟨fun w hw=>⟨q0.h w hw,q1.h w hw⟩⟩
def nz:bL:=⟨mN,⟨Sv.none,[]⟩⟩
structure FV where
 aj:VV
 table:List Rt
 deriving DecidableEq
def aI(f:bL):FV:=⟨vv f.aj,f.table.xs⟩
def sA:FV:=⟨mf,[]⟩
def zv(b p s:Int):Int:=min (uT b p/2) (kP s)
def xO(b p s:Int):Int:=jA (zv b p s) (dY s)
def eJ(c:CV):Int:=zv c.blocks.length c.pages c.size
def fh(c:CV):Int:=xO c.blocks.length c.pages c.size
def eW(c:CV)(y:Int):List UInt8:=if y -1<0 then[]else jw c y
def cG(v:VV):List (List UInt8):=v.at_.map (eW v.ae)
def cy(c:CV):FV×Int:=
 if fh c=0 then(sA,1)
 else if(bG c).2≠0 then(sA,(bG c).2)
 else if((bG c).1.at_.length:Int)≠eJ c then(sA,2)
 else if lJ (cG (bG c).1)≠0 then(sA,2)
 else(⟨(bG c).1,kf (cG (bG c).1)⟩,0)
def lK(c:CV):List (List UInt8):=if(cy c).2=0 then cG (bG c).1 else[]
theorem TN{c:CV}(h:fh c=0):cy c=(sA,1)/\lK c=[]:=by
 have e:cy c=(sA,1):=by rw[cy,if_pos h]
 exact⟨e,by rw[lK,e];rfl⟩
theorem TO{c:CV}(h: ¬fh c=0)(h1:(bG c).2≠0):cy c=(sA,(bG c).2)/\lK c=[]:=by
 have e:cy c=(sA,(bG c).2):=by rw[cy,if_neg h,if_pos h1]
 exact⟨e,by rw[lK,e,if_neg h1]⟩
theorem TP{c:CV}(h: ¬fh c=0)(h1:(bG c).2=0)(h2:((bG c).1.at_.length:Int)≠eJ c):cy c=(sA,2)/\lK c=[]:=by
 have e:cy c=(sA,2):=by rw[cy,if_neg h,if_neg (fun g=>g h1),if_pos h2]
 exact⟨e,by rw[lK,e];rfl⟩
theorem TQ{c:CV}(h: ¬fh c=0)(h1:(bG c).2=0)(h2:((bG c).1.at_.length:Int)=eJ c)(h3:lJ (cG (bG c).1)≠0):cy c=(sA,2)/\lK c=[]:=by
 have e:cy c=(sA,2):=by rw[cy,if_neg h,if_neg (fun g=>g h1),if_neg (fun g=>g h2),if_pos h3]
 exact⟨e,by rw[lK,e];rfl⟩
theorem Dy{c:CV}(h: ¬fh c=0)(h1:(bG c).2=0)(h2:((bG c).1.at_.length:Int)=eJ c)(h3:lJ (cG (bG c).1)=0):cy c=(⟨(bG c).1,kf (cG (bG c).1)⟩,0)/\lK c=cG (bG c).1:=by
 have e:cy c=(⟨(bG c).1,kf (cG (bG c).1)⟩,0):=by rw[cy,if_neg h,if_neg (fun g=>g h1),if_neg (fun g=>g h2),if_neg (fun g=>g h3)]
 exact⟨e,by rw[lK,e,if_pos rfl]⟩
theorem Dz{c:CV}(h:(cy c).2=0): ¬fh c=0/\(bG c).2=0/\((bG c).1.at_.length:Int)=eJ c/\lJ (cG (bG c).1)=0:=by
 by_cases h0:fh c=0
 ·rw[(TN h0).1]at h;cases h
 by_cases h1:(bG c).2=0
 ·
  by_cases h2:((bG c).1.at_.length:Int)=eJ c
  ·
   by_cases h3:lJ (cG (bG c).1)=0
   ·exact⟨h0,h1,h2,h3⟩
   rw[(TQ h0 h1 h2 h3).1]at h;cases h
  rw[(TP h0 h1 h2).1]at h;cases h
 rw[(TO h0 h1).1]at h;exact absurd h h1
def jP(f:FV):Bool:=decide ((cy {f.aj.ae with off:=false}).2=0)&&decide (f.aj.gen=(cy {f.aj.ae with off:=false}).1.aj.gen)&&decide (f.aj.last=(cy {f.aj.ae with off:=false}).1.aj.last)&&decide (f.aj.at_=(cy {f.aj.ae with off:=false}).1.aj.at_)&&decide (f.table=(cy {f.aj.ae with off:=false}).1.table)
theorem L7{f:FV}:jP f=true↔(cy {f.aj.ae with off:=false}).2=0/\f.aj.gen=(cy {f.aj.ae with off:=false}).1.aj.gen/\f.aj.last=(cy {f.aj.ae with off:=false}).1.aj.last/\f.aj.at_=(cy {f.aj.ae with off:=false}).1.aj.at_/\f.table=(cy {f.aj.ae with off:=false}).1.table:=by
 simp only[jP,af0,decide_eq_true_eq,and_assoc]
theorem aeF{f:FV}:jP f=(decide ((cy {f.aj.ae with off:=false}).2=0)&&mQ f.aj&&decide ((cy {f.aj.ae with off:=false}).1.table=f.table)):=by
 rw[awn,L7];simp only[mQ,af0,decide_eq_true_eq];constructor
 ·rintro⟨h1,h2,h3,h4,h5⟩;obtain⟨g0,g1,g2,g3⟩:=Dz h1;rw[(Dy g0 g1 g2 g3).1]at h2 h3 h4;exact⟨⟨h1,⟨⟨g1,h2.symm⟩,h3.symm⟩,h4.symm⟩,h5.symm⟩
 rintro⟨⟨h1,⟨⟨g4,h2⟩,h3⟩,h4⟩,h5⟩;obtain⟨g0,g1,g2,g3⟩:=Dz h1;rw[(Dy g0 g1 g2 g3).1]at h5⊢;exact⟨rfl,h2.symm,h3.symm,h4.symm,h5.symm⟩
theorem TR{bs:List (List UInt8)}(h:lJ bs=0):cS (kf bs)=true:=by
 unfold lJ kf at*
 cases hu:ig bs with
 |none=>rw[hu]at h;cases h
 |some t=>
  rw[hu]at h;simp only at h⊢
  by_cases ht:cS t=true
  ·rw[if_pos ht];exact ht
  rw[if_neg ht]at h;cases h
def bI(f:FV)(l:List Ch):FV×Int:=
 if jP f=false then(f,1)
 else if dF f.table l≠0 then(f,dF f.table l)
 else if jO (bT f.table l) (eJ f.aj.ae) (dY f.aj.ae.size)≠0 then(f,jO (bT f.table l) (eJ f.aj.ae) (dY f.aj.ae.size))
 else if fq (lK {f.aj.ae with off:=false}) (lI (bT f.table l) (eJ f.aj.ae) (dY f.aj.ae.size))=[]then(⟨f.aj,bT f.table l⟩,0)
 else(⟨(fg f.aj (fq (lK {f.aj.ae with off:=false}) (lI (bT f.table l) (eJ f.aj.ae) (dY f.aj.ae.size)))).1,if(fg f.aj (fq (lK {f.aj.ae with off:=false}) (lI (bT f.table l) (eJ f.aj.ae) (dY f.aj.ae.size)))).2≠0 then f.table else bT f.table l⟩,(fg f.aj (fq (lK {f.aj.ae with off:=false}) (lI (bT f.table l) (eJ f.aj.ae) (dY f.aj.ae.size)))).2)
def jc(c:CV):FV×Int:=if fh c=0 then(⟨⟨c,[],0,0⟩,[]⟩,1)else(⟨(pW c (eJ c)).1,[]⟩,(pW c (eJ c)).2)
def kV(f:FV)(k:Key)(bits:Int):Rt:=if jP f=true then xN f.table k bits else bQ
def ob(f:FV)(k:Key)(bits:Int):Int:=if jP f=true then uW f.table k bits else 1
theorem DA{w0 w:World}{L:List ai}{a:Sl Rt}(h:Mem w0 (own ay 19 a.sv a.xs::L) w):Mem w0 (fz a::L) w:=GM (fun _ _ h=>h) (fun _ _=>trivial) h
theorem Hs{w0 w:World}{L:List ai}{f:bL}(h:Mem w0 (fz f.aj.ae::fz f.aj.at_::fz f.table::L) w):Mem w0 (fz f::L) w:=by
 refine Mem.freeze (es:=[fz f.aj.ae,fz f.aj.at_,fz f.table]) f ⟨⟨h.sat (fz f.aj.ae) (by simp),h.sat (fz f.aj.at_) (by simp)⟩,h.sat (fz f.table) (by simp)⟩ (fun k hk=>?_) h;rcases hk with(hk|hk)|hk
 ·exact⟨fz f.aj.ae,by simp,hk⟩
 ·exact⟨fz f.aj.at_,by simp,hk⟩
 exact⟨fz f.table,by simp,hk⟩
theorem TS{w0 w:World}{L:List ai}{f:bL}(h:Mem w0 (fz f.aj.ae::own ck 1 f.aj.at_.sv f.aj.at_.xs::own ay 19 f.table.sv f.table.xs::L) w):Mem w0 (fz f::L) w:=by
 have h1:=zh (a:=f.aj.at_) (h.perm (List.Perm.swap _ _ _));have h2:=DA (a:=f.table) (h1.perm ((List.Perm.cons _ (List.Perm.swap _ _ _)).trans (List.Perm.swap _ _ _)));exact Hs (h2.perm ((List.Perm.cons _ (List.Perm.swap _ _ _)).trans ((List.Perm.swap _ _ _).trans (List.Perm.cons _ (List.Perm.swap _ _ _)))))
theorem Ht{w0 w:World}{L:List ai}(h:Mem w0 L w):Mem w0 (fz nz::L) w:=
 Mem.freeze (es:=[]) nz ⟨⟨⟨xd,xd⟩,xd⟩,xd⟩ (fun k hk=>by
  rcases hk with(((⟨bN,_⟩|⟨x,hx,_⟩)|⟨bN,_⟩|⟨x,hx,_⟩)|⟨bN,_⟩|⟨x,hx,_⟩)|⟨bN,_⟩|⟨x,hx,_⟩
  all_goals first|exact absurd rfl bN|cases hx) h
theorem Bc{w0 w:World}{L:List ai}:Mem w0 L w->Mem w0 (fz (⟨Sv.none,[]⟩:Sl (Sl UInt8))::L) w:=
 Mem.freeze (es:=[]) _ xd (fun k hk=>by
  rcases hk with⟨bN,_⟩|⟨x,hx,_⟩
  ·exact absurd rfl bN
  cases hx)
theorem TT(s:Int):0<=kP s/\kP s<=64:=by
 rw[kP,dY];split
 ·rename_i h;have:=tn.1 h;omega
 omega
theorem L8(c:CV):eJ c<=64:=by
 have:=TT c.size;rw[eJ,zv];omega
theorem aeG(b p:Int):0<=uT b p/\uT b p<=448:=by
 rw[uT];split
 ·omega
 rename_i h;have h1:0<=b -4/\b -4<=28:=by omega
 have h2:1<=p/\p<=16:=by omega
 exact⟨Int.mul_nonneg h1.1 oM,Int.le_trans (awX h1.2 h2.2 oM oM) dDq⟩
theorem L9{c:CV}(h:(bG c).2=0):(bG c).1.ae=c:=by
 obtain⟨_,_,e⟩:=Lf h;rw[e]
theorem aeH{c:CV}(h:(bG c).2=0):c.off=false:=by
 cases ho:c.off with
 |false=>rfl
 |true=>rw[bG,if_neg (by rw[Le h];simp),if_pos ho]at h;cases h
theorem TU{c:CV}(h:(bG c).2=0):mQ (bG c).1=true:=by
 have e:{(bG c).1.ae with off:=false}=c:=by rw[L9 h,←aeH h]
 simp only[mQ,e,h,decide_true,avE]
theorem aeI(c:CV)(n:Int):(jw c n).length<=65536:=by
 rw[jw];split
 ·exact K9 _
 simp
theorem Bd(v:VV):(cG v).length=v.at_.length:=by rw[cG,aur]
theorem aeJ(c:CV)(n:Int):(eW c n).length<=65536:=by
 rw[eW];split
 ·simp
 exact aeI c n
theorem aeK(c:CV):(lK c).length<=64:=by
 rw[lK];split
 ·rename_i h;obtain⟨g0,g1,g2,g3⟩:=Dz h;have:=L8 c;rw[Bd];omega
 simp
def eX(f:FV):List (List UInt8):=lK {f.aj.ae with off:=false}
def xP(f:FV)(l:List Ch):Int:=jO (bT f.table l) (eJ f.aj.ae) (dY f.aj.ae.size)
def dL(f:FV)(l:List Ch):List (List UInt8):=lI (bT f.table l) (eJ f.aj.ae) (dY f.aj.ae.size)
theorem aeL{f:FV}{l:List Ch}(h0:jP f=false):bI f l=(f,1):=by rw[bI,if_pos h0]
theorem Hu(f:FV)(l:List Ch):bI f l=(if jP f=false then(f,1)
 else if dF f.table l≠0 then(f,dF f.table l)
 else if xP f l≠0 then(f,xP f l)
 else if fq (eX f) (dL f l)=[]then(⟨f.aj,bT f.table l⟩,0)
 else(⟨(fg f.aj (fq (eX f) (dL f l))).1,if(fg f.aj (fq (eX f) (dL f l))).2≠0 then f.table else bT f.table l⟩,(fg f.aj (fq (eX f) (dL f l))).2)):=rfl
theorem TV{f:FV}{l:List Ch}(h0:jP f=true)(h1:dF f.table l≠0):bI f l=(f,dF f.table l):=by
 rw[Hu,if_neg (by rw[h0];simp),if_pos h1]
theorem TW{f:FV}{l:List Ch}(h0:jP f=true)(h1:dF f.table l=0)(h2:xP f l≠0):bI f l=(f,xP f l):=by
 rw[Hu,if_neg (by rw[h0];simp),if_neg (fun h=>h h1),if_pos h2]
theorem TX{f:FV}{l:List Ch}(h0:jP f=true)(h1:dF f.table l=0)(h2:xP f l=0)(h3:fq (eX f) (dL f l)=[]):bI f l=(⟨f.aj,bT f.table l⟩,0):=by
 rw[Hu,if_neg (by rw[h0];simp),if_neg (fun h=>h h1),if_neg (fun h=>h h2),if_pos h3]
theorem Hv{f:FV}{l:List Ch}(h0:jP f=true)(h1:dF f.table l=0)(h2:xP f l=0)(h3: ¬fq (eX f) (dL f l)=[]):bI f l=(⟨(fg f.aj (fq (eX f) (dL f l))).1,if(fg f.aj (fq (eX f) (dL f l))).2≠0 then f.table else bT f.table l⟩,(fg f.aj (fq (eX f) (dL f l))).2):=by
 rw[Hu,if_neg (by rw[h0];simp),if_neg (fun h=>h h1),if_neg (fun h=>h h2),if_neg h3]
def xQ(f:FV):Bool:=aW f.aj.ae&&decide (f.aj.at_.length<=1000000)&&decide (f.table.length<=1000000)
end Go.Kb
namespace Go.Proofs.YtkggjjnhnjjokaaGreatDoor
open Go.ax Go.Kb Go.Proofs.Tryz
theorem aeM(a b:Int):rR prog 74 [.int .i64 a, .int .i64 b] (.int .i64 (jA a b)):=⟨fun w=>by
 refine dD func74 rfl ntmps74 rfl ?_;refine aY ?_;refine bU rfl rfl rfl (fun hg=>(bm rfl).yl) (bU rfl rfl rfl (fun hg=>(eR (aG hg rfl) rfl rfl).yl) (au ?_));refine bU rfl rfl rfl (fun hg=>(bm rfl).yl) (bU rfl rfl rfl (fun hg=>(eR (aG hg rfl) rfl rfl).yl) (au ?_));refine bU rfl rfl rfl (fun hg=>(bm rfl).yl) (bU rfl rfl rfl (fun hg=>(eR (aG hg rfl) rfl rfl).yl) (au ?_));refine lU rfl (fun h0=>?_) (fun h0=>?_)
 ·simp only[avc,decide_eq_true_eq]at h0;refine al ?_;refine eE (.inl rfl) (ov rfl rfl) (fun w hw=>?_);exact⟨congrArg (fun b=>Ending.returned (Value.int .i64 b)) ((if_pos oM).symm),hw.sub (au3 _)⟩
 simp only[Bool.or_eq_false_iff,decide_eq_false_iff_not]at h0;have hq:b/20<=12:=by omega
 have xR:0<=b/20:=by omega
 have hm:a*(b/20)<=64*12:=awX oM hq xR dDq;have oW:0<=a*(b/20):=avG oM xR;refine al ?_;refine ag (ou rfl rfl oM oM) (ag (vC rfl rfl oM) (ag (Jl rfl rfl) (au ?_)));refine eE (.inl rfl) (ov rfl rfl) (fun w hw=>?_);exact⟨congrArg (fun b=>Ending.returned (Value.int .i64 b)) ((if_neg oM).symm),hw.sub (au3 _)⟩⟩
instance apZ(a b:Int):rR prog 74 [.int .i64 a, .int .i64 b] (.int .i64 (jA a b)):=aeM a b
def DB:Array Value:=Array.replicate 20 (.int .u8 0)
theorem tJ:DB.size=20:=by simp[DB]
instance:eY prog 317 (.agg DB):=⟨kRq⟩
theorem TY(k:Key):(bR k).all (·.oneCell')=true:=(inferInstance:gB (bR k) 16).one
theorem aeN(w0 w:World)(L:List ai)(s:Sv)(xs:List UInt8)(r:Rt)(hw:Mem w0 (own aQ 1 s xs::L) w)(hl:xs.length<=1000000):Calls prog 170 #[s.val, .agg (ay r)] w fun e w'=> ∃s':Sv,e= .returned s'.val/\s'.Ok/\s'.len=xs.length+20/\Mem w0 (own aQ 1 s' (xs++fB r)::L) w':=by
 refine hY (args:=[_,_]) func170 rfl ntmps170 rfl hw ?_;change Cw _ _ _ _ _ [(0,s.val),(1, .agg (ay r))] (own aQ 1 s xs::L);refine Gc ?_;refine cn rfl fun b3=>au ?_;refine bn fun b5=>aY ?_;refine lU rfl (fun h0=>?_) (fun h0=>?_)
 ·simp only[decide_eq_true_eq]at h0;refine Gi ?_;refine ag (ot rfl rfl oM oM) (dO rfl rfl (by simp[tJ]) rfl rfl (ar ?_));refine ag (vB rfl (AT _)) (ag (ot rfl rfl oM oM) (dO rfl rfl (by simp[tJ]) rfl rfl (j6 ?_)));refine wV 4 [] oK oK ?_;simp only[ave,auw];refine bX (OU rfl rfl dDq dDq) (au ?_);refine bX (yM rfl) (vD (vE ?_));simp only[avD,avg];refine Js (vs:=bR r.p.key) rfl rfl (by rw[eU];rfl) (fun w hw j hj=>by rw[Addr.hQ,hw.cell (i:=1) rfl];exact(nR r (2+j) (by rw[eU]at hj;omega)).trans (q8 r.p j)) (TY _) (by simp[eU,tJ]) rfl (al ?_);refine ag (wU (p:=r.dN.toNat) rfl rfl (avB r.dN.toNat_lt dDq) dDq) (ag (Cy (n:=r.dN.toNat/256) rfl rfl) (ag (ot rfl rfl oM oM) (dO rfl rfl (by simp[pw,eU,tJ]) rfl rfl (al ?_))));refine ag (Cy (n:=r.dN.toNat) rfl rfl) (ag (ot rfl rfl oM oM) (dO rfl rfl (by simp[pw,eU,tJ]) rfl rfl (au ?_)));refine ag (yM rfl) (mB (ys:=fB r) rfl rfl dDq (fun w hw=>iQ (s:=⟨false,b5,0,20,20,none⟩) underlying53 dDq (Fq (Sd r (by simp[tJ]) (by simp[DB,h0])) (rr r) dDq w hw)) (by rw[rr];omega) (by rw[rr];omega) fun Ma Mc Md=>au ?_);refine eE (.inl rfl) (ov rfl rfl) (fun w hw=>?_);exact⟨Ma,rfl,Mc,Md.trans (by rw[adr,rr]),hw.sub (List.Sublist.cons _ (List.Sublist.cons _ (List.Sublist.refl _)))⟩
 simp only[decide_eq_false_iff_not]at h0;refine ar ?_;refine ag (vB rfl (AT _)) (ag (ot rfl rfl oM oM) (dO rfl rfl (by simp[tJ]) rfl rfl (j6 ?_)));refine wV 4 [] oK oK ?_;simp only[ave,auw];refine bX (OU rfl rfl dDq dDq) (au ?_);refine bX (yM rfl) (vD (vE ?_));simp only[avD,avg];refine Js (vs:=bR r.p.key) rfl rfl (by rw[eU];rfl) (fun w hw j hj=>by rw[Addr.hQ,hw.cell (i:=1) rfl];exact(nR r (2+j) (by rw[eU]at hj;omega)).trans (q8 r.p j)) (TY _) (by simp[eU,tJ]) rfl (al ?_);refine ag (wU (p:=r.dN.toNat) rfl rfl (avB r.dN.toNat_lt dDq) dDq) (ag (Cy (n:=r.dN.toNat/256) rfl rfl) (ag (ot rfl rfl oM oM) (dO rfl rfl (by simp[pw,eU,tJ]) rfl rfl (al ?_))));refine ag (Cy (n:=r.dN.toNat) rfl rfl) (ag (ot rfl rfl oM oM) (dO rfl rfl (by simp[pw,eU,tJ]) rfl rfl (au ?_)));refine ag (yM rfl) (mB (ys:=fB r) rfl rfl dDq (fun w hw=>iQ (s:=⟨false,b5,0,20,20,none⟩) underlying53 dDq (Fq (Sd r (by simp[tJ]) (by simp[DB,h0])) (rr r) dDq w hw)) (by rw[rr];omega) (by rw[rr];omega) fun Ma Mc Md=>au ?_);refine eE (.inl rfl) (ov rfl rfl) (fun w hw=>?_);exact⟨Ma,rfl,Mc,Md.trans (by rw[adr,rr]),hw.sub (List.Sublist.cons _ (List.Sublist.cons _ (List.Sublist.refl _)))⟩
theorem aeO(w:World)(s:Sv)(xs:List Rt)(hs:eZ ay 19 (hp w) s xs):Calls prog 13 #[s.val] w fun e w'=>e= .returned (.bool (cS xs))/\Mem w [] w':=by
 refine cx func13 rfl ntmps13 rfl ?_;refine ar ?_;refine ag (Cs rfl hs.ok hs.len) (au ?_);refine lU rfl (fun h0=>?_) (fun h0=>?_)
 ·simp only[decide_eq_true_eq]at h0;refine al ?_;refine eE (.inl rfl) (ov rfl rfl) (fun w hw=>?_);exact⟨congrArg (fun b=>Ending.returned (Value.bool b)) ((PQ oM).symm),hw.sub (au3 _)⟩
 simp only[decide_eq_false_iff_not]at h0;refine au ?_;refine ag (Cs rfl hs.ok hs.len) (au ?_);refine cg (X:=Nat) (fun i=>[(10, .int .i64 (i:Nat)),(9, .int .i64 (xs.length:Nat)),(8,s.val),(0,s.val)]) (fun i=>[]) (fun i=>i<=xs.length/\sZ xs i=true) (fun i=>xs.length -i) 0 ⟨oM,PO xs⟩ sb (fun w hw=>hw) ?_;rintro i ⟨bg,aK⟩;refine al ?_;refine lU rfl (fun h1=>?_) (fun h1=>?_)
 ·
  simp only[decide_eq_true_eq]at h1;have bq:i<xs.length:=by omega
  obtain⟨r,hr⟩:=get_some bq;obtain⟨q,hq⟩:=get_some (xs:=xs) (i:=i -1) oM;refine au ?_;refine ag (pq rfl rfl rfl hs.ok (by rw[hs.len];omega)) (ag (Pb rfl (Jx hs) hr rfl) (bn fun b4=>ar ?_));refine ag (fM rfl) (cO (Ae rfl) (au ?_));refine lU rfl (fun h2=>?_) (fun h2=>?_)
  ·refine al ?_;refine eE (.inl rfl) (ov rfl rfl) (fun w hw=>?_);exact⟨congrArg (fun b=>Ending.returned (Value.bool b)) ((FH bq (PS hr (by simpa using h2))).symm),hw.sub (au3 _)⟩
  refine Gc ?_;refine jI oK oK (al ?_);refine gC rfl rfl rfl (fun hg=>(bm rfl).yl) (gC rfl rfl rfl (fun hg=>(bm rfl).yl) (gC rfl rfl rfl (fun hg=>(Ag (aG hg rfl) rfl oM).yl) (gC rfl rfl rfl (fun hg=>(pq (i:=i -1) (aG hg rfl) (aG hg rfl) (by have:=of_decide_eq_true hg;omega) hs.ok (by rw[hs.len];omega)).yl) (gC rfl rfl rfl (fun hg=>(aM (aG hg rfl) rfl).yl) (gC rfl rfl rfl (fun hg=>(Pc (j:=0) (aG hg rfl) (Jx hs) hq rfl dDq).yl) (gC rfl rfl rfl (fun hg=>(aM (o':=0) rfl rfl).yl) (gC rfl rfl rfl (fun hg=>(fM (aG hg rfl)).yl) (gC rfl rfl rfl (fun hg=>Ae (fG (aG hg rfl) (fG (aG hg rfl) jG))) (gC rfl rfl rfl (fun hg=>(nJ (aG hg rfl)).yl) (au ?_))))))))));refine lU rfl (fun h3=>?_) (fun h3=>?_)
  ·refine al ?_;refine eE (.inl rfl) (ov rfl rfl) (fun w hw=>?_);exact⟨congrArg (fun b=>Ending.returned (Value.bool b)) ((FH bq (by rw[PT hr hq,h3];simp)).symm),hw.sub (au3 _)⟩
  refine al ?_;refine Gi ?_;exact bo (i+1) ⟨oM,by rw[JR,aK,PT hr hq,h3];simpa using h2⟩ oM sb (fun w hw=>hw.sub (au3 _))
 simp only[decide_eq_false_iff_not]at h1;refine al ?_;refine eE (.inl rfl) (ov rfl rfl) (fun w hw=>?_);exact⟨congrArg (fun b=>Ending.returned (Value.bool b)) ((PR oM (by rwa [show i=xs.length by omega]at aK)).symm),hw.sub (au3 _)⟩
variable {w0:World}{L:List ai}
instance ap0{s:Sv}{ss:List Rt}[h:dG w0 L ay 19 s ss]:bV prog 13 w0 L [s.val] (.bool (cS ss)) True:=⟨fun _ w hw=>aeO w s ss (h.h w hw)⟩
instance:bp cW 18:=⟨oA,fun p=>(inferInstance:gB (cW p) 18).one⟩
theorem aeP(w:World)(b2 b3:Nat)(s:Sv)(ss:List Rt)(q:cK)(j:Nat)(h2:eZ um 1 (hp w) ⟨false,b2,0,1,1,none⟩ [s])(h3:eZ cW 18 (hp w) ⟨false,b3,0,1,1,none⟩ [q])(hs:eZ ay 19 (hp w) s ss)(hj:j<ss.length):Calls prog 130 #[.int .i64 (j:Nat), .pointer (some ⟨b2,0,none⟩), .pointer (some ⟨b3,0,none⟩)] w fun e w'=>e= .returned (.bool (behind ss q j))/\Mem w [] w':=by
 have g2:Gv w ⟨false,b2,0,1,1,none⟩ um 1 [s]:=⟨h2⟩;have g3:Gv w ⟨false,b3,0,1,1,none⟩ cW 18 [q]:=⟨h3⟩;have gs:Gv w s ay 19 ss:=⟨hs⟩;refine th func130 rfl ntmps130 rfl ?_;refine al ?_;refine jI oK oK (bX (bW (s:=⟨false,b2,0,1,1,none⟩) (enc:=um) (c:=1) (xs:=[s]) (a:=s) (j:=0) (v:=s.val) rfl 0 rfl rfl dDq) (Gq ?_));obtain⟨r,hr⟩:=get_some (xs:=ss) (i:=j) oM;refine bX (bf rfl rfl j rfl oM) (bX (aM rfl rfl) (bX (Fs (j:=0) rfl j hr rfl dDq) (bX (gV (s:=⟨false,b3,0,1,1,none⟩) (enc:=cW) (c:=18) (xs:=[q]) (a:=q) rfl 0 rfl rfl) (uh (bK rfl trivial) (al ?_)))));refine Gr fun w1 hw=>?_;exact Ge ((by simp only[behind,hr])) hw
theorem aeQ(w:World)(n:Nat)(p:Nat->Bool)(f:FuncId)[hf:aH prog f](l8:Array Value)(hF: ∀w',Mem w [] w'-> ∀j:Nat,j<n->Calls prog f ([Value.int .i64 (j:Nat)]++l8.toList).toArray w' fun e qU=>e= .returned (.bool (p j))/\Mem w' [] qU)(hn:n<=1000000000):Calls prog 129 #[.int .i64 (n:Nat), .func (.func f) #[] l8] w fun e w'=>e= .returned (.int .i64 (bs p n:Nat))/\Mem w [] w':=by
 refine dD func129 rfl ntmps129 rfl ?_;refine cX ?_;refine cg (X:=Nat×Nat) (fun U=>[(5, .int .i64 (U.1:Nat)),(6, .int .i64 (U.2:Nat)),(1, .func (.func f) #[] l8)]) (fun U=>[]) (fun U=>U.1<=U.2/\U.2<=n/\mo p (n+1) U.1 U.2=bs p n) (fun U=>U.2 -U.1) (0,n) ⟨Nat.zero_le _,Nat.le_refl _,rfl⟩ sb (fun w hw=>ah.mem hw) ?_;rintro⟨i,j⟩ ⟨bg,aK,bx⟩;dsimp only;simp only at bg aK bx;refine aP ?_;refine Gb ?_ ?_<;>intro h0
 ·
  refine ar ?_;refine ag (mw (n:=i+j) rfl (by simp only[nb];omega)) (ag (wU (p:=i+j) rfl rfl (by simp only[nb];omega) oM) (ag (mw (n:=(i+j)/2^1) rfl (by simp only[nb];omega)) (ar ?_)));refine cO (F9 rfl rfl (fun w1 mz=>hF w1 mz ((i+j)/2) oM)) (au ?_);refine Gb ?_ ?_<;>intro h1
  ·refine Gi ?_;refine al ?_;refine gF ?_;exact bo (x:=(i,j)) ((i+j)/2+1,j) ⟨oF,aK,by rw[←bx,Tn (show i<j by first|omega|(simp only[];omega)) oF,if_neg (by rw[h1];simp)]⟩ (by simp only;omega) sb (fun w hw=>ah.mem hw)
  refine Gi ?_;refine au ?_;refine gF ?_;exact bo (x:=(i,j)) (i,(i+j)/2) ⟨oF,oF,by rw[←bx,Tn (show i<j by first|omega|(simp only[];omega)) oF,if_pos h1]⟩ (by simp only;omega) sb (fun w hw=>ah.mem hw)
 refine ar ?_;refine Gr fun w1 hw=>?_;exact Gf ((by rw[←bx,aeh oM oM])) hw
instance ap1{t:Sv}{ts:List Rt}{p:cK}[ht:dG w0 L ay 19 t ts]:bV prog 62 w0 L [t.val, .agg (cW p)] (.tuple #[.int .i64 ((dm ts p:Nat):Int), .bool (mW ts p)]) (ts.length<=1000000):=⟨fun aC w hw=>by
 have ht:=ht.h w hw;have Hw:Gv w t ay 19 ts:=⟨ht⟩;refine dD func62 rfl ntmps62 rfl ?_;refine Gc ?_;refine Jr rfl fun b2=>cn rfl fun b3=>aP ?_;refine ag (Kv (vs:=[.pointer (some ⟨b2,0,none⟩), .pointer (some ⟨b3,0,none⟩)]) rfl) ?_;refine cO (Ck (v:= .int .i64 (dm ts p:Nat)) rfl (fun w1 mz=>aeQ (f:=130) w1 ts.length (behind ts p) #[.pointer (some ⟨b2,0,none⟩), .pointer (some ⟨b3,0,none⟩)] (fun w2 fD j hj=>aeP w2 b2 b3 t ts p j ((Fq (b:=b2) (cs:=t.val.cells) (enc:=um) (xs:=[t]) (n:=1) (by rw[Sv.jW];rfl) rfl dDq w1 mz).mono fD.below) ((Fq (b:=b3) (cs:=cW p) (enc:=cW) (c:=18) (xs:=[p]) (n:=1) (by simp[aL]) rfl dDq w1 mz).mono fD.below) (((inferInstance:Hd w _ t ay 19 ts).h w1 mz).mono fD.below) hj) oM)) ?_;refine au ?_;refine jI oK oK (aY ?_);refine gC rfl rfl rfl (fun hg=>(Ry.yl (bE rfl))) (Gh ?_);refine gC rfl rfl rfl (fun hg=>(Ry.yl (bf (aG hg rfl) (aG hg rfl) (dm ts p) rfl (by simp only[Z0,Z1,Z2,Z3,Z4,Z5,Z6,Z7,Z8,Z9]at hg;omega)))) (gC rfl rfl rfl (fun hg=>(Ry.yl (aM (aG hg rfl) rfl))) (gC rfl rfl rfl (fun hg=>(Ry.yl (Fs (j:=0) (aG hg rfl) (dm ts p) (pz (xs:=ts) (i:=(dm ts p)) (d:=bQ) (by simp only[Z0,Z1,Z2,Z3,Z4,Z5,Z6,Z7,Z8,Z9]at hg;omega)) rfl dDq))) (gC rfl rfl rfl (fun hg=>(Ry.yl (jU rfl))) (gC rfl rfl rfl (fun hg=>(Ry.yl (Jj (aG hg rfl) (aG hg rfl)))) (ar ?_)))));refine Gr fun w1 hw=>?_;exact⟨(by rw[aei]),ah.mem hw⟩⟩
instance ap2{t:Sv}{ts:List Rt}{k:Key}{bits:Int}[ht:dG w0 L ay 19 t ts]:bV prog 15 w0 L [t.val, .agg (bR k), .int .i64 bits] (.tuple #[.agg (ay (xN ts k bits)), .int .i64 (uW ts k bits)]) (True):=⟨fun aC w hw=>by
 have ht:=ht.h w hw;have Hw:Gv w t ay 19 ts:=⟨ht⟩;refine th func15 rfl ntmps15 rfl ?_;refine Gc ?_;refine cn rfl fun b4=>bn fun b6=>fS ?_;refine bU rfl rfl rfl (fun hg=>(Ry.yl (jU rfl))) (bU rfl rfl rfl (fun hg=>(Ry.yl (gf (Cm (aG hg rfl) (Cm (aG hg rfl) (Cm (aG hg rfl) OS)))))) (bU rfl rfl rfl (fun hg=>bK (fG (aG hg rfl) jG) trivial) (bU rfl rfl rfl (fun hg=>(Ry.yl (nJ (aG hg rfl)))) (au ?_))));refine Gb ?_ ?_<;>intro h0
 ·
  have hk:zu ts k bits=false:=by rw[zu];rcases h0 with h|h;rw[h];rfl;rw[h];simp
  refine Gc ?_;refine ag (gf rfl) (al ?_);refine Gr fun w1 hw=>?_;exact⟨(by rw[xN,if_neg (by rw[hk];simp),uW,if_neg (by rw[hk];simp)]),ah.mem hw⟩
 have hr:cS ts=true:=by simpa using h0.1
 have hk:zu ts k bits=true:=by rw[zu,hr];simpa using h0.2
 have hlen:=CY hr;have hb:bits=32\/bits=128:=((uy _).1 (by simpa using h0.2:bu ⟨bits,bits,k⟩=true)).1;refine ar ?_;refine cg (X:=Int) (fun U=>[(8, .int .i64 U),(0,t.val),(2, .int .i64 bits),(4, .pointer (some ⟨b4,0,none⟩)),(6, .pointer (some ⟨b6,0,none⟩))]) (fun U=>[aq b6 (ay bQ) 34,aq b4 (bR k) 25]) (fun U=> -1<=U/\U<=bits/\(U<0->su ts k bits bits.toNat=none)/\(∀m:Nat,U=m->su ts k bits bits.toNat=su ts k bits m)) (fun U=>(U+1).toNat) bits ⟨oF,auY _,fun h=>by first|omega|(simp only[];omega),fun m h=>by rw[h];rfl⟩ sb (fun w hw=>ah.mem hw) ?_;rintro n ⟨uY,xS,xT,Me⟩;refine ar ?_;refine Gb ?_ ?_<;>intro h1
 ·
  obtain⟨m,rfl⟩: ∃m:Nat,n=(m:Int):=⟨n.toNat,oM⟩;refine aY ?_;refine ag (gf rfl) (bn fun b9=>ar ?_);refine cO (bK rfl oM) (Gs ?_);refine ag (aB (v:= .int .i64 ((dm ts (⟨bits,((m:Nat):Int),(eF k ((m:Nat):Int))⟩:cK):Nat):Int)) rfl rfl) (ag (aB (v:= .bool (mW ts (⟨bits,((m:Nat):Int),(eF k ((m:Nat):Int))⟩:cK))) rfl rfl) (aP ?_));refine Gb ?_ ?_<;>intro h2
  ·
   have AL: ∃r,ts[dm ts ⟨bits,m,eF k m⟩]? =some r/\uV ts k bits m=some r:=by obtain⟨r,_,h8,_⟩:=Ba h2;exact⟨r,h8,by rw[uV,if_pos h2,h8]⟩
   obtain⟨r,iC,DC⟩:=AL;have wk:su ts k bits bits.toNat=some r:=by rw[Me m rfl];cases m with|zero=>exact DC|succ m=>rw[su,DC]
   refine al ?_;refine ag (bf rfl rfl (dm ts ⟨bits,m,eF k m⟩) oM (zz.1 iC).1) ?_;refine ag (gV rfl (dm ts ⟨bits,m,eF k m⟩) iC rfl) (al ?_);refine Gr fun w1 hw=>?_;exact⟨(by rw[xN,if_pos hk,uW,if_pos hk,wk];rfl),ah.mem hw⟩
  have AL:uV ts k bits m=none:=by rw[uV,if_neg (by rw[h2];simp)]
  refine ar ?_;refine Gi ?_;exact bo (x:=((m:Nat):Int)) ((m:Int) -1) ⟨oF,oF,fun h=>by obtain rfl:m=0:=oF;rw[Me 0 rfl];exact AL,fun m2 h=>by obtain rfl:m=m2+1:=oF;rw[Me _ rfl,su,AL]⟩ oF sb (fun w hw=>ah.mem hw)
 have mX:su ts k bits bits.toNat=none:=xT oM;refine Gc ?_;refine ag (gf rfl) (al ?_);refine Gr fun w1 hw=>?_;exact⟨(by rw[xN,if_pos hk,uW,if_pos hk,mX];rfl),ah.mem hw⟩⟩
instance ap3{s:Sv}{ss:List Rt}[hs:dG w0 L ay 19 s ss]:bY prog 68 w0 L [s.val] (Sv) (fun U=>U.val) (fun U=>own ay 19 U ss::L) (fun U=>True) (ss.length<=1000000):=⟨fun aC w hw=>Gk (fun U=>[own ay 19 U ss]) hw (by
 have hs:=hs.h w hw;have zw:Gv w s ay 19 ss:=⟨hs⟩;refine cx func68 rfl ntmps68 rfl ?_;refine ar ?_;refine ag (vK underlying22 rfl) (Gc ?_);refine Gb ?_ ?_<;>intro h0
 ·have e0:ss=[]:=aun.1 (by have:=hs.ok.nil h0;have:=hs.len;omega);refine al ?_;refine Gr fun w1 hw=>?_;exact⟨Sv.none,rfl,trivial,by rw[e0];exact(ah.mem hw:Mem w [] _).dE ay 19⟩
 refine Gc ?_;refine w9 ay fun b5=>Gs ?_;refine mB (s:=⟨false,b5,0,0,0,none⟩) (ys:=ss) rfl rfl dDq (fun w hw=>iQ (s:=s) underlying22 dDq ((inferInstance:Hd _ _ s ay 19 ss).h w hw)) (by simp only[adr,ad2,alM];omega) (by simp only[adr,ad2,alM];omega) fun s7 zx xU=>?_;refine au ?_;refine Gr fun w1 hw=>?_;exact⟨s7,rfl,trivial,by simpa using hw⟩)⟩
instance:Rw prog 200 22 4:=⟨⟨f200,func200,kRq,kRq,kRq,kRq⟩⟩
theorem aeR(w0 w:World)(L:List ai)(s:Sv)(ss:List Rt)(n:Nat)(m:Nat)(hw:Mem w0 (own ay 19 s ss::L) w)(aC:n<=m/\m<=ss.length):Calls prog 138 #[s.val, .int .i64 (n:Nat), .int .i64 (m:Nat)] w fun e w'=> ∃U:Sv,e= .returned (U.val)/\(True)/\Mem w0 (own ay 19 U (ss.take n++ss.drop m)::L) w':=by
 obtain⟨mq,jM⟩:=aC;refine hY (args:=[_,_,_]) func138 rfl ntmps138 rfl hw ?_;change Cw _ _ _ _ _ [(0,s.val),(1, .int .i64 (n:Nat)),(2, .int .i64 (m:Nat))] (own ay 19 s ss::L);refine fS ?_;refine ag (Ru (l:=n) (h:=m) (m:=ss.length) rfl rfl rfl rfl rfl rfl rfl oM oM oM) (aP ?_);refine Gb ?_ ?_<;>intro h0
 ·
  obtain rfl:n=m:=by omega
  refine ar ?_;refine Gr fun w1 hw=>?_;exact⟨s,rfl,trivial,by rw[auO];exact hw⟩
 refine j6 ?_;refine Zi s fun ap4=>?_;have bq:n<m:=by omega
 refine Rp (s:=s) inferInstance dDq oM fun pre mid T cf vG pF eL bJ qu=>?_;have hle:=bJ.le;have kv:=bJ.bd;have xV:(aL ay (ss.drop m)).length=(ss.length -m)*19:=by rw[iG,auh]
 have TZ:(aL ay (ss.take n)).length=n*19:=by rw[iG,at3];congr 1;omega
 have wm:(aL ay ss).length=ss.length*19:=iG ss;have exs:aL ay ss=aL ay (ss.take m)++aL ay (ss.drop m):=by rw[←zf,auO]
 have hlm:(aL ay (ss.take m)).length=m*19:=by rw[iG,at3];congr 1;omega
 obtain⟨X,hX⟩: ∃X,aL ay ss=aL ay (ss.take n)++X:=⟨aL ay (ss.drop n),by rw[←zf,auO]⟩;have hXl:n*19+X.length=ss.length*19:=by rw[←wm,hX,adr,TZ]
 obtain⟨r1,iC⟩: ∃r:Sv,r=(⟨false,s.b,s.o,n+(ss.length -m),s.cap,none⟩:Sv):=⟨_,rfl⟩;refine Gi ?_;refine Gs ?_;refine ag (Cs rfl bJ qu) (Gs ?_);refine j6 ?_;refine wV 6 [] oK oK ?_;simp only[ave,auw];refine au ?_;have T0:Rg 0 n ss.length:=⟨oM⟩;refine bX (wX (h:=n) rfl rfl rfl bJ oM) (au ?_);have aeS:Rg m ss.length ss.length:=⟨oM⟩;refine bX (ui (l:=m) (n:=ss.length) rfl rfl rfl bJ qu oM) (vD (vE ?_));simp only[avD,avg];refine acr (D:=s.sub 19 0 n) (S:=s.sub 19 m ss.length) (b:=s.b) (o:=s.o+n*19) (n:=ss.length -m) (vs:=aL ay (ss.drop m)) (R:=r1) (cs':=(pre++(aL ay (ss.take n)++(aL ay (ss.drop m)++(X++mid).drop (aL ay (ss.drop m)).length))).toArray) rfl rfl pF eL rfl (by rw[Sv.C6];rfl) pF eL rfl rfl xV (by show n -0+_<=s.cap -0;omega) (fun w hw j v hj=>by
  have km:=(zz.1 hj).1;rw[xV]at km;rw[Sv.xu oM];show w.cell? ⟨s.b,_,none⟩=_;rw[hw.cell (inferInstance:Has _ s.b _ _ _).h,avu,auf oM,aus oM,exs,auf oM,←hj];congr 1;omega) (wZ _) (by simp only[au0,adr];omega) (by rw[hX,at4,←at4 pre,AM (by rw[adr];omega),at4]) (by rw[iC,Sv.C6];rfl) ?_
 refine ar ?_;refine ag (Cs (n:=n+(ss.length -m)) (s:=r1) rfl (by rw[iC];exact⟨(fun h=>by cases h),by simp only;omega,by simp only;omega,fun _=>rfl⟩) (by rw[iC])) (Gs ?_);refine ag (Fj (s:=r1) (l:=n+(ss.length -m)) (h:=ss.length) rfl rfl rfl rfl rfl (by rw[iC];exact⟨(fun h=>by cases h),by simp only;omega,by simp only;omega,fun _=>rfl⟩) oM (by rw[iC];simp only;omega)) ?_;refine acu (D:=r1.sub 19 (n+(ss.length -m)) ss.length) (b:=s.b) (o:=s.o+(n+(ss.length -m))*19) (n:=m -n) (z:= .agg (ay bQ)) rfl (by rw[iC];rfl) (by rw[iC];rfl) (by rw[iC];rfl) (by rw[iC,Sv.xu (by show _<s.cap;omega)]) (by show ss.length -(n+(ss.length -m))=_;omega) oM (show(ay bQ).all (·.oneCell')=true from(inferInstance:bp ay 19).one bQ) (by simp only[au0,adr,auh];omega) fun Z hZ=>?_;refine ar ?_;refine Gr fun w1 hw=>?_;refine⟨r1,rfl,trivial,?_⟩;rw[show(pre++(aL ay (ss.take n)++(aL ay (ss.drop m)++(X++mid).drop (aL ay (ss.drop m)).length)))=(pre++(aL ay (ss.take n)++aL ay (ss.drop m)))++(X++mid).drop (aL ay (ss.drop m)).length from by simp only[at4],AM (A:=pre++(aL ay (ss.take n)++aL ay (ss.drop m))) (by simp only[adr];omega),←zf,at4 pre]at hw;have fD:=KL (enc:=ay) (i:=0) (xs:=ss.take n++ss.drop m) (pre:=pre) hw rfl r1 (by rw[iC];exact⟨(fun h=>by cases h),by simp only;omega,by simp only;omega,fun _=>rfl⟩) (by rw[iC]) (by rw[iC]) (by rw[iC]) (by rw[iC];exact cf.symm) (by rw[iC];simp only[adr,at3,auh];omega) (by rw[iC];simp only[adr,at3,auh];omega);exact fD
instance ap5{w0:World}{L R:List ai}{i:Nat}{s:Sv}{ss:List Rt}{n:Nat}{m:Nat}[q:gg L s ay 19 ss i][d:ct L i R]:bY prog 138 w0 L [s.val, .int .i64 (n:Nat), .int .i64 (m:Nat)] (Sv) (fun U=>U.val) (fun U=>own ay 19 U (ss.take n++ss.drop m)::R) (fun U=>True) (n<=m/\m<=ss.length):=⟨fun hp w hw=>aeR w0 w R s ss n m (F8 q.h d.h hw) hp⟩
theorem aeT(w0 w:World)(L:List ai)(s:Sv)(ss:List Rt)(v:Sv)(r:Rt)(n:Nat)(hw:Mem w0 (own ay 19 s ss::own ay 19 v [r]::L) w)(aC:n<=ss.length/\ss.length<=1000000):Calls prog 139 #[s.val, .int .i64 (n:Nat),v.val] w fun e w'=> ∃U:Sv,e= .returned (U.val)/\(True)/\Mem w0 (own ay 19 U (ss.take n++r::ss.drop n)::L) w':=by
 obtain⟨mq,jM⟩:=aC;refine hY (args:=[_,_,_]) func139 rfl ntmps139 rfl hw ?_;change Cw _ _ _ _ _ [(0,s.val),(1, .int .i64 (n:Nat)),(2,v.val)] (own ay 19 s ss::own ay 19 v [r]::L);refine aP ?_;have aeU:Rg n ss.length ss.length:=⟨oM⟩;refine ag (CD rfl rfl n rfl aeU.h.1) (au ?_);refine ag (Ry.to (v':= .int .i64 (1:Nat)) (uq rfl) rfl) (aP ?_);refine Gb ?_ ?_<;>intro h0
 ·exfalso;omega
 refine iS ?_;refine Gb ?_ ?_<;>intro h1
 ·refine al ?_;refine mB (s:=s) (ys:=[r]) rfl rfl dDq (fun w hw=>iQ (s:=v) underlying22 dDq ((inferInstance:Hd _ _ v ay 19 [r]).h w hw)) (by simp only[ad2,alM];omega) (by simp only[ad2,alM];omega) fun s25 ap6 ap7=>?_;refine au ?_;refine Gr fun w1 hw=>?_;exact⟨s25,rfl,trivial,by rw[aug oM,List.drop_of_length_le oM];exact ah.mem hw⟩
 refine Kt ?_;have bq:n<ss.length:=by omega
 refine GC (s:=v) (enc:=ay) inferInstance (by simp) fun T1 zZ ap8 Be=>?_;have T3:v.len=1:=Be;refine Rp (s:=s) inferInstance dDq oM fun pre mid T cf vG pF eL bJ qu=>?_;have hle:=bJ.le;have kv:=bJ.bd;obtain⟨x,hx⟩:=get_some (xs:=ss) (i:=n) oM;have hA:(aL ay (ss.take n)).length=n*19:=by rw[iG,at3];congr 1;omega
 have hB:(aL ay (ss.drop n)).length=(ss.length -n)*19:=by rw[iG,auh]
 have qE:(aL ay [r]).length=19:=by rw[iG];rfl
 have DD:(aL ay [x]).length=19:=by rw[iG];rfl
 have zy:aL ay ss=(aL ay (ss.take n))++(aL ay (ss.drop n)):=by rw[←zf,auO]
 have T4:(aL ay (ss.drop n))=(aL ay [x])++(aL ay (ss.drop (n+1))):=by rw[←zf,av2 bq,show ss[n]=x from(zz.1 hx).2];rfl
 have wm:(aL ay ss).length=ss.length*19:=iG ss;have Bf:aL ay (ss.take n++r::ss.drop n)=(aL ay (ss.take n))++((aL ay [r])++(aL ay (ss.drop n))):=by rw[zf,←zf [r]];rfl
 have Hx:(ss.take n++r::ss.drop n).length=ss.length+1:=by simp only[adr,at3,ad2,auh];omega
 have hU: ∀(w1:World) L',Mem w0 (aq s.b (pre++(aL ay ss++mid)).toArray T::L') w1-> ∀j u,(aL ay ss)[j]? =some u->w1.cell? ⟨s.b,s.o+j,none⟩=some u:=fun w1 L' mz j u hj=>acn mz cf hj;refine Gi ?_;refine ar ?_;refine ag (acv (n:=s.cap) rfl pF rfl) (au ?_);refine Gb ?_ ?_<;>intro h2
 ·
  refine al ?_;refine ag (wX (h:=n) rfl rfl rfl bJ oM) (aP ?_);refine acs (D:=s.sub 19 0 n) (k:=ss.length+1 -n) (p:=n) (m:=ss.length+1) (olds:=(aL ay (ss.take n))) rfl oM rfl rfl oM oM pF eL dDq underlying3 hA (fun w hw j u hj=>by
   have km:=(zz.1 hj).1;rw[Sv.C6];exact hU w _ hw j u (by rw[zy,aus km];exact hj)) (by show s.cap -0<n -0+_;omega) (by show(n -0+_)*_<=_;omega) (by show n -0+_<=_;omega) fun xW xX DE ap9 aqa=>?_
  refine ar ?_;refine ag (ui (s:=(⟨false,xW,0,ss.length+1,xX,none⟩:Sv)) (l:=n) (n:=ss.length+1) rfl rfl rfl ⟨(fun h=>by cases h),by simp only;omega,by simp only;omega,fun _=>rfl⟩ rfl oM) (Gs ?_);refine GD (D:=(⟨false,xW,0,ss.length+1,xX,none⟩:Sv).sub 19 n (ss.length+1)) (S:=v) (b:=xW) (o:=n*19) (n:=1) (vs:=(aL ay [r])) (cs':=((aL ay (ss.take n))++((aL ay [r])++DE.drop 19)).toArray) rfl rfl rfl rfl rfl (by rw[Sv.xu (by show n<xX;omega)];exact auL _) T1 zZ (by rw[T3];exact KK (b:=ss.length+1 -n) oM) (by rw[qE]) (fun w hw j u hj=>Rq (enc:=ay) (xs:=[r]) dDq inferInstance hw hj) (wZ _) (by simp only[au0,adr];omega) (by rw[AM (A:=(aL ay (ss.take n))) hA.symm,qE]) ?_;refine j6 ?_;refine wV 8 [] oK oK ?_;simp only[ave,auw];refine ar ?_;refine bX (ui (s:=(⟨false,xW,0,ss.length+1,xX,none⟩:Sv)) (l:=n+1) (n:=ss.length+1) rfl rfl rfl ⟨(fun h=>by cases h),by simp only;omega,by simp only;omega,fun _=>rfl⟩ rfl oM) (au ?_);refine bX (ui (l:=n) (n:=ss.length) rfl rfl rfl bJ qu oM) (vD (vE ?_));simp only[avD,avg];refine GD (D:=(⟨false,xW,0,ss.length+1,xX,none⟩:Sv).sub 19 (n+1) (ss.length+1)) (S:=s.sub 19 n ss.length) (b:=xW) (o:=(n+1)*19) (n:=ss.length -n) (vs:=(aL ay (ss.drop n))) (cs':=(((aL ay (ss.take n))++(aL ay [r]))++((aL ay (ss.drop n))++(DE.drop 19).drop (aL ay (ss.drop n)).length)).toArray) rfl rfl rfl rfl rfl (by rw[Sv.xu (by show n+1<xX;omega)];exact auL _) pF eL (KK (a:=ss.length -n) (b:=ss.length+1 -(n+1)) oM) hB (fun w hw j u hj=>by
   rw[Sv.xu oM,avy];exact hU w _ (hw.sub (by first|exact List.Sublist.refl _|exact auX _ _)) (n*19+j) u (by rw[zy,auf oM,hA,auM];exact hj)) (wZ _) (by simp only[au0,adr,auh];omega) (by rw[←at4,AM (A:=(aL ay (ss.take n))++(aL ay [r])) (by rw[adr,hA,qE];omega)]) ?_
  refine ar ?_;refine Gr fun w1 hw=>?_;refine⟨(⟨false,xW,0,ss.length+1,xX,none⟩:Sv),rfl,trivial,?_⟩;rw[show((aL ay (ss.take n))++(aL ay [r]))++((aL ay (ss.drop n))++(DE.drop 19).drop (aL ay (ss.drop n)).length)=[]++(aL ay (ss.take n++r::ss.drop n)++(DE.drop 19).drop (aL ay (ss.drop n)).length)from by rw[Bf];simp only[at4,auS]]at hw;have fD:=KL (enc:=ay) (i:=0) (xs:=ss.take n++r::ss.drop n) (pre:=[]) (mid:=(DE.drop 19).drop (aL ay (ss.drop n)).length) hw rfl (⟨false,xW,0,ss.length+1,xX,none⟩:Sv) ⟨(fun h=>by cases h),by simp only;omega,by simp only;omega,fun _=>rfl⟩ rfl rfl rfl rfl (by rw[Hx]) (by rw[Hx];simp only[alM,auh];omega);rw[avo]at fD;exact ah.mem fD
 obtain⟨s1,gz⟩: ∃z:Sv,z=⟨false,s.b,s.o,ss.length+1,s.cap,none⟩:=⟨_,rfl⟩;refine aP ?_;refine ag (Ry.to (v':=s1.val) (wX (h:=ss.length+1) rfl rfl rfl bJ oM) (by rw[gz,Sv.sub_eq pF eL])) (cX ?_);refine ag (ui (s:=s1) (l:=n+1) (n:=ss.length+1) rfl rfl rfl (by rw[gz];exact⟨(fun h=>by cases h),by simp only;omega,by simp only;omega,fun _=>rfl⟩) (by rw[gz]) oM) (ag (acw (V:=v) (D:=s1.sub 19 (n+1) (ss.length+1)) (b:=s.b) (xs:=[r]) rfl rfl dDq (by simp) (by rw[gz];rfl) (by rw[gz];rfl) (by rw[gz];rfl) (by simp only[au0,adr];omega)) (au ?_));refine lU rfl (fun h3=>?_) (fun h3=>?_)
 ·
  replace h3:=bz h3;refine Gi ?_;refine wV 8 [] oK oK ?_;simp only[ave,auw];refine ar ?_;refine bX (ui (s:=s1) (l:=n+1) (n:=ss.length+1) rfl rfl rfl (by rw[gz];exact⟨(fun h=>by cases h),by simp only;omega,by simp only;omega,fun _=>rfl⟩) (by rw[gz]) oM) (au ?_);refine bX (ui (s:=s1) (l:=n) (n:=ss.length+1) rfl rfl rfl (by rw[gz];exact⟨(fun h=>by cases h),by simp only;omega,by simp only;omega,fun _=>rfl⟩) (by rw[gz]) oM) (vD (vE ?_));simp only[avD,avg];refine GD (D:=s1.sub 19 (n+1) (ss.length+1)) (S:=s1.sub 19 n (ss.length+1)) (b:=s.b) (o:=s.o+(n+1)*19) (n:=ss.length -n) (vs:=(aL ay (ss.drop n))) (cs':=(pre++((aL ay (ss.take n))++((aL ay [x])++((aL ay (ss.drop n))++((aL ay (ss.drop (n+1)))++mid).drop (aL ay (ss.drop n)).length)))).toArray) rfl rfl (by rw[gz];rfl) (by rw[gz];rfl) (by rw[gz];rfl) (by rw[gz,Sv.xu (by show _<s.cap;omega)]) (by rw[gz];rfl) (by rw[gz];rfl) (by rw[show ss.length -n=ss.length+1 -(n+1)from by omega];exact ack (a:=ss.length+1 -n) oM) hB (fun w hw j u hj=>by
   rw[gz,Sv.xu (by show _<s.cap;omega),avy];exact hU w _ hw (n*19+j) u (by rw[zy,auf oM,hA,auM];exact hj)) (wZ _) (by simp only[au0,adr];omega) (by
   rw[zy,show pre++(((aL ay (ss.take n))++(aL ay (ss.drop n)))++mid)=(pre++((aL ay (ss.take n))++(aL ay [x])))++((aL ay (ss.drop (n+1)))++mid)from by rw[T4];simp only[at4],AM (A:=pre++((aL ay (ss.take n))++(aL ay [x]))) (by simp only[adr];omega)];simp only[at4]) ?_
  refine al ?_;refine ag (ui (s:=s1) (l:=n) (n:=ss.length+1) rfl rfl rfl (by rw[gz];exact⟨(fun h=>by cases h),by simp only;omega,by simp only;omega,fun _=>rfl⟩) (by rw[gz]) oM) (Gs ?_);refine GD (D:=s1.sub 19 n (ss.length+1)) (S:=v) (b:=s.b) (o:=s.o+n*19) (n:=1) (vs:=(aL ay [r])) (cs':=(pre++((aL ay (ss.take n))++((aL ay [r])++((aL ay (ss.drop n))++((aL ay (ss.drop (n+1)))++mid).drop (aL ay (ss.drop n)).length)))).toArray) rfl rfl (by rw[gz];rfl) (by rw[gz];rfl) (by rw[gz];rfl) (by rw[gz,Sv.xu (by show _<s.cap;omega)]) T1 zZ (by rw[T3];exact KK (b:=ss.length+1 -n) oM) (by rw[qE]) (fun w hw j u hj=>Rq (enc:=ay) (xs:=[r]) dDq inferInstance hw hj) (wZ _) (by simp only[au0,adr];omega) (by
   rw[←at4 pre,AM (A:=pre++(aL ay (ss.take n))) (by rw[adr];omega),qE,←DD,List.drop_left,at4]) ?_
  refine ar ?_;refine Gr fun w1 hw=>?_;refine⟨s1,rfl,trivial,?_⟩;rw[show pre++((aL ay (ss.take n))++((aL ay [r])++((aL ay (ss.drop n))++((aL ay (ss.drop (n+1)))++mid).drop (aL ay (ss.drop n)).length)))=pre++(aL ay (ss.take n++r::ss.drop n)++((aL ay (ss.drop (n+1)))++mid).drop (aL ay (ss.drop n)).length)from by rw[Bf];simp only[at4]]at hw;have fD:=KL (enc:=ay) (i:=0) (xs:=ss.take n++r::ss.drop n) (pre:=pre) (mid:=((aL ay (ss.drop (n+1)))++mid).drop (aL ay (ss.drop n)).length) hw rfl s1 (by rw[gz];exact⟨(fun h=>by cases h),by simp only;omega,by simp only;omega,fun _=>rfl⟩) (by rw[gz]) (by rw[gz]) (by rw[gz]) (by rw[gz];exact cf.symm) (by rw[gz,Hx]) (by rw[gz,Hx];have:=congrArg List.length T4;simp only[adr,auh]at this⊢;omega);rw[avo]at fD;exact ah.mem fD
 exfalso;simp at h3
instance aqb{w0:World}{L R1 L2:List ai}{i j:Nat}{s:Sv}{ss:List Rt}{v:Sv}{r:Rt}{n:Nat}[h:gg L s ay 19 ss i][d1:ct L i R1][q:gg R1 v ay 19 [r] j][d2:ct R1 j L2]:bY prog 139 w0 L [s.val, .int .i64 (n:Nat),v.val] (Sv) (fun U=>U.val) (fun U=>own ay 19 U (ss.take n++r::ss.drop n)::L2) (fun U=>True) (n<=ss.length/\ss.length<=1000000):=⟨fun hp w hw=>aeT w0 w L2 s ss v r n (pB h.h d1.h q.h d2.h hw) hp⟩
instance:bp dx 20:=⟨Ty,fun x=>by
 have h:(ay x.r).all (·.oneCell')=true:=bp.one x.r;rw[dx,awK,h];simp[Value.oneCell']⟩
instance (x:Ch):gB (dx x) 20:=⟨Ty x,bp.one x⟩
instance (x:Ch):nk (dx x) 0 19 (ay x.r):=⟨gW _,fun j hj=>by rw[auL];exact Tz x j hj⟩
instance (x:Ch):nk (dx x) 0 18 (cW x.r.p):=⟨oA _,fun j hj=>by rw[auL];exact(Tz x j oM).trans (nR x.r j hj)⟩
instance (x:Ch):bO (dx x) 19 (.bool x.gone):=⟨aem x⟩
instance:eY prog 47 (.agg (dx Tx)):=⟨by unfold dx ay cW Tx bQ;rw[tH];kernel_rfl⟩
theorem aeV{cs vs:Array Value}(h:cs.size=vs.size):over cs 0 vs=vs:=by
 unfold over;apply awE;simp[←h]
theorem aeW(w0 w:World)(L:List ai)(t:Sv)(ts:List Rt)(g:Ch)(hw:Mem w0 (own ay 19 t ts::L) w)(aC:ts.length<=1000):Calls prog 69 #[t.val, .agg (dx g)] w fun e w'=> ∃U:Sv,e= .returned (.tuple #[U.val, .int .i64 (eO ts g)])/\(True)/\Mem w0 (own ay 19 U (jj ts g)::L) w':=by
 have DF:=Tp ts g.r.p;refine hY (args:=[_,_]) func69 rfl ntmps69 rfl hw ?_;change Cw _ _ _ _ _ [(0,t.val),(1, .agg (dx g))] (own ay 19 t ts::L);refine Gc ?_;refine cn rfl fun b3=>aP ?_;refine ag (fM rfl) (al ?_);refine Gb ?_ ?_<;>intro h0
 ·
  have hm:bu g.r.p=false:=h0;have he:eO ts g=1:=by rw[eO,if_neg (by rw[hm];simp)]
  refine aP ?_;refine Gr fun w1 hw=>?_;exact⟨t,by rw[he],trivial,by rw[jj,if_neg (by rw[he];decide)];exact ah.mem hw⟩
 have hm:bu g.r.p=true:=h0;refine ar ?_;refine ag (fM rfl) (cO (bK rfl oM) (Gs ?_));refine ag (aB (v:= .int .i64 ((dm ts g.r.p:Nat):Int)) rfl rfl) (ag (aB (v:= .bool (mW ts g.r.p)) rfl rfl) (cX ?_));refine jo rfl rfl rfl (fun hg=>(Ry.yl (nJ (aG hg rfl)))) (al ?_);refine Gb ?_ ?_<;>intro h1
 ·
  have he:eO ts g=6:=by rw[eO,if_pos hm,if_neg (by rw[h1.2];simp),if_pos h1.1]
  refine aP ?_;refine Gr fun w1 hw=>?_;exact⟨t,by rw[he],trivial,by rw[jj,if_neg (by rw[he];decide)];exact ah.mem hw⟩
 refine aP ?_;refine Gb ?_ ?_<;>intro h2
 ·
  have hb:mW ts g.r.p=true:=by rcases h1 with h|h;(rw[h2]at h;cases h);exact h
  have he:eO ts g=0:=by rw[eO,if_pos hm,if_pos hb]
  have hl:jj ts g=ts.take (dm ts g.r.p)++ts.drop ((dm ts g.r.p)+1):=by rw[jj,if_pos he,if_pos h2]
  obtain⟨r0,_,qE,_⟩:=Ba hb;have cf:=(zz.1 qE).1;refine ar ?_;refine ag (Ry.to (v':= .int .i64 (((dm ts g.r.p)+1:Nat):Int)) (wT rfl rfl oM) rfl) (bb rfl ⟨oM,oM⟩ fun mY T5=>al ?_);refine Gr fun w1 hw=>?_;exact⟨mY,by rw[he],trivial,by rw[hl];exact ah.mem hw⟩
 refine ar ?_;refine Gb ?_ ?_<;>intro h3
 ·
  have hb:mW ts g.r.p=true:=h3;have he:eO ts g=0:=by rw[eO,if_pos hm,if_pos hb]
  have hl:jj ts g=ts.set (dm ts g.r.p) g.r:=by rw[jj,if_pos he,if_neg (by rw[h2];simp),if_pos hb]
  obtain⟨r0,_,qE,_⟩:=Ba hb;have cf:=(zz.1 qE).1;refine ar ?_;refine ag (fM rfl) (ag (bf rfl rfl (dm ts g.r.p) rfl cf) (mC (n:=19) (k:=(dm ts g.r.p)) (j:=0) (a:=r0) (a':=g.r) (xs:=ts) (enc:=ay) (c:=19) (v:= .agg (ay g.r)) oK rfl rfl rfl qE (bp.one g.r) (gW g.r) dDq (aeV (by rw[gW];exact(gW g.r).symm)) (aP ?_)));refine Gr fun w1 hw=>?_;exact⟨t,by rw[he],trivial,by rw[hl];exact ah.mem hw⟩
 refine aY ?_;refine Gb ?_ ?_<;>intro h4
 ·
  have he:eO ts g=5:=by rw[eO,if_pos hm,if_neg (by rw[h3];simp),if_neg (by rw[h2];simp),if_pos oM]
  refine aP ?_;refine Gr fun w1 hw=>?_;exact⟨t,by rw[he],trivial,by rw[jj,if_neg (by rw[he];decide)];exact ah.mem hw⟩
 have he:eO ts g=0:=by rw[eO,if_pos hm,if_neg (by rw[h3];simp),if_neg (by rw[h2];simp),if_neg oM]
 have hl:jj ts g=ts.take (dm ts g.r.p)++g.r::ts.drop (dm ts g.r.p):=by rw[jj,if_pos he,if_neg (by rw[h2];simp),if_neg (by rw[h3];simp)]
 refine ar ?_;refine ag (fM rfl) ?_;refine nP (enc:=ay) (vals:=[_]) [g.r] rfl rfl rfl dDq dDq fun b55=>?_;refine bb rfl ⟨oM,oM⟩ fun Hy Mf=>al ?_;refine Gr fun w1 hw=>?_;exact⟨Hy,by rw[he],trivial,by rw[hl];exact ah.mem hw⟩
instance aqc{w0:World}{L R:List ai}{i:Nat}{t:Sv}{ts:List Rt}{g:Ch}[q:gg L t ay 19 ts i][d:ct L i R]:bY prog 69 w0 L [t.val, .agg (dx g)] (Sv) (fun U=> .tuple #[U.val, .int .i64 (eO ts g)]) (fun U=>own ay 19 U (jj ts g)::R) (fun U=>True) (ts.length<=1000):=⟨fun hp w hw=>aeW w0 w R t ts g (F8 q.h d.h hw) hp⟩
instance aqd{t:Sv}{ts:List Rt}{l:Sv}{ls:List Ch}[ht:dG w0 L ay 19 t ts][hl:dG w0 L dx 20 l ls]:bY prog 19 w0 L [t.val,l.val] (Sv) (fun U=> .tuple #[U.val, .int .i64 (dF ts ls)]) (fun U=>own ay 19 U (bT ts ls)::L) (fun U=>True) (ts.length<=1000000):=⟨fun aC w hw=>Gk (fun U=>[own ay 19 U (bT ts ls)]) hw (by
 have ht:=ht.h w hw;have hl:=hl.h w hw;have Hw:Gv w t ay 19 ts:=⟨ht⟩;have qF:Gv w l dx 20 ls:=⟨hl⟩;have wo:=hl.bd;refine dD func19 rfl ntmps19 rfl ?_;refine fS ?_;refine Gb ?_ ?_<;>intro h0
 ·
  have he:dF ts ls=1:=if_neg (by rw[h0];simp);have ha:bT ts ls=ts:=by rw[bT,if_neg (by rw[he];decide)]
  refine au ?_;refine bb rfl oM fun oc Bg=>al ?_;refine Gr fun w1 hw=>?_;exact⟨oc,by rw[he],trivial,by rw[ha];exact ah.mem hw⟩
 have hr:cS ts=true:=h0;have hlen:=CY hr;refine au ?_;refine bb rfl oM fun aE lL=>aY ?_;refine cg (X:=Nat×Sv×List Rt) (fun U=>[(19, .int .i64 (U.1:Nat)),(6,U.2.1.val),(0,t.val),(17,l.val),(18, .int .i64 (ls.length:Nat))]) (fun U=>[own ay 19 U.2.1 U.2.2]) (fun U=>U.1<=ls.length/\jk ts ls=jk U.2.2 (ls.drop U.1)/\U.2.2.length<=256) (fun U=>ls.length -U.1) (0,aE,ts) ⟨Nat.zero_le _,rfl,hlen⟩ sb (fun w hw=>ah.mem hw) ?_;rintro⟨i,s1,q⟩ ⟨bg,aK,bx⟩;dsimp only;simp only at bg aK bx;refine al ?_;refine Gb ?_ ?_<;>intro h1
 ·
  refine l6 ?_;obtain⟨g,hg⟩:=get_some (xs:=ls) (i:=i) oM;refine ag (bf rfl rfl i rfl oM) (ag (gV rfl i hg rfl) (bn fun b8=>aY ?_));refine bb rfl oM fun lM tK=>Gs ?_;refine ag (aB (v:=lM.val) rfl rfl) (ag (aB (v:= .int .i64 (eO q g)) rfl rfl) (aY ?_));refine Gb ?_ ?_<;>intro h2
  ·
   have T6: ¬eO q g=0:=h2;have ef:jk ts ls=(q,eO q g):=by rw[aK,TB hg,if_neg T6]
   have he:dF ts ls=eO q g:=by rw[dF,if_pos hr,ef]
   have ha:bT ts ls=ts:=by rw[bT,if_neg (by rw[he];exact T6)]
   refine au ?_;refine bb rfl oM fun aD xY=>ar ?_;refine Gr fun w1 hw=>?_;exact⟨aD,by rw[he],trivial,by rw[ha];exact ah.mem hw⟩
  refine al ?_;refine Gi ?_;exact bo (x:=(i,s1,q)) (i+1,lM,jj q g) ⟨oF,by rw[aK,TB hg,if_pos h2],TA bx g⟩ (by simp only;omega) sb (fun w hw=>ah.mem hw)
 obtain rfl:i=ls.length:=by omega
 have ef:jk ts ls=(q,0):=by rw[aK,awf];rfl
 have he:dF ts ls=0:=by rw[dF,if_pos hr,ef]
 have ha:bT ts ls=q:=by rw[bT,if_pos he,ef]
 refine aP ?_;refine Gr fun w1 hw=>?_;exact⟨s1,by rw[he],trivial,by rw[ha];exact ah.mem hw⟩)⟩
end Go.Proofs.YtkggjjnhnjjokaaGreatDoor
namespace Go.ax
open Go.RowKit
section
variable {P:Program} {N:cA} {w0:World} {env:Env} {L:List ai} {d:Option Tmp} {ty:TypeId} {ps:String} {af:Array Edge} {gd:Option (Nat×Bool)}
class nA(w0:World)(L:List ai)(b:Nat)(cs:outParam (Array Value))(T:outParam TypeId):Prop where
 h: ∀w,Mem w0 L w->w.heap[b]? =some (.cells cs T (0,0))
class sB(w0:World)(b:Nat)(cs:outParam (Array Value))(T:outParam TypeId):Prop where
 h:w0.heap[b]? =some (.cells cs T (0,0))
instance (priority:=high) nA.has {b i:Nat}{cs:Array Value}{T:TypeId}[q:Has L b cs T i]:nA w0 L b cs T:=⟨fun w hw=>hw.block q.h⟩
instance nA.Bh{b:Nat}{cs:Array Value}{T:TypeId}[q:sB w0 b cs T]:nA w0 L b cs T:=⟨fun w hw=>by
 have bq:b<w0.heap.size:=by
  rcases aud b w0.heap.size with h|h
  ·exact h
  have:=q.h;simp[auu h]at this
 rw[hw.below.block b bq];exact q.h⟩
theorem nA.cell{b:Nat}{cs:Array Value}{T:TypeId}(q:nA w0 L b cs T){w:World}(hw:Mem w0 L w)(o:Nat):w.cell? ⟨b,o,none⟩=cs[o]? :=by
 simp[World.cell?,q.h w hw]
theorem oX{t:TypeId}{x:Operand}{b o:Nat}{cs:Array Value}{T:TypeId}{v:Value}(hx:ev env x=some (.pointer (some ⟨b,o,none⟩)))[ht:gT P t][hi:nA w0 L b cs T][hc:bO cs o v]:
  Ry P N w0 env L ⟨d, .load t x,ty,ps,af,gd⟩ v:=Ab ht hx fun w hw=>by rw[hi.cell hw];exact hc.h
theorem aeX{t:TypeId}{x:Operand}{b o n:Nat}{cs sub:Array Value}{T:TypeId}(hx:ev env x=some (.pointer (some ⟨b,o,none⟩)))[ht:gK P t n][hi:nA w0 L b cs T][hs:nk cs o n sub]:
  Ry P N w0 env L ⟨d, .load t x,ty,ps,af,gd⟩ (.agg sub):=Cj ht hx hs.size fun w hw j hj=>by rw[Addr.hQ,hi.cell hw];exact hs.h j hj
end
section
variable {w0:World} {L:List ai}
theorem wq{w0 w:World}{L R1 R2 R3:List ai}{e1 e2 e3:ai}{i j k:Nat}(h1:L[i]? =some e1)(d1:L.eraseIdx i=R1)(h2:R1[j]? =some e2)(d2:R1.eraseIdx j=R2)(h3:R2[k]? =some e3)(d3:R2.eraseIdx k=R3)(h:Mem w0 L w):Mem w0 (e1::e2::e3::R3) w:=by
 subst d1;subst d2;subst d3;exact h.perm ((py h1).trans (((py h2).trans ((py h3).cons _)).cons _))
theorem T7{w0 w:World}{L R1 R2 R3 R4:List ai}{e1 e2 e3 e4:ai}{i j k l:Nat}(h1:L[i]? =some e1)(d1:L.eraseIdx i=R1)(h2:R1[j]? =some e2)(d2:R1.eraseIdx j=R2)(h3:R2[k]? =some e3)(d3:R2.eraseIdx k=R3)(h4:R3[l]? =some e4)(d4:R3.eraseIdx l=R4)(h:Mem w0 L w):Mem w0 (e1::e2::e3::e4::R4) w:=by
 subst d1;subst d2;subst d3;subst d4;exact h.perm ((py h1).trans (((py h2).trans (((py h3).trans ((py h4).cons _)).cons _)).cons _))
end
variable {w0:World}{L:List ai}
instance (priority:=low) Hd.tail{e:ai}{s:Sv}{α:Type}{enc:α->Array Value}{c:Nat}{xs:List α}[q:Hd w0 L s enc c xs]:Hd w0 (e::L) s enc c xs:=⟨fun w hw=>q.h w (hw.sub (auX _ _))⟩
instance (priority:=low) aX.tail{e:ai}{τ:Type}[Deep τ]{a:τ}[q:aX w0 L a]:aX w0 (e::L) a:=⟨fun w hw=>q.h w (hw.sub (auX _ _))⟩
theorem aeY{P:Program}{N:cA}{env:Env}{α:Type}{enc:α->Array Value}{c n:Nat}{t e:TypeId}{bP:Nat}{z:Value}{x y:Operand}{d:Option Tmp}{ty:TypeId}{ps:String}{af:Array Edge}{gd:Option (Nat×Bool)}{k k':IntKind}{ix iy:Int}[he:bp enc c][ht:dS P t e c bP][hz:eY P e z](x0:α)(h0:enc x0=z.cells)(hx:ev env x=some (.int k ix))(hy:ev env y=some (.int k' iy))(ex:ix=(n:Int))(ey:iy=(n:Int))(hb:bP*n<=281474976710656)(fR:n<=140737488355328):
  ∀a,dC N env a->vN P ⟨d, .makeSlice t x y,ty,ps,af,gd⟩ a.eval (oJ enc c n (List.replicate n x0)):=fun a ha w0 w L hw=>by
 subst ex ey;obtain⟨w',h1,h2⟩:=JC ht hz (k:=k) (k':=k') (n:=n) x0 h0 (at5 _) hb fR w;exact⟨w.heap.size,w',by simp only[execOp,ha.ev hx,ha.ev hy,Sem.run_bind,h1,Result.andThen,Sem.run_pure],hw.call h2⟩
def uZ(f:FuncId):Array Value:= #[.func (.func f) #[] #[]]
instance:bp uZ 1:=⟨fun _=>rfl,fun _=>by simp[uZ,Value.oneCell']⟩
instance (f:FuncId):bO (uZ f) 0 (.func (.func f) #[] #[]):=⟨rfl⟩
class tL(P:Program)(w0:World)(L:List ai)(f:FuncId)(l8:Array Value){α:outParam Type}(enc:outParam (α->Array Value))(R:outParam (α->Bool)):Prop where
 fn:aH P f
 h: ∀w,Mem w0 L w-> ∀x,Calls P f ((Value.agg (enc x)::l8.toList).toArray) w fun e w'=>e= .returned (.bool (R x))/\Mem w [] w'
theorem tL.at{P:Program}{w0:World}{L:List ai}{f:FuncId}{l8:Array Value}{α:Type}{enc:α->Array Value}{R:α->Bool}(q:tL P w0 L f l8 enc R){w:World}(hw:Mem w0 L w):tL P w [] f l8 enc R:=
 ⟨q.fn,fun w1 h1 x=>q.h w1 (by simpa using hw.call h1) x⟩
end Go.ax
namespace Go.Kb
section
variable {α:Type} (f:α->Nat)
variable {f}
end
section
variable {α:Type} {f:α->Nat} {xs ys zs:List α} {a b m i j k s e:Nat}
def T8(xs:List α)(i j:Nat):List α:=(xs.drop i).take (j -i)
theorem parts(h1:a<=b)(h2:b<=xs.length):xs=xs.take a++T8 xs a b++xs.drop b:=by
 rw[T8,at4]
 conv=>lhs;rw[←auO a xs,←auO (b -a) (xs.drop a),av0,show a+(b -a)=b by omega]
end
end Go.Kb
namespace Go.ax
open Go.RowKit Go.Kb
section
variable {P:Program} {w0 w:World} {L:List ai} {α:Type} {enc:α->Array Value} {c:Nat} {s:Sv} {xs:List α}
end
section
variable {P:Program} {N:cA} {w0:World} {env:Env} {L:List ai} {l:List Oper} {Q:Exit->Act->World->Prop} {rest:List Oper} {d:Option Tmp} {ty:TypeId} {ps:String} {af:Array Edge} {gd:Option (Nat×Bool)}
theorem aeZ{f:FuncId}{fn:Func}{e:Array Value→Sem Value}{xs:List Operand}{ts:Array TypeId}{vs:List Value}(hf:P.funcs[f]? =some fn)(ae0:(fn.name== "runtime.NumGoroutine")=false)(hb:fn.body.isNone=true)(hn:Extern.findNext fn=none)(he:Extern.find fn=some e)(hx:iF env xs=some vs)
  (h: ∀w,Mem w0 L w-> ∃v w' L',(e vs.toArray).run P w= .ok v w'/\Mem w0 L' w'/\Sq P N w0 l Q rest (cr env d v) L') (hd:dq N d=true:=by rfl):
  Sq P N w0 l Q (⟨d, .call {callee:= .value (.func f),args:=xs.toArray,argTypes:=ts},ty,ps,af,none⟩::rest) env L:=
 nK rfl hd fun a w ha hw=>by
  obtain⟨v,w',L',h1,h2,h3⟩:=h w hw;refine⟨v,w',L',?_,h2,h3⟩;have hm:=ha.iF hx;have hr:=run_callFunc_extern hf ae0 hb hn he vs.toArray w;rw[h1]at hr;simp[execOp,resolve,Act.eval,Deferred.ofValue,invoke,←hm]at hr⊢;rw[hr]
end
theorem kg{P:Program}{fn:Func}{N:cA}{env:Env}{w0:World}{L:List ai}(hf:fn.results= #[]): ∀a w,dC N env a->Mem w0 L w->(results fn a.tmps).run P w= .ok (.tuple #[]) w:=fun a w _ _=>by
 simp[results,hf]
section
variable {P:Program} {w0:World} {env:Env}
theorem T9{N:cA}{L:List ai}{d:Option Tmp}{ty:TypeId}{ps:String}{af:Array Edge}{gd:Option (Nat×Bool)}{t:TypeId}{x:Operand}{p:Addr}{v:Value}[ht:gT P t](hx:ev env x=some (.pointer (some p)))(hc:w0.cell? p=some v):Ry P N w0 env L ⟨d, .load t x,ty,ps,af,gd⟩ v:=
 Ab ht hx fun w hw=>(hw.below.cell (by
  unfold World.cell? at hc
  cases ho:w0.heap[p.block]?with
  |none=>simp[ho]at hc
  |some o=>exact(avF.1 ho).1)).trans hc
end
section
variable {P:Program} {N:cA} {w0:World} {env:Env} {L:List ai} {l:List Oper} {Q:Exit->Act->World->Prop} {rest:List Oper} {d:Option Tmp} {ty:TypeId} {ps:String} {af:Array Edge} {K:Value->List ai->Prop}
instance bO.one{v:Value}:bO #[v] 0 v:=⟨rfl⟩
theorem ae1{t:TypeId}{x:Operand}{v:Value}(hc:v.cells= #[v])(hx:ev env x=some v)(hk: ∀b,Sq P N w0 l Q rest (cr env d (.pointer (some ⟨b,0,none⟩))) (aq b #[v] t::L))(hd:dq N d=true:=by rfl):
  Sq P N w0 l Q (⟨d, .box t x,ty,ps,af,none⟩::rest) env L:=Jr hx (by rw[hc];exact hk) hd
theorem ae2{t:TypeId}{z:Value}[hz:eY P t z](hc:z.cells= #[z])(hk: ∀b,Sq P N w0 l Q rest (cr env d (.pointer (some ⟨b,0,none⟩))) (aq b #[z] t::L))(hd:dq N d=true:=by rfl):
  Sq P N w0 l Q (⟨d, .alloc t,ty,ps,af,none⟩::rest) env L:=OZ (z:=z) (by rw[hc];exact hk) hd
theorem ae3{t:TypeId}{x y:Operand}{i b:Nat}{u:Value}{T:TypeId}{v:Value}(hv:v.oneCell'=true)(hx:ev env x=some (.pointer (some ⟨b,0,none⟩)))(hy:ev env y=some v)[ht:gT P t][hh:Has L b #[u] T i]{L':List ai}[hu:fZ L i (aq b #[v] T) L'](hk:Sq P N w0 l Q rest env L'):
  Sq P N w0 l Q (⟨none, .store t x y,ty,ps,af,none⟩::rest) env L:=dO (cs':= #[v]) hx hy (by show 0<1;decide) hv rfl hk
end
theorem ae4{P:Program}{N:cA}{w0:World}{env:Env}{L:List ai}{l:List Oper}{Q:Exit->Act->World->Prop}{rest:List Oper}{ty:TypeId}{ps:String}{af:Array Edge}{t:TypeId}{x y:Operand}{i k p:Nat}{s:Sv}{xs:List UInt8}{a v:UInt8}[ht:gT P t](hx:ev env x=some (.pointer (some ⟨s.b,p,none⟩)))(hy:ev env y=some (.int .u8 v.toNat))[q:gg L s aQ 1 xs i](ha:xs[k]? =some a)(iP:p=s.o+k*1){L':List ai}[hu:fZ L i (own aQ 1 s (xs.set k v)) L'](hk:Sq P N w0 l Q rest env L'):
  Sq P N w0 l Q (⟨none, .store t x y,ty,ps,af,none⟩::rest) env L:=
 mC (j:=0) (n:=1) (a':=v) ht.size hx hy (q:=q) oM ha (by simp[Value.cells,Value.oneCell']) rfl oM (by rfl) hk
end Go.ax
namespace Go.Proofs.YtkggjjnhnjjokaaGreatDoor
open Go.ax Go.Kb Go.RowKit Go.Proofs.Tryz
structure ca where
 pY:bL
 batch:Sl Ch
 Ua:Option Nat
 told:Sl UInt8
def cd(x:ca):Array Value:= #[.int .i64 x.pY.aj.ae.pages, .int .i64 x.pY.aj.ae.size,x.pY.aj.ae.blocks.sv.val, .int .i64 x.pY.aj.ae.ops, .bool x.pY.aj.ae.off,x.pY.aj.ae.aA.sv.val,x.pY.aj.at_.sv.val, .int .u64 x.pY.aj.gen.toNat, .int .i64 x.pY.aj.last,x.pY.table.sv.val,x.batch.sv.val, .pointer (x.Ua.map fun b=>⟨b,11,none⟩),x.told.sv.val]
instance (x:ca):bO (cd x) 3 (.int .i64 x.pY.aj.ae.ops):=⟨rfl⟩
instance (x:ca):bO (cd x) 5 (x.pY.aj.ae.aA.sv.val):=⟨rfl⟩
instance (x:ca):bO (cd x) 9 (x.pY.table.sv.val):=⟨rfl⟩
instance (x:ca):bO (cd x) 10 (x.batch.sv.val):=⟨rfl⟩
instance (x:ca):bO (cd x) 11 (.pointer (x.Ua.map fun b=>⟨b,11,none⟩)):=⟨rfl⟩
instance (x:ca):bO (cd x) 12 (x.told.sv.val):=⟨rfl⟩
instance (x:ca):nk (cd x) 0 10 (cV x.pY):=⟨rfl,fun j hj=>by
 match j,hj with
 |0,_=>rfl
 |1,_=>rfl
 |2,_=>rfl
 |3,_=>rfl
 |4,_=>rfl
 |5,_=>rfl
 |6,_=>rfl
 |7,_=>rfl
 |8,_=>rfl
 |9,_=>rfl⟩
instance (x:ca):nk (cd x) 0 6 (aV x.pY.aj.ae):=⟨rfl,fun j hj=>by
 match j,hj with
 |0,_=>rfl
 |1,_=>rfl
 |2,_=>rfl
 |3,_=>rfl
 |4,_=>rfl
 |5,_=>rfl⟩
def ae5:ca:=⟨nz,⟨Sv.none,[]⟩,none,⟨Sv.none,[]⟩⟩
instance:eY prog 174 (.agg (cd ae5)):=⟨kRq⟩
theorem ae6(w0 w:World)(L:List ai)(k:Nat)(xf:bL)(xb:Sl Ch)(xa:Option Nat)(xt:Sl UInt8)(hw:Mem w0 (aq k (cd (⟨xf,xb,xa,xt⟩:ca)) 174::L) w)(aC:xa=none\/xa=Option.some k):Calls prog 265 #[.pointer (some ⟨k,11,none⟩)] w fun e w'=> ∃U:Unit,e= .returned (.tuple #[])/\(U=())/\Mem w0 (aq k (cd (⟨xf,xb,Option.some k,xt⟩:ca)) 174::L) w':=by
 refine hY (args:=[_]) func265 rfl ntmps265 rfl hw ?_;change Cw _ _ _ _ _ [(0, .pointer (some ⟨k,11,none⟩))] (aq k (cd (⟨xf,xb,xa,xt⟩:ca)) 174::L);refine ar ?_;refine ag (Ry.to (v':= .pointer (Option.map (fun b=>(⟨b,11,none⟩:Addr)) xa)) (bE rfl) rfl) (ag (aa8 underlying170 rfl rfl) (Gc ?_));refine Gb ?_ ?_<;>intro h0
 ·
  refine Gi ?_;refine au ?_;refine ag (aa2 (j:=Option.get (prog.info? 172) oK) underlying170 underlying333 oK (by decide+kernel) rfl ?_) ?_
  ·show 11<13;decide
  refine aeZ (fn:=Option.get (prog.funcs[316]?) oK) (e:=Extern.AbiNoEscape.same) oK oK oK oK oK rfl (fun w hw=>⟨_,_,_,rfl,hw,?_⟩);refine ag (aa3 (j:=Option.get (prog.info? 172) oK) underlying333 underlying170 oK rfl oK) (au ?_);refine dO (cs':=cd (⟨xf,xb,(Option.some k),xt⟩:ca)) rfl rfl (by show 11<13;decide) rfl rfl (Gi ?_);refine eE (.inr rfl) (kg rfl) (fun w1 hw=>?_);exact⟨(),rfl,rfl,ah.mem hw⟩
 have Ub:xa=Option.some k:=by cases xa with|none=>cases h0|some b=>exact aC.resolve_left (fun g=>by cases g)
 refine ar ?_;refine ag (Ry.to (v':= .pointer (some ⟨k,11,none⟩)) (bE rfl) (by rw[Ub];rfl)) (Gs ?_);refine ag (aa9 underlying170 (j:=Option.get (prog.info? 172) oK) oK rfl rfl) (Gc ?_);refine lU rfl (fun h1=>?_) (fun h1=>?_)
 ·exfalso;simp at h1
 replace h1:=bz h1;refine Gi ?_;refine eE (.inr rfl) (kg rfl) (fun w1 hw=>?_);exact⟨(),rfl,rfl,(by rw[←Ub];exact ah.mem hw)⟩
instance aqe{w0:World}{L L2:List ai}{i0:Nat}{k:Nat}{xf:bL}{xb:Sl Ch}{xa:Option Nat}{xt:Sl UInt8}[q0:Has L k (cd (⟨xf,xb,xa,xt⟩:ca)) 174 i0][d0:ct L i0 L2]:bY prog 265 w0 L [.pointer (some ⟨k,11,none⟩)] (Unit) (fun U=> .tuple #[]) (fun U=>aq k (cd (⟨xf,xb,Option.some k,xt⟩:ca)) 174::L2) (fun U=>U=()) (xa=none\/xa=Option.some k):=⟨fun hp w hw=>ae6 w0 w L2 k xf xb xa xt (F8 q0.h d0.h hw) hp⟩
theorem ae7(w0 w:World)(L:List ai)(k:Nat)(xf:bL)(xb:Sl Ch)(xa:Option Nat)(xt:Sl UInt8)(s:List UInt8)(hw:Mem w0 (aq k (cd (⟨xf,xb,xa,xt⟩:ca)) 174::dP 5 xt.sv xt.xs::L) w)(aC:xt.xs.length+s.length<=1000000000/\(xa=none\/xa=Option.some k)):Calls prog 226 #[.pointer (some ⟨k,11,none⟩), .string ⟨s.toArray⟩] w fun e w'=> ∃U:Sv,e= .returned (.tuple #[.int .i64 (s.length:Nat), .nilIface])/\(True)/\Mem w0 (aq k (cd (⟨xf,xb,(Option.some k),⟨U,xt.xs++s⟩⟩:ca)) 174::dP 5 U (xt.xs++s)::L) w':=by
 obtain⟨zA,fC⟩:=aC;refine hY (args:=[_,_]) func226 rfl ntmps226 rfl hw ?_;change Cw _ _ _ _ _ [(0, .pointer (some ⟨k,11,none⟩)),(1, .string ⟨s.toArray⟩)] (aq k (cd (⟨xf,xb,xa,xt⟩:ca)) 174::dP 5 xt.sv xt.xs::L);refine aP ?_;refine bb rfl fC fun x7 hp7=>aP ?_;refine ag (Ry.to (v':=xt.sv.val) (bE rfl) rfl) (Gs ?_);refine QS (s:=xt.sv) (ys:=s) rfl rfl (fun w _=>aa1 underlying9 s w) oM oM fun DG=>au ?_;refine dO (cs':=cd (⟨xf,xb,(Option.some k),⟨DG,xt.xs++s⟩⟩:ca)) rfl rfl (by show 12<13;decide) (by first|rfl|exact Sv.one _) rfl (au ?_);refine ag (qZ (s:=s) underlying9 rfl) (al ?_);refine Gr fun w1 hw=>?_;exact⟨DG,rfl,trivial,ah.mem hw⟩
instance aqf{w0:World}{L R1 L2:List ai}{i0 i1:Nat}{k:Nat}{xf:bL}{xb:Sl Ch}{xa:Option Nat}{xt:Sl UInt8}{s:List UInt8}[q0:Has L k (cd (⟨xf,xb,xa,xt⟩:ca)) 174 i0][d0:ct L i0 R1][q1:mI R1 xt.sv 5 xt.xs i1][d1:ct R1 i1 L2]:bY prog 226 w0 L [.pointer (some ⟨k,11,none⟩), .string ⟨s.toArray⟩] (Sv) (fun U=> .tuple #[.int .i64 (s.length:Nat), .nilIface]) (fun U=>aq k (cd (⟨xf,xb,(Option.some k),⟨U,xt.xs++s⟩⟩:ca)) 174::dP 5 U (xt.xs++s)::L2) (fun U=>True) (xt.xs.length+s.length<=1000000000/\(xa=none\/xa=Option.some k)):=⟨fun hp w hw=>ae7 w0 w L2 k xf xb xa xt s (pB q0.h d0.h q1.h d1.h hw) hp⟩
theorem ae8(w0 w:World)(L:List ai)(k:Nat)(xf:bL)(xb:Sl Ch)(xa:Option Nat)(xt:Sl UInt8)(c:UInt8)(hw:Mem w0 (aq k (cd (⟨xf,xb,xa,xt⟩:ca)) 174::dP 5 xt.sv xt.xs::L) w)(aC:xt.xs.length+1<=1000000000/\(xa=none\/xa=Option.some k)):Calls prog 250 #[.pointer (some ⟨k,11,none⟩), .int .u8 (c.toNat:Nat)] w fun e w'=> ∃U:Sv,e= .returned (.nilIface)/\(True)/\Mem w0 (aq k (cd (⟨xf,xb,(Option.some k),⟨U,xt.xs++[c]⟩⟩:ca)) 174::dP 5 U (xt.xs++[c])::L) w':=by
 obtain⟨zA,fC⟩:=aC;refine hY (args:=[_,_]) func250 rfl ntmps250 rfl hw ?_;change Cw _ _ _ _ _ [(0, .pointer (some ⟨k,11,none⟩)),(1, .int .u8 (c.toNat:Nat))] (aq k (cd (⟨xf,xb,xa,xt⟩:ca)) 174::dP 5 xt.sv xt.xs::L);refine ar ?_;refine bb rfl fC fun x6 Mg=>aP ?_;refine ag (Ry.to (v':=xt.sv.val) (bE rfl) rfl) (Gs ?_);refine nP (enc:=aQ) (vals:=[_]) [c] rfl rfl rfl dDq dDq fun jB=>?_;refine QS (s:=xt.sv) (ys:=[c]) rfl rfl (fun w hw=>iQ (s:=⟨false,jB,0,1,1,none⟩) underlying53 dDq ((inferInstance:Hd _ _ ⟨false,jB,0,1,1,none⟩ aQ 1 [c]).h w hw)) (by simp only[ad2,alM];omega) (by simp only[ad2,alM];omega) fun DG=>?_;refine au ?_;refine dO (cs':=cd (⟨xf,xb,(Option.some k),⟨DG,xt.xs++[c]⟩⟩:ca)) rfl rfl (by show 12<13;decide) (by first|rfl|exact Sv.one _) rfl (al ?_);refine Gr fun w1 hw=>?_;exact⟨DG,rfl,trivial,ah.mem hw⟩
instance aqg{w0:World}{L R1 L2:List ai}{i0 i1:Nat}{k:Nat}{xf:bL}{xb:Sl Ch}{xa:Option Nat}{xt:Sl UInt8}{c:UInt8}[q0:Has L k (cd (⟨xf,xb,xa,xt⟩:ca)) 174 i0][d0:ct L i0 R1][q1:mI R1 xt.sv 5 xt.xs i1][d1:ct R1 i1 L2]:bY prog 250 w0 L [.pointer (some ⟨k,11,none⟩), .int .u8 (c.toNat:Nat)] (Sv) (fun U=> .nilIface) (fun U=>aq k (cd (⟨xf,xb,(Option.some k),⟨U,xt.xs++[c]⟩⟩:ca)) 174::dP 5 U (xt.xs++[c])::L2) (fun U=>True) (xt.xs.length+1<=1000000000/\(xa=none\/xa=Option.some k)):=⟨fun hp w hw=>ae8 w0 w L2 k xf xb xa xt c (pB q0.h d0.h q1.h d1.h hw) hp⟩
theorem ae9(w0 w:World)(L:List ai)(k:Nat)(xf:bL)(xb:Sl Ch)(xa:Option Nat)(xt:Sl UInt8)(hw:Mem w0 (aq k (cd (⟨xf,xb,xa,xt⟩:ca)) 174::dP 5 xt.sv xt.xs::L) w)(aC:True):Calls prog 92 #[.pointer (some ⟨k,11,none⟩)] w fun e w'=> ∃U:Unit,e= .returned (.string ⟨xt.xs.toArray⟩)/\(True)/\Mem w0 (aq k (cd (⟨xf,xb,xa,xt⟩:ca)) 174::L) w':=by
 have hu8:prog.cellsOf 5=1:=kRq
 refine hY (args:=[_]) func92 rfl ntmps92 rfl hw ?_;change Cw _ _ _ _ _ [(0, .pointer (some ⟨k,11,none⟩))] (aq k (cd (⟨xf,xb,xa,xt⟩:ca)) 174::dP 5 xt.sv xt.xs::L);refine al ?_;refine jt [10,1002,1003,1004,1007,1008,1009] [[],[],[],[2],[2,3],[],[],[],[7],[7,8],[2,3,4,7,8,9],[2,3,4,7,8,9,10]] [0,1,2,3,4,5,6,7,8,9,10,11] [aq k (cd (⟨xf,xb,xa,xt⟩:ca)) 174] (fun _ hw=>ah.mem hw) oK oK (an rfl (bm rfl) (an rfl (gE rfl) (gq rfl (aM (o':=12) rfl rfl) (gq rfl (Ry.to (v':=xt.sv.val) (bE rfl) rfl) (gq rfl (aa4 (s:=xt.sv) rfl) (an rfl (bm rfl) (an rfl (gE rfl) (gq rfl (aM (o':=12) rfl rfl) (gq rfl (Ry.to (v':=xt.sv.val) (bE rfl) rfl) (gq rfl (uq rfl) (dr rfl (aa5 underlying256 hu8 rfl rfl rfl ⟨fun _ hw=>ah.mem hw,?_⟩))))))))))));refine an rfl (hO rfl) (Gc ?_);refine Gr fun w1 hw=>?_;exact⟨(),rfl,trivial,ah.mem hw⟩
instance aqh{w0:World}{L R1 L2:List ai}{i0 i1:Nat}{k:Nat}{xf:bL}{xb:Sl Ch}{xa:Option Nat}{xt:Sl UInt8}[q0:Has L k (cd (⟨xf,xb,xa,xt⟩:ca)) 174 i0][d0:ct L i0 R1][q1:mI R1 xt.sv 5 xt.xs i1][d1:ct R1 i1 L2]:bY prog 92 w0 L [.pointer (some ⟨k,11,none⟩)] (Unit) (fun U=> .string ⟨xt.xs.toArray⟩) (fun U=>aq k (cd (⟨xf,xb,xa,xt⟩:ca)) 174::L2) (fun U=>True) (True):=⟨fun hp w hw=>ae9 w0 w L2 k xf xb xa xt (pB q0.h d0.h q1.h d1.h hw) hp⟩
end Go.Proofs.YtkggjjnhnjjokaaGreatDoor
namespace Go.Kb
open Go.ax
structure bh where
 f:FV
 batch:List Ch
 told:aJ
def Uc:aJ:=[101,114,114,111,114,32]
def pZ:aJ:=[111,107]
def rB:aJ:=[114,111,117,116,101,115,32]
def jQ(p:bh)(line:aJ):bh:={p with told:=p.told++line++[10]}
def jR(line:aJ)(e:Int):aJ:=if e≠0 then Uc++dec e.toNat else line
def jC(p:bh)(line:aJ)(e:Int):bh:=jQ p (jR line e)
def mZ(p:bh)(x:aO):bh:=
 if ob p.f x.key x.bits≠0 then jC p [] (ob p.f x.key x.bits)else jC p (ir (kV p.f x.key x.bits)) (gM (bu (kV p.f x.key x.bits).p))
def Bi(c:CV)(x:aO):CV:={c with aA:=c.aA++[⟨c.ops+x.n.toInt,decide (x.kind=6),decide (x.kind=5),0⟩]}
def p0(p:bh)(x:aO):bh:=
 if 64<=p.f.aj.ae.aA.length then p else{p with f:=⟨{p.f.aj with ae:=Bi p.f.aj.ae x},p.f.table⟩}
def jD(p:bh):bh:=
 if kN p.f.aj.ae []≠0 then jC p pZ (kN p.f.aj.ae [])
 else if(cy (iI p.f.aj.ae [])).2≠0 then jC p pZ (cy (iI p.f.aj.ae [])).2
 else jC {p with f:=(cy (iI p.f.aj.ae [])).1} pZ 0
def oY(p:bh)(r:Rt):bh:=jC p (ir r) (gM (bu r.p))
def oZ(p:bh):bh:=p.f.table.foldl oY (jQ p (rB++dec p.f.table.length))
def cI(p:bh)(x:aO):bh:=
 if x.kind=1 then{p with batch:=p.batch++[⟨x.r,false⟩]}
 else if x.kind=2 then{p with batch:=p.batch++[⟨x.r,true⟩]}
 else if x.kind=3 then jC {p with f:=(bI p.f p.batch).1,batch:=[]} pZ (bI p.f p.batch).2
 else if x.kind=4 then mZ p x
 else if x.kind=5\/x.kind=6 then p0 p x
 else if x.kind=7 then jD p
 else if x.kind=8 then oZ p
 else p
def dX(p:bh)(l:List aO):bh:=l.foldl cI p
theorem Ud{p:bh}{l:List aO}{i:Nat}{x:aO}(h:l[i]? =some x):dX p (l.take (i+1))=cI (dX p (l.take i)) x:=by
 rw[at6,h,dX,avQ];rfl
def eo(f:FV):bh:=⟨f,[],[]⟩
def u4(l:List aO):Bool:=l.all eV
def kW(s:pE):FV×Int:=jc (eH s.b s.p s.s).1
def sC(s:pE):Bool:=decide (s.l.length<=300)&&u4 s.l&&decide ((eH s.b s.p s.s).2=0)&&decide ((kW s).2=0)
def od(s:pE):aJ:=if sC s=true then(dX (eo (kW s).1) s.l).told else[]
def og(s:pE):Int:=gM (sC s)
def qG(p:bh):Bool:=xQ p.f&&decide (p.batch.length<=1000)&&decide (p.told.length<=100000000)
def qH(p:bh):List aO->Bool
 |[]=>qG p
 |x::r=>qG p&&qH (cI p x) r
theorem sm_at: ∀{l:List aO} {p:bh} (i:Nat),qH p l=true->i<=l.length->qG (dX p (l.take i))=true
 |[],p,i,h,hi=>by
  obtain rfl:i=0:=by simpa using hi
  exact h
 |x::r,p,0,h,_=>by
  rw[qH,af0]at h;exact h.1
 |x::r,p,i+1,h,hi=>by
  rw[qH,af0]at h;exact sm_at (p:=cI p x) i h.2 (by simpa using hi)
def wu(s:pE):Bool:= !sC s||qH (eo (kW s).1) s.l
def u5(t:aJ):aJ:=if(fx t).2.1≠0 then[]else od (fx t).1
def u6(t:aJ):Int:=if(fx t).2.1≠0 then(fx t).2.1 else og (fx t).1
def xZ(t:aJ):Int:=if(fx t).2.1≠0 then(fx t).2.2 else 0
def Er(e:Int):Prop:=0<=e/\e<=9
theorem er(n:Int)(h0:0<=n:=by decide)(h9:n<=9:=by decide):Er n:=⟨h0,h9⟩
theorem kX{c:Prop}[Decidable c]{a b:Int}(ha:Er a)(hb:Er b):Er (if c then a else b):=by split<;>assumption
theorem Ue(f:Ft):Er (mc f):=kX (er 7) (er 9)
theorem afa(c:CV)(b g:Int)(p:List UInt8):Er (kA c b g p):=kX (kX (er 7) (kX (er 9) (kX (Ue _) (er 0)))) (er 1)
theorem Hz(c:CV)(b:Int)(p:List UInt8):Er (bC c b p):=afa _ _ _ _
theorem Uf(c:CV)(b:Int):Er (ei c b):=kX (kX (er 7) (kX (er 9) (kX (Ue _) (er 0)))) (er 1)
theorem Ug: ∀(n:Nat) (c:CV) (b:Int),Er (fc n c b).2
 |0,c,b=>Uf c b
 |n+1,c,b=>by
  rw[fc];split
  ·exact Hz _ _ _
  exact Ug n _ b
theorem DH(c:CV)(b:Int):Er (cJ c b).2:=Ug _ _ _
theorem afb(c:CV)(fl:List Int)(b:Bool):Er (bj c fl b).2.2:=by
 rw[bj];split
 ·exact er 0
 split
 ·exact er 5
 split
 ·exact er 0
 exact DH _ _
theorem Mh(p:PV)(n:Int):Er (dy p n).2:=by
 rw[dy];split
 ·exact er 0
 exact er 1
theorem afc(p:RV)(n:Int):Er (da p n).2:=by
 rw[da];split
 ·exact Mh _ _
 exact er 1
theorem Mi: ∀(n:Nat) (c:CV) (fl:List Int) (b:Bool) (p:List UInt8),Er (ie n c fl b p).2.2
 |0,_,_,_,_=>er 0
 |n+1,c,fl,b,p=>by
  rw[ie];split
  ·
   split
   ·exact er 0
   split
   ·exact Hz _ _ _
   exact Mi n _ fl b p
  split
  ·exact afb _ _ _
  exact Mi n _ fl b p
theorem afd(c:CV)(fl:List Int)(b:Bool)(p:PV):Er (cY c fl b p).2.2:=by
 rw[cY];split
 ·exact Mh _ _
 exact Mi _ _ _ _ _
theorem afe(c:CV)(l:Int):Er (aZ c l).2.2:=by
 rw[aZ];split
 ·exact er 0
 split
 ·exact er 0
 split
 ·exact er 9
 exact Uf _ _
theorem Uh: ∀(n:Nat) (x:WV) (a:List Int) (b:List UInt8),Er (gx n x a b).2
 |0,_,_,_=>er 0
 |n+1,x,a,b=>by
  rw[gx];split
  ·exact afe _ _
  split
  ·exact er 0
  split
  ·exact Hz _ _ _
  exact Uh n _ a b
theorem Ui(x:WV)(a:List Int):Er (dQ x a).2:=by
 rw[dQ];split
 ·exact afc _ _
 exact Uh _ _ _ _
theorem aff(c:CV)(l:List az):Er (cc c l).2.2:=by
 rw[cc];split
 ·exact er 0
 split
 ·exact DH _ _
 split
 ·exact DH _ _
 exact er 6
theorem HA{e:Int}(h:Er e):Er (j9 e):=kX (er 0) h
theorem Mj(v:VV)(src tgt:Int): ∀(l:List Int) (id:Nat) (c:CV) (a:List Int) (e:Int),(cj v src tgt l id c a).e=some e->Er e
 |[],_,_,_,e,h=>by cases h
 |n::r,id,c,a,e,h=>by
  rw[cj]at h;split at h
  ·exact Mj v src tgt r _ c a e h
  split at h
  ·obtain rfl:=at1 h;exact er 6
  split at h
  ·obtain rfl:=at1 h;exact Mh _ _
  split at h
  ·obtain rfl:=at1 h;exact HA (Hz _ _ _)
  exact Mj v src tgt r _ _ _ e h
theorem afg(x:WV)(src tgt:Int):Er (cZ x src tgt).2.2:=by
 rw[cZ];split
 ·rename_i e h;exact Mj _ _ _ _ _ _ _ _ h
 exact Ui _ _
theorem afh(c:CV)(l:List az)(i:Int):Er (cU c l i).2:=by
 rw[cU];split
 ·exact er 0
 exact aff _ _
theorem afi(x:WV)(l:List az)(i:Int):Er (ff x l i).2:=by
 rw[ff];split
 ·exact HA (afh _ _ _)
 split
 ·exact afg _ _ _
 exact HA (DH _ _)
theorem Uj(x:WV)(l:List az):Er (jz x l).2:=by
 rw[jz];split
 ·exact er 6
 exact HA (DH _ _)
theorem afj(x:WV):Er (eC x).2:=by
 rw[eC];split
 ·
  split
  ·exact afi _ _ _
  exact Uj _ _
 exact Uj _ _
theorem Uk: ∀(n:Nat) (x:WV) (m:Int),Er (lE n x m).2
 |0,_,_=>er 0
 |n+1,x,m=>by
  rw[lE];split
  ·exact er 0
  split
  ·exact er 0
  split
  ·exact Uk n _ m
  split
  ·exact afj _
  split
  ·exact er 0
  exact er 5
theorem Mk(v:VV)(b:Bool): ∀(l:List (Int×List UInt8)) (c:CV) (a:List Int),Er (gp v b l c a).2.2
 |[],_,_=>er 0
 |x::r,c,a=>by
  rw[gp];split
  ·exact Mk v b r _ _
  split
  ·exact afd _ _ _ _
  exact Mk v b r _ _
theorem afk(x:WV)(l:List (Int×List UInt8)):Er (gI x l).2:=by
 rw[gI];split
 ·exact Uk _ _ _
 split
 ·exact Mk _ _ _ _ _
 exact Ui _ _
theorem Ul: ∀(n:Nat) (x:WV) (l:List (Int×List UInt8)),Er (lF n x l).2
 |0,_,_=>er 0
 |n+1,x,l=>by
  rw[lF];split
  ·exact Ul n _ l
  exact afk _ _
theorem afl(v:VV)(l:List (Int×List UInt8)):Er (fg v l).2:=by
 rw[fg];split
 ·exact er 1
 split
 ·exact er 7
 exact Ul _ _ _
theorem afm(t:List Rt)(c:Ch):Er (eO t c):=by
 rw[eO];exact kX (kX (er 0) (kX (er 6) (kX (er 5) (er 0)))) (er 1)
theorem Um: ∀(l:List Ch) (t:List Rt),Er (jk t l).2
 |[],_=>er 0
 |c::r,t=>by
  rw[jk];split
  ·exact Um r _
  exact afm _ _
theorem afn(t:List Rt)(l:List Ch):Er (dF t l):=by
 rw[dF];exact kX (Um l t) (er 1)
theorem afo(t:List Rt)(a b:Int):Er (jO t a b):=by
 rw[jO];exact kX (er 1) (kX (er 5) (er 0))
theorem HB(f:FV)(l:List Ch):Er (bI f l).2:=by
 rw[bI];split
 ·exact er 1
 split
 ·exact afn _ _
 split
 ·exact afo _ _ _
 split
 ·exact er 0
 exact afl _ _
theorem afp(l:List (List UInt8)):Er (gm l).2.2:=by
 rw[gm];split
 ·exact er 0
 split
 ·exact er 6
 exact er 2
theorem afq(c:CV):Er (bG c).2:=by
 rw[bG];split
 ·exact er 1
 split
 ·exact er 7
 split
 ·exact afp _
 split
 ·exact er 2
 exact er 0
theorem ya(c:CV):Er (cy c).2:=by
 rw[cy];split
 ·exact er 1
 split
 ·exact afq _
 split
 ·exact er 2
 split
 ·exact er 2
 exact er 0
theorem afr(t:List Rt)(k:Key)(b:Int):Er (uW t k b):=by
 rw[uW];exact kX (kX (er 0) (er 6)) (er 1)
theorem HC(f:FV)(k:Key)(b:Int):Er (ob f k b):=by
 rw[ob];exact kX (afr _ _ _) (er 1)
theorem Ml(c:CV)(l:List Ft):Er (kN c l):=kX (er 0) (er 1)
theorem HD(b:Bool):Er (if b=true then 0 else 1):=kX (er 0) (er 1)
end Go.Kb
namespace Go.Proofs.YtkggjjnhnjjokaaGreatDoor
open Go.ax Go.Kb Go.RowKit Go.Proofs.Tryz
theorem afs(w0 w:World)(L:List ai)(k:Nat)(xf:bL)(xb:Sl Ch)(xa:Option Nat)(xt:Sl UInt8)(line:List UInt8)(hw:Mem w0 (aq k (cd (⟨xf,xb,xa,xt⟩:ca)) 174::dP 5 xt.sv xt.xs::L) w)(aC:xt.xs.length+line.length+1<=1000000000/\(xa=none\/xa=Option.some k)):Calls prog 214 #[.pointer (some ⟨k,0,none⟩), .string ⟨line.toArray⟩] w fun e w'=> ∃U:Sv,e= .returned (.tuple #[])/\(True)/\Mem w0 (aq k (cd (⟨xf,xb,(Option.some k),⟨U,xt.xs++line++[10]⟩⟩:ca)) 174::dP 5 U (xt.xs++line++[10])::L) w':=by
 obtain⟨zA,fC⟩:=aC;refine hY (args:=[_,_]) func214 rfl ntmps214 rfl hw ?_;change Cw _ _ _ _ _ [(0, .pointer (some ⟨k,0,none⟩)),(1, .string ⟨line.toArray⟩)] (aq k (cd (⟨xf,xb,xa,xt⟩:ca)) 174::dP 5 xt.sv xt.xs::L);refine aP ?_;refine bb rfl ⟨oM,fC⟩ fun x8 p6=>ar ?_;refine bb (vs:=[_, .int .u8 ((10:UInt8).toNat:Int)]) rfl ⟨by simp only[adr];omega, .inr rfl⟩ fun qI tM=>Gi ?_;refine eE (.inr rfl) (kg rfl) (fun w1 hw=>?_);exact⟨qI,rfl,trivial,ah.mem hw⟩
instance aqi{w0:World}{L R1 L2:List ai}{i0 i1:Nat}{k:Nat}{xf:bL}{xb:Sl Ch}{xa:Option Nat}{xt:Sl UInt8}{line:List UInt8}[q0:Has L k (cd (⟨xf,xb,xa,xt⟩:ca)) 174 i0][d0:ct L i0 R1][q1:mI R1 xt.sv 5 xt.xs i1][d1:ct R1 i1 L2]:bY prog 214 w0 L [.pointer (some ⟨k,0,none⟩), .string ⟨line.toArray⟩] (Sv) (fun U=> .tuple #[]) (fun U=>aq k (cd (⟨xf,xb,(Option.some k),⟨U,xt.xs++line++[10]⟩⟩:ca)) 174::dP 5 U (xt.xs++line++[10])::L2) (fun U=>True) (xt.xs.length+line.length+1<=1000000000/\(xa=none\/xa=Option.some k)):=⟨fun hp w hw=>afs w0 w L2 k xf xb xa xt line (pB q0.h d0.h q1.h d1.h hw) hp⟩
theorem aft(w0 w:World)[tb:iH w0](L:List ai)(k:Nat)(xf:bL)(xb:Sl Ch)(xa:Option Nat)(xt:Sl UInt8)(line:List UInt8)(er:Int)(hw:Mem w0 (aq k (cd (⟨xf,xb,xa,xt⟩:ca)) 174::dP 5 xt.sv xt.xs::L) w)(aC:xt.xs.length+line.length<=900000000/\(xa=none\/xa=Option.some k)/\Er er):Calls prog 157 #[.pointer (some ⟨k,0,none⟩), .string ⟨line.toArray⟩, .int .i64 er] w fun e w'=> ∃U:Sv,e= .returned (.tuple #[])/\(True)/\Mem w0 (aq k (cd (⟨xf,xb,(Option.some k),⟨U,xt.xs++(jR line er)++[10]⟩⟩:ca)) 174::dP 5 U (xt.xs++(jR line er)++[10])::L) w':=by
 obtain⟨zA,fC,DD,he9⟩:=aC;have yb:=jY 1 er.toNat oM dDq;refine hY (args:=[_,_,_]) func157 rfl ntmps157 rfl hw ?_;change Cw _ _ _ _ _ [(0, .pointer (some ⟨k,0,none⟩)),(1, .string ⟨line.toArray⟩),(2, .int .i64 er)] (aq k (cd (⟨xf,xb,xa,xt⟩:ca)) 174::dP 5 xt.sv xt.xs::L);refine ar ?_;refine Gb ?_ ?_<;>intro h0
 ·
  have hr:jR line er=[101,114,114,111,114,32]++dec er.toNat:=by rw[jR,if_pos h0];rfl
  rw[hr];refine Gi ?_;refine Gs ?_;refine cO (bK rfl ⟨DD,oM⟩) (ag (jq rfl rfl (by simp only[ad2,alM];omega)) (ar ?_));refine bb rfl ⟨by first|omega|(simp only[adr,ad2,alM];omega),fC⟩ fun zB Un=>Gi ?_;refine eE (.inr rfl) (kg rfl) (fun w1 hw=>?_);exact⟨zB,rfl,trivial,ah.mem hw⟩
 have hr:jR line er=line:=by rw[jR,if_neg (fun g=>g h0)]
 rw[hr];refine al ?_;refine bb rfl ⟨by first|omega|(simp only[adr,ad2,alM];omega),fC⟩ fun zB Un=>Gi ?_;refine eE (.inr rfl) (kg rfl) (fun w1 hw=>?_);exact⟨zB,rfl,trivial,ah.mem hw⟩
instance aqj{w0:World}[tb:iH w0]{L R1 L2:List ai}{i0 i1:Nat}{k:Nat}{xf:bL}{xb:Sl Ch}{xa:Option Nat}{xt:Sl UInt8}{line:List UInt8}{er:Int}[q0:Has L k (cd (⟨xf,xb,xa,xt⟩:ca)) 174 i0][d0:ct L i0 R1][q1:mI R1 xt.sv 5 xt.xs i1][d1:ct R1 i1 L2]:bY prog 157 w0 L [.pointer (some ⟨k,0,none⟩), .string ⟨line.toArray⟩, .int .i64 er] (Sv) (fun U=> .tuple #[]) (fun U=>aq k (cd (⟨xf,xb,(Option.some k),⟨U,xt.xs++(jR line er)++[10]⟩⟩:ca)) 174::dP 5 U (xt.xs++(jR line er)++[10])::L2) (fun U=>True) (xt.xs.length+line.length<=900000000/\(xa=none\/xa=Option.some k)/\Er er):=⟨fun hp w hw=>aft w0 w L2 k xf xb xa xt line er (pB q0.h d0.h q1.h d1.h hw) hp⟩
end Go.Proofs.YtkggjjnhnjjokaaGreatDoor
namespace Go.Kb
open Go.ax
def bA(x:aO):Array Value:= #[.int .i64 x.kind]++ay x.r++bR x.key++ #[.int .i64 x.bits, .int .i64 x.n.toInt]
theorem nf(x:aO):(bA x).size=38:=by
 unfold bA;rw[auP,auP,auP,gW,eU];rfl
theorem Bj(x:aO):(bA x)[0]? =some (.int .i64 x.kind):=by
 unfold bA;rw[auW (by rw[auP,auP,gW,eU];exact(by decide:0<1+19+16)),auW (by rw[auP,gW];exact(by decide:0<1+19)),auW (show 0<1 from by decide)];rfl
theorem zC(x:aO)(j:Nat)(h:j<19):(bA x)[1+j]? =(ay x.r)[j]? :=by
 have h1:(#[Value.int .i64 x.kind]).size=1:=rfl;unfold bA;rw[auW (by rw[auP,auP,gW,eU,h1];omega),auW (by rw[auP,gW,h1];omega),awd (by rw[h1];omega),h1,auM]
theorem Bm(x:aO)(j:Nat)(h:j<16):(bA x)[20+j]? =(bR x.key)[j]? :=by
 have h1:(#[Value.int .i64 x.kind]).size=1:=rfl;have h2:(#[Value.int .i64 x.kind]++ay x.r).size=20:=by rw[auP,gW,h1]
 unfold bA;rw[auW (by rw[auP,eU,h2];omega),awd (by rw[h2];omega),h2,auM]
theorem tN(x:aO)(j:Nat):(bA x)[36+j]? =(#[Value.int .i64 x.bits, .int .i64 x.n.toInt])[j]? :=by
 have h2:(#[Value.int .i64 x.kind]++ay x.r++bR x.key).size=36:=by rw[auP,auP,gW,eU];rfl
 unfold bA;rw[awd (by rw[h2];omega),h2,auM]
theorem afu{a b:aO}(h:bA a=bA b):a=b:=by
 have h0:=(Bj a).symm.trans ((congrArg (fun z=>z[0]?) h).trans (Bj b));have hr:ay a.r=ay b.r:=au8 fun j=>by
  rcases aud j 19 with hj|hj
  ·rw[←zC a j hj,←zC b j hj,h]
  rw[auu (by rw[gW];exact hj),auu (by rw[gW];exact hj)]
 have hk:bR a.key=bR b.key:=au8 fun j=>by
  rcases aud j 16 with hj|hj
  ·rw[←Bm a j hj,←Bm b j hj,h]
  rw[auu (by rw[eU];exact hj),auu (by rw[eU];exact hj)]
 have h6:=(tN a 0).symm.trans ((congrArg (fun z=>z[36+0]?) h).trans (tN b 0));have h7:=(tN a 1).symm.trans ((congrArg (fun z=>z[36+1]?) h).trans (tN b 1));have e0:a.kind=b.kind:=by simpa using h0
 have e6:a.bits=b.bits:=by simpa using h6
 have e7:a.n.toInt=b.n.toInt:=by simpa using h7
 have er:=PU hr;have ek:=JQ hk;obtain⟨a1,a2,a3,a4,a5⟩:=a;obtain⟨b1,b2,b3,b4,b5⟩:=b;simp only at e0 e6 e7 er ek;subst e0 e6 er ek;rw[Int64.toInt_inj.1 e7]
instance:bp bA 38:=⟨nf,fun x=>by
 have h:(ay x.r).all (·.oneCell')=true:=bp.one x.r;have k:(bR x.key).all (·.oneCell')=true:=(inferInstance:gB (bR x.key) 16).one;rw[bA,awK,awK,awK,h,k];simp[Value.oneCell']⟩
instance:Deep aO:=Deep.flat bA 38
instance:gL aO bA 38:=⟨rfl,fun _=>rfl⟩
instance (x:aO):gB (bA x) 38:=⟨nf x,bp.one x⟩
instance (x:aO):bO (bA x) 0 (.int .i64 x.kind):=⟨Bj x⟩
instance (x:aO):nk (bA x) 1 19 (ay x.r):=⟨gW _,fun j hj=>zC x j hj⟩
instance (x:aO):nk (bA x) 1 18 (cW x.r.p):=⟨oA _,fun j hj=>(zC x j oM).trans (nR x.r j hj)⟩
instance (x:aO):nk (bA x) 20 16 (bR x.key):=⟨eU _,fun j hj=>Bm x j hj⟩
instance (x:aO):bO (bA x) 36 (.int .i64 x.bits):=⟨tN x 0⟩
instance (x:aO):bO (bA x) 37 (.int .i64 x.n.toInt):=⟨tN x 1⟩
theorem u7(x:aO)(k:Nat):(bA x)[k]? =if k=0 then some (.int .i64 x.kind)else if k<20 then(ay x.r)[k -1]?else if k<36 then(bR x.key)[k -20]?else(#[Value.int .i64 x.bits, .int .i64 x.n.toInt])[k -36]? :=by
 split
 ·rename_i h;subst h;exact Bj x
 split
 ·obtain⟨j,rfl⟩: ∃j,k=1+j:=⟨k -1,oM⟩;rw[zC x j oM,auM]
 split
 ·obtain⟨j,rfl⟩: ∃j,k=20+j:=⟨k -20,oM⟩;rw[Bm x j oM,auM]
 obtain⟨j,rfl⟩: ∃j,k=36+j:=⟨k -36,oM⟩;rw[tN x j,auM]
theorem Uo(y:aO)(r:Rt):over (bA y) 1 (ay r)=bA {y with r:=r}:=au8 fun k=>by
 rw[uj (by rw[gW,nf];decide),u7,u7,gW]
 by_cases h0:k=0
 ·rw[if_neg oM,if_pos h0,if_pos h0]
 by_cases h1:k<20
 ·rw[if_pos oM,if_neg h0,if_pos h1]
 rw[if_neg oM,if_neg h0,if_neg h0,if_neg h1,if_neg h1]
theorem Up(y:aO)(p:cK):over (bA y) 1 (cW p)=bA {y with r:=⟨p,y.r.dN⟩}:=au8 fun k=>by
 rw[uj (by rw[oA,nf];decide),u7,u7,oA]
 by_cases h0:k=0
 ·rw[if_neg oM,if_pos h0,if_pos h0]
 by_cases h1:k<20
 ·
  rw[if_neg h0,if_neg h0,if_pos h1,if_pos h1]
  by_cases h2:k<19
  ·rw[if_pos oM,nR _ _ oM]
  rw[if_neg oM,show k -1=18 by omega,uz,uz]
 rw[if_neg oM,if_neg h0,if_neg h0,if_neg h1,if_neg h1]
theorem Uq(y:aO)(q:Key):over (bA y) 20 (bR q)=bA {y with key:=q}:=au8 fun k=>by
 rw[uj (by rw[eU,nf];decide),u7,u7,eU]
 by_cases h0:k=0
 ·rw[if_neg oM,if_pos h0,if_pos h0]
 by_cases h1:k<20
 ·rw[if_neg oM,if_neg h0,if_pos h1,if_neg h0,if_pos h1]
 by_cases h2:k<36
 ·rw[if_pos oM,if_neg h0,if_neg h1,if_pos h2]
 rw[if_neg oM,if_neg h0,if_neg h0,if_neg h1,if_neg h1,if_neg h2,if_neg h2]
theorem Ur(y:aO)(b:Int):(bA y).setIfInBounds 36 (.int .i64 b)=bA {y with bits:=b}:=au8 fun k=>by
 rw[auN,u7,u7,nf]
 by_cases h:36=k
 ·subst h;rw[if_pos rfl,if_pos dDq,if_neg dDq,if_neg dDq,if_neg dDq];rfl
 rw[if_neg h]
 by_cases h2:k<36
 ·simp only[h2,if_true]
 rw[if_neg oM,if_neg oM,if_neg h2,if_neg oM,if_neg oM,if_neg h2]
 by_cases h3:k=37
 ·subst h3;have a1: ∀u v:Value,(#[u,v])[37 -36]? =some v:=fun _ _=>rfl;rw[a1,a1]
 rw[auu (by show 2<=k -36;omega),auu (by show 2<=k -36;omega)]
theorem Us(y:aO)(n:Int64):(bA y).setIfInBounds 37 (.int .i64 n.toInt)=bA {y with n:=n}:=au8 fun k=>by
 rw[auN,u7,u7,nf]
 by_cases h:37=k
 ·subst h;rw[if_pos rfl,if_pos dDq,if_neg dDq,if_neg dDq,if_neg dDq];rfl
 rw[if_neg h]
 by_cases h2:k<36
 ·simp only[h2,if_true]
 rw[if_neg oM,if_neg oM,if_neg h2,if_neg oM,if_neg oM,if_neg h2]
 by_cases h3:k=36
 ·subst h3;have a1: ∀u v:Value,(#[u,v])[36 -36]? =some u:=fun _ _=>rfl;rw[a1,a1]
 rw[auu (by show 2<=k -36;omega),auu (by show 2<=k -36;omega)]
theorem afv(s:aJ):(bF s 999).getD 0<=999:=KC s 999
theorem afw(y:aO){n:Nat}(h:n<=999):(bA y).setIfInBounds 37 (.int .i64 (n:Nat))=bA {y with n:=Int64.ofInt (n:Int)}:=by
 have:=Us y (Int64.ofInt (n:Int));rwa [Gp h]at this
def Bn(ps:List aJ)(i:Nat):Array Value:= #[.int .i64 ((if 0<i then oL ps 0 else 0:Nat):Int), .int .i64 ((if 1<i then oL ps 1 else 0:Nat):Int), .int .i64 ((if 2<i then oL ps 2 else 0:Nat):Int)]
theorem afx(ps:List aJ){i:Nat}(hi:i<3):(Bn ps i).setIfInBounds i (.int .i64 ((oL ps i:Nat):Int))=Bn ps (i+1):=by
 match i,hi with
 |0,_=>rfl
 |1,_=>rfl
 |2,_=>rfl
end Go.Kb
namespace Go.Proofs.YtkggjjnhnjjokaaGreatDoor
open Go.ax Go.Kb Go.RowKit Go.Proofs.Tryz
theorem afy(a b:Rt)(j:Nat)(hj:j<19): ∃u v,(ay a)[j]? =some u/\(ay b)[j]? =some v/\uX 0 u v:=by
 match j,hj with
 |0,_=>exact⟨_,_,(inferInstance:bO (ay a) 0 _).h,(inferInstance:bO (ay b) 0 _).h,rfl⟩
 |1,_=>exact⟨_,_,(inferInstance:bO (ay a) 1 _).h,(inferInstance:bO (ay b) 1 _).h,rfl⟩
 |j+2,hi=>
  rcases aud j 16 with h|h
  ·rw[awH j 2];exact⟨_,_,(nR a _ oM).trans ((q8 a.p j).trans (jr _ j h)),(nR b _ oM).trans ((q8 b.p j).trans (jr _ j h)),rfl⟩
  obtain rfl:j=16:=by omega
  exact⟨_,_,uz a,uz b,rfl⟩
theorem afz:prog.stoodInHeld 73=false:=kRq
theorem afA(d:Nat):tG prog (d+1+1+1+1+1) 73 true ([0]++((([0]++([0]++((List.replicate 16 [0]).flatten++[])))++([0]++[]))++((List.replicate 16 [0]).flatten++([0]++([0]++[]))))):=⟨⟨_,underlying73,rfl⟩,kRq,(fun h=>by cases h),
 L4 underlying73 afz ⟨dDq,rfl,_,_,_,rfl,Dx _,dDq,rfl,_,_,_,rfl,TM _,dDq,rfl,_,_,_,rfl,L5 _,dDq,rfl,_,_,_,rfl,Dx _,dDq,rfl,_,_,_,rfl,Dx _,rfl⟩⟩
theorem afB:prog.eqGuardType prog.depth 73=false:=kRq
instance (a b:aO):yK prog 73 (.agg (bA a)) (.agg (bA b)) (decide (a=b)):=
 (afA 9995).eq.val rfl afB (nf a) (nf b) (fun i k hk=>by
  have h0:k=0:=by
   have:k∈([0]++((([0]++([0]++((List.replicate 16 [0]).flatten++[])))++([0]++[]))++((List.replicate 16 [0]).flatten++([0]++([0]++[]))))):=atl hk;simpa using this
  subst h0;have hi:i<38:=(zz.1 hk).1;rcases av5 i with h0|h0
  ·subst h0;exact⟨_,_,Bj a,Bj b,rfl⟩
  rcases aud i 20 with h1|h1
  ·obtain⟨j,rfl⟩: ∃j,i=1+j:=⟨i -1,oM⟩;obtain⟨u,v,hu,hv,hk⟩:=afy a.r b.r j oM;exact⟨u,v,(zC a j oM).trans hu,(zC b j oM).trans hv,hk⟩
  rcases aud i 36 with h2|h2
  ·obtain⟨j,rfl⟩: ∃j,i=20+j:=⟨i -20,oM⟩;exact⟨_,_,(Bm a j oM).trans (jr _ j oM),(Bm b j oM).trans (jr _ j oM),rfl⟩
  rcases aud i 37 with h3|h3
  ·
   obtain rfl:i=36+0:=by omega
   exact⟨_,_,tN a 0,tN b 0,rfl⟩
  obtain rfl:i=36+1:=by omega
  exact⟨_,_,tN a 1,tN b 1,rfl⟩) (by rw[decide_eq_true_iff];exact⟨afu,fun h=>by rw[h]⟩)
theorem afC(x:aO):bA x= #[.int .i64 x.kind]++ay x.r++bR x.key++ #[.int .i64 x.bits, .int .i64 x.n.toInt]:=rfl
instance:sP prog 73 [] (.agg (bA uF)):=⟨fun w=>by unfold bA ay cW uF bQ;rw[tH];kernel_rfl⟩
instance:eY prog 73 (.agg (bA uF)):=⟨by unfold bA ay cW uF bQ;rw[tH];kernel_rfl⟩
instance (k:Int):sP prog 73 [(0, .int .i64 k)] (.agg (bA ⟨k,bQ,0#128,0,0⟩)):=⟨fun w=>by unfold bA ay cW bQ;rw[tH];kernel_rfl⟩
theorem aqk(w:World)(c:UInt8):Calls prog 211 #[.int .u8 (c.toNat:Nat)] w fun e w'=>e= .returned (.int .i64 (s9 c))/\Mem w [] w':=by
 refine cx func211 rfl ntmps211 rfl ?_;refine rZ ?_;refine Gb ?_ ?_<;>intro h0
 ·refine au ?_;refine ag (FB (p:=c.toNat) (q:=48) rfl rfl rfl rfl oM) (ag (mw rfl (by simp only[nb];omega)) (au ?_));refine Gr fun w1 hw=>?_;exact Gf ((by simp only[s9,lh];rw[if_pos oM])) hw
 refine fS ?_;refine Gb ?_ ?_<;>intro h1
 ·refine au ?_;refine ag (FB (p:=c.toNat) (q:=97) rfl rfl rfl rfl oM) (ag (mw rfl (by simp only[nb];omega)) (al ?_));refine Gr fun w1 hw=>?_;exact Gf ((by simp only[s9,lh];rw[if_neg oM,if_pos oM];simp only[];omega)) hw
 refine al ?_;refine Gr fun w1 hw=>?_;exact Gf ((by simp only[s9,lh];rw[if_neg oM,if_neg oM])) hw
theorem Ut(n:Nat):n<4611686018427387904-> ∀w:World,Calls prog 35 #[.int .i64 (n:Nat)] w fun e w'=>e= .returned (.string ⟨(dec n).toArray⟩)/\Mem w [] w':=by
 induction n using Nat.strongRecOn with
 |_ n ih=>
 intro hn w;have hl:=jY 20 n oM dDq;refine cx func35 rfl ntmps35 rfl ?_;refine aY ?_;refine Gb ?_ ?_<;>intro h0
 ·refine al ?_;refine ag (mw rfl (by simp only[nb];omega)) (ag (Py (n:=(48+n)) (by rw[underlying21];rfl) underlying9 rfl oM) (au ?_));refine Gr fun w1 hw=>?_;exact⟨(by rw[qm oM]),ah.mem hw⟩
 refine au ?_;refine ag (ou rfl rfl oM oM) (cO (Ck (v:= .string ⟨(dec (n/10)).toArray⟩) rfl (fun w1 mz=>ih (n/10) oM oM w1)) (Gs ?_));refine ag (Cx (p:=n) (q:=10) rfl rfl rfl rfl oM) (Gs ?_);refine ag (mw rfl (by simp only[nb];omega)) (ag (Py (n:=(48+(n%10))) (by rw[underlying21];rfl) underlying9 rfl oM) (ag (jq rfl rfl (by have:=jY 20 (n/10) oM dDq;simp only[ad2,alM];omega)) (au ?_)));refine Gr fun w1 hw=>?_;exact⟨(by rw[sV (n:=n) oM]),ah.mem hw⟩
variable {w0:World}{L:List ai}
instance aql{n:Nat}:bV prog 35 w0 L [.int .i64 (n:Nat)] (.string ⟨(dec n).toArray⟩) (n<4611686018427387904):=⟨fun h w _=>Ut n h w⟩
instance (priority:=low) aqm{z:Int}:bV prog 35 w0 L [.int .i64 z] (.string ⟨(dec z.toNat).toArray⟩) (0<=z/\z<4611686018427387904):=⟨fun h w _=>by
 have:=Ut z.toNat oM w;rwa [auU h.1]at this⟩
theorem aqn(w:World)(s:List UInt8)(top:Nat)(aC:top<=65535):Calls prog 210 #[.string ⟨s.toArray⟩, .int .i64 (top:Nat)] w fun e w'=>e= .returned (.int .i64 (CP s top))/\Mem w [] w':=by
 refine dD func210 rfl ntmps210 rfl ?_;refine ar ?_;refine ag (qZ (s:=s) underlying9 rfl) (al ?_);refine bU rfl rfl rfl (fun hg=>(Ry.yl (qZ (s:=s) underlying9 (aG hg rfl)))) (ar ?_);refine bU rfl rfl rfl (fun hg=>(Ry.yl (qZ (s:=s) underlying9 (aG hg rfl)))) (Gg ?_);refine bU rfl rfl rfl (fun hg=>(Ry.yl (bm (aG hg rfl)))) (po rfl rfl rfl (fun hg=>(Ry.yl (bm rfl))) (po rfl rfl rfl (fun hg=>(Ry.yl (vM (s:=s) 0 underlying9 (aG hg rfl) rfl rfl (by simp only[Z0,Z1,Z2,Z3,Z4,Z5,Z6,Z7,Z8,Z9]at hg;omega)))) (po rfl rfl rfl (fun hg=>(Ry.yl (eR (aG hg rfl) rfl rfl))) (bU rfl rfl rfl (fun hg=>(Ry.yl (z8 (aG hg rfl) (yP hg rfl) rfl))) (au ?_)))));refine Gb ?_ ?_<;>intro h0
 ·refine al ?_;refine Gr fun w1 hw=>?_;exact Gf ((by rw[CP,ZU aC oM])) hw
 have hx:s.length<=5/\0<s.length:=by omega
 refine aP ?_;refine cg (X:=Nat) (fun U=>[(6, .int .i64 (U:Nat)),(5, .int .i64 ((val (s.take U)):Nat)),(0, .string ⟨s.toArray⟩),(1, .int .i64 (top:Nat))]) (fun U=>[]) (fun U=>U<=s.length/\(s.take U).all lW=true) (fun U=>s.length -U) 0 ⟨Nat.zero_le _,rfl⟩ (Sub.cons rfl (Sub.cons (look_eq rfl rfl) sb)) (fun w hw=>ah.mem hw) ?_;rintro i ⟨hi,hd⟩;have hv:=ZS (s:=s) (i:=i) oM hi hd;refine al ?_;refine ag (qZ (s:=s) underlying9 rfl) (au ?_);refine Gb ?_ ?_<;>intro h1
 ·
  refine al ?_;refine ag (vM (s:=s) i underlying9 rfl rfl rfl oM) (ar ?_);refine bU rfl rfl rfl (fun hg=>(Ry.yl (vM (s:=s) i underlying9 (aG hg rfl) (aG hg rfl) rfl (by simp only[Z0,Z1,Z2,Z3,Z4,Z5,Z6,Z7,Z8,Z9]at hg;omega)))) (al ?_);refine Gb ?_ ?_<;>intro h2
  ·refine al ?_;refine Gr fun w1 hw=>?_;exact Gf ((by rw[CP,P4 (i:=i) oM oM])) hw
  refine au ?_;refine ag (vC rfl rfl oM) (au ?_);refine ag (vM (s:=s) i underlying9 rfl rfl rfl oM) (ag (FB (p:=(s.getD i 0).toNat) (q:=48) rfl rfl rfl rfl oM) (ag (mw rfl (by simp only[nb];omega)) (aY ?_)));refine Gi ?_;exact bo (x:=(i)) (i+1) ⟨oF,P3 oF hd oF⟩ oF (Sub.cons rfl (Sub.cons (look_eq rfl (by rw[FM oM,avs 10];rfl)) sb)) (fun w hw=>ah.mem hw)
 refine aP ?_;refine Gb ?_ ?_<;>intro h3
 ·refine al ?_;refine Gr fun w1 hw=>?_;exact Gf ((by rw[CP,P5 (i:=i) oM])) hw
 refine ar ?_;refine Gr fun w1 hw=>?_;exact Gf ((by have e:s.take i=s:=aug oM;rw[e]at hd;rw[CP,P6 (avx.1 hx.2) oM hd (by rw[←e];omega),e])) hw
instance aqo{s:List UInt8}{top:Nat}:bV prog 117 w0 L [.string ⟨s.toArray⟩, .int .i64 (top:Nat)] (.tuple #[.int .i64 (((bF s top).getD 0):Nat), .bool ((bF s top).isSome)]) (top<=65535/\s.length<=1000000000):=⟨fun aC w hw=>by
 refine dD func117 rfl ntmps117 rfl ?_;refine aP ?_;refine ag (yT rfl rfl) (au ?_);refine bU rfl rfl rfl (fun hg=>(Ry.yl (qZ (s:=s) underlying9 (aG hg rfl)))) (Gg ?_);refine bU rfl rfl rfl (fun hg=>(Ry.yl (bm (aG hg rfl)))) (po rfl rfl rfl (fun hg=>(Ry.yl (bm rfl))) (po rfl rfl rfl (fun hg=>(Ry.yl (vM (s:=s) 0 underlying9 (aG hg rfl) rfl rfl (by simp only[Z0,Z1,Z2,Z3,Z4,Z5,Z6,Z7,Z8,Z9]at hg;omega)))) (po rfl rfl rfl (fun hg=>(Ry.yl (eR (aG hg rfl) rfl rfl))) (bU rfl rfl rfl (fun hg=>(Ry.yl (z8 (aG hg rfl) (yP hg rfl) rfl))) (au ?_)))));refine Gb ?_ ?_<;>intro h0
 ·refine ar ?_;refine Gr fun w1 hw=>?_;exact⟨(by rw[ZV (h0.imp id fun h=>⟨oM,oM⟩)];rfl),ah.mem hw⟩
 refine ar ?_;refine ag (qZ (s:=s) underlying9 rfl) (au ?_);refine cg (X:=Nat) (fun U=>[(22, .int .i64 (U:Nat)),(6, .int .i64 ((val (s.take U)):Nat)),(0, .string ⟨s.toArray⟩),(1, .int .i64 (top:Nat)),(21, .int .i64 (s.length:Nat))]) (fun U=>[]) (fun U=>U<=s.length/\(s.take U).all lW=true/\val (s.take U)<=top) (fun U=>s.length -U) 0 ⟨Nat.zero_le _,rfl,auo _⟩ (Sub.cons rfl (Sub.cons (look_eq rfl rfl) sb)) (fun w hw=>ah.mem hw) ?_;rintro i ⟨hi,hd,hv⟩;refine al ?_;refine Gb ?_ ?_<;>intro h1
 ·
  refine aY ?_;refine ag (vM (s:=s) i underlying9 rfl rfl rfl oM) (ar ?_);refine bU rfl rfl rfl (fun hg=>(Ry.yl (vM (s:=s) i underlying9 (aG hg rfl) (aG hg rfl) rfl (by simp only[Z0,Z1,Z2,Z3,Z4,Z5,Z6,Z7,Z8,Z9]at hg;omega)))) (al ?_);refine Gb ?_ ?_<;>intro h2
  ·refine ar ?_;refine Gr fun w1 hw=>?_;exact⟨(by rw[P4 (i:=i) oM oM];rfl),ah.mem hw⟩
  refine au ?_;refine ag (vC rfl rfl oM) (au ?_);refine ag (vM (s:=s) i underlying9 rfl rfl rfl oM) (ag (FB (p:=(s.getD i 0).toNat) (q:=48) rfl rfl rfl rfl oM) (ag (mw rfl (by simp only[nb];omega)) (cX ?_)));refine Gb ?_ ?_<;>intro h3
  ·refine ar ?_;refine Gr fun w1 hw=>?_;exact⟨(by rw[P5 (i:=i+1) (by rw[FM oM];omega)];rfl),ah.mem hw⟩
  refine al ?_;refine Gi ?_;exact bo (x:=(i)) (i+1) ⟨oF,P3 oF hd oF,by rw[FM oF];omega⟩ oF (Sub.cons rfl (Sub.cons (look_eq rfl (by rw[FM oM];rfl)) sb)) (fun w hw=>ah.mem hw)
 refine aP ?_;refine Gr fun w1 hw=>?_;exact⟨(by have e:s.take i=s:=aug oM;rw[e]at hd hv;rw[P6 h0.1 (by have:=h0.2;omega) hd hv,e];rfl),ah.mem hw⟩⟩
instance aqp{k:Key}{n:Int}:bV prog 153 w0 L [.agg (bR k), .int .i64 n] (.bool (lZ k n)) (True):=⟨fun aC w hw=>by
 refine dD func153 rfl ntmps153 rfl ?_;refine Gc ?_;refine cn rfl fun b2=>iS ?_;refine Gb ?_ ?_<;>intro h0
 ·refine al ?_;refine Gr fun w1 hw=>?_;exact Ge ((by rw[ZY oM])) hw
 refine Gc ?_;refine jI oK oK (au ?_);refine uh (bK rfl trivial) (Gq ?_);refine bX (Jj rfl rfl) (au ?_);refine Gr fun w1 hw=>?_;exact⟨congrArg (fun b=>Ending.returned (Value.bool b)) ((by rw[ZZ oM])),ah.mem hw⟩⟩
instance aqq{sep:List UInt8}{z:Sv}{zs:List aJ}[hz:dG w0 L mE 1 z zs]:bV prog 104 w0 L [.string ⟨sep.toArray⟩,z.val] (.string ⟨(uA sep zs).toArray⟩) (zs≠[]/\(uA sep zs).length<=140737488355328):=⟨fun aC w hw=>by
 have hz:=hz.h w hw;have ghz:Gv w z mE 1 zs:=⟨hz⟩;refine dD func104 rfl ntmps104 rfl ?_;refine aP ?_;refine cO (bK rfl aC) (au ?_);refine Gr fun w1 hw=>?_;exact⟨rfl,ah.mem hw⟩⟩
instance:eY prog 5 (.int .u8 0):=⟨kRq⟩
instance aqr{k:Key}{n:Int}[tb:Tabs w0]:bV prog 85 w0 L [.agg (bR k), .int .i64 n] (.tuple #[.string ⟨(jK k n).toArray⟩, .int .i64 (gM (lZ k n))]) (True):=⟨fun aC w hw=>by
 have tb:=tb.at hw;have h4:=FO k;refine dD func85 rfl ntmps85 rfl ?_;refine Gc ?_;refine cn rfl fun b2=>fS ?_;refine Gb ?_ ?_<;>intro h0
 ·refine ar ?_;refine Gr fun w1 hw=>?_;exact⟨(by rw[jK,h0];rfl),ah.mem hw⟩
 refine ar ?_;refine Gb ?_ ?_<;>intro h1
 ·
  refine al ?_;refine ag (Ry.as (v':=Sv.val ⟨false,b2,0,4,16,none⟩) (Jk rfl rfl dDq dDq) rfl) (al ?_);refine cg (X:=Nat×Sv×List aJ) (fun U=>[(20, .int .i64 (U.1:Nat)),(6,U.2.1.val),(18,(⟨false,b2,0,4,16,none⟩:Sv).val),(19, .int .i64 (((oC k).take 4).length:Nat))]) (fun U=>[own mE 1 U.2.1 U.2.2,aq b2 (bR k) 25]) (fun U=>U.1<=4/\U.2.2=((((oC k).take 4).take U.1).map fun b=>dec b.toNat)) (fun U=>4 -U.1) (0,Sv.none,[]) ⟨Nat.zero_le _,rfl⟩ sb (fun w hw=>Mem.dE mE 1 (ah.mem hw)) ?_;rintro⟨i,o,q⟩ ⟨hi,hq⟩;dsimp only;simp only at hi hq;have yD:q.length<=4:=by rw[hq,List.length_map,List.length_take];omega
  refine al ?_;refine Gb ?_ ?_<;>intro h2
  ·refine l6 ?_;obtain⟨x,hx⟩:=get_some (xs:=((oC k).take 4)) (i:=i) oM;refine ag (bf rfl rfl i rfl oM) (ag (bW (j:=0) rfl i hx rfl dDq) (ar ?_));refine ag (w8 rfl) (cO (bK rfl (by first|omega|exact avR (awG _) dDq|exact avR (awp _) dDq)) ?_);refine nP (enc:=mE) (vals:=[_]) [(dec x.toNat)] rfl rfl rfl dDq dDq fun yc=>?_;refine mB (s:=o) (ys:=[(dec x.toNat)]) rfl rfl dDq (fun w hw=>iQ (s:=⟨false,yc,0,1,1,none⟩) underlying155 dDq ((inferInstance:Hd _ _ ⟨false,yc,0,1,1,none⟩ mE 1 [(dec x.toNat)]).h w hw)) (by simp only[adr,ad2,alM];omega) (by simp only[adr,ad2,alM];omega) fun s29 aqs aqt=>?_;refine ar ?_;refine Gi ?_;exact bo (x:=(i,o,q)) (i+1,s29,q++[dec x.toNat]) ⟨oF,by simp only;rw[hq,aaf oF hx]⟩ (by simp only;omega) sb (fun w hw=>ah.mem hw)
  refine l6 ?_;have Uu:q=((oC k).take 4).map fun b=>dec b.toNat:=by rw[hq,aug oM]
  refine Gi ?_;refine Gs ?_;refine cO (bK rfl (by rw[Uu];exact aag k)) (al ?_);refine Gr fun w1 hw=>?_;exact⟨(by rw[jK,h0,if_pos rfl,q9,if_pos h1,Uu,P8];rfl),ah.mem hw⟩
 refine Gc ?_;refine vI (enc:=aQ) (n:=0) (cap:=32) 0 rfl rfl rfl rfl rfl oM oM oM fun jS=>aP ?_;refine cg (X:=Nat×Sv×List UInt8) (fun U=>[(35, .int .i64 (U.1:Nat)),(9,U.2.1.val),(34, .agg (bR k))]) (fun U=>[own aQ 1 U.2.1 U.2.2,aq b2 (bR k) 25]) (fun U=>U.1<=16/\U.2.2=(oB k).take (2*U.1)) (fun U=>16 -U.1) (0,⟨false,jS,0,0,32,none⟩,[]) ⟨Nat.zero_le _,rfl⟩ sb (fun w hw=>hw) ?_;rintro⟨i,o,q⟩ ⟨hi,hq⟩;dsimp only;simp only at hi hq;have yD:q.length<=32:=by rw[hq,List.length_take,CN];omega
 refine al ?_;refine Gb ?_ ?_<;>intro h3
 ·refine Gc ?_;refine ag (ZX underlying25 rfl rfl i rfl oM) (Gs ?_);refine gF ?_;refine wV 8 [7] oK oK ?_;simp only[ave,auw];refine au ?_;refine bX (wU (p:=bl k i) rfl rfl (jJ k i) dDq) (bX (Jm (s:=⟨([48,49,50,51,52,53,54,55,56,57,97,98,99,100,101,102]:aJ).toArray⟩) (v:=(jZ (iq k (2*i))).toNat) underlying9 rfl rfl (Int.natCast_nonneg _) (aac k i)) (Gq ?_));refine bX (OV (p:=bl k i) (q:=15) rfl rfl rfl rfl (jJ k i) dDq) (bX (Jm (s:=⟨([48,49,50,51,52,53,54,55,56,57,97,98,99,100,101,102]:aJ).toArray⟩) (v:=(jZ (iq k (2*i+1))).toNat) underlying9 rfl rfl (Int.natCast_nonneg _) (aad k i)) (OY (vD (Y3 (enc:=aQ) rfl (vals:=[_,_]) [(jZ (iq k (2*i))),(jZ (iq k (2*i+1)))] rfl rfl rfl dDq dDq fun p8=>vE ?_))));simp only[avD,avg];refine mB (s:=o) (ys:=[(jZ (iq k (2*i))),(jZ (iq k (2*i+1)))]) rfl rfl dDq (fun w hw=>iQ (s:=⟨false,p8,0,2,2,none⟩) underlying53 dDq ((inferInstance:Hd _ _ ⟨false,p8,0,2,2,none⟩ aQ 1 [(jZ (iq k (2*i))),(jZ (iq k (2*i+1)))]).h w hw)) (by simp only[adr,ad2,alM];omega) (by simp only[adr,ad2,alM];omega) fun s46 aqu aqv=>?_;refine ar ?_;refine Gi ?_;exact bo (x:=(i,o,q)) (i+1,s46,q++[jZ (iq k (2*i)),jZ (iq k (2*i+1))]) ⟨oF,by simp only;rw[hq,aae k oF]⟩ (by simp only;omega) sb (fun w hw=>ah.mem hw)
 refine au ?_;refine ag (JG underlying53 underlying5 underlying9 rfl) (al ?_);refine Gr fun w1 hw=>?_;exact⟨(by rw[jK,h0,if_pos rfl,q9,if_neg h1,hq,aug (by rw[CN];omega)];rfl),ah.mem hw⟩⟩
instance aqw{p:cK}[tb:Tabs w0]:bV prog 84 w0 L [.agg (cW p)] (.tuple #[.string ⟨(ll p).toArray⟩, .int .i64 (gM (bu p))]) (True):=⟨fun aC w hw=>by
 have tb:=tb.at hw;have xk:=FQ p.key p.bits;refine cx func84 rfl ntmps84 rfl ?_;refine Gc ?_;refine cn rfl fun b1=>cX ?_;refine Gb ?_ ?_<;>intro h0
 ·refine ar ?_;refine Gr fun w1 hw=>?_;exact⟨(by rw[ll,h0];rfl),ah.mem hw⟩
 obtain⟨k1,k2,k3⟩:=Qc h0;have yb:=jY 3 p.len.toNat oM dDq;refine au ?_;refine ag (fM rfl) (ar ?_);refine ag (aB (v:= .string ⟨(jK p.key p.bits).toArray⟩) rfl rfl) (ag (aB (v:= .int .i64 (gM (lZ p.key p.bits))) rfl rfl) (aY ?_));refine Gb ?_ ?_<;>intro h1
 ·exfalso;rw[k1]at h1;simp[gM]at h1
 refine ar ?_;refine cO (bK rfl ⟨k2,oM⟩) ?_;refine nP (enc:=mE) (vals:=[_,_]) [(jK p.key p.bits),(dec p.len.toNat)] rfl rfl rfl dDq dDq fun b24=>?_;refine cO (bK rfl (Qd _ _ 47 oM)) (al ?_);refine Gr fun w1 hw=>?_;exact⟨(by rw[ll,h0,if_pos rfl,JX,s8,jK,if_pos k1];rfl),ah.mem hw⟩⟩
instance aqx{r:Rt}[tb:Tabs w0]:bV prog 41 w0 L [.agg (ay r)] (.tuple #[.string ⟨(ir r).toArray⟩, .int .i64 (gM (bu r.p))]) (True):=⟨fun aC w hw=>by
 have tb:=tb.at hw;have cf:=FR r.p;have yb:=jY 5 r.dN.toNat (avR (awp _) dDq) dDq;refine cx func41 rfl ntmps41 rfl ?_;refine Gc ?_;refine cn rfl fun b1=>ar ?_;refine ag (fM rfl) (au ?_);refine ag (aB (v:= .string ⟨(ll r.p).toArray⟩) rfl rfl) (ag (aB (v:= .int .i64 (gM (bu r.p))) rfl rfl) (aY ?_));refine Gb ?_ ?_<;>intro h0
 ·
  have e0:bu r.p=false:=by cases e:bu r.p with
   |false=>rfl
   |true=>rw[e]at h0;simp[gM]at h0
  refine aP ?_;refine Gr fun w1 hw=>?_;exact⟨(by rw[ir,e0];rfl),ah.mem hw⟩
 have e0:bu r.p=true:=by cases e:bu r.p with
  |true=>rfl
  |false=>rw[e]at h0;simp[gM]at h0
 refine ar ?_;refine ag (Zg rfl) (cO (bK rfl (by first|omega|exact avR (awG _) dDq|exact avR (awp _) dDq)) ?_);refine nP (enc:=mE) (vals:=[_,_]) [(ll r.p),(dec r.dN.toNat)] rfl rfl rfl dDq dDq fun jd=>?_;refine cO (bK rfl (Qd _ _ 32 oM)) (al ?_);refine Gr fun w1 hw=>?_;exact⟨(by rw[ir,e0,if_pos rfl,JX,yZ,ll,if_pos e0];rfl),ah.mem hw⟩⟩
instance aqy{x:aO}[tb:iH w0]:bV prog 32 w0 L [.agg (bA x)] (.tuple #[.string ⟨(qx x).toArray⟩, .int .i64 (pD x)]) (True):=⟨fun aC w hw=>by
 have tb:=tb.at hw;have hwl:=Q4 x.kind;refine cx func32 rfl ntmps32 rfl ?_;refine Gc ?_;refine cn rfl fun b1=>aP ?_;refine ag (gf rfl) (bn fun b4=>ar ?_);refine gF ?_;refine qY (X:=aO×aJ×Int) (fun U=>[(4, .pointer (some ⟨b4,0,none⟩)),(5, .string ⟨U.2.1.toArray⟩),(6, .int .i64 U.2.2),(1, .pointer (some ⟨b1,0,none⟩))]) (fun U=>[aq b4 (bA U.1) 73,aq b1 (bA x) 73]) (fun U=>U.1=mJ x/\(U.2.2=0->kx x=true/\U.2.1=np x)/\(U.2.2≠0->kx x=false)/\ ¬(x.kind=3\/x.kind=7\/x.kind=8)) ?_ ?_
 ·
  refine cX ?_;refine Gb ?_ ?_<;>intro h0
  ·
   have mX:mJ x=(⟨x.kind,x.r,0#128,0,0⟩:aO):=by rw[mJ,if_pos h0]
   have yd:kx x=bu x.r.p:=by rw[kx,if_pos (.inl h0)]
   have DI:np x=ir x.r:=by rw[np,if_pos h0]
   refine au ?_;refine ag (fM rfl) (Gs ?_);refine qX (cs':=bA (⟨x.kind,x.r,0#128,0,0⟩:aO)) rfl rfl (by rw[nf];decide) (Uo (⟨x.kind,bQ,0#128,0,0⟩:aO) x.r) (au ?_);refine ag (fM rfl) (au ?_);refine ag (aB (v:= .string ⟨(ir x.r).toArray⟩) rfl rfl) (ag (aB (v:= .int .i64 (gM (bu x.r.p))) rfl rfl) (au ?_));refine gF ?_;exact gD ((⟨x.kind,x.r,0#128,0,0⟩:aO),ir x.r,gM (bu x.r.p)) ⟨mX.symm,fun g=>⟨yd.trans (KD.1 g),DI.symm⟩,fun g=>by rw[yd];cases hq:bu x.r.p with|false=>rfl|true=>simp only[hq]at g;exact absurd rfl g,oF⟩ sb (fun w hw=>ah.mem hw)
  refine ar ?_;refine Gb ?_ ?_<;>intro h1
  ·
   have mX:mJ x=(⟨x.kind,⟨x.r.p,0⟩,0#128,0,0⟩:aO):=by rw[mJ,if_neg h0,if_pos h1]
   have yd:kx x=bu x.r.p:=by rw[kx,if_pos (.inr h1)]
   have DI:np x=ll x.r.p:=by rw[np,if_neg h0,if_pos h1]
   refine al ?_;refine ag (fM rfl) (au ?_);refine qX (cs':=bA (⟨x.kind,⟨x.r.p,0⟩,0#128,0,0⟩:aO)) rfl rfl (by rw[nf];decide) (Up (⟨x.kind,bQ,0#128,0,0⟩:aO) x.r.p) (al ?_);refine ag (fM rfl) (au ?_);refine ag (aB (v:= .string ⟨(ll x.r.p).toArray⟩) rfl rfl) (ag (aB (v:= .int .i64 (gM (bu x.r.p))) rfl rfl) (au ?_));refine gF ?_;exact gD ((⟨x.kind,⟨x.r.p,0⟩,0#128,0,0⟩:aO),ll x.r.p,gM (bu x.r.p)) ⟨mX.symm,fun g=>⟨yd.trans (KD.1 g),DI.symm⟩,fun g=>by rw[yd];cases hq:bu x.r.p with|false=>rfl|true=>simp only[hq]at g;exact absurd rfl g,oF⟩ sb (fun w hw=>ah.mem hw)
  refine ar ?_;refine Gb ?_ ?_<;>intro h2
  ·
   have mX:mJ x=(⟨x.kind,bQ,x.key,x.bits,0⟩:aO):=by rw[mJ,if_neg h0,if_neg h1,if_pos h2]
   have yd:kx x=lZ x.key x.bits:=by rw[kx,if_neg (fun g=>g.elim h0 h1),if_pos h2]
   have DI:np x=jK x.key x.bits:=by rw[np,if_neg h0,if_neg h1,if_pos h2]
   refine Gi ?_;refine jt [5,7,1000,1001,1004,1006] [[],[0],[],[],[0,1],[0,1,4],[0,1,4,5],[0,1,4,5,6]] [0,1,2,3,4,5,6,7] [aq b1 (bA x) 73] (fun _ hw=>ah.mem hw) oK oK (gq rfl (aM (o':=20) rfl rfl) (gq rfl (fM rfl) (an rfl (aM (o':=36) rfl rfl) (an rfl (bE rfl) (gq rfl (aM (o':=20) rfl rfl) ?_)))));refine dr rfl (Km (cs':=bA (⟨x.kind,bQ,x.key,0,0⟩:aO)) rfl rfl (by rw[nf];decide) (Uq (⟨x.kind,bQ,0#128,0,0⟩:aO) x.key) ⟨fun _ hw=>ah.mem hw,?_⟩);refine gq rfl (aM (o':=36) rfl rfl) ?_;refine dr rfl (tg (cs':=bA (⟨x.kind,bQ,x.key,x.bits,0⟩:aO)) rfl rfl (by rw[nf];decide) rfl (Ur (⟨x.kind,bQ,x.key,0,0⟩:aO) x.bits) ⟨fun _ hw=>ah.mem hw,?_⟩);refine au ?_;refine ag (fM rfl) (ar ?_);refine ag (aB (v:= .string ⟨(jK x.key x.bits).toArray⟩) rfl rfl) (ag (aB (v:= .int .i64 (gM (lZ x.key x.bits))) rfl rfl) (au ?_));refine gF ?_;exact gD ((⟨x.kind,bQ,x.key,x.bits,0⟩:aO),jK x.key x.bits,gM (lZ x.key x.bits)) ⟨mX.symm,fun g=>⟨yd.trans (KD.1 g),DI.symm⟩,fun g=>by rw[yd];cases hq:lZ x.key x.bits with|false=>rfl|true=>simp only[hq]at g;exact absurd rfl g,oF⟩ sb (fun w hw=>ah.mem hw)
  have Bp:kx x=if x.kind=5\/x.kind=6 then decide (0<=x.n.toInt/\x.n.toInt<=999)else decide (x.kind=3\/x.kind=7\/x.kind=8):=by rw[kx,if_neg (fun g=>g.elim h0 h1),if_neg h2]
  have zD:mJ x=if x.kind=5\/x.kind=6 then(⟨x.kind,bQ,0#128,0,x.n⟩:aO)else(⟨x.kind,bQ,0#128,0,0⟩:aO):=by rw[mJ,if_neg h0,if_neg h1,if_neg h2]
  have hr4:np x=dec x.n.toInt.toNat:=by rw[np,if_neg h0,if_neg h1,if_neg h2]
  refine qY (X:=Bool) (fun U=>[(53, .bool U),(1, .pointer (some ⟨b1,0,none⟩)),(4, .pointer (some ⟨b4,0,none⟩)),(5, .string ⟨[].toArray⟩),(6, .int .i64 0),(11, .int .i64 x.kind)]) (fun U=>[aq b4 (bA (⟨x.kind,bQ,0#128,0,0⟩:aO)) 73,aq b1 (bA x) 73]) (fun U=>U=decide (x.kind=5\/x.kind=6)) ?_ ?_
  ·
   refine ar ?_;refine Gb ?_ ?_<;>intro h3
   ·refine Gi ?_;exact gD (decide (x.kind=5)) (by simp[h3]) sb (fun w hw=>ah.mem hw)
   refine Gi ?_;refine au ?_;refine Gi ?_;exact gD (decide (x.kind=6)) (by simp[h3]) sb (fun w hw=>ah.mem hw)
  rintro z hz;refine Gb ?_ ?_<;>intro h4
  ·
   have qJ:x.kind=5\/x.kind=6:=of_decide_eq_true (hz.symm.trans h4);rw[if_pos qJ]at Bp zD;refine ar ?_;refine dO (cs':=bA (⟨x.kind,bQ,0#128,0,x.n⟩:aO)) rfl rfl (by rw[nf];decide) rfl (Us (⟨x.kind,bQ,0#128,0,0⟩:aO) x.n) (QH ?_);refine Gb ?_ ?_<;>intro h5
   ·refine Gi ?_;refine Gs ?_;refine gF ?_;exact gD ((⟨x.kind,bQ,0#128,0,x.n⟩:aO),Lib.itoa x.n.toInt,1) ⟨zD.symm,fun g=>absurd (show(1:Int)=0 from g) dDq,fun _=>by rw[Bp];exact decide_eq_false oF,oF⟩ sb (fun w hw=>ah.mem hw)
   refine gF ?_;exact gD ((⟨x.kind,bQ,0#128,0,x.n⟩:aO),Lib.itoa x.n.toInt,0) ⟨zD.symm,fun _=>⟨by rw[Bp];exact decide_eq_true oF,by rw[hr4];exact acd oF⟩,fun g=>absurd rfl g,oF⟩ sb (fun w hw=>ah.mem hw)
  have qJ: ¬(x.kind=5\/x.kind=6):=of_decide_eq_false (hz.symm.trans h4);rw[if_neg qJ]at Bp zD;refine qY (X:=Bool) (fun U=>[(70, .bool U),(1, .pointer (some ⟨b1,0,none⟩)),(4, .pointer (some ⟨b4,0,none⟩)),(5, .string ⟨[].toArray⟩)]) (fun U=>[aq b4 (bA (⟨x.kind,bQ,0#128,0,0⟩:aO)) 73,aq b1 (bA x) 73]) (fun U=>U=decide (x.kind=3\/x.kind=7\/x.kind=8)) ?_ ?_
  ·
   refine ar ?_;refine Gb ?_ ?_<;>intro h6
   ·refine Gi ?_;exact gD (decide (x.kind=3)) (by simp[h6]) sb (fun w hw=>ah.mem hw)
   refine ar ?_;refine Gb ?_ ?_<;>intro h7
   ·refine Gi ?_;exact gD (decide (x.kind=7)) (by simp[h7]) sb (fun w hw=>ah.mem hw)
   refine Gi ?_;refine au ?_;refine Gi ?_;exact gD (decide (x.kind=8)) (by simp[h6,h7]) sb (fun w hw=>ah.mem hw)
  rintro q hq;refine Gb ?_ ?_<;>intro h8
  ·
   have DJ:x.kind=3\/x.kind=7\/x.kind=8:=of_decide_eq_true (hq.symm.trans h8);refine al ?_;refine ag (E9 rfl rfl) (Gc ?_);refine Gb ?_ ?_<;>intro h9
   ·
    have fj:eV x=false:=by rw[eV,zD,decide_eq_false h9,awj]
    refine ar ?_;refine Gr fun w1 hw=>?_;exact⟨(by rw[(Gn fj).1,(Gn fj).2]),ah.mem hw⟩
   have sD:eV x=true:=qy.2 ⟨by rw[Bp];exact decide_eq_true DJ,zD.trans h9⟩;refine cX ?_;refine Gr fun w1 hw=>?_;exact⟨(by rw[(AK sD).1,(AK sD).2,fJ,if_pos DJ]),ah.mem hw⟩
  have DJ: ¬(x.kind=3\/x.kind=7\/x.kind=8):=of_decide_eq_false (hq.symm.trans h8);refine Gi ?_;refine Gs ?_;refine gF ?_;exact gD ((⟨x.kind,bQ,0#128,0,0⟩:aO),[],1) ⟨zD.symm,fun g=>absurd (show(1:Int)=0 from g) dDq,fun _=>by rw[Bp];exact decide_eq_false DJ,DJ⟩ sb (fun w hw=>ah.mem hw)
 rintro⟨y,t,e⟩ ⟨fP,dB,gJ,kh⟩;dsimp only;simp only at fP dB gJ kh;refine ar ?_;refine bU rfl rfl rfl (fun hg=>(Ry.yl (jU rfl))) (bU rfl rfl rfl (fun hg=>(Ry.yl (jU rfl))) (bU rfl rfl rfl (fun hg=>(Ry.yl (E9 (aG hg rfl) (aG hg rfl)))) (au ?_)));refine Gb (fun lG=>?_) fun lG=>?_
 ·
  have fj:eV x=false:=by
   rw[eV];rcases lG with g|g
   ·rw[gJ g,awt]
   rw[←fP,decide_eq_false g,awj]
  refine ar ?_;refine Gr fun w1 hw=>?_;exact⟨(by rw[(Gn fj).1,(Gn fj).2]),ah.mem hw⟩
 have sD:eV x=true:=qy.2 ⟨(dB lG.1).1,fP.symm.trans lG.2⟩;have Uv:=(dB lG.1).2;have tO:=Q8 sD;refine ar ?_;refine ag (jq rfl rfl (by simp only[ad2,alM];omega)) (Gs ?_);refine ag (jq rfl rfl (by rw[Uv];simp only[adr,ad2,alM];omega)) (al ?_);refine Gr fun w1 hw=>?_;exact⟨(by rw[(AK sD).1,(AK sD).2,fJ,if_neg kh,Uv,at4];rfl),ah.mem hw⟩⟩
end Go.Proofs.YtkggjjnhnjjokaaGreatDoor
namespace Go.ax
open Go.RowKit
variable {w0:World}{L:List ai}
theorem Mem.putObj{w:World}{e e':ai}{l:Nat}{o:Obj}(h:Mem w0 (e::L) w)(vu: ∀k,e'.fp k->e.fp k)(hl:e.fp l)
  (I5:e'.sat fun k=>(w.putObj l o).heap[k]?):Mem w0 (e'::L) (w.putObj l o):=
 h.change (i:=0) rfl vu (fun k hk=>World.putObj_heap_other (fun xk=>hk (xk▸hl))) World.putObj_size ⟨rfl,rfl,rfl⟩ I5
section
variable {P:Program} {N:cA} {w0:World} {env:Env} {L:List ai} {Q:Exit->Act->World->Prop}
end
section
variable {P:Program} {n:Nat} {w0:World} {env:Env} {L:List ai} {Q:Exit->Act->World->Prop} {l:List Oper} {k:Nat} {rest:List Oper}
theorem drop_at{α:Type}{l rest:List α}{k:Nat}{o:α}(h:l.drop k=o::rest):l[k]? =some o/\l.drop (k+1)=rest:=by
 constructor
 ·have:=congrArg (·[0]?) h;simpa using this
 have:=congrArg (List.drop 1) h;simpa[av0,awH]using this
end
def omap(P:Program)(k:TypeId){α β:Type}(dA:α->Value)(eP:β->Value)(b:Nat)(f:α->Option β):ai:=
  ⟨fun i=>i=b,fun h=> ∃(es:Array MapEntry) (clock:Nat) (m:List (α×β)),h b=some (.map es clock)/\es.toList.map (fun e=>(e.key,e.val))=m.map (fun p=>(dA p.1,eP p.2))/\
    (∀p∈m,∃l,keyOf P k (dA p.1)=some l)/\(m.map Prod.fst).Nodup/\(∀x v,f x=some v↔(x,v)∈m),
   fun h h' e st=>by rw[e b rfl];exact st⟩
class Bq(P:Program)(t:TypeId)(k e:outParam TypeId):Prop where
  eK:P.underlying t=some (.map k e)
class DK(P:Program)(k:TypeId):Prop where
  K:Maps.Keyed P k
class DL{α:Type}(dA:α->Value):Prop where
  inj: ∀{a b:α},dA a=dA b->a=b
class ye(P:Program)(L:List ai)(b:Nat){α β:outParam Type}(k:TypeId)(dA:outParam (α->Value))(eP:outParam (β->Value))(f:outParam (α->Option β))(i:outParam Nat):Prop where
  h:L[i]? =some (omap P k dA eP b f)
instance (priority:=high) ye.here {P:Program}{L:List ai}{b:Nat}{α β:Type}{k:TypeId}{dA:α->Value}{eP:β->Value}{f:α->Option β}:ye P (omap P k dA eP b f::L) b k dA eP f 0:=⟨rfl⟩
instance ye.there{P:Program}{L:List ai}{e:ai}{b:Nat}{α β:Type}{k:TypeId}{dA:α->Value}{eP:β->Value}{f:α->Option β}{i:Nat}[q:ye P L b k dA eP f i]:ye P (e::L) b k dA eP f (i+1):=⟨by simpa using q.h⟩
theorem Uw{P:Program}{k:TypeId}{α β:Type}{dA:α→Value}{eP:β→Value}{f:α→Option β}[K:DK P k][I:DL dA]{es:Array MapEntry}{m:List (α×β)}(h1:es.toList.map (fun e=>(e.key,e.val))=m.map (fun p=>(dA p.1,eP p.2)))
    (h2: ∀p∈m,∃l,keyOf P k (dA p.1)=some l) (h3: ∀x v,f x=some v↔(x,v)∈m) {x:α} (hx: ∃l,keyOf P k (dA x)=some l) (w:World):
    ((Instr.findKey k (dA x) es.toList).run P w= .ok none w/\f x=none/\ ∀v,(x,v)∉m)\/ ∃(j:Nat) (v:β),(Instr.findKey k (dA x) es.toList).run P w= .ok (some (j,eP v)) w/\m[j]? =some (x,v)/\f x=some v/\(es[j]?).map (·.key)=some (dA x):=by
  have ke: ∀j:Nat,(es.toList[j]?).map (fun e=>(e.key,e.val))=(m[j]?).map (fun p=>(dA p.1,eP p.2)):=fun j=>by rw[←aua,←aua,h1]
  have jh: ∀e∈es.toList,∃l,keyOf P k e.key=some l:=fun e he=>by
    obtain⟨j,hj,rfl⟩:=awL he;have:=ke j;rw[at2 hj]at this
    cases hm:m[j]?with
    |none=>rw[hm]at this;cases this
    |some p=>
     rw[hm]at this;simp only[auI,avz,aw0]at this;rw[this.1];exact h2 p (atl hm)
  obtain⟨lx,wm⟩:=hx;rcases K.K.find w wm es.toList jh with⟨hr,hn⟩|⟨j,e,hr,hj,hk⟩
  ·have fj: ∀v,(x,v)∉m:=fun v hv=>by
      obtain⟨j,hj,hje⟩:=awL hv;have:=ke j;rw[at2 hj,hje]at this
      cases he:es.toList[j]?with
      |none=>rw[he]at this;cases this
      |some e=>
       rw[he]at this;simp only[auI,avz,aw0]at this;exact hn e (atl he) this.1
   refine .inl ⟨hr,?_,fj⟩
   cases hf:f x with
   |none=>rfl
   |some v=>exact absurd ((h3 x v).1 hf) (fj v)
  ·have:=ke j
   rw[hj]at this
   cases hm:m[j]?with
   |none=>rw[hm]at this;cases this
   |some p=>
    rw[hm]at this;simp only[auI,avz,aw0]at this;have hp:p.1=x:=I.inj (this.1.symm.trans hk);refine .inr ⟨j,p.2,by rw[hr,this.2],by rw[hm,←hp],(h3 x p.2).2 (by rw[←hp];exact atl hm),?_⟩;have jn:es[j]? =some e:=by simpa using hj
    rw[jn,auI,hk]
section
variable {P:Program} {N:cA} {w0:World} {env:Env} {L:List ai} {d:Option Tmp} {ty:TypeId} {ps:String} {af:Array Edge} {gd:Option (Nat×Bool)} {α β:Type} {dA:α->Value} {eP:β->Value} {f:α->Option β}
theorem run_getObj_map{w:World}{b:Nat}{es:Array MapEntry}{clock:Nat}(h:w.heap[b]? =some (.map es clock)):(getObj b).run P w= .ok (.map es clock) w:=by simp[getObj,Sem.run,h]
theorem run_setObj_map{w:World}{b:Nat}{es:Array MapEntry}{clock:Nat}(o:Obj)(h:w.heap[b]? =some (.map es clock)):(setObj b o).run P w= .ok () (w.putObj b o):=by simp[setObj,Sem.run,h,World.putObj]
theorem Mm{t k e:TypeId}{m x:Operand}{b i:Nat}{z:β}{v:α}[ht:Bq P t k e][K:DK P k][I:DL dA][hz:eY P e (eP z)](hm:ev env m=some (.map (some b)))(hx:ev env x=some (dA v))[q:ye P L b k dA eP f i](hv: ∃l,keyOf P k (dA v)=some l):
    Ry P N w0 env L ⟨d, .lookup t m x true,ty,ps,af,gd⟩ (.tuple #[eP ((f v).getD z), .bool (f v).isSome]):=fun a w ha hw=>by
  obtain⟨es,clock,ml,h0,h1,h2,_,h3⟩:=hw.get q.h;obtain⟨l,hl⟩:=hv;have hc:=K.K.check w es.isEmpty hl;simp only[execOp,ha.ev hm,ha.ev hx,Instr.lookup,Sem.run_bind,run_underlying ht.eK,Result.andThen,run_getObj_map h0,Sem.run_pure,hc];rcases Uw (P:=P) (k:=k) h1 h2 h3 ⟨l,hl⟩ w with⟨hr,hf,_⟩|⟨j,u,hr,_,hf,_⟩
  ·simp only[hr,hf,Option.getD_none,E7 w hz,Sem.run_bind,Result.andThen,Sem.run_pure];rfl
  ·simp only[hr,hf,avM,Sem.run_pure];rfl
end
section
variable {P:Program} {N:cA} {w0:World} {env:Env} {L:List ai} {l:List Oper} {Q:Exit->Act->World->Prop} {rest:List Oper} {d:Option Tmp} {ty:TypeId} {ps:String} {af:Array Edge} {α β:Type} {dA:α->Value} {eP:β->Value} {f:α->Option β}
theorem Mem.Ux{w:World}(P:Program)(k:TypeId)(dA:α->Value)(eP:β->Value)(h:Mem w0 L w):Mem w0 (omap P k dA eP w.heap.size (fun _=>none)::L) (w.alloc (.map #[] 0)):=by
  refine h.call (E:=[omap P k dA eP w.heap.size (fun _=>none)]) ⟨(Below.refl _ _).alloc (at5 _) _,fun e he=>?_,fun e he j hj=>?_,by simp⟩
  ·obtain rfl:e=omap P k dA eP w.heap.size (fun _=>none):=by simpa using he
   exact⟨#[],0,[],Below.B6 w _,rfl,by simp,by simp,by simp⟩
  ·obtain rfl:e=omap P k dA eP w.heap.size (fun _=>none):=by simpa using he
   have:j=w.heap.size:=hj;subst this;simp
theorem afD{t k e:TypeId}(dA:α→Value)(eP:β→Value){r:Operand}{kk:IntKind}{n:Int}[ht:Bq P t k e](hr:ev env r=some (.int kk n))(hk: ∀b,Sq P N w0 l Q rest (cr env d (.map (some b))) (omap P k dA eP b (fun _=>none)::L))(hd:dq N d=true:=by rfl):
    Sq P N w0 l Q (⟨d, .makeMap t (some r),ty,ps,af,none⟩::rest) env L:=
  nK rfl hd fun a w ha hw=>⟨_,_,_,by
    simp only[execOp,auI,ha.ev hr,Instr.makeMap,Sem.run_bind,run_underlying ht.eK,Result.andThen,Sem.run_pure,asInt,asIntOf,newObj,Sem.run];rfl,hw.Ux P k dA eP,hk _⟩
theorem Uy{t k e:TypeId}(dA:α→Value)(eP:β→Value)[ht:Bq P t k e](hk: ∀b,Sq P N w0 l Q rest (cr env d (.map (some b))) (omap P k dA eP b (fun _=>none)::L))(hd:dq N d=true:=by rfl):
    Sq P N w0 l Q (⟨d, .makeMap t none,ty,ps,af,none⟩::rest) env L:=
  nK rfl hd fun a w ha hw=>⟨_,_,_,by
    simp only[execOp,Option.map_none,Instr.makeMap,Sem.run_bind,Result.andThen,Sem.run_pure,newObj,Sem.run];rfl,hw.Ux P k dA eP,hk _⟩
theorem afE{t k e:TypeId}{m x y:Operand}{b i:Nat}{v:α}{u:β}[DecidableEq α][ht:Bq P t k e][K:DK P k][I:DL dA](hm:ev env m=some (.map (some b)))(hx:ev env x=some (dA v))(hy:ev env y=some (eP u))[q:ye P L b k dA eP f i](hv: ∃l,keyOf P k (dA v)=some l)
    {L':List ai} [hu:fZ L i (omap P k dA eP b (fun z=>if z=v then some u else f z)) L'] {a:Act} {w:World} (ha:dC N env a) (hw:Mem w0 L w):
    ∃w',(execOp a.eval ⟨none, .mapUpdate t m x y,ty,ps,af,none⟩).run P w= .ok .skip w'/\Mem w0 L' w':=by
  obtain⟨es,clock,ml,h0,h1,h2,cL,h3⟩:=hw.get q.h;obtain⟨lk,hl⟩:=hv;have hc:=K.K.check w false hl;have bD:=K.K.stays w hl;have step: ∀o:Obj,(omap P k dA eP b (fun z=>if z=v then some u else f z)).sat (fun j=>(w.putObj b o).heap[j]?)->Mem w0 L' (w.putObj b o):=fun o ho=>by
    rw[←hu.h];exact hw.change q.h (fun j hj=>hj) (fun j hj=>World.putObj_heap_other (fun e=>hj e)) World.putObj_size ⟨rfl,rfl,rfl⟩ ho
  have bq:b<w.heap.size:=(avF.1 h0).1;rcases Uw (P:=P) (k:=k) h1 h2 h3 ⟨lk,hl⟩ w with⟨hr,hf,fj⟩|⟨j,u0,hr,hj,hf,afF⟩
  ·refine⟨w.putObj b (.map (es.push {key:=dA v,val:=eP u,born:=clock}) (clock+1)),?_,step _ ⟨_,_,ml++[(v,u)],World.putObj_heap_same bq,?_,?_,?_,?_⟩⟩
   ·simp only[execOp,ha.ev hm,ha.ev hx,ha.ev hy,Instr.mapUpdate,Sem.run_bind,run_underlying ht.eK,Result.andThen,run_getObj_map h0,hc,hr,run_setObj_map _ h0,Sem.run_pure]
   ·simp[h1]
   ·intro p hp
    rcases at7.1 hp with hp|hp
    ·exact h2 p hp
    ·obtain rfl:p=(v,u):=by simpa using hp
     exact⟨lk,hl⟩
   ·rw[auv,avP]
    refine⟨cL,by simp,fun x1 pU y1 HE e1=>?_⟩;obtain rfl:y1=v:=by simpa using HE
    subst e1;obtain⟨p,hp,rfl⟩:=ava.1 pU;exact fj p.2 hp
   ·intro x' v'
    show(if x'=v then some u else f x')=some v'↔_
    by_cases e:x'=v
    ·subst e;rw[if_pos rfl]
     constructor
     ·intro h;cases h;simp
     ·intro h
      rcases at7.1 h with h|h
      ·exact absurd h (fj v')
      ·simp at h;rw[h]
    ·rw[if_neg e,h3 x' v'];simp[e]
  ·have km:j<ml.length:=(zz.1 hj).1
   refine⟨w.putObj b (.map (es.modify j fun e=>{e with key:=dA v,val:=eP u}) clock),?_,step _ ⟨_,_,ml.set j (v,u),World.putObj_heap_same bq,?_,?_,?_,?_⟩⟩
   ·simp only[execOp,ha.ev hm,ha.ev hx,ha.ev hy,Instr.mapUpdate,Sem.run_bind,run_underlying ht.eK,Result.andThen,run_getObj_map h0,hc,hr,afF,avM,bD,run_setObj_map _ h0,Sem.run_pure]
   ·refine au6 fun n=>?_
    have:=congrArg (·[n]?) h1;simp only[aua]at this⊢;rw[au1]
    by_cases e:j=n
    ·subst e
     rw[if_pos rfl,if_pos km];rw[hj]at this
     cases he:es.toList[j]?with
     |none=>rw[he]at this;cases this
     |some e0=>
      have sU:es[j]? =some e0:=by simpa using he
      simp[Array.getElem?_modify,sU]
    ·rw[if_neg e,←this]
     simp[Array.getElem?_modify,e]
   ·intro p hp
    rcases auG hp with hp|rfl
    ·exact h2 p hp
    ·exact⟨lk,hl⟩
   ·rw[awe]
    have:(ml.map Prod.fst)[j]? =some v:=by rw[aua,hj];rfl
    rw[show(ml.map Prod.fst).set j (v,u).1=ml.map Prod.fst from by
        refine au6 fun n=>?_;rw[au1]
        by_cases e:j=n
        ·subst e;rw[if_pos rfl,if_pos (by simpa using km),this]
        ·rw[if_neg e]]
    exact cL
   ·intro x' v'
    have afG: ∀n p,ml[n]? =some p→p.1=v→n=j:=fun n p hn hp=>by
        have a1:(ml.map Prod.fst)[n]? =some v:=by rw[aua,hn,auI,hp]
        have a2:(ml.map Prod.fst)[j]? =some v:=by rw[aua,hj];rfl
        exact(List.getElem?_inj (by simpa using(zz.1 hn).1) cL).1 (a1.trans a2.symm)
    show(if x'=v then some u else f x')=some v'↔_
    by_cases e:x'=v
    ·subst e;rw[if_pos rfl]
     constructor
     ·intro h;cases h
      exact atl (i:=j) (by rw[au1,if_pos rfl,if_pos km])
     ·intro h
      obtain⟨n,hn⟩:=avv.1 h;rw[au1]at hn
      by_cases en:j=n
      ·rw[if_pos en,if_pos km]at hn;simp only[avz,aw0,true_and]at hn;rw[hn]
      ·rw[if_neg en]at hn;exact absurd (afG n _ hn rfl).symm en
    ·rw[if_neg e,h3 x' v']
     constructor
     ·intro h
      obtain⟨n,hn⟩:=avv.1 h;refine atl (i:=n) ?_;rw[au1,if_neg,hn];rintro rfl;rw[hj]at hn;simp only[avz,aw0]at hn;exact e hn.1.symm
     ·intro h
      rcases auG h with h|h
      ·exact h
      ·simp only[aw0]at h;exact absurd h.1 e
theorem Mn{t k e:TypeId}{m x y:Operand}{b i:Nat}{v:α}{u:β}[DecidableEq α][ht:Bq P t k e][K:DK P k][I:DL dA](hm:ev env m=some (.map (some b)))(hx:ev env x=some (dA v))(hy:ev env y=some (eP u))[q:ye P L b k dA eP f i](hv: ∃l,keyOf P k (dA v)=some l)
    {L':List ai} [hu:fZ L i (omap P k dA eP b (fun z=>if z=v then some u else f z)) L'] (hk:Sq P N w0 l Q rest env L'):
    Sq P N w0 l Q (⟨none, .mapUpdate t m x y,ty,ps,af,none⟩::rest) env L:=
  Fb rfl rfl fun a w ha hw=>by
    obtain⟨w',h1,h2⟩:=afE (t:=t) (k:=k) (e:=e) (ty:=ty) (ps:=ps) (af:=af) hm hx hy hv (L':=L') ha hw;exact⟨w',L',h1,h2,hk⟩
end
end Go.ax
namespace Go.Proofs.YtkggjjnhnjjokaaGreatDoor
open Go.ax Go.Kb Go.RowKit Go.Proofs.Tryz
instance:eY prog 97 (.agg (cH AN)):=⟨kRq⟩
instance:eY prog 180 (.agg (cq rk)):=⟨kRq⟩
instance:eY prog 59 (.agg (aV ib)):=⟨kRq⟩
instance:eY prog 5 (.int .u8 0):=⟨kRq⟩
instance:eY prog 53 (.slice none 0 0):=⟨kRq⟩
variable {w0:World}{L:List ai}
instance aqz{b:Int}{n:Int}{s:Int}:bV prog 93 w0 L [.int .i64 b, .int .i64 n, .int .i64 s] (.bool (vY b n s)) (True):=⟨fun aC w hw=>by
 refine th func93 rfl ntmps93 rfl ?_;refine aaR ?_;refine Gr fun w1 hw=>?_;exact⟨congrArg (fun b=>Ending.returned (Value.bool b)) (rfl),ah.mem hw⟩⟩
instance aqA{c:Cp}[hc:aX w0 L c]:bV prog 106 w0 L [.agg (aV c)] (.bool (aW (cv c))) (True):=⟨fun aC w hw=>by
 have hc:=hc.h w hw;have lN:cQ w c:=⟨hc⟩;have dI:=iv c.blocks.xs;have bJ:aW (cv c)=true↔vY c.blocks.xs.length c.pages c.size=true/\0<=c.ops/\c.ops<=cT/\c.aA.xs.length<=64/\ ∀b∈jv c.blocks.xs,rn c.pages c.size b=true:=by rw[eN];simp only[cv,dI]
 have pS:cT=1099511627776:=rfl;refine cx func106 rfl ntmps106 rfl ?_;refine Gc ?_;refine cn rfl fun b1=>aaS ?_;refine Gb ?_ ?_<;>intro h0
 ·
  have hz:aW (cv c)=false:=by
   cases hk:aW (cv c)with
   |false=>rfl
   |true=>
    have g:=bJ.1 hk;rw[g.1]at h0;simp only[avK,false_or]at h0;omega
  refine al ?_;refine Gr fun w1 hw=>?_;exact Ge (hz.symm) hw
 have g0:vY c.blocks.xs.length c.pages c.size=true/\0<=c.ops/\c.ops<=cT/\c.aA.xs.length<=64:=by
  cases hk:vY c.blocks.xs.length c.pages c.size with
  |false=>rw[hk]at h0;simp at h0
  |true=>rw[hk]at h0;simp only[avK,not_false_eq_true,true_and]at h0;exact⟨rfl,oM,oM,oM⟩
 have gs:=mK.1 g0.1;refine aY ?_;refine cg (X:=Nat) (fun U=>[(35, .int .i64 (U:Nat)),(1, .pointer (some ⟨b1,0,none⟩)),(33,c.blocks.sv.val),(34, .int .i64 (c.blocks.xs.length:Nat))]) (fun U=>[aq b1 (aV c) 59]) (fun U=>U<=c.blocks.xs.length/\ ∀j b,j<U->(jv c.blocks.xs)[j]? =Option.some b->rn c.pages c.size b=true) (fun U=>c.blocks.xs.length -U) 0 ⟨Nat.zero_le _,fun j b hj=>by first|omega|(simp only[];omega)⟩ sb (fun w hw=>ah.mem hw) ?_;rintro i ⟨bg,aK⟩;refine al ?_;refine Gb ?_ ?_<;>intro h1
 ·
  refine l6 ?_;obtain⟨x,hx⟩:=get_some (xs:=c.blocks.xs) (i:=i) oM;refine ag (bf rfl rfl i rfl oM) (ag (gV rfl i hx rfl) ?_);have aqB:Mb x c.blocks:=⟨List.mem_of_getElem? hx⟩;refine bn fun b4=>QL ?_;refine Gb ?_ ?_<;>intro h2
  ·
   have hz:aW (cv c)=false:=by
    cases hk:aW (cv c)with
    |false=>rfl
    |true=>
     have g:=fy.1 ((bJ.1 hk).2.2.2.2 (bv x) (atl (nY hx)));simp only[bv,pJ]at g;omega
   refine al ?_;refine Gr fun w1 hw=>?_;exact Ge (hz.symm) hw
  refine aY ?_;refine cg (X:=Nat) (fun U=>[(70, .int .i64 (U:Nat)),(1, .pointer (some ⟨b1,0,none⟩)),(33,c.blocks.sv.val),(34, .int .i64 (c.blocks.xs.length:Nat)),(35, .int .i64 (i:Nat)),(68,x.pages.sv.val),(69, .int .i64 (x.pages.xs.length:Nat))]) (fun U=>[aq b4 (cq x) 180,aq b1 (aV c) 59]) (fun U=>U<=x.pages.xs.length/\ ∀k y,k<U->(bv x).pages[k]? =Option.some y->(y.length:Int)=c.size) (fun U=>x.pages.xs.length -U) 0 ⟨Nat.zero_le _,fun k y hk=>by first|omega|(simp only[];omega)⟩ sb (fun w hw=>ah.mem hw) ?_;rintro j ⟨fP,dB⟩;refine al ?_;refine Gb ?_ ?_<;>intro h3
  ·
   refine l6 ?_;obtain⟨y,hy⟩:=get_some (xs:=x.pages.xs) (i:=j) oM;refine ag (bf rfl rfl j rfl oM) (ag (bW (j:=0) rfl j hy rfl dDq) ?_);have aqC:Mb y _:=⟨List.mem_of_getElem? hy⟩;refine fS ?_;refine Gb ?_ ?_<;>intro h4
   ·
    have hz:aW (cv c)=false:=by
     cases hk:aW (cv c)with
     |false=>rfl
     |true=>
      have g:=(fy.1 ((bJ.1 hk).2.2.2.2 (bv x) (atl (nY hx)))).2.2.2.2.2 y.xs (atl (rl hy));omega
    refine al ?_;refine Gr fun w1 hw=>?_;exact Ge (hz.symm) hw
   refine al ?_;refine Gi ?_;exact bo (x:=(j)) (j+1) ⟨oF,fun k z hk hz=>if e:k=j then(by subst e;rw[show(bv x).pages=aR x.pages.xs from rfl,rl hy]at hz;cases hz;omega)else dB k z oF hz⟩ oF sb (fun w hw=>ah.mem hw)
  have xG:rn c.pages c.size (bv x)=true:=fy.2 ⟨by simp only[bv,pJ];omega,by simp only[bv];omega,by simp only[bv];omega,by simp only[bv];omega,by simp only[bv];omega,fun y hy=>by
   obtain⟨k,hk⟩:=aul hy;exact dB k y (by have h:=(zz.1 hk).1;simp only[bv,pJ]at h;omega) hk⟩
  refine al ?_;refine Gi ?_;exact bo (x:=(i)) (i+1) ⟨oF,fun j b hj hb=>if e:j=i then(by subst e;rw[nY hx]at hb;cases hb;exact xG)else aK j b oF hb⟩ oF sb (fun w hw=>ah.mem hw)
 obtain rfl:i=c.blocks.xs.length:=by omega
 have hz:aW (cv c)=true:=bJ.2 ⟨g0.1,g0.2.1,g0.2.2.1,g0.2.2.2,fun b hb=>by
  obtain⟨j,hj⟩:=aul hb;exact aK j b (by have:=(zz.1 hj).1;omega) hj⟩
 refine al ?_;refine Gr fun w1 hw=>?_;exact⟨congrArg (fun b=>Ending.returned (Value.bool b)) (hz.symm),ah.mem hw⟩⟩
theorem afH{xs:List UInt8}{k i:Nat}(h:k+i<xs.length):(xs.take k++(List.replicate i 255++xs.drop (k+i))).set (k+i) 255=xs.take k++(List.replicate (i+1) 255++xs.drop (k+(i+1))):=by
 rw[avS _ _ (by rw[at3];omega),at3,awl oM,auM,avS _ _ (by simp),auQ,avX,av2 h,avo,List.replicate_succ',at4,List.singleton_append,avy]
theorem afI(w0 w:World)(L:List ai)(rm:Sv)(k:Nat)(n:Nat)(cap:Nat)(xs:List UInt8)(hw:Mem w0 (own aQ 1 rm xs::L) w)(aC:k+n<=xs.length/\n<=1000000):Calls prog 94 #[.slice (some ⟨rm.b,rm.o+k,none⟩) n cap] w fun e w'=> ∃U:Unit,e= .returned (.tuple #[])/\(True)/\Mem w0 (own aQ 1 rm (xs.take k++(List.replicate n 255++xs.drop (k+n)))::L) w':=by
 obtain⟨mq,jM⟩:=aC;refine hY (args:=[_]) func94 rfl ntmps94 rfl hw ?_;change Cw _ _ _ _ _ [(0, .slice (some ⟨rm.b,rm.o+k,none⟩) n cap)] (own aQ 1 rm xs::L);refine au ?_;refine ag (yL rfl) (au ?_);refine cg (X:=Nat×List UInt8) (fun U=>[(5, .int .i64 (U.1:Nat)),(0, .slice (some ⟨rm.b,rm.o+k,none⟩) n cap),(4, .int .i64 (n:Nat))]) (fun U=>own aQ 1 rm U.2::L) (fun U=>U.1<=n/\U.2=xs.take k++(List.replicate U.1 255++xs.drop (k+U.1))) (fun U=>n -U.1) (0,xs) ⟨Nat.zero_le _,by simp⟩ sb (fun w hw=>ah.mem hw) ?_;rintro⟨i,zs⟩ ⟨bg,aK⟩;dsimp only;simp only at bg aK;have rC:zs.length=xs.length:=by rw[aK];simp only[List.length_append,List.length_take,List.length_replicate,List.length_drop];omega
 refine al ?_;refine Gb ?_ ?_<;>intro h0
 ·refine aY ?_;refine ag (OQ (b:=rm.b) (o:=rm.o+k) (len:=n) (cap:=cap) rfl rfl oM oM) ?_;obtain⟨z,hz⟩:=get_some (xs:=zs) (i:=k+i) oM;refine mC (s:=rm) (n:=1) (k:=k+i) (j:=0) (a:=z) (a':=(255:UInt8)) (xs:=zs) (enc:=aQ) (c:=1) (v:= .int .u8 255) oK rfl rfl oM hz (by simp[Value.cells,Value.oneCell']) rfl oM (by rfl) (al ?_);refine Gi ?_;exact bo (x:=(i,zs)) (i+1,zs.set (k+i) 255) ⟨oF,by rw[aK];exact afH oF⟩ (by simp only;omega) sb (fun w hw=>ah.mem hw)
 obtain rfl:i=n:=by omega
 refine Gc ?_;refine eE (.inr rfl) (kg rfl) (fun w1 hw=>?_);exact⟨(),rfl,trivial,by rw[←aK];exact ah.mem hw⟩
instance afJ{w0:World}{L L2:List ai}{i:Nat}{rm:Sv}{k:Nat}{n:Nat}{cap:Nat}{xs:List UInt8}[q:gg L rm aQ 1 xs i][d1:ct L i L2]:bY prog 94 w0 L [.slice (some ⟨rm.b,rm.o+k,none⟩) n cap] (Unit) (fun U=> .tuple #[]) (fun U=>own aQ 1 rm (xs.take k++(List.replicate n 255++xs.drop (k+n)))::L2) (fun U=>True) (k+n<=xs.length/\n<=1000000):=⟨fun hp w hw=>afI w0 w L2 rm k n cap xs (F8 q.h d1.h hw) hp⟩
instance aqD{s:Sv}{ss:List Bk}[hs:dG w0 L cq 4 s ss]:bY prog 162 w0 L [s.val] (Sv) (fun U=>U.val) (fun U=>own cq 4 U ss::L) (fun U=>True) (ss.length<=1000000):=⟨fun aC w hw=>Gk (fun U=>[own cq 4 U ss]) hw (by
 have hs:=hs.h w hw;have zw:Gv w s cq 4 ss:=⟨hs⟩;refine cx func162 rfl ntmps162 rfl ?_;refine ar ?_;refine ag (vK underlying56 rfl) (Gc ?_);refine Gb ?_ ?_<;>intro h0
 ·have e0:ss=[]:=aun.1 (by have:=hs.ok.nil h0;have:=hs.len;omega);refine al ?_;refine Gr fun w1 hw=>?_;exact⟨Sv.none,rfl,trivial,by rw[e0];exact(ah.mem hw:Mem w [] _).dE cq 4⟩
 refine Gc ?_;refine w9 cq fun b5=>Gs ?_;refine mB (s:=⟨false,b5,0,0,0,none⟩) (enc:=cq) (ys:=ss) rfl rfl dDq (fun w hw=>iQ (s:=s) underlying56 dDq ((inferInstance:dG _ _ cq 4 s ss).h w hw)) (by simp only[alM];omega) (by simp only[alM];omega) fun s7 zx xU=>?_;refine au ?_;refine Gr fun w1 hw=>?_;exact⟨s7,rfl,trivial,by rw[auS]at hw;exact ah.mem hw⟩)⟩
instance aqE{s:Sv}{ss:List Ft}[hs:dG w0 L cH 4 s ss]:bY prog 107 w0 L [s.val] (Sv) (fun U=>U.val) (fun U=>own cH 4 U ss::L) (fun U=>True) (ss.length<=1000000):=⟨fun aC w hw=>Gk (fun U=>[own cH 4 U ss]) hw (by
 have hs:=hs.h w hw;have zw:Gv w s cH 4 ss:=⟨hs⟩;refine cx func107 rfl ntmps107 rfl ?_;refine ar ?_;refine ag (vK underlying57 rfl) (Gc ?_);refine Gb ?_ ?_<;>intro h0
 ·have e0:ss=[]:=aun.1 (by have:=hs.ok.nil h0;have:=hs.len;omega);refine al ?_;refine Gr fun w1 hw=>?_;exact⟨Sv.none,rfl,trivial,by rw[e0];exact(ah.mem hw:Mem w [] _).dE cH 4⟩
 refine Gc ?_;refine w9 cH fun b5=>Gs ?_;refine mB (s:=⟨false,b5,0,0,0,none⟩) (enc:=cH) (ys:=ss) rfl rfl dDq (fun w hw=>iQ (s:=s) underlying57 dDq ((inferInstance:dG _ _ cH 4 s ss).h w hw)) (by simp only[alM];omega) (by simp only[alM];omega) fun s7 zx xU=>?_;refine au ?_;refine Gr fun w1 hw=>?_;exact⟨s7,rfl,trivial,by rw[auS]at hw;exact ah.mem hw⟩)⟩
instance aqF{ps:Sl (Sl UInt8)}[DM:aX w0 L ps]:bY prog 179 w0 L [ps.sv.val] (Sl (Sl UInt8)) (fun U=>U.sv.val) (fun U=>fK U::L) (fun U=>aR U.xs=aR ps.xs) (RL (aR ps.xs)):=⟨fun aC w hw=>Gk (fun U=>[fK U]) hw (by
 have DM:=DM.h w hw;have aqG:cQ w ps:=⟨DM⟩;obtain⟨mq,jM⟩:=aC;have cf:=pJ ps.xs;rw[cf]at mq;refine cx func179 rfl ntmps179 rfl ?_;refine ar ?_;refine ag (vK underlying178 rfl) (Gc ?_);refine Gb ?_ ?_<;>intro h0
 ·have e0:ps.xs=[]:=aun.1 (by have:=DM.1.ok.nil h0;have:=DM.1.len;omega);refine al ?_;refine Gr fun w1 hw=>?_;exact⟨⟨Sv.none,[]⟩,rfl,by rw[e0],acQ (Mem.dE (cw (τ:=UInt8)) 1 (ah.mem hw:Mem w [] _))⟩
 refine cX ?_;refine cg (X:=Nat×Nat) (fun U=>[(15, .int .i64 (U.1:Nat)),(3, .int .i64 (U.2:Nat)),(0,ps.sv.val),(13,ps.sv.val),(14, .int .i64 (ps.xs.length:Nat))]) (fun U=>[]) (fun U=>U.1<=ps.xs.length/\U.2=((aR ps.xs).take U.1).flatten.length) (fun U=>ps.xs.length -U.1) (0,0) ⟨Nat.zero_le _,by simp⟩ sb (fun w hw=>ah.mem hw) ?_;rintro⟨i,mm⟩ ⟨bg,aK⟩;dsimp only;simp only at bg aK;refine al ?_;refine Gb ?_ ?_<;>intro h1
 ·obtain⟨y,hy⟩:=get_some (xs:=ps.xs) (i:=i) oM;have Uz:Mb y ps:=⟨List.mem_of_getElem? hy⟩;have Br:=Db (rl hy);have jl:=Dc (aR ps.xs) (i+1);refine Gc ?_;refine ag (bf rfl rfl i rfl oM) (ag (bW (j:=0) rfl i hy rfl dDq) ?_);have aqH:Mb y _:=⟨List.mem_of_getElem? hy⟩;refine rZ ?_;refine Gi ?_;exact bo (x:=(i,mm)) (i+1,mm+y.xs.length) ⟨oF,by rw[aK,Br]⟩ (by simp only;omega) sb (fun w hw=>ah.mem hw)
 obtain rfl:i=ps.xs.length:=by omega
 rw[List.take_of_length_le oM]at aK;have hN:mm=(aR ps.xs).flatten.length:=aK;refine au ?_;refine vI (enc:=aQ) (n:=0) (cap:=mm) 0 rfl rfl rfl rfl rfl oM oM oM fun yf=>ar ?_;refine vI (enc:=cw (τ:=UInt8)) (n:=ps.xs.length) (cap:=ps.xs.length) (⟨Sv.none,[]⟩:Sl UInt8) rfl rfl rfl rfl rfl oM oM oM fun yc=>aY ?_;refine cg (X:=Nat×Nat×List UInt8×List (Sl UInt8)) (fun U=>[(31, .int .i64 (U.1:Nat)),(6,(⟨false,yf,0,U.2.1,mm,none⟩:Sv).val),(7,(⟨false,yc,0,ps.xs.length,ps.xs.length,none⟩:Sv).val),(29,ps.sv.val),(30, .int .i64 (ps.xs.length:Nat))]) (fun U=>[own aQ 1 ⟨false,yf,0,U.2.1,mm,none⟩ U.2.2.1,own (cw (τ:=UInt8)) 1 ⟨false,yc,0,ps.xs.length,ps.xs.length,none⟩ U.2.2.2]) (fun U=>U.1<=ps.xs.length/\U.2.1=U.2.2.1.length/\U.2.2.1=((aR ps.xs).take U.1).flatten/\U.2.2.2=dJ ⟨false,yf,0,mm,mm,none⟩ 0 ((aR ps.xs).take U.1)++List.replicate (ps.xs.length -U.1) (⟨Sv.none,[]⟩:Sl UInt8)) (fun U=>ps.xs.length -U.1) (0,0,List.replicate 0 0,List.replicate ps.xs.length (⟨Sv.none,[]⟩:Sl UInt8)) ⟨Nat.zero_le _,rfl,by simp,by simp[dJ]⟩ sb (fun w hw=>ah.mem hw) ?_;rintro⟨i,m,r,zs⟩ ⟨bg,aK,bx,di⟩;dsimp only;simp only at bg aK bx di;refine al ?_;refine Gb ?_ ?_<;>intro h2
 ·
  obtain⟨y,hy⟩:=get_some (xs:=ps.xs) (i:=i) oM;have Uz:Mb y ps:=⟨List.mem_of_getElem? hy⟩;have Br:=Db (rl hy);have jl:=Dc (aR ps.xs) (i+1);have tO:r.length+y.xs.length<=mm:=by rw[hN,bx,←Br];exact jl
  have qK:=get_some (xs:=zs) (i:=i) (by rw[di,adr,KT,at3,auQ];omega);obtain⟨z,hz⟩:=qK;have rC:i<zs.length:=(zz.1 hz).1;refine au ?_;refine ag (bf rfl rfl i rfl oM) (ag (bW (j:=0) rfl i hy rfl dDq) ?_);have aqI:Mb y _:=⟨List.mem_of_getElem? hy⟩;refine iS ?_;refine acO (s:=⟨false,yf,0,m,mm,none⟩) (enc:=aQ) (xs:=r) (ys:=y.xs) rfl rfl (fun w hw=>iQ (s:=y.sv) underlying53 dDq ((inferInstance:dG _ _ aQ 1 y.sv y.xs).h w hw)) rfl (by simp only;omega) (by simp only;omega) ?_;refine rZ ?_;refine ag (Ry.to (v':=(win (⟨false,yf,0,mm,mm,none⟩:Sv) r.length (r.length+y.xs.length)).val) (Ru (l:=r.length) (h:=(r++y.xs).length) (m:=(r++y.xs).length) rfl rfl rfl rfl rfl rfl rfl (by simp) (by simp) (by simp)) (by simp[win,Sv.sub,Sv.top])) (ag (bf rfl rfl i rfl oM) (Fy (s:=⟨false,yc,0,ps.xs.length,ps.xs.length,none⟩) (xs:=zs) (k:=i) (a:=z) (⟨(win (⟨false,yf,0,mm,mm,none⟩:Sv) r.length (r.length+y.xs.length)),y.xs⟩:Sl UInt8) oK rfl rfl oM hz (al ?_)));refine Gi ?_;exact bo (x:=(i,m,r,zs)) (i+1,m+y.xs.length,r++y.xs,zs.set i ⟨(win (⟨false,yf,0,mm,mm,none⟩:Sv) r.length (r.length+y.xs.length)),y.xs⟩) ⟨oF,by rw[adr,aK],by rw[bx,at6,rl hy];simp,by rw[di];exact acS (by rw[cf]) bx (rl hy)⟩ (by simp only;omega) sb (fun w hw=>ah.mem hw)
 obtain rfl:i=ps.xs.length:=by omega
 rw[aug oM]at bx di;rw[avX,List.replicate_zero,auT]at di;refine ar ?_;refine Gr fun w1 hw=>?_;exact⟨⟨⟨false,yc,0,ps.xs.length,ps.xs.length,none⟩,zs⟩,rfl,by rw[di,xv],RJ (rm:=⟨false,yf,0,mm,mm,none⟩) di rfl (by rw[show m=mm by rw[aK,bx,hN],bx]at hw;exact ah.mem hw)⟩)⟩
instance aqJ{c:Cp}[hc:aX w0 L c]:bY prog 105 w0 L [.agg (aV c)] (Cp) (fun U=> .agg (aV U)) (fun U=>own cq 4 U.blocks.sv U.blocks.xs::ai.all (U.blocks.xs.map fun b:Bk=>fK b.pages)::own cH 4 U.aA.sv U.aA.xs::L) (fun U=>cv U=cv c) (gk c):=⟨fun aC w hw=>Gk (fun U:Cp=>[own cq 4 U.blocks.sv U.blocks.xs,ai.all (U.blocks.xs.map fun b:Bk=>fK b.pages),own cH 4 U.aA.sv U.aA.xs]) hw (by
 have hc:=hc.h w hw;have lN:cQ w c:=⟨hc⟩;obtain⟨mq,jM,qL⟩:=aC;refine cx func105 rfl ntmps105 rfl ?_;refine Gc ?_;refine cn rfl fun b1=>bn fun b2=>al ?_;refine bb rfl oM fun x6 Mg=>Gs ?_;refine dO (cs':=aV (⟨c.pages,c.size,⟨x6,c.blocks.xs⟩,c.ops,c.off,c.aA⟩:Cp)) rfl rfl (by show 2<6;decide) (by first|rfl|exact Sv.one _) rfl (aY ?_);refine cg (X:=Nat×List Bk) (fun U=>[(11, .int .i64 (U.1:Nat)),(1, .pointer (some ⟨b1,0,none⟩)),(2, .pointer (some ⟨b2,0,none⟩)),(10, .int .i64 (c.blocks.xs.length:Nat))]) (fun U=>[own cq 4 x6 U.2,ai.all ((U.2.take U.1).map fun b:Bk=>fK b.pages),aq b2 (aV ib) 59,aq b1 (aV (⟨c.pages,c.size,⟨x6,U.2⟩,c.ops,c.off,c.aA⟩:Cp)) 59]) (fun U=>U.1<=c.blocks.xs.length/\U.2.length=c.blocks.xs.length/\jv U.2=jv c.blocks.xs/\ ∀j,U.1<=j->U.2[j]? =c.blocks.xs[j]?) (fun U=>c.blocks.xs.length -U.1) (0,c.blocks.xs) ⟨Nat.zero_le _,rfl,rfl,fun _ _=>rfl⟩ sb (fun w hw=>by
  simp only[auw,au4];exact ah.mem (Mem.zg hw)) ?_
 rintro⟨i,zs⟩ ⟨bg,aK,bx,di⟩;dsimp only;simp only at bg aK bx di;refine al ?_;refine Gb ?_ ?_<;>intro h0
 ·
  obtain⟨z,hz⟩:=get_some (xs:=zs) (i:=i) oM;have yg:Mb z c.blocks:=⟨List.mem_of_getElem? (by rw[←di i (at5 _)];exact hz)⟩;refine al ?_;refine gF ?_;refine GC (s:=x6) (enc:=cq) (c:=4) (xs:=zs) inferInstance oM fun hn6 hs6 ho6 hl6=>?_;refine jt [9,12,1003,1004,1006,1007,1008,1010,1011] [[],[],[],[],[3],[],[3,4],[3,4,6],[3,4,6,7],[3,4,6,7,8],[3,4,6,7,8,9],[3,4,6,7,8,9,10],[3,4,6,7,8,9,10,11]] [0,1,2,3,4,5,6,7,8,9,10,11,12] [aq b1 (aV (⟨c.pages,c.size,⟨x6,zs⟩,c.ops,c.off,c.aA⟩:Cp)) 59] (fun _ hw=>ah.mem hw) oK oK (an rfl (aM (o':=2) rfl rfl) (an rfl (bE rfl) (an rfl (bm rfl) (gq rfl (aM (o':=2) rfl rfl) (gq rfl (bE rfl) (an rfl (bm rfl) (gq rfl (bf rfl rfl i rfl oM) (gq rfl (aM rfl rfl) (gq rfl (bW (j:=0) rfl i hz rfl dDq) (dr rfl (qv rfl (qL z yg.h) fun nB DN=>⟨fun _ hw=>ah.mem hw,?_⟩)))))))))));refine gq rfl (pq (s:=x6) (i:=i) rfl rfl rfl ho6 oM) (gq rfl (aM rfl rfl) ?_);refine dr rfl (zd (n:=1) (k:=i) (j:=0) (a:=z) (a':=({z with pages:=nB}:Bk)) (xs:=zs) (enc:=cq) (c:=4) (v:=nB.sv.val) oK rfl rfl rfl hz (by rw[Sv.jW];simp[Sv.one]) (by rw[Sv.jW];rfl) dDq (by rw[Sv.jW];rfl) ⟨fun _ hw=>ah.mem hw,?_⟩)
  refine al ?_;refine Gi ?_;exact bo (x:=(i,zs)) (i+1,zs.set i ({z with pages:=nB}:Bk)) ⟨oF,by rw[auA];exact aK,by rw[zj,←bx,show bv ({z with pages:=nB}:Bk)=bv z from by rw[bv,bv,DN],←zj,xw hz],fun j hj=>by rw[auF oF];exact di j oF⟩ (by simp only;omega) sb (fun w hw=>by
   have h1:=Mem.AP (e:=fK nB) (es:=(zs.take i).map fun b:Bk=>fK b.pages) (ah.mem hw:Mem _ (fK nB::ai.all ((zs.take i).map fun b:Bk=>fK b.pages)::[own cq 4 x6 (zs.set i ({z with pages:=nB}:Bk)),aq b2 (aV ib) 59,aq b1 (aV (⟨c.pages,c.size,⟨x6,zs⟩,c.ops,c.off,c.aA⟩:Cp)) 59]) _)
   rw[acZ (z':=({z with pages:=nB}:Bk)) hz]at h1
   exact(ah.mem h1:Mem _ [own cq 4 x6 (zs.set i ({z with pages:=nB}:Bk)),ai.all (((zs.set i ({z with pages:=nB}:Bk)).take (i+1)).map fun b:Bk=>fK b.pages),aq b2 (aV ib) 59,aq b1 (aV (⟨c.pages,c.size,⟨x6,zs⟩,c.ops,c.off,c.aA⟩:Cp)) 59] _))
 obtain rfl:i=zs.length:=by omega
 rw[aug (at5 _)]at*;refine au ?_;refine ag (Ry.to (v':=c.aA.sv.val) (bE rfl) rfl) (bb rfl oM fun Bs Mo=>Gs ?_);refine dO (cs':=aV (⟨c.pages,c.size,⟨x6,zs⟩,c.ops,c.off,⟨Bs,c.aA.xs⟩⟩:Cp)) rfl rfl (by show 5<6;decide) (by first|rfl|exact Sv.one _) rfl (ar ?_);refine Gr fun w1 hw=>?_;exact⟨⟨c.pages,c.size,⟨x6,zs⟩,c.ops,c.off,⟨Bs,c.aA.xs⟩⟩,rfl,by simp only[cv,bx],ah.mem hw⟩)⟩
instance aqK{c:Cp}{b:Int}[hc:aX w0 L c]:bV prog 298 w0 L [.agg (aV c), .int .i64 b] (.bool (iw (cv c) b)) (True):=⟨fun aC w hw=>by
 have hc:=hc.h w hw;have lN:cQ w c:=⟨hc⟩;refine dD func298 rfl ntmps298 rfl ?_;refine Gc ?_;refine cn rfl fun b2=>QI ?_;refine Gr fun w1 hw=>?_;exact⟨congrArg (fun b=>Ending.returned (Value.bool b)) ((by simp only[iw,cv,iv])),ah.mem hw⟩⟩
instance aqL{c:Cp}[hc:aX w0 L c]:bV prog 299 w0 L [.agg (aV c)] (.tuple #[.agg (cH ((bt (cv c)).1)), .bool ((bt (cv c)).2)]) (c.aA.xs.length<=1000000):=⟨fun aC w hw=>by
 have hc:=hc.h w hw;have lN:cQ w c:=⟨hc⟩;refine cx func299 rfl ntmps299 rfl ?_;refine Gc ?_;refine cn rfl fun b1=>bn fun b2=>cX ?_;refine cg (X:=Nat) (fun U=>[(9, .int .i64 (U:Nat)),(1, .pointer (some ⟨b1,0,none⟩)),(2, .pointer (some ⟨b2,0,none⟩)),(7,c.aA.sv.val),(8, .int .i64 (c.aA.xs.length:Nat))]) (fun U=>[aq b2 (cH AN) 97,aq b1 (aV c) 59]) (fun U=>U<=c.aA.xs.length/\ ∀j f,j<U->c.aA.xs[j]? =Option.some f->f.op≠c.ops) (fun U=>c.aA.xs.length -U) 0 ⟨Nat.zero_le _,fun j f hj=>by first|omega|(simp only[];omega)⟩ sb (fun w hw=>ah.mem hw) ?_;rintro i ⟨bg,aK⟩;refine al ?_;refine Gb ?_ ?_<;>intro h0
 ·
  refine l6 ?_;obtain⟨f,hf⟩:=get_some (xs:=c.aA.xs) (i:=i) oM;refine ag (bf rfl rfl i rfl oM) (ag (gV rfl i hf rfl) (bn fun b5=>fS ?_));refine Gb ?_ ?_<;>intro h1
  ·have hs:bt (cv c)=(f,f.cut||f.fail):=ac1 hf aK h1;refine Gi ?_;refine jt [7] [[],[],[],[],[],[],[],[],[7]] [0,1,2,3,4,5,6,7,8] [aq b5 (cH f) 97,aq b1 (aV c) 59] (fun _ hw=>ah.mem hw) oK oK (an rfl (jU rfl) (an rfl (aM (o':=2) rfl rfl) (an rfl (bE rfl) (an rfl (bm rfl) (QF rfl rfl rfl rfl (fun hg=>(Ry.yl (aM (o':=1) rfl rfl))) (QF rfl rfl rfl rfl (fun hg=>(Ry.yl (bE (aG hg rfl)))) (an rfl (Aa rfl rfl rfl) (dr rfl (qw rfl rfl ⟨fun _ hw=>ah.mem hw,?_⟩)))))))));refine an rfl (hO rfl) (Gc ?_);refine Gr fun w1 hw=>?_;exact⟨(by rw[hs]),ah.mem hw⟩
  refine al ?_;refine Gi ?_;exact bo (x:=(i)) (i+1) ⟨oF,fun j g hj hg=>if e:j=i then(by subst e;rw[hf]at hg;cases hg;exact h1)else aK j g oF hg⟩ oF sb (fun w hw=>ah.mem hw)
 obtain rfl:i=c.aA.xs.length:=by omega
 have hs:bt (cv c)=(AN,false):=ac0 (fun f hf=>by
  obtain⟨j,hj⟩:=aul hf;exact aK j f (zz.1 hj).1 hj)
 refine Gc ?_;refine ag (cR (v:= .agg (cH AN)) rfl (fun w=>kRq)) (al ?_);refine Gr fun w1 hw=>?_;exact⟨(by rw[hs]),ah.mem hw⟩⟩
instance aqM{f:Ft}:bV prog 300 w0 L [.agg (cH f)] (.tuple #[.bool f.cut, .int .i64 (mc f)]) (True):=⟨fun aC w hw=>by
 refine cx func300 rfl ntmps300 rfl ?_;refine Gc ?_;refine cn rfl fun b1=>aY ?_;refine Gb ?_ ?_<;>intro h0
 ·refine ar ?_;refine Gr fun w1 hw=>?_;exact⟨(by rw[mc,if_pos h0,h0]),ah.mem hw⟩
 refine ar ?_;refine Gr fun w1 hw=>?_;exact⟨(by rw[mc,if_neg (by rw[h0];simp),h0]),ah.mem hw⟩⟩
instance aqN{c:Cp}{b:Int}[hc:aX w0 L c]:bY prog 301 w0 L [.agg (aV c), .int .i64 b] (Cp) (fun U=> .tuple #[.agg (aV U), .int .i64 (qA (cv c) b)]) (fun U=>fz U::L) (fun U=>cv U=me (cv c) b) (gk c):=⟨fun aC w hw=>Gk (fun U=>[fz U]) hw (by
 have hc:=hc.h w hw;have lN:cQ w c:=⟨hc⟩;have gQ:gk c:=aC;obtain⟨mq,jM,qL⟩:=aC;refine dD func301 rfl ntmps301 rfl ?_;refine Gc ?_;refine cn rfl fun b2=>bn fun b4=>al ?_;refine bb rfl (by assumption) fun x8 p6=>bn fun b6=>cX ?_;refine Gb ?_ ?_<;>intro h0
 ·
  have hE:qA (cv c) b=1:=by rw[qA,if_neg (by rw[h0];simp)]
  refine aP ?_;refine Gr fun w1 hw=>?_;exact⟨x8,by rw[hE],by rw[p6,me,if_neg (by rw[hE];decide)],pN x8 (ah.mem hw)⟩
 have hk:iw (cv c) b=true:=h0;have hh:=hk;have HF:=(iz.1 hh).2;have dI:x8.blocks.xs.length=c.blocks.xs.length:=by have:=congrArg (fun v:CV=>v.blocks.length) p6;simpa only[cv,iv]using this
 have Bt:x8.ops=c.ops:=congrArg CV.ops p6;have pX:(cv c).blocks.length=c.blocks.xs.length:=iv _;obtain⟨B,hB⟩:=get_some (xs:=x8.blocks.xs) (i:=b.toNat) oM;have o8:b.toNat<x8.blocks.xs.length:=(zz.1 hB).1;have ft:bv B=ak (cv c) b:=by
  have h1:=GO hh;have h2:=nY hB;rw[show jv x8.blocks.xs=(cv c).blocks from congrArg CV.blocks p6,h1]at h2;exact(at1 h2).symm
 have gR:rn c.pages c.size (bv B)=true:=by rw[ft];exact rp hh
 obtain⟨o1,o2,o3,o4,o5,o6⟩:=fy.1 gR;have je:=mK.1 (eN.1 (iz.1 hh).1).1;have DO:=(eN.1 (iz.1 hh).1).2.1;simp only[bv,cv]at o1 o2 o3 o4 o5 o6 je DO;have UA:=pJ B.pages.xs;refine ar ?_;refine Gb ?_ ?_<;>intro h1
 ·
  have hE:qA (cv c) b=7:=by rw[qA,if_pos hk,if_pos (show(cv c).off=true from h1)]
  refine aP ?_;refine Gr fun w1 hw=>?_;exact⟨x8,by rw[hE],by rw[p6,me,if_neg (by rw[hE];decide)],pN x8 (ah.mem hw)⟩
 have hE:qA (cv c) b=0:=by rw[qA,if_pos hk,if_neg (by rw[show(cv c).off=false from h1];simp)]
 refine ar ?_;refine ag (bf rfl rfl b.toNat oM o8) (ag (aM rfl rfl) (mC (s:=x8.blocks.sv) (n:=1) (k:=b.toNat) (j:=3) (a:=B) (a':=(⟨B.pages,B.used,B.aU,true⟩:Bk)) (xs:=x8.blocks.xs) (enc:=cq) (c:=4) (v:= .bool true) oK rfl rfl rfl hB (by simp[Value.cells,Value.oneCell']) (by rfl) dDq (by rfl) (aP ?_)));refine Gr fun w1 hw=>?_;exact⟨(⟨x8.pages,x8.size,⟨x8.blocks.sv,x8.blocks.xs.set b.toNat (⟨B.pages,B.used,B.aU,true⟩:Bk)⟩,x8.ops,x8.off,x8.aA⟩:Cp),by rw[hE];rfl,by rw[ac8 p6 ft,me,if_pos hE],pN (⟨x8.pages,x8.size,⟨x8.blocks.sv,x8.blocks.xs.set b.toNat (⟨B.pages,B.used,B.aU,true⟩:Bk)⟩,x8.ops,x8.off,x8.aA⟩:Cp) (by
  simp only[ac7 hB (B':=(⟨B.pages,B.used,B.aU,true⟩:Bk)) rfl];exact ah.mem hw)⟩)⟩
instance aqO{c:Cp}{fs:Sv}{tP:List Ft}[hc:aX w0 L c][Mp:dG w0 L cH 4 fs tP]:bY prog 42 w0 L [.agg (aV c),fs.val] (Cp) (fun U=> .tuple #[.agg (aV U), .int .i64 (kN (cv c) tP)]) (fun U=>fz U::L) (fun U=>cv U=iI (cv c) tP) (gk c):=⟨fun aC w hw=>Gk (fun U=>[fz U]) hw (by
 have hc:=hc.h w hw;have Mp:=Mp.h w hw;have lN:cQ w c:=⟨hc⟩;have aqP:Gv w fs cH 4 tP:=⟨Mp⟩;have gQ:gk c:=aC;obtain⟨mq,jM,qL⟩:=aC;refine dD func42 rfl ntmps42 rfl ?_;refine Gc ?_;refine cn rfl fun b2=>bn fun b4=>al ?_;refine bb rfl (by assumption) fun x8 p6=>bn fun b6=>rh ?_;refine Gb ?_ ?_<;>intro h0
 ·
  have hE:kN (cv c) tP=1:=by rw[kN,if_neg (fun h=>by rw[h.1]at h0;simp only[avK,false_or]at h0;omega)]
  refine aP ?_;refine Gr fun w1 hw=>?_;exact⟨x8,by rw[hE],by rw[p6,iI,if_neg (by rw[hE];decide)],pN x8 (ah.mem hw)⟩
 have hE:kN (cv c) tP=0:=by
  rw[kN,if_pos]
  cases hk:aW (cv c)with
  |false=>rw[hk]at h0;simp at h0
  |true=>exact⟨rfl,by rw[hk]at h0;simp only[avK,not_false_eq_true,true_and]at h0;omega⟩
 have eS:tP.length<=64:=by
  by_cases h9:aW (cv c)=true/\tP.length<=64
  ·exact h9.2
  rw[kN,if_neg h9]at hE;cases hE
 refine au ?_;refine dO (cs':=aV (⟨x8.pages,x8.size,x8.blocks,x8.ops,false,x8.aA⟩:Cp)) rfl rfl (by show 4<6;decide) (by first|rfl|exact Sv.one _) rfl (au ?_);refine bb rfl oM fun iL zE=>Gs ?_;refine dO (cs':=aV (⟨x8.pages,x8.size,x8.blocks,x8.ops,false,⟨iL,tP⟩⟩:Cp)) rfl rfl (by show 5<6;decide) (by first|rfl|exact Sv.one _) rfl (aP ?_);refine Gr fun w1 hw=>?_;exact⟨(⟨x8.pages,x8.size,x8.blocks,x8.ops,false,⟨iL,tP⟩⟩:Cp),by rw[hE],by rw[iI,if_pos hE,←p6];rfl,pN (⟨x8.pages,x8.size,x8.blocks,x8.ops,false,⟨iL,tP⟩⟩:Cp) (ah.mem hw)⟩)⟩
end Go.Proofs.YtkggjjnhnjjokaaGreatDoor

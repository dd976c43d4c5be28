/- Part of a proof. -/
import Derived.Test.YtkggjjnhnjjokaaGreatDoorD7
import Derived.Test.YtkggjjnhnjjokaaGreatDoorD6
import Derived.Test.YtkggjjnhnjjokaaGreatDoorD2
import Derived.Test.YtkggjjnhnjjokaaGreatDoorD1
import Derived.ProofKit
import Derived.Deep.Slices
import Derived.HandedShaped
import Derived.Handed
import Derived.Lay
import Derived.MakeChecks
import Derived.Stop.Joined
import Derived.LaidLaws
import Derived.Test.YtkggjjnhnjjokaaGreatDoorD3
import Derived.Test.YtkggjjnhnjjokaaGreatDoorD5
set_option maxRecDepth 20000
set_option linter.unusedSimpArgs false
set_option linter.unusedVariables false
namespace Go.ax
open Go.Kb Go.RowKit
def tC(b:List UInt8):Ch:=⟨kF (b.drop 1),decide (b.getD 0 0=1)⟩
def wu(b:List UInt8):Bool:=decide (b.getD 0 0<=1)&&decide (b.getD 1 0<=1)
def tD(b:List UInt8):Bool:=wu b&&bw (tC b).r.p
def xZ(b:List UInt8):Ch:=if wu b=true then tC b else nD
theorem getD_drop(b:List UInt8)(i j:Nat):(b.drop i).getD j 0=b.getD (i+j) 0:=by simp[List.getD,aty]
theorem Ws{x:UInt8}:x<=1↔x=0\/x=1:=by
 rw[UInt8.le_iff_toNat_le,←atT,←atT];simp;omega
theorem air{b:List UInt8}(hb:b.length=20)(h:b.getD 0 0<=1):eO (kF b)=b:=by
 refine atj fun j=>?_;have hg: ∀i,i<20->b[i]? =some (b.getD i 0):=fun i hi=>by simp[List.getD,asr (show i<b.length by omega)]
 rcases asx j 20 with hj|hj
 ·
  rw[hg j hj]
  by_cases h0:j=0
  ·
   subst h0;rw[Ks];show some (if(if b.getD 0 0=1 then(128:Int)else 32)=128 then(1:UInt8)else 0)=_;rcases Ws.1 h with e|e<;>rw[e]<;>rfl
  by_cases h1:j=1
  ·
   subst h1;rw[Kt];simp only[kF];rw[Q9,EW]
  by_cases h2:j<18
  ·
   obtain⟨i,rfl⟩: ∃i,j=2+i:=⟨j -2,by omega⟩;rw[Ku _ i (by omega)];have:bk (kF b).p.key i=(b.getD (2+i) 0).toNat:=by
    show bk (nk fun i=>(b.getD (2+i) 0).toNat) i=_;rw[sj _ _ (by omega)];have:=(b.getD (2+i) 0).toNat_lt;omega
   rw[this,EW]
  have hh:(kF b).bH.toNat=(b.getD 18 0).toNat*256+(b.getD 19 0).toNat:=by
   simp only[kF,UInt16.toNat_ofNat'];have:=(b.getD 18 0).toNat_lt;have:=(b.getD 19 0).toNat_lt;omega
  have l1:=(b.getD 18 0).toNat_lt;have l2:=(b.getD 19 0).toNat_lt;rcases(show j=18\/j=19 by omega)with rfl|rfl
  ·
   rw[Kv,hh,show((b.getD 18 0).toNat*256+(b.getD 19 0).toNat)/256=(b.getD 18 0).toNat by omega,EW]
  rw[Kw,hh];congr 1;apply atT.1;rw[pO];omega
 rw[ast (by rw[pa];exact hj),ast (by omega)]
theorem ais{b:List UInt8}(hb:b.length=21)(h:wu b=true):qp (tC b)=b:=by
 obtain⟨x,l,rfl⟩: ∃x l,b=x::l:=by
  cases b with
  |nil=>cases hb
  |cons x l=>exact⟨x,l,rfl⟩
 rw[wu,alM]at h;have h0:x<=1:=of_decide_eq_true h.1;have h1:l.getD 0 0<=1:=of_decide_eq_true h.2;show(if(decide ((x::l).getD 0 0=1))=true then(1:UInt8)else 0)::eO (kF ((x::l).drop 1))=_;rw[auj,atD,air (by simpa using hb) h1];congr 1;rcases Ws.1 h0 with rfl|rfl<;>rfl
def chunk(b:List UInt8)(i:Nat):List UInt8:=(b.drop (21*i)).take 21
def nG(b:List UInt8)(n:Nat):List Ch:=(List.range n).map fun i=>tC (chunk b i)
def uT(b:List UInt8)(n:Nat):Bool:=(List.range n).all fun i=>tD (chunk b i)
def uU(c:List UInt8):Bool:=decide (2<=c.length)&&decide (de (c.take 2)<=200)&&decide ((c.drop 2).length=21*de (c.take 2))&&uT (c.drop 2) (de (c.take 2))
def lq(b:List UInt8):Int:=if nX b=0 then(if uU (cl b)=true then 0 else 2)else nX b
def mu(b:List UInt8):List Ch:=if lq b=0 then nG ((cl b).drop 2) (de ((cl b).take 2))else[]
theorem zF(b:List UInt8)(n:Nat):(nG b n).length=n:=by simp[nG]
theorem Wt(b:List UInt8)(n:Nat):nG b (n+1)=nG b n++[tC (chunk b n)]:=by simp[nG,atq]
theorem Wu(b:List UInt8)(n:Nat):uT b (n+1)=(uT b n&&tD (chunk b n)):=by simp[uT,atq]
theorem ait{b:List UInt8}{i n:Nat}(hi:i<n)(h:tD (chunk b i)=false):uT b n=false:=by
 rw[uT,List.all_eq_false];exact⟨i,asU.2 hi,by simp[h]⟩
theorem Ww: ∀(n:Nat) {b:List UInt8},b.length=21*n->uT b n=true->((nG b n).map qp).flatten=b
 |0,b,hb,_=>by have:b=[]:=asI.1 (by omega);subst this;rfl
 |n+1,b,hb,h=>by
  rw[Wu,alM]at h;have hc:(chunk b n).length=21:=by rw[chunk,asq,ass];omega
  have h2:wu (chunk b n)=true:=by have:=h.2;rw[tD,alM]at this;exact this.1
  have e1:chunk b n=b.drop (21*n):=by rw[chunk,asy (by rw[ass];omega)]
  have e2: ∀i,i<n->chunk (b.take (21*n)) i=chunk b i:=fun i hi=>by
   rw[chunk,chunk,List.drop_take,List.take_take];congr 1;omega
  have e3:nG (b.take (21*n)) n=nG b n:=atp fun i hi=>by rw[e2 i (asU.1 hi)]
  have e4:uT (b.take (21*n)) n=true:=by
   rw[uT,asD];exact fun i hi=>by rw[e2 i (asU.1 hi)];exact asD.1 h.1 i hi
  have ih:=Ww n (b:=b.take (21*n)) (by rw[asq];omega) e4;rw[e3]at ih;rw[Wt,as0,avk,ih,asL,ato,atL,avi,asZ,ais hc h2,e1,asR]
theorem aiu{b:List UInt8}(h:nX b=0):rk (cl b)=b/\4<=b.length:=by
 unfold nX at h;split at h
 ·
  omega
 rename_i hl;split at h
 ·
  rename_i h1;refine⟨?_,by omega⟩;rw[cl,if_pos (by rw[nX,if_neg hl,if_pos h1])];exact(aag hl).2 h1
 omega
theorem aiv{b:List UInt8}(h:lq b=0):lP (mu b)=0/\lp (mu b)=b:=by
 have ho:nX b=0:=by
  apply asH;intro hn;rw[lq,if_neg hn]at h;exact hn h
 have hf:uU (cl b)=true:=by
  apply asH;intro hn;rw[lq,if_pos ho,if_neg hn]at h;omega
 have ev:mu b=nG ((cl b).drop 2) (de ((cl b).take 2)):=if_pos h;simp only[uU,alM,decide_eq_true_eq]at hf;obtain⟨⟨⟨f1,f2⟩,f3⟩,f4⟩:=hf;have hE:lP (mu b)=0:=by
  rw[lP,ev,zF,if_neg (by omega),if_pos];rw[asD];intro g hg;obtain⟨i,hi,rfl⟩:=atw.1 hg;have:=asD.1 f4 i hi;rw[tD,alM]at this;exact this.2
 refine⟨hE,?_⟩;have hlen:(mu b).length=de ((cl b).take 2):=by rw[ev,zF]
 have hb:rZ (mu b) (mu b).length=cl b:=by
  rw[rZ,asP,hlen,ev,Ww _ f3 f4];have:=FJ ((cl b).take 2);rw[asq,auM f1]at this;rw[this,asR]
 rw[lp,if_pos hE,hb,(aiu ho).1]
def fB(l:List UInt8):List (List Ch)×Nat:=
 if h:l.length<2 then([],0)
 else if l.length<2+de (l.take 2)then([],0)
 else if lq ((l.drop 2).take (de (l.take 2)))=0 then
  (mu ((l.drop 2).take (de (l.take 2)))::(fB (l.drop (2+de (l.take 2)))).1,2+de (l.take 2)+(fB (l.drop (2+de (l.take 2)))).2)
 else([],0)
termination_by l.length
decreasing_by all_goals(rw[ass];omega)
theorem Wx{l:List UInt8}(h:l.length<2):fB l=([],0):=by rw[fB,dif_pos h]
theorem Wz{l:List UInt8}(h2:l.length<2+de (l.take 2)):fB l=([],0):=by
 rw[fB];split
 ·
  rfl
 simp[h2]
theorem WA{l:List UInt8}(h3:lq ((l.drop 2).take (de (l.take 2)))≠0):fB l=([],0):=by
 rw[fB];split
 ·
  rfl
 split
 ·
  rfl
 simp[h3]
theorem WB{l:List UInt8}(h1: ¬l.length<2)(h2: ¬l.length<2+de (l.take 2))(h3:lq ((l.drop 2).take (de (l.take 2)))=0):
  fB l=(mu ((l.drop 2).take (de (l.take 2)))::(fB (l.drop (2+de (l.take 2)))).1,2+de (l.take 2)+(fB (l.drop (2+de (l.take 2)))).2):=by
 rw[fB,dif_neg h1,if_neg h2,if_pos h3]
def frame(l:List Ch):List UInt8:=be (lp l).length 2++lp l
theorem aiw(l:List Ch):(frame l).length=2+(lp l).length:=by rw[frame,af0,gK]
def Iw(p:List (List Ch)):List UInt8:=(p.map frame).flatten
theorem WC(l:List Ch)(p:List (List Ch)):Iw (l::p)=frame l++Iw p:=rfl
theorem aix(l:List UInt8):(fB l).2<=l.length/\(∀x∈(fB l).1,lP x=0)/\l.take (fB l).2=Iw (fB l).1:=by
 generalize hn:l.length=n
 induction n using Nat.strongRecOn generalizing l with
 |_ n ih=>
  by_cases h1:l.length<2
  ·
   rw[Wx h1];exact⟨Nat.zero_le _,fun _ h=>(aui h).elim,rfl⟩
  by_cases h2:l.length<2+de (l.take 2)
  ·
   rw[Wz h2];exact⟨Nat.zero_le _,fun _ h=>(aui h).elim,rfl⟩
  by_cases h3:lq ((l.drop 2).take (de (l.take 2)))=0
  ·
   obtain⟨p1,p2⟩:=aiv h3;obtain⟨i1,i2,i3⟩:=ih (l.drop (2+de (l.take 2))).length (by rw[List.length_drop];omega) (l.drop (2+de (l.take 2))) rfl;rw[WB h1 h2 h3];rw[List.length_drop]at i1;refine⟨by dsimp only;omega,fun x hx=>?_,?_⟩
   ·
    rcases asw.1 hx with rfl|hx
    ·
     exact p1
    exact i2 x hx
   dsimp only;rw[WC,←i3,frame,p2,List.length_take,List.length_drop,Nat.min_eq_left (by omega)];have e1:be (de (l.take 2)) 2=l.take 2:=by
    have:=FJ (l.take 2);rwa [asq,auM (by omega)]at this
   rw[e1];generalize de (l.take 2)=d;generalize(fB (l.drop (2+d))).2=m;rw[List.take_add,List.take_add,]
  rw[WA h3];exact⟨Nat.zero_le _,fun _ h=>(aui h).elim,rfl⟩
def di:List Rt->List (List Ch)->List Rt×Nat×Int
 |t,[]=>(t,0,0)
 |t,g::r=>if cx t g=0 then((di (bM t g) r).1,(di (bM t g) r).2.1+1,(di (bM t g) r).2.2)else(t,0,cx t g)
def ko(t:List Rt)(j:List UInt8):List Rt×Nat×Int:=if bF t=true then di t (fB j).1 else(t,0,1)
theorem WD: ∀{p:List (List Ch)} {t:List Rt} {g:List Ch},di t (p++[g])=if(di t p).2.2=0 then(if cx (di t p).1 g=0 then(bM (di t p).1 g,(di t p).2.1+1,0)else((di t p).1,(di t p).2.1,cx (di t p).1 g))else di t p
 |[],t,g=>by
  rw[atc,di,di,if_pos rfl,di]
 |a::p,t,g=>by
  rw[atA,di,WD (p:=p),di]
  by_cases h:cx t a=0
  ·
   rw[if_pos h,if_pos h]
   by_cases h2:(di (bM t a) p).2.2=0
   ·
    simp only[if_pos h2];split<;>rfl
   simp only[if_neg h2]
  rw[if_neg h,if_neg h];simp only[if_neg h]
theorem aiy{t:List Rt}(h:bF t=true): ∀l:List Ch,bF (gY t l).1=true:=by
 intro l
 induction l generalizing t with
 |nil=>exact h
 |cons c l ih=>
  rw[gY];split
  ·
   exact ih (D0 h c)
  exact h
theorem aiz{t:List Rt}(h:bF t=true)(l:List Ch):bF (bM t l)=true:=by
 unfold bM;split
 ·
  exact aiy h l
 exact h
theorem set_push{A:Array Value}{v x:Value}{i:Nat}(h:i<A.size):(A++ #[v]).setIfInBounds i x=A.setIfInBounds i x++ #[v]:=by
 refine atM fun j=>?_;rw[atg,auz,auz,atg,Array.size_setIfInBounds,auJ]
 by_cases hj:i=j
 ·
  subst hj;rw[if_pos rfl,if_pos (by simp;omega),if_pos h,if_pos rfl,if_pos h]
 rw[if_neg hj,if_neg hj]
theorem aiA{A vs:Array Value}{v:Value}{o:Nat}(h:o+vs.size<=A.size):over (A++ #[v]) o vs=over A o vs++ #[v]:=by
 have h2:o+vs.size<=(A++ #[v]).size:=by rw[auJ];omega
 refine atM fun j=>?_;rw[se h2,auz,auz,mA h,se h]
 by_cases hj:o<=j/\j<o+vs.size
 ·
  rw[if_pos hj,if_pos (by omega),if_pos hj]
 rw[if_neg hj,if_neg hj]
theorem aiB{b:List UInt8}(hb:b.length=21){g:Bool}{v:Int}(hv:v=if b.getD 1 0=1 then 128 else 32):
  (over (((cq ⟨dM,g⟩).setIfInBounds 0 (.int .i64 v)).setIfInBounds 1 (.int .i64 (b.getD 2 0).toNat)) 2 (aL aG ((b.drop 3).take 16)).toArray).setIfInBounds 18 (.int .u16 (oL (b.getD 19 0) (b.getD 20 0)).toNat)=cq ⟨kF (b.drop 1),g⟩:=by
 have h:=Sr (b:=b.drop 1) (by rw[ass,hb]) v (by rw[getD_drop];exact hv);simp only[getD_drop,at3,Nat.reduceAdd]at h;have hk:(aL aG ((b.drop 3).take 16)).toArray.size=16:=by rw[ate,gR,asq,ass,hb];rfl
 have h0:(ay dM).size=19:=kP _;have ec: ∀r,cq ⟨r,g⟩=ay r++ #[.bool g]:=fun r=>rfl;rw[ec,ec];have s1:((ay dM).setIfInBounds 0 (.int .i64 v)).size=19:=by rw[Array.size_setIfInBounds,h0]
 have s2:(((ay dM).setIfInBounds 0 (.int .i64 v)).setIfInBounds 1 (.int .i64 (b.getD 2 0).toNat)).size=19:=by rw[Array.size_setIfInBounds,s1]
 generalize(Value.int .i64 v)=y0 at h s1 s2⊢;generalize(Value.int .i64 (b.getD 2 0).toNat)=y1 at h s2⊢;generalize(aL aG ((b.drop 3).take 16)).toArray=y2 at h hk⊢;generalize(Value.int .u16 (oL (b.getD 19 0) (b.getD 20 0)).toNat)=y3 at h⊢;generalize ay dM=A at h h0 s1 s2⊢;generalize ay (kF (b.drop 1))=B at h⊢;have e1:(A++ #[Value.bool g]).setIfInBounds 0 y0=A.setIfInBounds 0 y0++ #[.bool g]:=set_push (by omega);have e2:(A.setIfInBounds 0 y0++ #[Value.bool g]).setIfInBounds 1 y1=(A.setIfInBounds 0 y0).setIfInBounds 1 y1++ #[.bool g]:=set_push (by omega);have s3:2+y2.size<=((A.setIfInBounds 0 y0).setIfInBounds 1 y1).size:=by omega
 have e3:over ((A.setIfInBounds 0 y0).setIfInBounds 1 y1++ #[Value.bool g]) 2 y2=over ((A.setIfInBounds 0 y0).setIfInBounds 1 y1) 2 y2++ #[.bool g]:=aiA s3;have e4:(over ((A.setIfInBounds 0 y0).setIfInBounds 1 y1) 2 y2++ #[Value.bool g]).setIfInBounds 18 y3=(over ((A.setIfInBounds 0 y0).setIfInBounds 1 y1) 2 y2).setIfInBounds 18 y3++ #[.bool g]:=set_push (by rw[mA s3];omega);rw[e1,e2,e3,e4,h]
theorem aiC{c:List UInt8}{i n:Nat}(h:i<n):(nG c i++List.replicate (n -i) nD).set i (tC (chunk c i))=nG c (i+1)++List.replicate (n -(i+1)) nD:=by
 rw[at5 _ _ (by rw[zF];exact asu _),zF,atS,show n -i=n -(i+1)+1 by omega,au2,atI,Wt];simp
theorem aiD{c:List UInt8}{i n:Nat}(h:i<n):(nG c i++List.replicate (n -i) nD)[i]? =some nD:=by
 rw[asA (by rw[zF];exact asu _),zF,atS,auH,if_pos (by omega)]
theorem Ix(c:List UInt8)(i:Nat):(((c.drop 2).take (c.length -2)).drop (i*21)).take ((i+1)*21 -i*21)=chunk (c.drop 2) i:=by
 rw[asy (l:=c.drop 2) (by rw[ass];exact asu _),chunk,show(i+1)*21 -i*21=21 by omega,atK i]
theorem WE(c:List UInt8):de (c.take 2)<65536:=by
 have h:=FI (c.take 2);have:(c.take 2).length<=2:=by rw[asq];omega
 exact atd h (atv (by decide) this)
def lc(a:Sl (Sl Ch)):List (List Ch):=a.xs.map Sl.xs
theorem aiE{a x:Sl (Sl Ch)}{s:Sv}{l:List Ch}(h:x.xs=a.xs++[⟨s,l⟩]):lc x=lc a++[l]:=by rw[lc,h];simp[lc]
theorem NW(j:List UInt8)(d m:Nat):(j.drop (d+2)).take (d+2+m -(d+2))=((j.drop d).drop 2).take m:=by
 rw[at3,atG]
theorem aiF{j:List UInt8}{d:Nat}{acc:List (List Ch)}(h:fB j=(acc++(fB (j.drop d)).1,d+(fB (j.drop d)).2))(h1: ¬(j.drop d).length<2)(h2: ¬(j.drop d).length<2+de ((j.drop d).take 2))(h3:lq (((j.drop d).drop 2).take (de ((j.drop d).take 2)))=0):
  fB j=((acc++[mu (((j.drop d).drop 2).take (de ((j.drop d).take 2)))])++(fB (j.drop (d+2+de ((j.drop d).take 2)))).1,d+2+de ((j.drop d).take 2)+(fB (j.drop (d+2+de ((j.drop d).take 2)))).2):=by
 have e:(j.drop d).drop (2+de ((j.drop d).take 2))=j.drop (d+2+de ((j.drop d).take 2)):=by rw[at3,atN]
 rw[h,WB h1 h2 h3,e];simp only[asF,auk,atN]
theorem WG: ∀{p:List (List Ch)} {t:List Rt} {r:List (List Ch)},(di t p).2.2≠0->di t (p++r)=di t p
 |[],t,r,h=>by rw[di]at h;exact absurd rfl h
 |a::p,t,r,h=>by
  rw[atA,di,di];rw[di]at h
  by_cases ha:cx t a=0
  ·
   rw[if_pos ha]at h;rw[if_pos ha,if_pos ha,WG h]
  rw[if_neg ha,if_neg ha]
theorem WH{l:List (List Ch)}{t q:List Rt}{i:Nat}{g:List Ch}(h:di t (l.take i)=(q,i,0))(hg:l[i]? =some g):di t (l.take (i+1))=if cx q g=0 then(bM q g,i+1,0)else(q,i,cx q g):=by
 rw[asC,hg,au4,WD,h,if_pos rfl]
theorem aiG{l:List (List Ch)}{t q:List Rt}{i:Nat}{g:List Ch}(h:di t (l.take i)=(q,i,0))(hg:l[i]? =some g)(he:cx q g≠0):di t l=(q,i,cx q g):=by
 have h1:=WH h hg;rw[if_neg he]at h1;have h2:=WG (p:=l.take (i+1)) (t:=t) (r:=l.drop (i+1)) (by rw[h1];exact he);rw[asR,h1]at h2;exact h2
theorem WI: ∀p:List (List Ch),p.length<=(Iw p).length
 |[]=>asu _
 |l::p=>by
  have:=WI p;have:=aiw l;rw[WC,af0,asm];omega
theorem WJ(l:List UInt8):(fB l).1.length<=l.length:=by
 obtain⟨h1,_,h3⟩:=aix l;have h4:=WI (fB l).1;rw[←h3,asq]at h4;omega
theorem WK(a:Sl (Sl Ch)):(lc a).length=a.xs.length:=by simp[lc]
end Go.ax
namespace Go.Proofs.YtkggjjnhnjjokaaGreatDoor
open Go.ax Go.Kb
instance (b:Bool):nK Tryz.prog 47 [(1, .bool b)] (.agg (cq ⟨dM,b⟩)):=⟨fun w=>by unfold cq ay cP dM;rw[uz];kernel_rfl⟩
variable {w0:World}{L:List aj}
instance ar5{b:Sv}{bs:List UInt8}[hb:cD w0 L aG 1 b bs]:cE Tryz.prog 187 w0 L [b.val] (.tuple #[.agg (cq (xZ bs)), .bool (tD bs)]) (bs.length=21):=⟨fun aH w hw=>by
 have hb:=hb.h w hw;have rK:Gv w b aG 1 bs:=⟨hb⟩;have eg: ∀(i:Nat) e,bs[i]? =some e->bs.getD i 0=e:=fun i e h=>by simp[List.getD,h]
 obtain⟨x0,dS⟩:=get_some (xs:=bs) (i:=0) oM;obtain⟨x1,mi⟩:=get_some (xs:=bs) (i:=1) oM;obtain⟨x2,fU⟩:=get_some (xs:=bs) (i:=2) oM;obtain⟨xT,DQ⟩:=get_some (xs:=bs) (i:=19) oM;obtain⟨BA,WL⟩:=get_some (xs:=bs) (i:=20) oM;have v7:=eg 0 x0 dS;have DR:=eg 1 x1 mi;have eg2:=eg 2 x2 fU;have Ms:=eg 19 xT DQ;have Mt:=eg 20 BA WL;have Iy: ∀x:UInt8,x<=1↔(x.toNat:Int)<=1:=fun x=>by rw[UInt8.le_iff_toNat_le];simp;omega
 refine cB Tryz.func187 rfl Tryz.ntmps187 rfl ?_;refine Gc ?_;refine bl fun b2=>al ?_;refine ag (aW rfl rfl 0 rfl oM) (ag (bE (j:=0) rfl 0 dS rfl (by decide)) (al ?_));refine bI rfl rfl rfl (fun hg=>(Ry.yl (aW (aF hg rfl) rfl 1 rfl (by simp only[Z0,Z1,Z2,Z3,Z4,Z5,Z6,Z7,Z8,Z9]at hg;omega)))) (bI rfl rfl rfl (fun hg=>(Ry.yl (bE (j:=0) (aF hg rfl) 1 mi rfl (by decide)))) (al ?_));refine Gb (fun h0=>?_) fun h0=>?_
 ·
  have fP:wu bs=false:=by rw[wu,v7,DR,Bool.and_eq_false_iff,decide_eq_false_iff_not,decide_eq_false_iff_not,Iy,Iy];omega
  have hv:xZ bs=nD:=if_neg (by rw[fP];simp);refine Gc ?_;refine ag (iz rfl) (al ?_);refine Gr fun w1 hw=>?_;exact⟨by rw[hv,tD,fP];rfl,ai.mem hw⟩
 have WM:wu bs=true:=by rw[wu,v7,DR,alM,decide_eq_true_eq,decide_eq_true_eq,Iy,Iy];omega
 have hv:xZ bs=tC bs:=if_pos WM;refine av ?_;refine ag (aW rfl rfl 0 rfl oM) (ag (bE (j:=0) rfl 0 dS rfl (by decide)) (Gs ?_));refine ag (iz rfl) (bl fun b4=>hU ?_);refine eu rfl rfl (by rw[sY];decide) rfl rfl (gg ?_);refine yo (X:=Unit) (fun zz=>[(0,b.val),(2, .pointer (some ⟨b2,0,none⟩)),(4, .pointer (some ⟨b4,0,none⟩)),(5, .pointer (some ⟨b4,0,none⟩))]) (fun zz=>[ar b4 ((cq ⟨dM,decide ((x0.toNat:Int)=1)⟩).setIfInBounds 0 (.int .i64 (if x1=1 then 128 else 32))) 47,ar b2 (cq nD) 47]) (fun zz=>True) ?_ ?_
 ·
  refine av ?_;refine ag (aW rfl rfl 1 rfl oM) (ag (bE (j:=0) rfl 1 mi rfl (by decide)) (av ?_));refine Gb (fun h1=>?_) fun h1=>?_
  ·
   have By:x1=1:=atT.1 (by simp;omega);refine Gi ?_;refine al ?_;refine eu rfl rfl (by simp[sY]) rfl rfl (Gi ?_);exact nM () trivial sb (fun w hw=>by rw[if_pos By];rw[Array.setIfInBounds_setIfInBounds]at hw;exact hw)
  have By: ¬x1=1:=fun h=>by subst h;simp at h1
  refine Gi ?_;exact nM () trivial sb (fun w hw=>by rw[if_neg By];exact hw)
 rintro⟨⟩ hJ;refine al ?_;refine ag (aW rfl rfl 2 rfl oM) (ag (bE (j:=0) rfl 2 fU rfl (by decide)) (ag (wK rfl) (av ?_)));refine eu rfl rfl (by simp[sY]) rfl rfl (Gc ?_);refine iY [6] [[],[],[],[],[],[],[]] [0,1,2,3,4,5,6] [] (fun _ hw=>ai.mem hw) oK oK (an rfl (bf rfl) (an rfl (jf rfl) (an rfl (aO (o':=2) rfl rfl) (an rfl (ra rfl) (an rfl (bf rfl) ?_)))));have WN:Rg 3 19 bs.length:=⟨by omega⟩;refine an rfl (vb rfl rfl rfl 3 19 rfl rfl WN.h.1 WN.h.2) ?_;refine dH rfl (PR (ys:=(bs.drop 3).take 16) rfl rfl (by simp;omega) (by simp;omega) (by simp[sY];omega) rfl ⟨fun _ hw=>ai.mem hw,?_⟩);refine av ?_;have WO:Rg 19 21 bs.length:=⟨by omega⟩;refine ag (vb rfl rfl rfl 19 21 rfl rfl WO.h.1 WO.h.2) (eS (cj rfl (by simp;omega)) (ag (pK rfl (show IntKind.u16.wrap _=((oL xT BA).toNat:Int)from by rw[aco DQ WL rfl];exact pM (by simp only[nb];exact(oL xT BA).toNat_lt))) (av ?_)));refine eu rfl rfl (by rw[mA (by rw[ate,gR];simp[sY];omega)];simp[sY]) rfl rfl (ky ?_);refine sh [ar b4 (cq (tC bs)) 47,ar b2 (cq nD) 47] (fun w hw=>?_) ?_
 ·
  rw[tC,v7,show decide (x0=1)=decide ((x0.toNat:Int)=1)from by rw[decide_eq_decide,←atT];simp;omega,←aiB (b:=bs) aH (g:=decide ((x0.toNat:Int)=1)) (v:=if x1=1 then 128 else 32) (by rw[DR]),eg2,Ms,Mt];exact hw
 refine iY [5] [[],[],[],[],[],[],[5]] [0,1,2,3,4,5,6] [ar b4 (cq (tC bs)) 47] (fun _ hw=>ai.mem hw) oK oK (an rfl (jY rfl) (an rfl (bf rfl) (an rfl (jf rfl) (an rfl (hK rfl) (wX rfl (cj rfl trivial) (dH rfl (pV rfl rfl ⟨fun _ hw=>ai.mem hw,?_⟩)))))));refine an rfl (hG rfl) (Gc ?_);refine Gr fun w1 hw=>?_;exact⟨by rw[hv,tD,WM,ath],ai.mem hw⟩⟩
instance ar6{b:Sv}{bs:List UInt8}[hb:cD w0 L aG 1 b bs]:bN Tryz.prog 114 w0 L [b.val] (Sv) (fun zz=> .tuple #[zz.val, .int .i64 (lq bs)]) (fun zz=>own cq 20 zz (mu bs)::L) (fun zz=>True) (bs.length<=1000000):=⟨fun aH w hw=>Gk (fun zz=>[own cq 20 zz (mu bs)]) hw (by
 have hb:=hb.h w hw;have rK:Gv w b aG 1 bs:=⟨hb⟩;have hde:=WE (cl bs);refine cB Tryz.func114 rfl Tryz.ntmps114 rfl ?_;refine aM ?_;refine aX rfl oM fun uK TL=>Gs ?_;refine ag (aJ (v:=uK.val) rfl rfl) (ag (aJ (v:= .int .i64 (nX bs)) rfl rfl) (aS ?_));refine Gb (fun h0=>?_) fun h0=>?_
 ·
  have he:lq bs=nX bs:=if_neg h0;refine aM ?_;refine Gr fun w1 hw=>?_;exact⟨Sv.none,by rw[he];rfl,trivial,by rw[mu,if_neg (by rw[he];exact h0)];exact(ai.mem hw:Mem w [] _).dj cq 20⟩
 have ho:nX bs=0:=by simpa using h0
 refine aM ?_;refine Gb (fun h1=>?_) fun h1=>?_
 ·
  have hf:uU (cl bs)=false:=by rw[uU,decide_eq_false oM];rfl
  have he:lq bs=2:=by rw[lq,if_pos ho,if_neg];rw[hf];simp
  refine au ?_;refine Gr fun w1 hw=>?_;exact⟨Sv.none,by rw[he];rfl,trivial,by rw[mu,if_neg (by rw[he];decide)];exact(ai.mem hw:Mem w [] _).dj cq 20⟩
 have tp:2<=(cl bs).length:=by omega
 refine av ?_;have Hb:Rg 0 2 (cl bs).length:=⟨by omega⟩;refine ag (Cs rfl rfl 2 rfl Hb.h.2) (eS (cj rfl (by simp;omega)) (ag (Ry.to (v':= .int .i64 (((de ((cl bs).take 2)):Nat):Int)) (gH rfl (by simp only[nb,atD,avs];omega)) (by rw[atD,avs])) (al ?_)));have Mu:Rg 2 ((cl bs).length) (cl bs).length:=⟨by omega⟩;refine ag (vc rfl rfl 2 rfl Mu.h.1) (eI ?_);refine bI rfl rfl rfl (fun hg=>(Ry.yl (pL (aF hg rfl) rfl (by simp only[Z0,Z1,Z2,Z3,Z4,Z5,Z6,Z7,Z8,Z9]at hg;omega)))) (al ?_);refine Gb (fun h2=>?_) fun h2=>?_
 ·
  have hf:uU (cl bs)=false:=by
   rw[uU];rcases h2 with h|h
   ·
    rw[decide_eq_false (p:=(de ((cl bs).take 2))<=200) oM];simp
   rw[decide_eq_false (p:=((cl bs).drop 2).length=21*(de ((cl bs).take 2))) (by simp only[asq,ass]at h⊢;omega)];simp
  have he:lq bs=2:=by rw[lq,if_pos ho,if_neg];rw[hf];simp
  refine au ?_;refine Gr fun w1 hw=>?_;exact⟨Sv.none,by rw[he];rfl,trivial,by rw[mu,if_neg (by rw[he];decide)];exact(ai.mem hw:Mem w [] _).dj cq 20⟩
 have zj:(de ((cl bs).take 2))<=200:=by omega
 have uA:((cl bs).drop 2).length=21*(de ((cl bs).take 2)):=by have:=h2.2;simp only[asq,ass]at this⊢;omega
 refine av ?_;refine sg (enc:=cq) (n:=(de ((cl bs).take 2))) (cap:=(de ((cl bs).take 2))) nD rfl rfl rfl rfl rfl oM oM oM fun BD=>al ?_;refine ag (Ry.to (v':= .int .i64 (((de ((cl bs).take 2)):Nat):Int)) (tP rfl) (by rw[ata])) (av ?_);refine bQ (X:=Nat) (fun zz=>[(40, .int .i64 (zz:Nat)),(6,(⟨false,BD,0,(de ((cl bs).take 2)),(de ((cl bs).take 2)),none⟩:Sv).val),(0,(uK.sub 1 2 ((cl bs).length)).val),(39, .int .i64 ((de ((cl bs).take 2)):Nat))]) (fun zz=>[own cq 20 ⟨false,BD,0,(de ((cl bs).take 2)),(de ((cl bs).take 2)),none⟩ (nG ((cl bs).drop 2) zz++List.replicate ((de ((cl bs).take 2)) -zz) nD),own aG 1 uK (cl bs)]) (fun zz=>zz<=(de ((cl bs).take 2))/\uT ((cl bs).drop 2) zz=true) (fun zz=>(de ((cl bs).take 2)) -zz) 0 ⟨Nat.zero_le _,rfl⟩ sb (fun w hw=>by rw[show nG ((cl bs).drop 2) 0=[]from rfl,atc,avs];exact ai.mem hw) ?_;rintro i ⟨aZ,aE⟩;have CX:(nG ((cl bs).drop 2) i++List.replicate ((de ((cl bs).take 2)) -i) nD).length=(de ((cl bs).take 2)):=by rw[af0,ata,zF];omega
 refine al ?_;refine Gb (fun h3=>?_) fun h3=>?_
 ·
  refine aS ?_;refine ag (pL rfl rfl oM) (av ?_);refine ag (pL rfl rfl oM) ?_;have WQ:Rg (i*21) ((i+1)*21) (((cl bs).drop 2).take ((cl bs).length -2)).length:=⟨by simp only[asq,ass]at uA⊢;omega⟩;refine ag (vb rfl rfl rfl (i*21) ((i+1)*21) rfl rfl WQ.h.1 WQ.h.2) ?_;have hX:(((((cl bs).drop 2).take ((cl bs).length -2)).drop (i*21)).take ((i+1)*21 -i*21)).length=21:=by rw[Ix,chunk,asq,ass];omega
  refine eS (cj rfl hX) (Gs ?_);refine ag (aJ (v:= .agg (cq (xZ (((((cl bs).drop 2).take ((cl bs).length -2)).drop (i*21)).take (((i+1)*21) -(i*21)))))) rfl rfl) (ag (aJ (v:= .bool (tD (((((cl bs).drop 2).take ((cl bs).length -2)).drop (i*21)).take (((i+1)*21) -(i*21))))) rfl rfl) (bl fun b8=>aS ?_));refine Gb (fun h4=>?_) fun h4=>?_
  ·
   have hf:uU (cl bs)=false:=by rw[uU,ait (i:=i) oM (by rw[←Ix];simpa using h4)];simp
   have he:lq bs=2:=by rw[lq,if_pos ho,if_neg];rw[hf];simp
   refine au ?_;refine Gr fun w1 hw=>?_;exact⟨Sv.none,by rw[he];rfl,trivial,by rw[mu,if_neg (by rw[he];decide)];exact(ai.mem hw:Mem w [] _).dj cq 20⟩
  have bB:tD (((((cl bs).drop 2).take ((cl bs).length -2)).drop (i*21)).take ((i+1)*21 -i*21))=true:=by simpa using h4
  have hv:xZ (((((cl bs).drop 2).take ((cl bs).length -2)).drop (i*21)).take ((i+1)*21 -i*21))=tC (chunk ((cl bs).drop 2) i):=by rw[tD,alM]at bB;rw[xZ,if_pos bB.1,Ix]
  rw[Ix]at bB;refine au ?_;refine ag (aW rfl rfl i rfl oM) (ku (n:=20) (k:=i) (j:=0) (a:=nD) (a':=xZ (((((cl bs).drop 2).take ((cl bs).length -2)).drop (i*21)).take ((i+1)*21 -i*21))) (xs:=(nG ((cl bs).drop 2) i++List.replicate ((de ((cl bs).take 2)) -i) nD)) (enc:=cq) (c:=20) (v:= .agg (cq (xZ (((((cl bs).drop 2).take ((cl bs).length -2)).drop (i*21)).take ((i+1)*21 -i*21))))) oK rfl rfl rfl (aiD oM) (bm.one (enc:=cq) (c:=20) _) (sY _) (by decide) (TV (by rw[sY];exact(sY _).symm)) (al ?_));refine Gi ?_;exact bj (x:=(i)) (i+1) ⟨oF,by rw[Wu,aE,bB];rfl⟩ oF sb (fun w hw=>by rw[hv,aiC oM]at hw;exact ai.mem hw)
 obtain rfl:i=(de ((cl bs).take 2)):=by omega
 have he:lq bs=0:=by rw[lq,if_pos ho,if_pos];rw[uU,aE,decide_eq_true tp,decide_eq_true zj,decide_eq_true uA];rfl
 refine aM ?_;refine Gr fun w1 hw=>?_;exact⟨⟨false,BD,0,(de ((cl bs).take 2)),(de ((cl bs).take 2)),none⟩,by rw[he],trivial,by rw[atS,List.replicate_zero,asZ]at hw;rw[mu,if_pos he];exact ai.mem hw⟩)⟩
instance ar7{j:Sv}{js:List UInt8}[hj:cD w0 L aG 1 j js]:bN Tryz.prog 49 w0 L [j.val] (Sl (Sl Ch)) (fun zz=> .tuple #[zz.sv.val, .int .i64 (((fB js).2):Nat)]) (fun zz=>Deep.bR zz::L) (fun zz=>lc zz=(fB js).1) (js.length<=1000000):=⟨fun aH w hw=>Gk (fun zz=>[Deep.bR zz]) hw (by
 have hj:=hj.h w hw;have ghj:Gv w j aG 1 js:=⟨hj⟩;refine cB Tryz.func49 rfl Tryz.ntmps49 rfl ?_;refine eI ?_;refine bQ (X:=Nat×Sl (Sl Ch)) (fun zz=>[(5, .int .i64 (zz.1:Nat)),(4,zz.2.sv.val),(0,j.val)]) (fun zz=>[Deep.bR zz.2]) (fun zz=>zz.1<=js.length/\fB js=(lc zz.2++(fB (js.drop zz.1)).1,zz.1+(fB (js.drop zz.1)).2)/\zz.2.xs.length<=zz.1) (fun zz=>js.length -zz.1) (0,⟨Sv.none,[]⟩) ⟨Nat.zero_le _,by simp[lc],Nat.le_refl _⟩ sb (fun w hw=>Mem.yx (enc:=bT) (c:=1) hw) ?_;rintro⟨d,a⟩ ⟨aZ,aE,bo⟩;dsimp only;simp only at aZ aE bo;have hM:=WE (js.drop d);refine cW ?_;refine Gb (fun h0=>?_) fun h0=>?_
 ·
  have pN: ¬(js.drop d).length<2:=by rw[ass];omega
  refine cW ?_;have WR:Rg d (d+2) js.length:=⟨by omega⟩;refine ag (vb rfl rfl rfl d (d+2) rfl rfl WR.h.1 WR.h.2) (eS (cj rfl (by rw[show d+2 -d=2 by omega,asq];omega)) (ag (Ry.to (v':= .int .i64 (((de ((js.drop d).take 2)):Nat):Int)) (gH rfl (by simp only[nb,show d+2 -d=2 by omega];omega)) (by rw[show d+2 -d=2 by omega])) (eI ?_)));refine Gb (fun h1=>?_) fun h1=>?_
  ·
   have hz:fB js=(lc a,d):=by rw[aE,Wz (by rw[ass];omega),asZ];rfl
   refine gg ?_;refine EO rfl (aS ?_);refine Gr fun w1 hw=>?_;exact⟨a,by rw[hz],by rw[hz],ai.mem hw⟩
  have tp: ¬(js.drop d).length<2+(de ((js.drop d).take 2)):=by rw[ass];omega
  refine aM ?_;have WS:Rg (d+2) ((d+2)+(de ((js.drop d).take 2))) js.length:=⟨by omega⟩;refine ag (vb rfl rfl rfl (d+2) ((d+2)+(de ((js.drop d).take 2))) rfl rfl WS.h.1 WS.h.2) (aX rfl (by simp only[asq,ass];omega) fun gD uI=>Gs ?_);refine ag (aJ (v:=gD.val) rfl rfl) (ag (aJ (v:= .int .i64 (lq ((js.drop (d+2)).take (((d+2)+(de ((js.drop d).take 2))) -(d+2))))) rfl rfl) (aS ?_));refine Gb (fun h2=>?_) fun h2=>?_
  ·
   have hz:fB js=(lc a,d):=by rw[aE,WA (by rw[←NW];exact h2),asZ];rfl
   refine gg ?_;refine EO rfl (aS ?_);refine Gr fun w1 hw=>?_;exact⟨a,by rw[hz],by rw[hz],ai.mem hw⟩
  have hre:lq (((js.drop d).drop 2).take (de ((js.drop d).take 2)))=0:=by rw[←NW];simpa using h2
  refine al ?_;refine jF (enc:=bT) (vals:=[gD.val]) [⟨gD,(mu ((js.drop (d+2)).take (((d+2)+(de ((js.drop d).take 2))) -(d+2))))⟩] rfl (by simp only[asL,ato,Sv.iX];rfl) rfl (by decide) (by decide) fun b41=>?_;refine OY (s:=⟨false,b41,0,1,1,none⟩) a [⟨gD,(mu ((js.drop (d+2)).take (((d+2)+(de ((js.drop d).take 2))) -(d+2))))⟩] rfl rfl (by decide) (by simp only[asm,asn];omega) (by simp only[asm,asn];omega) fun x42 WT=>au ?_;refine gg ?_;exact bj (x:=(d,a)) (d+2+(de ((js.drop d).take 2)),x42) ⟨oF,by rw[aiE WT,NW];exact aiF aE pN tp hre,by rw[WT,af0];simp only[asm,asn];omega⟩ (by simp only;omega) sb (fun w hw=>ai.mem hw)
 have hz:fB js=(lc a,d):=by rw[aE,Wx (by rw[ass];omega),asZ];rfl
 refine aS ?_;refine Gr fun w1 hw=>?_;exact⟨a,by rw[hz],by rw[hz],ai.mem hw⟩)⟩
instance ar8{t:Sv}{ts:List Rt}{j:Sv}{js:List UInt8}[ht:cD w0 L ay 19 t ts][hj:cD w0 L aG 1 j js]:bN Tryz.prog 48 w0 L [t.val,j.val] (Sv) (fun zz=> .tuple #[zz.val, .int .i64 (((ko ts js).2.1):Nat), .int .i64 ((ko ts js).2.2)]) (fun zz=>own ay 19 zz ((ko ts js).1)::L) (fun zz=>True) (ts.length<=1000000/\js.length<=1000000):=⟨fun aH w hw=>Gk (fun zz=>[own ay 19 zz ((ko ts js).1)]) hw (by
 have ht:=ht.h w hw;have hj:=hj.h w hw;have rL:Gv w t ay 19 ts:=⟨ht⟩;have ghj:Gv w j aG 1 js:=⟨hj⟩;obtain⟨gq,gy⟩:=aH;refine cQ Tryz.func48 rfl Tryz.ntmps48 rfl ?_;refine aS ?_;refine aX rfl oM fun jB xL=>aS ?_;refine Gb (fun h0=>?_) fun h0=>?_
 ·
  have hz:ko ts js=(ts,0,1):=if_neg (by rw[h0];simp);refine aS ?_;refine Gr fun w1 hw=>?_;exact⟨jB,by rw[hz];rfl,trivial,by rw[hz];exact ai.mem hw⟩
 have hr:bF ts=true:=h0;refine av ?_;refine aX rfl oM fun eQ tg=>?_;have tg:lc eQ=(fB js).1:=tg;have ar9:eQ.xs.length<=js.length:=by rw[←WK,tg];exact WJ js
 refine Gs ?_;refine ag (aJ (v:=eQ.sv.val) rfl rfl) (ag (aJ (v:= .int .i64 (((fB js).2):Nat)) rfl rfl) (cW ?_));refine bQ (X:=Nat×Sv×List Rt) (fun zz=>[(26, .int .i64 (zz.1:Nat)),(0,zz.2.1.val),(7,eQ.sv.val),(24,eQ.sv.val),(25, .int .i64 (eQ.xs.length:Nat))]) (fun zz=>[own ay 19 zz.2.1 zz.2.2,Deep.bR eQ]) (fun zz=>zz.1<=eQ.xs.length/\di ts ((lc eQ).take zz.1)=(zz.2.2,zz.1,0)/\bF zz.2.2=true) (fun zz=>eQ.xs.length -zz.1) (0,jB,ts) ⟨Nat.zero_le _,by rw[List.take_zero];rfl,hr⟩ sb (fun w hw=>ai.mem hw) ?_;rintro⟨i,s1,q⟩ ⟨aZ,aE,bo⟩;dsimp only;simp only at aZ aE bo;have hq:=xe bo;refine al ?_;refine Gb (fun h1=>?_) fun h1=>?_
 ·
  refine av ?_;obtain⟨g,hg⟩:=get_some (xs:=eQ.xs) (i:=i) oM;refine ag (aW rfl rfl i rfl oM) (ag (bE (j:=0) rfl i hg rfl (by decide)) ?_);have LC:Mb g _:=⟨List.mem_of_getElem? hg⟩;refine aM ?_;refine aX rfl oM fun gD uI=>Gs ?_;refine ag (aJ (v:=gD.val) rfl rfl) (ag (aJ (v:= .int .i64 (cx q g.xs)) rfl rfl) (aS ?_));refine Gb (fun h2=>?_) fun h2=>?_
  ·
   have hz:ko ts js=(q,i,cx q g.xs):=by rw[ko,if_pos hr,←tg,aiG (g:=g.xs) aE (by simp[lc,hg]) h2]
   refine eI ?_;refine Gr fun w1 hw=>?_;exact⟨s1,by rw[hz],trivial,by rw[hz];exact ai.mem hw⟩
  refine aS ?_;refine Gi ?_;exact bj (x:=(i,s1,q)) (i+1,gD,bM q g.xs) ⟨oF,by rw[WH (g:=g.xs) aE (by simp[lc,hg]),if_pos h2],aiz bo _⟩ (by simp only;omega) sb (fun w hw=>ai.mem hw)
 obtain rfl:i=eQ.xs.length:=by omega
 rw[asy (by rw[lc,as8];exact asu _)]at aE;have hz:ko ts js=(q,eQ.xs.length,0):=by rw[ko,if_pos hr,←tg,aE]
 refine eI ?_;refine Gr fun w1 hw=>?_;exact⟨s1,by rw[hz],trivial,by rw[hz];exact ai.mem hw⟩)⟩
end Go.Proofs.YtkggjjnhnjjokaaGreatDoor
namespace Go.Kb
open Go.ax
theorem WU: ∀{B:List (List Ch)} {t:List Rt} {i:Nat},i<(di t B).2.1-> ∃g,B[i]? =some g/\cx (di t (B.take i)).1 g=0/\(di t (B.take (i+1))).1=bM (di t (B.take i)).1 g
 |[],t,i,h=>by rw[di]at h;exact absurd h (Nat.not_lt_zero i)
 |g::r,t,0,h=>by
  rw[di]at h
  by_cases he:cx t g=0
  ·
   exact⟨g,rfl,by rw[asW];exact he,by rw[atk,asW,asW];show(di t [g]).1=bM t g;rw[di,if_pos he];rfl⟩
  rw[if_neg he]at h;exact absurd h (Nat.lt_irrefl 0)
 |g::r,t,i+1,h=>by
  rw[di]at h
  by_cases he:cx t g=0
  ·
   rw[if_pos he]at h;obtain⟨x,h1,h2,h3⟩:=WU (B:=r) (t:=bM t g) (i:=i) (by simpa using h);refine⟨x,h1,?_,?_⟩
   ·
    rw[atk,di,if_pos he];exact h2
   rw[atk,di,if_pos he,atk,di,if_pos he];exact h3
  rw[if_neg he]at h;exact absurd h (Nat.not_lt_zero _)
theorem WW: ∀{B:List (List Ch)} {t:List Rt},(di t (B.take (di t B).2.1)).1=(di t B).1
 |[],t=>by rw[List.take_nil]
 |g::r,t=>by
  by_cases he:cx t g=0
  ·
   have e:(di t (g::r)).2.1=(di (bM t g) r).2.1+1:=by rw[di,if_pos he]
   rw[e,atk,di,if_pos he,di,if_pos he];exact WW
  have e:(di t (g::r)).2.1=0:=by rw[di,if_neg he]
  rw[e,asW];show t=(di t (g::r)).1;rw[di,if_neg he]
theorem WX: ∀{B:List (List Ch)} {t:List Rt},(di t B).2.1<=B.length
 |[],t=>asu _
 |g::r,t=>by
  rw[di];split
  ·
   have:=WX (B:=r) (t:=bM t g);simp only[asm];omega
  exact asO _
theorem aiH(j:List UInt8):ko [] j=di [] (fB j).1:=if_pos rfl
theorem aiI{l:List Ch}(h:l.length<=12):(lp l).length<=258:=by
 rw[lp];split
 ·
  rw[rk,af0,gK,Iv _ _ (asu _)];omega
 exact asO _
theorem aiJ{b:List UInt8}{l:List Ch}(h:l.length<=12):(uS b l).length<=b.length+260:=by
 have:=aiI h;rw[uS];split
 ·
  rw[af0,af0,gK];omega
 omega
theorem aiK{n p:Nat}(hn:n<7)(hp:p<7):wq n p []=true/\0<=tA n p:=by
 obtain⟨_,_,_,n4,n5,n6⟩:=Wk (n:=n) (p:=p) (by omega) hp;have h:=n4.jK;rw[n5,n6]at h;exact⟨NJ.2 ⟨rfl,h⟩,h⟩
end Go.Kb
namespace Go.Proofs.YtkggjjnhnjjokaaGreatDoor
open Go.ax Go.Kb Go.RowKit
theorem aiL(w:World)[tb:rh w](b:UInt8)(p:UInt8)(l:Sl (Sl Ch))(cut:UInt16)(hl:Deep.cH (hp w) l):Calls Tryz.prog 9 #[.int .u8 (b.toNat:Nat), .int .u8 (p.toNat:Nat),l.sv.val, .int .u16 (cut.toNat:Nat)] w fun e w'=>e= .returned (.bool true)/\Mem w [] w':=by
 have pw:cL w l:=⟨hl⟩;have oH:=cut.toNat_lt;have dW:=hl.1.bd;obtain⟨WY,mn2⟩:=aiK (n:=(b.toNat%7)) (p:=(p.toNat%7)) oM oM;have hM:zd ((b.toNat:Int)%7+5) ((p.toNat:Int)%7+2) 64=tA (b.toNat%7) (p.toNat%7):=by unfold tA;rw[Int.natCast_emod,Int.natCast_emod];rfl
 refine JU Tryz.func9 rfl Tryz.ntmps9 rfl ?_;refine aS ?_;refine jt rfl (fun h0=>?_) (fun h0=>?_)
 ·
  exfalso;simp at h0
 replace h0:=bz h0;refine aM ?_;refine Gb (fun h1=>?_) fun h1=>?_
 ·
  refine al ?_;refine Gr fun w1 hw=>?_;exact⟨rfl,ai.mem hw⟩
 refine aM ?_;refine bQ (X:=Nat×Sv×List UInt8) (fun zz=>[(10, .int .i64 (zz.1:Nat)),(9,zz.2.1.val),(0, .int .u8 (b.toNat:Nat)),(1, .int .u8 (p.toNat:Nat)),(2,l.sv.val),(3, .int .u16 (cut.toNat:Nat))]) (fun zz=>[own aG 1 zz.2.1 zz.2.2]) (fun zz=>zz.1<=l.xs.length/\zz.2.2.length<=260*zz.1) (fun zz=>l.xs.length -zz.1) (0,Sv.none,[]) ⟨Nat.zero_le _,Nat.le_refl _⟩ sb (fun w hw=>Mem.dj aG 1 (ai.mem hw)) ?_;rintro⟨i,s1,qs⟩ ⟨aZ,aE⟩;dsimp only;simp only at aZ aE;refine aS ?_;refine Gb (fun h2=>?_) fun h2=>?_
 ·
  obtain⟨y,hy⟩:=get_some (xs:=l.xs) (i:=i) oM;have Dx:Mb y l:=⟨List.mem_of_getElem? hy⟩;refine al ?_;refine ag (aW rfl rfl i rfl oM) (ag (bE (j:=0) rfl i hy rfl (by decide)) ?_);have adr:Mb y _:=⟨List.mem_of_getElem? hy⟩;refine al ?_;refine Gb (fun h3=>?_) fun h3=>?_
  ·
   refine al ?_;refine Gr fun w1 hw=>?_;exact⟨rfl,ai.mem hw⟩
  have Hf:=aiJ (b:=qs) (l:=y.xs) oM;refine au ?_;refine ag (aW rfl rfl i rfl oM) (ag (bE (j:=0) rfl i hy rfl (by decide)) ?_);have adB:Mb y _:=⟨List.mem_of_getElem? hy⟩;refine aX rfl oM fun kj vS=>Gs ?_;refine ag (aJ (v:=kj.val) rfl rfl) (ag (aJ (v:= .int .i64 (lP y.xs)) rfl rfl) (aM ?_));refine Gi ?_;exact bj (x:=(i,s1,qs)) (i+1,kj,uS qs y.xs) ⟨oF,by simp only;omega⟩ (by simp only;omega) sb (fun w hw=>ai.mem hw)
 have BY:qs.length<=2600:=by omega
 have k7:(cut.toNat%(qs.length+1))<=qs.length:=by have:=aun cut.toNat (show 0<qs.length+1 by omega);omega
 have iu:((qs.drop 0).take ((cut.toNat%(qs.length+1)) -0)).length<=2600:=by simp only[asq,ass];omega
 refine al ?_;refine ag (X4 rfl) (al ?_);refine ag (va (p:=cut.toNat) (q:=(qs.length+1)) rfl rfl rfl rfl oM) ?_;have aiM:Rg 0 (cut.toNat%(qs.length+1)) qs.length:=⟨by omega⟩;refine ag (Cs rfl rfl (cut.toNat%(qs.length+1)) rfl aiM.h.2) (al ?_);refine aX (vs:=[Sv.none.val,_]) rfl ⟨Nat.zero_le _,by omega⟩ fun wa Ug=>?_;obtain⟨B,hB⟩: ∃B,B=(fB ((qs.drop 0).take ((cut.toNat%(qs.length+1)) -0))).1:=⟨_,rfl⟩;have hP:ko [] ((qs.drop 0).take ((cut.toNat%(qs.length+1)) -0))=di [] B:=by rw[aiH,hB]
 have hM9:(ko [] ((qs.drop 0).take ((cut.toNat%(qs.length+1)) -0))).2.1<=2600:=by rw[hP];exact auO WX (by rw[hB];exact auO (WJ _) iu)
 refine Gs ?_;refine ag (aJ (v:=wa.val) rfl rfl) (ag (aJ (v:= .int .i64 (((ko [] ((qs.drop 0).take ((cut.toNat%(qs.length+1)) -0))).2.1):Nat)) rfl rfl) (ag (aJ (v:= .int .i64 ((ko [] ((qs.drop 0).take ((cut.toNat%(qs.length+1)) -0))).2.2)) rfl rfl) (aS ?_)));refine aX (vs:=[_,_,Sv.none.val]) rfl (asO _) fun ti zt=>Gs ?_;refine ag (aJ (v:= .agg (dw ti)) rfl rfl) (ag (aJ (v:= .bool (wq (b.toNat%7) (p.toNat%7) [])) rfl rfl) (bl fun xH=>aS ?_));refine jt rfl (fun h4=>?_) (fun h4=>?_)
 ·
  exfalso;rw[WY]at h4;simp at h4
 replace h4:=bz h4;obtain⟨r1,r2,r3⟩:=zt WY;refine av ?_;refine aX rfl oM fun zG aiN=>?_;have WZ:lc zG=B:=by rw[hB];exact aiN
 refine Gs ?_;refine ag (aJ (v:=zG.sv.val) rfl rfl) (ag (aJ (v:= .int .i64 (((fB ((qs.drop 0).take ((cut.toNat%(qs.length+1)) -0))).2):Nat)) rfl rfl) (cW ?_));refine bQ (X:=Nat×dx) (fun zz=>[(19, .int .i64 (zz.1:Nat)),(18, .int .i64 (zz.1:Nat)),(14, .pointer (some ⟨xH,0,none⟩)),(0, .int .u8 (b.toNat:Nat)),(1, .int .u8 (p.toNat:Nat)),(11,wa.val),(12, .int .i64 (((ko [] ((qs.drop 0).take ((cut.toNat%(qs.length+1)) -0))).2.1):Nat)),(16,zG.sv.val)]) (fun zz=>[ar xH (dw zz.2) 65,fz zz.2,Deep.bR zG,own ay 19 wa (ko [] ((qs.drop 0).take ((cut.toNat%(qs.length+1)) -0))).1,own aG 1 s1 qs]) (fun zz=>zz.1<=(ko [] ((qs.drop 0).take ((cut.toNat%(qs.length+1)) -0))).2.1/\Rm (60000*((ko [] ((qs.drop 0).take ((cut.toNat%(qs.length+1)) -0))).2.1 -zz.1)) (cg zz.2)/\zz.2.table.xs=(di [] (B.take zz.1)).1/\eG (cg zz.2).aq.ae=tA (b.toNat%7) (p.toNat%7)) (fun zz=>(ko [] ((qs.drop 0).take ((cut.toNat%(qs.length+1)) -0))).2.1 -zz.1) (0,ti) ⟨Nat.zero_le _,r1.mono (by simp only;omega),r2,r3⟩ sb (fun w hw=>ai.mem hw) ?_;rintro⟨i,s⟩ ⟨ja,dJ,ik,kI⟩;dsimp only;simp only at ja dJ ik kI;refine aM ?_;refine Gb (fun h5=>?_) fun h5=>?_
 ·
  obtain⟨g,k1,k2,k3⟩:=WU (B:=B) (t:=[]) (i:=i) (by rw[←hP];omega);obtain⟨y,hy⟩:=get_some (xs:=zG.xs) (i:=i) (by rw[←WK,WZ];exact(ad2.1 k1).1);have Dx:Mb y zG:=⟨List.mem_of_getElem? hy⟩;have mQ:y.xs=g:=by rw[←WZ,lc,asB,hy]at k1;exact aso k1
  have aiO:cx s.table.xs y.xs=0:=by rw[ik,mQ];exact k2
  have lM:=dJ.fb.small;have dK:=(ad2.1 hy).1;refine Gc ?_;refine ub [5,9,10,2009,4005] [[],[],[],[],[],[],[5],[5],[5],[],[5,9],[5,9,10]] [0,1,2,3,4,5,6,7,8,9,10,11] [ar xH (dw s) 65,fz s,Deep.bR zG,own ay 19 wa (ko [] ((qs.drop 0).take ((cut.toNat%(qs.length+1)) -0))).1,own aG 1 s1 qs] [(9,nr Tryz.prog 65)] oK (fun _ hw=>ai.mem hw) oK oK (an rfl (jY rfl) (an rfl (bf rfl) (an rfl (bf rfl) (an rfl (aW rfl rfl i rfl oM) (an rfl (bE (j:=0) rfl i hy rfl (by decide)) ?_)))));have asa:Mb y _:=⟨List.mem_of_getElem? hy⟩;refine wY rfl rfl lM (fun e x w hw=>ai.mem hw) (Cert.one (i:=9) rfl rfl rfl mC (Cert.none rfl)) fun W0 aiP=>⟨fun _ hw=>ai.mem hw,?_⟩;have br:=Rm.done (k:=60000*((ko [] ((qs.drop 0).take ((cut.toNat%(qs.length+1)) -0))).2.1 -(i+1))) (dJ.mono oM) y.xs;rw[←aiP]at br;obtain⟨q0,q1,q2,q3,q5⟩:=br;have hE:(cG (cg s) y.xs).2=5\/(cG (cg s) y.xs).2=0:=by
   rw[q0,NI];split
   ·
    exact .inl rfl
   exact .inr aiO
  refine an rfl (bf rfl) (an rfl (aJ (v:= .agg (dw W0)) rfl rfl) (an rfl (aJ (v:= .int .i64 ((cG (cg s) y.xs).2)) rfl rfl) (sE (m:=nr Tryz.prog 65) rfl rfl mC (Cert.none rfl) fun iq=>?_)));change Ln _ _ _ _ _ _ _ _ (cJ _ _ (.pointer (some ⟨iq,0,none⟩))) (ar iq (dw nE) 65::_) _;refine dH rfl (pV rfl rfl ⟨fun _ hw=>ai.mem hw,?_⟩);refine an rfl (hG rfl) (au ?_);refine Gb (fun h6=>?_) fun h6=>?_
  ·
   refine Gi ?_;refine gJ oK oK (au ?_);refine bC (va (p:=b.toNat) (q:=7) rfl rfl rfl rfl oM) (bC (gH rfl (by simp only[nb];omega)) (av ?_));refine bC (va (p:=p.toNat) (q:=7) rfl rfl rfl rfl oM) (bC (gH rfl (by simp only[nb];omega)) (Gq ?_));refine sd (cj rfl trivial) (al ?_);refine Gr fun w1 hw=>?_;exact Ge ((decide_eq_true (by have:=dJ.jK;rw[kI]at this;exact this))) hw
  refine au ?_;refine jt rfl (fun h7=>?_) (fun h7=>?_)
  ·
   exfalso;rcases hE with h|h
   ·
    exact h6 h
   rw[h]at h7;simp at h7
  replace h7:=bz h7;have q7:=q2 (by simpa using h7);refine oP ?_;refine Gi ?_;exact bj (x:=(i,s)) (i+1,W0) ⟨oF,q1,by simp only;rw[k3,←ik,←mQ];exact q7,q5.trans kI⟩ (by simp only;omega) sb (fun w hw=>ai.mem hw)
 obtain rfl:i=(ko [] ((qs.drop 0).take ((cut.toNat%(qs.length+1)) -0))).2.1:=by omega
 refine al ?_;refine ag (hK rfl) (aX rfl trivial fun BW aiQ=>?_);have u7:=dJ.fb.aho dJ.off;have W1:cg BW=cg s:=by rw[aiQ];exact congrArg Prod.fst u7
 have wx:(dz (cv s.aq.ae)).2=0:=congrArg Prod.snd u7;have t115:BW.table.xs=(ko [] ((qs.drop 0).take ((cut.toNat%(qs.length+1)) -0))).1:=by rw[show BW.table.xs=s.table.xs from congrArg FV.table W1,ik,hP];exact WW
 have asb:BW.table.xs.length<=1000000:=by rw[show BW.table.xs=s.table.xs from congrArg FV.table W1];exact dJ.fb.small.2.2
 refine Gs ?_;refine ag (aJ (v:= .agg (dw BW)) rfl rfl) (ag (aJ (v:= .int .i64 ((dz (cv s.aq.ae)).2)) rfl rfl) (bl fun mP=>cW ?_));refine kv rfl rfl rfl (by simp[wx,t115]) (Ry.yl (bf rfl)) (kv rfl rfl rfl (by simp[wx,t115]) (Ry.yl (et rfl rfl rfl)) (ag (tU rfl (by simp[wx,t115]) rfl rfl) (Gs ?_)));refine kv rfl rfl rfl (by simp[wx,t115]) (Ry.yl (aO (o':=9) rfl rfl)) (kv rfl rfl rfl (by simp[wx,t115]) (Ry.yl (bY rfl)) (kv rfl rfl rfl (by simp[wx,t115]) (Ry.yl (bf rfl)) (kv rfl rfl rfl (by simp[wx,t115]) (cj rfl oM) (ag (tU rfl (by simp[wx,t115]) rfl rfl) (av ?_)))));refine Gr fun w1 hw=>?_;exact Ge ((by simp[wx,t115])) hw
end Go.Proofs.YtkggjjnhnjjokaaGreatDoor
namespace Go.ax
open Go.ChangeShapes Go.WideShapes Go.ChangeAt Go.RowKit Go.Kb
variable {H:Type} {enc:TypeId×Value->H} {P:Program}
theorem W2(hl:laidOutB P=true){W W':World}{sp:Nat->Bool}: ∀{ts:List TypeId} {vs:List Value} {ds:List (DataW H)} {ps:List MemPlace},
  (∀t∈ts,P.readableRec t=true/\t<P.types.size)->DataW.TrodAll enc P W 0 (fun _=>true) true ts vs ds ps->(∀p∈ps,W.sameAt W' p)->(∀p∈ps,sp p.block=true)->
  DataW.TrodAll enc P W' 0 sp true ts vs ds ps
 |[],_,_,_,_,h,_,_=>by
  obtain⟨rfl,rfl,rfl⟩:=trodAll_nil h;exact rfl
 |t::_,_,_,_,ht,h,hs,hp=>by
  obtain⟨v,W3,d,W4,a,b,rfl,rfl,rfl,h1,h2⟩:=trodAll_cons h;exact⟨a,b,WideElems.Trod_stays hl (ht t (by simp)).1 (ht t (by simp)).2 h1 (fun p h=>hs p (by simp[h])) (fun p h=>hp p (by simp[h])),
   W2 hl (fun t h=>ht t (by simp[h])) h2 (fun p h=>hs p (by simp[h])) (fun p h=>hp p (by simp[h])),rfl⟩
theorem NX{W:World}{b:Nat}{sp:Nat->Bool}{hd:Bool}: ∀{ts:List TypeId} {vs:List Value} {ds:List (DataW H)} {ps:List MemPlace},
  DataW.TrodAll enc P W b sp hd ts vs ds ps->vs.length=ts.length/\ds.length=ts.length
 |[],_,_,_,h=>by
  obtain⟨rfl,rfl,rfl⟩:=trodAll_nil h;exact⟨rfl,rfl⟩
 |_::_,_,_,_,h=>by
  obtain⟨v,W3,d,W4,a,b,rfl,rfl,rfl,h1,h2⟩:=trodAll_cons h;have:=NX h2;simp[this.1,this.2]
theorem aiR(hl:laidOutB P=true){f:Func}{s:ChangeSpec}{apart fresh handsOn:Bool}{W W':World}{args:Array Value}{ds gs:List (DataW H)}{before:List MemPlace}{tb:TypeId}
  (hp:f.params.toList.all (fun t=>P.readableRec t&&decide (t<P.types.size))=true) (hr:f.resultTypes= #[tb]) (hb:P.underlying tb=some .bool) (hv:s.vars=[])
  (El: ∀ds:List (DataW H),ds.length=f.params.size->s.fn H ds={results:=[.lit (.bool true)],args:=ds})
  (hW:DataW.Whole enc P f.params.toList s.vars apart W args.toList ds gs before) (W5:Below W.heap.size W W'):
  s.post enc P f apart fresh handsOn false W args (.bool true) W':=by
 have bc:=hW.lt;have hW0:=hW;obtain⟨p,q,hA,hV,rfl,nj,cC⟩:=hW;rw[hv]at hV;obtain⟨rfl,rfl⟩:=trodVars_none hV;have hlen:=NX hA;have e1:s.fn H (ds++[])={results:=[.lit (.bool true)],args:=ds}:=by rw[asZ];exact El ds (by rw[hlen.2];simp)
 have mJ: ∀t∈f.params.toList,P.readableRec t=true/\t<P.types.size:=fun t ht=>by
  simpa using asD.1 hp t ht
 refine⟨ds,[],p++[],[],p,[],hW0,?_,?_,?_,W5.frame _,fun h=>by cases h⟩
 ·
  rw[e1,hr];exact trodAll_mk1 (shut_bool hb true)
 ·
  rw[e1];exact W2 hl mJ hA (fun x hx=>W5.same (bc x (by simp[hx]))) (fun x hx=>by simpa using bc x (by simp[hx]))
 ·
  rw[e1,hv];exact rfl
theorem aiS{w:World}{b:Nat}{e:TypeId}{v:Value}(he:P.underlying e=some (.int .u8))(h:Cell.okWide P w .any b e v): ∃n:Nat,n<256/\v= .int .u8 n:=by
 cases v with
 |int k n=>
  simp only[Cell.okWide,he,Cell.ok,IntKind.has]at h;obtain⟨rfl,h1,h2⟩:=h;have a1:(0:Int)<=n:=h1;have a2:n<=(255:Int):=h2;exact⟨n.toNat,by omega,by rw[atC a1]⟩
 |_=>simp[Cell.okWide,he,Cell.ok]at h
theorem aiT{w:World}{b:Nat}{t:TypeId}{v:Value}(he:P.underlying t=some (.int .u8))(h:Value.okWide P w .any b t v): ∃n:Nat,n<256/\v= .int .u8 n:=by
 unfold Value.okWide at h;rw[he]at h;exact aiS he h
theorem W6{α:Type}{l:List α}(h:l.length=4): ∃a b c d,l=[a,b,c,d]:=match l,h with|[a,b,c,d],_=>⟨a,b,c,d,rfl⟩
theorem W7{w:World}{b:Nat}{t:TypeId}{v:Value}(he:P.underlying t=some (.int .u8))(h:Value.okWide P w .any b t v): ∃n:UInt8,v= .int .u8 n.toNat:=by
 obtain⟨n,hn,rfl⟩:=aiT he h;exact⟨UInt8.ofNat n,by simp;omega⟩
theorem aiU{w:World}{b:Nat}{t:TypeId}{v:Value}(he:P.underlying t=some (.int .u16))(h:Value.okWide P w .any b t v): ∃n:UInt16,v= .int .u16 n.toNat:=by
 unfold Value.okWide at h;rw[he]at h
 cases v with
 |int k n=>
  simp only[Cell.okWide,he,Cell.ok,IntKind.has]at h;obtain⟨rfl,h1,h2⟩:=h;have a1:(0:Int)<=n:=h1;have a2:n<=(65535:Int):=h2;exact⟨UInt16.ofNat n.toNat,by simp;omega⟩
 |_=>simp[Cell.okWide,he,Cell.ok]at h
variable {P:Program}
theorem NY{α:Type}{p:Nat->α->Prop}: ∀{n:Nat},(∀i,i<n-> ∃x,p i x)-> ∃l:List α,l.length=n/\ ∀i x,l[i]? =some x->p i x
 |0,_=>⟨[],rfl,fun i x h=>by simp at h⟩
 |n+1,h=>by
  obtain⟨l,hl,hp⟩:=NY (n:=n) fun i hi=>h i (by omega);obtain⟨x,hx⟩:=h n (by omega);refine⟨l++[x],by simp[hl],fun i y hy=>?_⟩
  by_cases hi:i<n
  ·
   rw[asG (by omega)]at hy;exact hp i y hy
  have:i=n:=by
   have:=(ad2.1 hy).1;rw[af0,hl]at this;simp at this;omega
  subst this;rw[asA (by omega),hl]at hy;have:x=y:=by simpa using hy
  exact this▸hx
class kL(P:Program)(t:TypeId)(τ:Type)[Deep τ]:Prop where
 sz:P.cellsOf t=Deep.c τ
 h: ∀{H:Type} {enc:TypeId×Value->H} {w:World} {fuel:Nat} {cs:List Value} {d:DataW H} {ps:List MemPlace},DataW.trod enc P w 0 (fun _=>true) true fuel t cs=some (d,ps)->(∀n∈d.weights P t,n<=reachBytes)->
  ∃x:τ,(Deep.cells x).toList=cs/\Deep.cH (hp w) x
theorem aiV{w:World}{b:Nat}{a:Addr}{n:Nat}{cs:List Value}(h:w.cells? b a n=some cs):cs.length=n/\ ∀j,j<n->w.cell? (a.add j)=cs[j]? :=by
 unfold World.cells? at h;split at h
 ·
  have hl:=mapM_some_length h;refine⟨by simpa using hl,fun j hj=>?_⟩;exact mapM_some_get h j j (by simp[hj])
 cases h
theorem NZ{H:Type}{e:TypeId}{n:Nat}: ∀{l:List (DataW H)} {d:DataW H},d∈l->n∈d.weights P e->n∈DataW.weightsAll P e l
 |x::l,d,hd,hn=>by
  rw[DataW.weightsAll];rcases asw.1 hd with rfl|hd
  ·
   exact asX _ hn
  exact atO _ (NZ hd hn)
theorem N1{H:Type}{n:Nat}: ∀{ts:List TypeId} {l:List (DataW H)} {i:Nat} {t:TypeId} {d:DataW H},ts[i]? =some t->l[i]? =some d->n∈d.weights P t->n∈DataW.weightsEach P ts l
 |[],_,i,_,_,h,_,_=>by simp at h
 |_::_,[],i,_,_,_,h,_=>by simp at h
 |t0::ts,d0::l,0,t,d,ht,hd,hn=>by
  obtain rfl:t0=t:=by simpa using ht
  obtain rfl:d0=d:=by simpa using hd
  rw[DataW.weightsEach];exact asX _ hn
 |t0::ts,d0::l,i+1,t,d,ht,hd,hn=>by
  rw[DataW.weightsEach];exact atO _ (N1 (i:=i) (by simpa using ht) (by simpa using hd) hn)
theorem aiW:reachBytes<=140737488355328:=by decide
theorem yu{t e:TypeId}{τ:Type}[Deep τ](hu:P.underlying t=some (.slice e))(cN:Nat.ble 1 (P.bytesOf e)=true)(hc:1<=Deep.c τ)(hs:P.cellsOf t=1)[o:kL P e τ]:kL P t (Sl τ):=⟨hs,fun{H enc w fuel cs d ps} h hw=>by
 have hb:1<=P.bytesOf e:=Nat.le_of_ble_eq_true cN;rcases Go.Deep.open_slice hu h with⟨rfl,_⟩|⟨a,len,cap,m,n,D,Pl,rfl,_,hl,_,hm,hx,Fs⟩
 ·
  exact⟨⟨Sv.none,[]⟩,rfl,wM⟩
 simp only[if_true]at hm;subst hm;have hd:d= .slice ((List.range len).map D) ((List.range (m -len)).map fun j=>D (len+j)):=congrArg Prod.fst hx;subst hd;simp only[DataW.weights,hu,as8,avr]at hw;have yp:m<=140737488355328:=by
  have h1:=hw _ (asv ..);have h2:(len+(m -len))*1<=(len+(m -len))*P.bytesOf e:=Nat.mul_le_mul_left _ hb;have:=aiW;omega
 have W8: ∀i,i<m-> ∃cs',(cs'.length=Deep.c τ/\ ∀j,j<Deep.c τ->w.cell? ((a.add (i*Deep.c τ)).add j)=cs'[j]?)/\DataW.trod enc P w 0 (fun _=>true) true n e cs'=some (D i,Pl i):=fun i hi=>by
  obtain⟨cs',h1,h2⟩:=Fs i hi;rw[o.sz]at h1;exact⟨cs',aiV h1,h2⟩
 have W9:0<m->a.spot=none:=fun hm=>by
  obtain⟨cs',⟨h1,h2⟩,_⟩:=W8 0 hm;have h3:=h2 0 (by omega);have e0:(a.add (0*Deep.c τ)).add 0=a:=by simp[Addr.add]
  rw[e0,asr (by omega)]at h3;unfold World.cell? at h3;split at h3
  ·
   split at h3
   ·
    cases h3
   rename_i hs;simpa using hs
  cases h3
 obtain⟨l,oY,Iz⟩:=NY (p:=fun i (x:τ)=>(∀j,j<Deep.c τ->w.cell? ((a.add (i*Deep.c τ)).add j)=(Deep.cells x)[j]?)/\Deep.cH (hp w) x) (n:=len) fun i hi=>by
  obtain⟨cs',⟨h1,h2⟩,h3⟩:=W8 i (by omega);obtain⟨x,mi,fU⟩:=o.h h3 (fun k hk=>hw k (asE _ (asX _ (NZ (atw.2 ⟨i,asU.2 hi,rfl⟩) hk))));refine⟨x,fun j hj=>?_,fU⟩;rw[h2 j hj,←mi];simp
 refine⟨⟨⟨false,a.block,a.off,len,m,a.spot⟩,l⟩,rfl,⟨⟨(fun h=>by cases h),hl,by simp only;omega,W9⟩,by simp[oY],fun i x hi j hj=>?_⟩,fun x hx=>?_⟩
 ·
  have dK:i<len:=by rw[←oY];exact(ad2.1 hi).1
  have h1:=(Iz i x hi).1 j hj;have hs:=W9 (by omega);have ea:(a.add (i*Deep.c τ)).add j=⟨a.block,a.off+i*Deep.c τ+j,none⟩:=by
   obtain⟨ab,ao,asp⟩:=a;simp only at hs;subst hs;rw[Addr.hH,Addr.hH]
  rw[ea,tK]at h1;exact h1
 obtain⟨i,hi⟩:=asM hx;exact(Iz i x hi).2⟩
theorem zH{H:Type}{enc:TypeId×Value->H}{w:World}{fuel:Nat}{t:TypeId}{cs:List Value}{d:DataW H}{ps:List MemPlace}{fs:Array Field}(hu:P.underlying t=some (.struct fs))(h:DataW.trod enc P w 0 (fun _=>true) true fuel t cs=some (d,ps))(hw: ∀n∈d.weights P t,n<=reachBytes)
  {i tf off:Nat} (nO:(fs[i]?).map (fun f=>(f.type,f.offset))=some (tf,off)) (τ:Type) [Deep τ] [o:kL P tf τ]:cs.length=P.cellsOf t/\ ∃x:τ,(Deep.cells x).toList=(cs.drop off).take (Deep.c τ)/\Deep.cH (hp w) x:=by
 obtain⟨f,hf,e⟩:=aur.1 nO;obtain⟨rfl,rfl⟩:=Prod.mk.inj e;obtain⟨xs,n,_,hx,hl,hlen,hg⟩:=DataW.trod_struct hu h;have h1:=hg i f hf;have hi:i<xs.length:=by rw[hlen];exact(aua.1 hf).1
 rw[asr hi,o.sz]at h1;have hd:d= .agg (xs.map (·.1)):=congrArg Prod.fst hx;subst hd;obtain⟨x,mi,fU⟩:=o.h (d:=xs[i].1) (ps:=xs[i].2) h1 (fun k hk=>hw k (by
  simp only[DataW.weights,hu];exact N1 (i:=i) (t:=f.type) (d:=xs[i].1) (by
   have:fs.toList[i]? =some f:=by simpa using hf
   rw[asB,this];rfl) (by simp[hi]) hk))
 exact⟨hl,x,mi,fU⟩
theorem aiX{H:Type}{enc:TypeId×Value->H}{w:World}{fuel:Nat}{t e:TypeId}{m:Nat}{cs:List Value}{d:DataW H}{ps:List MemPlace}(hu:P.underlying t=some (.array m e))(h:DataW.trod enc P w 0 (fun _=>true) true fuel t cs=some (d,ps))(hw: ∀n∈d.weights P t,n<=reachBytes)
  (τ:Type) [Deep τ] [o:kL P e τ]:cs.length=P.cellsOf t/\ ∀i,i<m-> ∃x:τ,(Deep.cells x).toList=(cs.drop (i*Deep.c τ)).take (Deep.c τ)/\Deep.cH (hp w) x:=by
 cases fuel with
 |zero=>simp[DataW.trod]at h
 |succ n=>
  unfold DataW.trod at h;rw[hu]at h;split at h<;>simp_all
  rename_i m' e' heq;obtain⟨hl,xs,fE,hd⟩:=h;obtain⟨rfl,rfl⟩:=heq;intro i hi;have hlen:=mapM_some_length fE;have pH:i<xs.length:=by simpa[hlen]using hi
  have h1:=mapM_some_get fE i i (by simp[hi]);rw[asr pH,o.sz]at h1;obtain⟨rfl,-⟩:=hd;exact o.h (d:=xs[i].1) (ps:=xs[i].2) h1 (fun k hk=>hw k (by
   simp only[DataW.weights,hu];exact NZ (asN (auf pH)) hk))
theorem N2{α:Type}{cs:List α}{a b:Nat}(h:cs.length=a+b):(cs.drop 0).take a++(cs.drop a).take b=cs:=by
 rw[atD,asy (l:=cs.drop a) (by rw[ass];omega),asR]
theorem aiY{α:Type}{cs:List α}{a b c:Nat}(h:cs.length=a+b+c):(cs.drop 0).take a++(cs.drop a).take b++(cs.drop (a+b)).take c=cs:=by
 have h1:=N2 (cs:=cs) (a:=a+b) (b:=c) (by omega)
 conv=>rhs;rw[←h1]
 congr 1;rw[atD,List.take_add]
def N3(n:Int):Array Value:= #[.int .i64 n]
instance:bm N3 1:=⟨fun _=>rfl,fun _=>by simp[N3,Value.oneCell']⟩
instance:Deep Int:=Deep.flat N3 1
def Em(n:UInt16):Array Value:= #[.int .u16 n.toNat]
instance:bm Em 1:=⟨fun _=>rfl,fun _=>by simp[Em,Value.oneCell']⟩
instance:Deep UInt16:=Deep.flat Em 1
def IA(b:Bool):Array Value:= #[.bool b]
instance:bm IA 1:=⟨fun _=>rfl,fun _=>by simp[IA,Value.oneCell']⟩
instance:Deep Bool:=Deep.flat IA 1
theorem aiZ{t:TypeId}(hu:P.underlying t=some (.int .i64))(hs:P.cellsOf t=1):kL P t Int:=⟨hs,fun h _=>by
 obtain⟨n,rfl,_,_⟩:=DataW.trod_int hu h;exact⟨n,rfl,trivial⟩⟩
theorem ai0{t:TypeId}(hu:P.underlying t=some (.int .u8))(hs:P.cellsOf t=1):kL P t UInt8:=⟨hs,fun h _=>by
 obtain⟨n,rfl,_,hw⟩:=DataW.trod_int hu h;simp only[Lit.wf,alM,decide_eq_true_eq]at hw;have h1:(0:Int)<=n:=hw.1;have h2:n<=(255:Int):=hw.2;refine⟨UInt8.ofNat n.toNat,?_,trivial⟩;have:((UInt8.ofNat n.toNat).toNat:Int)=n:=by simp;omega
 show(aG (UInt8.ofNat n.toNat)).toList=_;simp only[aG,this]⟩
theorem ai1{t:TypeId}(hu:P.underlying t=some (.int .u16))(hs:P.cellsOf t=1):kL P t UInt16:=⟨hs,fun h _=>by
 obtain⟨n,rfl,_,hw⟩:=DataW.trod_int hu h;simp only[Lit.wf,alM,decide_eq_true_eq]at hw;have h1:(0:Int)<=n:=hw.1;have h2:n<=(65535:Int):=hw.2;refine⟨UInt16.ofNat n.toNat,?_,trivial⟩;have:((UInt16.ofNat n.toNat).toNat:Int)=n:=by simp;omega
 show(Em (UInt16.ofNat n.toNat)).toList=_;simp only[Em,this]⟩
theorem open_bool{t:TypeId}(hu:P.underlying t=some .bool)(hs:P.cellsOf t=1):kL P t Bool:=⟨hs,fun h _=>by
 obtain⟨n,rfl,_⟩:=DataW.trod_bool hu h;exact⟨n,rfl,trivial⟩⟩
theorem ai2{H:Type}{enc:TypeId×Value->H}{w:World}{b:Nat}{t e:TypeId}{τ:Type}[Deep τ][o:kL P t (Sl τ)](hu:P.underlying t=some (.slice e)){v:Value}{d:DataW H}{ps:List MemPlace}(hv:Value.okWide P w .any b t v)(h:DataW.Trod enc P w 0 (fun _=>true) true t v d ps)(hw: ∀n∈d.weights P t,n<=reachBytes):
  ∃x:Sl τ,v=x.sv.val/\Deep.cH (hp w) x:=by
 obtain⟨fuel,h⟩:=h;obtain⟨x,h1,h2⟩:=o.h h hw;refine⟨x,?_,h2⟩;have hc:v.cells= #[v]:=by
  unfold Value.okWide at hv;rw[hu]at hv;unfold Cell.okWide at hv;rw[hu]at hv
  cases v<;>simp_all[Cell.ok,Value.cells]
 rw[hc]at h1;have:[x.sv.val]=[v]:=h1;simpa using this.symm
theorem ai3{H:Type}{enc:TypeId×Value->H}{w:World}{b:Nat}{t:TypeId}{τ:Type}[Deep τ][o:kL P t τ](hu: ∃d,P.underlying t=some d/\wC d=true){v:Value}{d:DataW H}{ps:List MemPlace}(hv:Value.okWide P w .any b t v)(h:DataW.Trod enc P w 0 (fun _=>true) true t v d ps)(hw: ∀n∈d.weights P t,n<=reachBytes):
  ∃x:τ,v= .agg (Deep.cells x)/\Deep.cH (hp w) x:=by
 obtain⟨fuel,h⟩:=h;obtain⟨x,h1,h2⟩:=o.h h hw;refine⟨x,?_,h2⟩;obtain⟨dd,xN,KT⟩:=hu;have hc: ∃cs,v= .agg cs:=by
  unfold Value.okWide at hv;rw[xN]at hv
  cases dd<;>simp[wC]at KT
  ·
   obtain⟨cs,rfl,_⟩:=hv;exact⟨cs,rfl⟩
  ·
   obtain⟨cs,rfl,_⟩:=hv;exact⟨cs,rfl⟩
 obtain⟨cs,rfl⟩:=hc;have:(Deep.cells x).toList=cs.toList:=h1;rw[Array.toList_inj.1 this]
structure Arg(H:Type)(enc:TypeId×Value->H)(P:Program)(W:World)(b:Nat)(t:TypeId)(v:Value):Prop where
 ok:Value.okWide P W .any b t v
 trod: ∃d ps,DataW.Trod enc P W 0 (fun _=>true) true t v d ps/\ ∀n∈d.weights P t,n<=reachBytes
theorem Arg.sl{H:Type}{enc:TypeId×Value->H}{W:World}{b:Nat}{t e:TypeId}{v:Value}(h:Arg H enc P W b t v)(hu:P.underlying t=some (.slice e))(τ:Type)[Deep τ][o:kL P t (Sl τ)]: ∃x:Sl τ,v=x.sv.val/\Deep.cH (hp W) x:=by
 obtain⟨d,ps,h1,h2⟩:=h.trod;exact ai2 hu h.ok h1 h2
theorem Arg.agg{H:Type}{enc:TypeId×Value->H}{W:World}{b:Nat}{t:TypeId}{v:Value}(h:Arg H enc P W b t v){n:Nat}(hu:fK P t n)(τ:Type)[Deep τ][o:kL P t τ]: ∃x:τ,v= .agg (Deep.cells x)/\Deep.cH (hp W) x:=by
 obtain⟨d,ps,h1,h2⟩:=h.trod;exact ai3 hu.row h.ok h1 h2
theorem Xa{H:Type}{enc:TypeId×Value->H}{W:World}{sp:Nat->Bool}{hd:Bool}: ∀{ts:List TypeId} {vs:List Value} {ds:List (DataW H)} {ps:List MemPlace},DataW.TrodAll enc P W 0 sp hd ts vs ds ps-> ∀(j:Nat) (t:TypeId) (v:Value),ts[j]? =some t->vs[j]? =some v->
  ∃d p,ds[j]? =some d/\DataW.Trod enc P W 0 sp hd t v d p
 |[],_,_,_,h,j,_,_,ht,_=>by simp at ht
 |t0::ts,vs,ds,ps,h,j,t,v,ht,hv=>by
  obtain⟨v0,W3,d0,W4,a,b,rfl,rfl,rfl,h1,h2⟩:=trodAll_cons h
  cases j with
  |zero=>
   obtain rfl:t0=t:=by simpa using ht
   obtain rfl:v0=v:=by simpa using hv
   exact⟨d0,a,rfl,h1⟩
  |succ j=>exact Xa h2 j t v (by simpa using ht) (by simpa using hv)
variable {P:Program}
theorem ai4{H:Type}{enc:TypeId×Value->H}{C:Checked}{os:Os}{f:FuncId}{fn:Func}{s:ChangeSpec}{conds:List PathCond}{apart fresh handsOn:Bool}{tb:TypeId}{laid:List (String×DataW Unit)}
  (own:ownKnob C.prog.godebug=none) (started:os.Started) (ai5:C.prog.inits.idxOf? f=none) (ai6:C.prog.funcs[f]? =some fn)
  (wit: ∃(w:World) (tape:Tape) (i:Input),w.os=os/\(w.forCall tape i).Shaped C.prog/\i.vars=[]/\Input.okWide C.prog (w.forCall tape i) .any w.heap.size f i/\
   ((s.pre enc C.prog fn conds apart (w.forCall tape i).memory i.args/\laidMetH C.prog laid (w.forCall tape i).memory)/\sizedMet enc C.prog fn (OpenSpec.ofChange s) apart (w.forCall tape i).memory i.args)/\({}:Assume).holds C.prog (lone (Frame.enter C.prog f i.args .normal) [] (w.forCall tape i)))
  (hl:laidOutB C.prog=true) (hp:fn.params.toList.all (fun t=>C.prog.readableRec t&&decide (t<C.prog.types.size))=true) (hr:fn.resultTypes= #[tb]) (hb:C.prog.underlying tb=some .bool)
  (hv:s.vars=[]) (El: ∀ds:List (DataW H),ds.length=fn.params.size->s.fn H ds={results:=[.lit (.bool true)],args:=ds})
  (ai7: ∀(W:World) (base:Nat) (vs:List Value),W.ShapedOpen C.prog->laidMetH C.prog laid W->vs.length=fn.params.size->(∀(j:Nat) t v,fn.params[j]? =some t->vs[j]? =some v->Arg H enc C.prog W base t v)->
   Calls C.prog f vs.toArray W fun e W'=>e= .returned (.bool true)/\Mem W [] W'):
  ReturnsInHanded {} C os f .any (fun w args=>(s.pre enc C.prog fn conds apart w args/\laidMetH C.prog laid w)/\sizedMet enc C.prog fn (OpenSpec.ofChange s) apart w args) (s.post enc C.prog fn apart fresh handsOn false):=by
 refine returnsInHanded_of_calls own started ai5 wit ?_;intro w tape i _ hsh _ bB aH asc;obtain⟨_,_,_,Xb,ai8,_,_,_,_,ai9⟩:=bB;have e:Xb=fn:=aso (ai8.symm.trans ai6);subst e;obtain⟨⟨⟨ds,gs,before,hw,hc⟩,hx⟩,hz⟩:=aH;have hW:=DataW.Whole.of_heap (w':=w.forCall tape i) (by rfl) hw;have q8:=hz.weights hw;have hlen:i.args.toList.length=Xb.params.size:=by
  obtain⟨p,q,hA,_⟩:=hW;rw[(NX hA).1];simp
 have h:=ai7 (w.forCall tape i) w.heap.size i.args.toList hsh (laidMetH.of_heap (by rfl) hx) hlen (fun j t v h1 h2=>⟨ai9 j t v h1 (by simpa using h2),by
  obtain⟨p,q,hA,_⟩:=hW;obtain⟨d,pp,hd,ht⟩:=Xa hA j t v (by simpa using h1) h2;refine⟨d,pp,ht,fun n hn=>?_⟩;have hh:=asD.1 q8 n (N1 (i:=j) (t:=t) (d:=d) (by rw[asG (by have:=(aua.1 h1).1;simpa using this)];simpa using h1)
   (by rw[asG (ad2.1 hd).1];exact hd) hn)
  simpa using hh⟩)
 rw[Array.toArray_toList]at h;refine h.mono fun e W' hh=>?_;obtain⟨he,hm⟩:=hh;subst he;exact ChangeSpec.post_blind (aiR hl hp hr hb hv El hW hm.below)
end Go.ax
namespace Go.Proofs.YtkggjjnhnjjokaaGreatDoor
open Go.ax Go.Kb
instance op3:kL Tryz.prog 3 Int:=aiZ Tryz.underlying3 (by kernel_rfl)
instance op4:kL Tryz.prog 4 Bool:=open_bool Tryz.underlying4 (by kernel_rfl)
instance op5:kL Tryz.prog 5 UInt8:=ai0 Tryz.underlying5 (by kernel_rfl)
instance asd:kL Tryz.prog 27 UInt16:=ai1 Tryz.underlying27 (by kernel_rfl)
instance:bm ck 16:=⟨gf,fun k=>(inferInstance:fW (ck k) 16).one⟩
instance:Deep Key:=Deep.flat ck 16
instance:bm cP 18:=⟨qx,fun k=>(inferInstance:fW (cP k) 18).one⟩
instance:Deep bt:=Deep.flat cP 18
instance ase:kL Tryz.prog 25 Key:=⟨by kernel_rfl,fun h hw=>by
 obtain⟨hl,he⟩:=aiX Tryz.underlying25 h hw UInt8;rw[show Tryz.prog.cellsOf 25=16 from by kernel_rfl]at hl;obtain⟨l,oY,Iz⟩:=NY (p:=fun i (x:UInt8)=>_) he;refine⟨nk fun i=>(l.getD i 0).toNat,?_,trivial⟩;refine atj fun i=>?_;rw[Array.getElem?_toList];rcases asx i 16 with hi|hi
 ·
  have hx:l[i]? =some (l.getD i 0):=nP (by omega);have h1:=congrArg (·[0]?) (Iz i _ hx).1;simp only[auA,aty]at h1;rw[if_pos (by decide),show i*Deep.c UInt8+0=i from at2 i]at h1;have h3:some (Value.int .u8 (l.getD i 0).toNat)=_:=h1;have e8:(l.getD i 0).toNat%2^8=(l.getD i 0).toNat:=as5 (l.getD i 0).toNat_lt;show(ck _)[i]? =_;rw[kO _ _ hi,sj _ _ hi,e8,←h3]
 show(ck _)[i]? =_;rw[O7 _ _ hi,ast (by omega)]⟩
instance asf:kL Tryz.prog 32 bt:=⟨by kernel_rfl,fun h hw=>by
 obtain⟨hl,x0,h0,-⟩:=zH Tryz.underlying32 h hw (i:=0) (tf:=3) (off:=0) rfl Int;obtain⟨-,x1,h1,-⟩:=zH Tryz.underlying32 h hw (i:=1) (tf:=3) (off:=1) rfl Int;obtain⟨-,x2,h2,-⟩:=zH Tryz.underlying32 h hw (i:=2) (tf:=25) (off:=2) rfl Key;refine⟨⟨x0,x1,x2⟩,?_,trivial⟩;refine Eq.trans ?_ (aiY (a:=1) (b:=1) (c:=16) (hl.trans (by kernel_rfl)));rw[show(Deep.cells (⟨x0,x1,x2⟩:bt)).toList=(Deep.cells x0).toList++(Deep.cells x1).toList++(Deep.cells x2).toList from by show(cP _).toList=_;unfold cP;rw[Array.toList_append];rfl,h0,h1,h2];rfl⟩
instance asg:kL Tryz.prog 34 Rt:=⟨by kernel_rfl,fun h hw=>by
 obtain⟨hl,x0,h0,-⟩:=zH Tryz.underlying34 h hw (i:=0) (tf:=32) (off:=0) rfl bt;obtain⟨-,x1,h1,-⟩:=zH Tryz.underlying34 h hw (i:=1) (tf:=27) (off:=18) rfl UInt16;refine⟨⟨x0,x1⟩,?_,trivial⟩;refine Eq.trans ?_ (N2 (a:=18) (b:=1) (hl.trans (by kernel_rfl)));rw[show(Deep.cells (⟨x0,x1⟩:Rt)).toList=(Deep.cells x0).toList++(Deep.cells x1).toList from by show(ay _).toList=_;unfold ay;rw[Array.toList_append];rfl,h0,h1];rfl⟩
end Go.Proofs.YtkggjjnhnjjokaaGreatDoor
namespace Go.ax
open Go.RowKit Go.Kb
structure Arr(τ:Type)(m:Nat) where
 l:List τ
 h:l.length=m
instance Deep.arr{τ:Type}{m:Nat}[d:Deep τ]:Deep (Arr τ m) where
 c:=m*Deep.c τ
 cells a:=(aL (Deep.cells (τ:=τ)) a.l).toArray
 size a:=by rw[ate,gR (c:=Deep.c τ),a.h]
 one a:=by rw[as4];intro v hv;exact u6 (enc:=Deep.cells (τ:=τ)) (c:=Deep.c τ) a.l v (by simpa using hv)
 cH h a:= ∀x∈a.l,d.cH h x
 bR a:= .all (a.l.map d.bR)
 jv h _ hs:=fun x hx=>d.jv h x (aj.Ah hs _ (asN hx))
 mono w w' _ hg hb:=fun x hx=>d.mono w w' x (hg x hx) hb
end Go.ax
namespace Go.Proofs.YtkggjjnhnjjokaaGreatDoor
open Go.ax Go.Kb
instance (priority:=high) ash:Deep Bool:=Deep.flat IA 1
instance asi:kL Tryz.prog 47 Ch:=⟨by kernel_rfl,fun h hw=>by
 obtain⟨hl,x0,h0,-⟩:=zH Tryz.underlying47 h hw (i:=0) (tf:=34) (off:=0) rfl Rt;obtain⟨-,x1,h1,-⟩:=zH Tryz.underlying47 h hw (i:=1) (tf:=4) (off:=19) rfl Bool;refine⟨⟨x0,x1⟩,?_,trivial⟩;refine Eq.trans ?_ (N2 (a:=19) (b:=1) (hl.trans (by kernel_rfl)));rw[show(Deep.cells (⟨x0,x1⟩:Ch)).toList=(Deep.cells x0).toList++(Deep.cells x1).toList from by show(cq _).toList=_;unfold cq;rw[Array.toList_append];rfl,h0,h1];rfl⟩
instance asj:kL Tryz.prog 45 (Sl Ch):=yu Tryz.underlying45 (by kernel_rfl) (by decide) (by kernel_rfl)
instance asl:kL Tryz.prog 105 (Sl (Sl Ch)):=yu Tryz.underlying105 (by kernel_rfl) (by decide) (by kernel_rfl)
end Go.Proofs.YtkggjjnhnjjokaaGreatDoor

/- Laws and walks by which the law LabRight is proved, each with its own conditions. -/
import Derived.Test.YtkggjjnhnjjokaaGreatDoorI2
import Derived.Lib.AppendZerosOnto
import Derived.Lib.Overlaps
set_option maxRecDepth 20000
set_option linter.unusedSimpArgs false
set_option linter.unusedVariables false
namespace Go.ay
open Go.RowKit
theorem xQ{A X V:List Value}{o:Nat}(h:o=A.length):over (A++X).toArray o V.toArray=(A++(V++X.drop V.length)).toArray:=by
 subst h;unfold over;simp only[am2,ams];rw[List.take_left,List.drop_append];simp
section
variable {α:Type} {enc:α->Array Value} {c:Nat} {s:Sv} {xs:List α}
theorem v8(xs ys:List α):aH enc (xs++ys)=aH enc xs++aH enc ys:=by simp[aH]
theorem U3[he:bn enc c](hc:0<c){cs:Array Value}{o:Nat}(dU:o+xs.length*c<=cs.size)(hr: ∀i x,xs[i]? =some x-> ∀j,j<c->cs[o+i*c+j]? =(enc x)[j]?):
  cs=(cs.toList.take o++(aH enc xs++cs.toList.drop (o+xs.length*c))).toArray:=by
 have key:(cs.toList.drop o).take (xs.length*c)=aH enc xs:=by
  refine anq fun k=>?_;rcases amv k (xs.length*c)with hk|hk
  ·
   rw[List.getElem?_take_of_lt hk,ang,Array.getElem?_toList];have hd:k/c<xs.length:=Nat.div_lt_of_lt_mul (by rwa [anv]);have hm:=an1 k hc;have e:k/c*c+k%c=k:=by rw[anv];exact aop k c
   have h1:=hr (k/c) xs[k/c] (by simp[hd]) (k%c) hm;have h2:=lM (enc:=enc) xs (k/c) xs[k/c] (by simp[hd]) (k%c) hm;rw[e]at h2;rw[h2,←h1];congr 1;omega
  ·
   rw[amD (by simp;omega),amD (by rw[gp];omega)]
 apply aol;simp only;rw[←key,←ams,show o+xs.length*c=o+xs.length*c from rfl,←aox,ams,amO,amO]
theorem Gy{a b:Nat}(h:a<=b):a=Nat.min a b:=(aon h).symm
theorem U4{a b:Nat}(h:b<=a):b=Nat.min a b:=(Nat.min_eq_right h).symm
theorem U5[he:bn enc c](hc:1<c){w0 w:World}{L:List ah}{i:Nat}(hw:Mem w0 L w)(hi:L[i]? =some (own enc c s xs))(hn:s.nil=false):
  ∃pre mid T,pre.length=s.o/\s.o+s.cap*c<=pre.length+(xs.length*c+mid.length)/\s.sp=none/\s.Ok/\s.len=xs.length/\Mem w0 (L.set i (al s.b (pre++(aH enc xs++mid)).toArray T)) w:=by
 obtain⟨r,mF⟩:=hw.get hi;obtain⟨eR,cs,T,fz,eL,dU,lp,kN⟩:=mF hn;obtain rfl:=kN hc;have hle:=r.ok.le;have hlen:=r.len;have hm:xs.length*c<=s.cap*c:=amy _ (by omega);have e:=U3 (enc:=enc) (c:=c) (xs:=xs) (cs:=cs) (o:=s.o) (by omega) (by omega) fun i x hx j hj=>by
  rw[←r.row i x hx j hj];unfold ll;rw[eL]
 refine⟨cs.toList.take s.o,cs.toList.drop (s.o+xs.length*c),T,by simp;omega,by simp;omega,eR,r.ok,hlen,?_⟩;rw[←e];exact hw.change hi (fun k (hk:k=s.b)=>⟨hn,hk⟩) (fun _ _=>rfl) rfl ⟨rfl,rfl,rfl⟩ eL
theorem GA[he:bn enc c]{w0 w:World}{L:List ah}{i b:Nat}{pre mid:List Value}{T:TypeId}(hw:Mem w0 L w)(hi:L[i]? =some (al b (pre++(aH enc xs++mid)).toArray T))(s':Sv)(cd:s'.Ok)(hn:s'.nil=false)(hb:s'.b=b)(eR:s'.sp=none)(ho:s'.o=pre.length)(hl:s'.len=xs.length)
  (uh:s'.o+s'.cap*c<=pre.length+(xs.length*c+mid.length)):Mem w0 (L.set i (own enc c s' xs)) w:=by
 subst hb;have eL:hp w s'.b=some (.cells (pre++(aH enc xs++mid)).toArray T (0,0)):=hw.block hi;refine hw.change hi (fun k hk=>hk.2) (fun _ _=>rfl) rfl ⟨rfl,rfl,rfl⟩ ⟨ug cd hl eL fun k y hy j hj=>?_,fun _=>⟨eR,_,_,_,eL,by simp[gp];omega,EK _,fun _=>rfl⟩⟩;have bx:k*c+j<(aH enc xs).length:=by
  rw[gp];have h1:=(zz.1 hy).1
  calc k*c+j<k*c+c:=by omega
   _=(k+1)*c:=by rw[amI];omega
   _<=_:=amy _ h1
 rw[anu,amw (by omega),amC (by omega),←lM (enc:=enc) xs k y hy j hj];congr 1;omega
theorem Sv.uz{lo hi:Nat}(h:lo<s.cap):(s.sub c lo hi).o=s.o+lo*c:=by simp only[Sv.sub];rw[if_neg (by omega)]
theorem Sv.Am{hi:Nat}:(s.sub c 0 hi).o=s.o:=by simp only[Sv.sub];split<;>simp
theorem Sv.sub_eq{hi:Nat}(hn:s.nil=false)(eR:s.sp= .none):s.sub c 0 hi=⟨false,s.b,s.o,hi,s.cap, .none⟩:=by
 have h0:=Sv.Am (s:=s) (c:=c) (hi:=hi);obtain⟨sn,sb,so,sl,sc,ss⟩:=s;simp only[Sv.sub]at h0 hn eR⊢;subst hn eR;rw[h0];rfl
end
section
variable {P:Program} {N:cc} {w0:World} {env:Env} {L:List ah} {Q:Exit->Act->World->Prop} {l rest:List Oper} {d:Option Tmp} {ty:TypeId} {ps:String} {af:Array Edge} {gd:Option (Nat×Bool)} {K:Value->List ah->Prop}
variable {α:Type} {enc:α->Array Value} {c:Nat} {s:Sv} {xs:List α}
theorem U6{w:World}{pre A mid:List Value}{T:TypeId}{b o:Nat}{L':List ah}(hw:Mem w0 (al b (pre++(A++mid)).toArray T::L') w)(ho:pre.length=o){j:Nat}{u:Value}(hj:A[j]? =some u):w.cell? ⟨b,o+j,none⟩=some u:=by
 have jT:=(zz.1 hj).1;have h0:(al b (pre++(A++mid)).toArray T::L')[0]? =some (al b (pre++(A++mid)).toArray T):=rfl;rw[hw.cell h0,anu,amw (by omega),amC (by omega),←hj];congr 1;omega
theorem Mg{code:Code}[he:bn enc c]{i:Nat}(q:eS L s enc c xs i)(hc:1<c)(hn:0<xs.length){L':List Value->List Value->TypeId->List ah}[hu: ∀pre mid T,eK L i (al s.b (pre++(aH enc xs++mid)).toArray T) (L' pre mid T)]
  (h: ∀pre mid T,pre.length=s.o->s.o+s.cap*c<=pre.length+(xs.length*c+mid.length)->s.nil=false->s.sp=none->s.Ok->s.len=xs.length->Cw P N w0 Q code env (L' pre mid T)):Cw P N w0 Q code env L:=fun a w ha hw=>by
 have mN:=(hw.get q.h).1.some hn;obtain⟨pre,mid,T,h1,h2,h3,h4,h5,h6⟩:=U5 hc hw q.h mN;rw[(hu pre mid T).h]at h6;exact h pre mid T h1 h2 mN h3 h4 h5 a w ha h6
theorem CQ{code:Code}{i:Nat}(q:eS L s enc c xs i)(hn:0<xs.length)(h:s.nil=false->s.sp=none->s.Ok->s.len=xs.length->Cw P N w0 Q code env L):Cw P N w0 Q code env L:=fun a w ha hw=>by
 obtain⟨r,mF⟩:=hw.get q.h;have mN:=r.some hn;exact h mN (mF mN).1 r.ok r.len a w ha hw
theorem Mh[he:bn enc c](hc:0<c){i:Nat}(q:eS L s enc c xs i){w:World}(hw:Mem w0 L w){j:Nat}{v:Value}(hj:(aH enc xs)[j]? =some v):w.cell? ⟨s.b,s.o+j,none⟩=some v:=by
 obtain⟨x,hx,hv⟩:=B2 hc hj;have r:=(hw.get q.h).1;rw[p6,←hv,←r.row _ x hx (j%c) (an1 _ hc)];congr 1;have:=aop j c;rw[anv]at this;omega
theorem U7(w:World)(dT sT ty elem:TypeId)(b o Mi U8:Nat)(a:Addr)(Mj U9 n:Nat)(cur:Array Value)(t:TypeId)(vs:List Value)
  (hu:P.underlying dT=some (.slice elem)) (hs:(P.info? elem).map (·.size)=some c) (hg:w.heap[b]? =some (.cells cur t (0,0))) (hn:n=Nat.min Mj Mi) (hv:vs.length=n*c)
  (pZ: ∀j v,vs[j]? =some v->w.cell? (a.add j)=some v) (ij:o+vs.length<=cur.size) (h1: ∀v∈vs,v.oneCell'=true):
  (Builtin.copy_ #[dT,sT] ty #[.slice (some ⟨b,o,none⟩) Mi U8, .slice (some a) Mj U9]).run P w= .ok (goInt n) (w.setRow b (over cur o vs.toArray)):=by
 have hl:=run_loadCells_list (P:=P) w a vs pZ;have bE:=run_storeCells_at P b o t vs 0 cur w hg (by simpa using ij) h1;rw[hv]at hl
 cases hq:P.info? elem with
 |none=>simp[hq]at hs
 |some i=>
  have hi:i.size=c:=by simpa[hq]using hs
  simp[Builtin.copy_,run_underlying hu,Builtin.lenOf,Builtin.firstCells,sizeOf,typeInfo,hq,hi,←hn,hl,bE,over]
theorem CR{D S:Sv}{x y:Operand}{tx fv e:TypeId}{i b o n:Nat}{cs:Array Value}{T:TypeId}{vs:List Value}(hx:ev env x=some D.val)(hy:ev env y=some S.val)
  (mO:D.nil=false) (mP:D.sp=none) (oy:D.b=b) (ql:D.o=o) (An:S.nil=false) (Ao:S.sp=none) [ht:ei P tx e c] [hh:Has L b cs T i] (hn:n=Nat.min S.len D.len) (hv:vs.length=n*c)
  (pZ: ∀w,Mem w0 L w-> ∀j v,vs[j]? =some v->w.cell? ⟨S.b,S.o+j,none⟩=some v) (h1: ∀v∈vs,v.oneCell'=true) (ho:o+vs.length<=cs.size) {cs':Array Value} {L':List ah} (fH:over cs o vs.toArray=cs') [hu:eK L i (al b cs' T) L']
  (hk:Sq P N w0 l Q rest (bZ env d (.int .i64 n)) L') (hd:cN N d=true:=by rfl):
  Sq P N w0 l Q (⟨d, .call {callee:= .builtin .copy,args:= #[x,y],argTypes:= #[tx,fv]},ty,ps,af,none⟩::rest) env L:=
 lj rfl hd fun aa w ha hw=>by
  rw[Sv.gn mO,mP,oy,ql]at hx;rw[Sv.gn An,Ao]at hy;have hb:=hw.block hh.h;have fq:=U7 (P:=P) w tx fv ty e b o D.len D.cap ⟨S.b,S.o,none⟩ S.len S.cap n cs T vs ht.dK ht.size hb hn hv (fun j v hj=>by rw[Addr.gl];exact pZ w hw j v hj) ho h1;refine⟨_,_,_,?_,by rw[←hu.h,←fH];exact hw.setRow hh.h _,hk⟩;simp[execOp,ha.ev hx,ha.ev hy,resolve,invoke,builtin,fq,Result.andThen,goInt]
theorem Va{D S:Sv}{x y:Operand}{tx fv e e':TypeId}{cf i b o n:Nat}{cs:Array Value}{T:TypeId}{vs:List Value}(hx:ev env x=some D.val)(hy:ev env y=some S.val)
  (mO:D.nil=false) (mP:D.sp=none) (oy:D.b=b) (ql:D.o+D.len*c=o) (An:S.nil=false) (Ao:S.sp=none) [ht:dC P tx e c cf] (GB:P.underlying fv=some (.slice e')) [hh:Has L b cs T i] (hn:S.len=n) (hv:vs.length=n*c) (nB:D.len+n<=D.cap)
  (pZ: ∀w,Mem w0 L w-> ∀j v,vs[j]? =some v->w.cell? ⟨S.b,S.o+j,none⟩=some v) (h1: ∀v∈vs,v.oneCell'=true) (ho:o+vs.length<=cs.size) {cs':Array Value} {L':List ah} (fH:over cs o vs.toArray=cs') [hu:eK L i (al b cs' T) L']
  {R:Sv} (hR:R=⟨false,b,D.o,D.len+n,D.cap,none⟩) (hk:Sq P N w0 l Q rest (bZ env d R.val) L') (hd:cN N d=true:=by rfl):
  Sq P N w0 l Q (⟨d, .call {callee:= .builtin .append,args:= #[x,y],argTypes:= #[tx,fv]},ty,ps,af,none⟩::rest) env L:=
 lj rfl hd fun aa w ha hw=>by
  subst hR ql oy;rw[Sv.gn mO,mP]at hx;rw[Sv.gn An,Ao,hn]at hy;have hb:=hw.block hh.h;obtain⟨i',z,bf,aF,bo,cI,lN⟩:=ht.info;have hs:=Src.ofSlice (P:=P) (size:=c) w GB ⟨S.b,S.o,none⟩ n S.cap vs hv (fun j v hj=>by rw[Addr.gl];exact pZ w hw j v hj) h1;have bE:=run_storeCells_at P D.b (D.o+D.len*c) T vs 0 cs w hb (by simpa using ho) h1;have fq:(Builtin.append_ #[tx,fv] ty #[.slice (some ⟨D.b,D.o,none⟩) D.len D.cap, .slice (some ⟨S.b,S.o,none⟩) n S.cap]).run P w= .ok (.slice (some ⟨D.b,D.o,none⟩) (D.len+n) D.cap) (w.setRow D.b (over cs (D.o+D.len*c) vs.toArray)):=by
   subst bo;rcases hs.kind with⟨e',hk⟩|hk<;>simp[Builtin.append_,run_underlying ht.dK,run_underlying hk,sizeOf,typeInfo,bf,hs.len,nB,hs.cells,Addr.gl,bE,over]
  refine⟨_,_,_,?_,by rw[←hu.h,←fH];exact hw.setRow hh.h _,hk⟩;simp[execOp,ha.ev hx,ha.ev hy,resolve,invoke,builtin,fq,Result.andThen,Sv.val]
theorem Vb{D:Sv}{x y:Operand}{tx fv e:TypeId}{cf k:Nat}{z:Value}{olds:List Value}{kn kq:IntKind}{iy:Int}{p m:Nat}(hp:D.len=p)(hm:p+k=m)(hx:ev env x=some D.val)(hy:ev env y=some (.int kq iy))(wa:iy=(k:Int))(h0:0<k)
  (mO:D.nil=false) (mP:D.sp=none) [ht:dC P tx e c cf] (hc:0<c) [hz:dH P e z] (GC:P.underlying fv=some (.int kn)) (holds:olds.length=D.len*c) (pZ: ∀w,Mem w0 L w-> ∀j v,olds[j]? =some v->w.cell? ⟨D.b,D.o+j,none⟩=some v)
  (hg:D.cap<D.len+k) (hb:(D.len+k)*cf<=140737488355328) (fQ:D.len+k<=140737488355328)
  (hk: ∀(b C:Nat) (Z:List Value),m<=C->p*c+Z.length=C*c->Sq P N w0 l Q rest (bZ env d (Sv.val ⟨false,b,0,m,C,none⟩)) (al b (olds++Z).toArray e::L)) (hd:cN N d=true:=by rfl):
  Sq P N w0 l Q (⟨d, .call {callee:= .builtin .append,args:= #[x,y],argTypes:= #[tx,fv]},ty,ps,af,none⟩::rest) env L:=
 lj rfl hd fun aa w ha hw=>by
  subst wa hp hm;rw[Sv.gn mO,mP]at hx;obtain⟨i',z',bf,aF,bo,cI,lN⟩:=ht.info;subst bo cI;have uh:=nextslicecap_le hg;have ij:Builtin.nextslicecap (D.len+k) D.cap*i'.bytes<=281474976710656:=by
   have h2:Builtin.nextslicecap (D.len+k) D.cap*i'.bytes<=2*(D.len+k)*i'.bytes:=amy _ uh;rw[Nat.mul_assoc]at h2;omega
  have GD:k*i'.bytes<=281474976710656:=by
   have:k*i'.bytes<=(D.len+k)*i'.bytes:=amy _ (by omega);omega
  have hold:=run_firstCells_some (P:=P) w.drew i'.size D.len ⟨D.b,D.o,none⟩ D.len D.cap olds holds (fun j v hj=>by rw[Addr.gl];exact pZ w hw j v hj);have fq:=Lib.run_append_grow_zeros (P:=P) w tx fv ty e i' z' kq kn ht.dK GC bf aF (some ⟨D.b,D.o,none⟩) D.len D.cap olds hold k h0 hc hg (by omega) GD ij;have qY:=grownCap_ge w (D.len+k) D.cap e;generalize grownCap w (D.len+k) D.cap e=C at fq qY;have Ap:=size_zeroCells z'.cells k;have CS:=size_zeroCells z'.cells (C -(D.len+k));rw[lN]at Ap CS;have hZ:D.len*i'.size+(Builtin.zeroCells z'.cells k++Builtin.zeroCells z'.cells (C -(D.len+k))).toList.length=C*i'.size:=by
   rw[anU,amT,Ap,CS,←amI,←amI];congr 1;omega
  have e1:olds.toArray++Builtin.zeroCells z'.cells k++Builtin.zeroCells z'.cells (C -(D.len+k))=(olds++(Builtin.zeroCells z'.cells k++Builtin.zeroCells z'.cells (C -(D.len+k))).toList).toArray:=by apply aol;simp
  rw[e1]at fq;refine⟨_,_,_,?_,hw.drew.alloc _ e,hk w.heap.size C _ qY hZ⟩;simp[execOp,ha.ev hx,ha.ev hy,resolve,invoke,builtin,fq,Result.andThen,Sv.val]
theorem Vc{D:Sv}{x:Operand}{tx e:TypeId}{cf i b o n:Nat}{z:Value}{cs:Array Value}{T:TypeId}(hx:ev env x=some D.val)(mO:D.nil=false)(mP:D.sp=none)(oy:D.b=b)(ql:D.o=o)(hn:D.len=n)(h0:0<n)[ht:dC P tx e c cf][hz:dH P e z](h1:z.cells.all (·.oneCell')=true)[hh:Has L b cs T i](ho:o+n*c<=cs.size)
  {L':List Value->List ah} [hu: ∀Z,eK L i (al b (over cs o Z.toArray) T) (L' Z)] (hk: ∀Z:List Value,Z.length=n*c->Sq P N w0 l Q rest env (L' Z)):
  Sq P N w0 l Q (⟨none, .call {callee:= .builtin .clear,args:= #[x],argTypes:= #[tx]},ty,ps,af,none⟩::rest) env L:=
 lj rfl rfl fun aa w ha hw=>by
  rw[Sv.gn mO,mP,oy,ql,hn]at hx;have hb:=hw.block hh.h;obtain⟨i',z',bf,aF,bo,cI,lN⟩:=ht.info;obtain rfl:z'=z:=by
   have:=hz.zero;rw[bf,am3,aF]at this;exact amn (amn this)
  subst bo;have hZ:=size_zeroCells z'.cells n;rw[lN]at hZ;have rl: ∀v∈(Builtin.zeroCells z'.cells n).toList,v.oneCell'=true:=fun v hv=>by
   simp only[Builtin.zeroCells,Array.toList_map,anB]at hv;obtain⟨j,hj,rfl⟩:=hv;have sZ:0<z'.cells.size:=by
    rcases anW z'.cells.size with h|h
    ·
     rw[h]at hj;simp at hj
    ·
     exact h
   rw[getElem!_pos z'.cells _ (an1 _ sZ)];exact(amU.1 h1) _ (Array.getElem_mem _)
  have bE:=run_storeCells_at P b o T (Builtin.zeroCells z'.cells n).toList 0 cs w hb (by simp[hZ];omega) rl;have fq:(Builtin.clear_ #[tx] ty #[.slice (some ⟨b,o,none⟩) n D.cap]).run P w= .ok (.tuple #[]) (w.setRow b (over cs o (Builtin.zeroCells z'.cells n))):=by
   obtain⟨m,rfl⟩: ∃m,n=m+1:=⟨n -1,by omega⟩;simp[Builtin.clear_,run_underlying ht.dK,zeroValue,typeInfo,bf,aF,bE,over]
  refine⟨.tuple #[],w.setRow b (over cs o (Builtin.zeroCells z'.cells n)),L' (Builtin.zeroCells z'.cells n).toList,?_,?_,hk _ (by rw[anU,hZ])⟩
  ·
   simp[execOp,ha.ev hx,resolve,invoke,builtin,fq,Result.andThen]
  ·
   have h9:=hw.setRow hh.h (over cs o (Builtin.zeroCells z'.cells n));rw[←(hu _).h];simpa using h9
def Sv.top(s:Sv)(m:Nat):Sv:=⟨s.nil,s.b,s.o,s.len,m,s.sp⟩
theorem Mk{t e:TypeId}{x lo hi mx:Operand}{l h m:Nat}{k k' Ml:IntKind}{il ih im:Int}[ht:ei P t e c](hx:ev env x=some s.val)[q:Hd w0 L s enc c xs](hl:ev env lo=some (.int k il))(hh:ev env hi=some (.int k' ih))(hm:ev env mx=some (.int Ml im))(el:il=(l:Int))(eh:ih=(h:Int))(em:im=(m:Int))(h1:l<=h)(h2:h<=m)(h3:m<=xs.length):
  Ry P N w0 env L ⟨d, .slice t x (some lo) (some hi) (some mx),ty,ps,af,gd⟩ ((s.top m).sub c l h).val:=fun a w ha hw=>by
 subst el eh em;have r:=q.h w hw;have hs:=r.ok;have hlen:=r.len;have hle:=hs.le;have ee:=xo ht.dK;have hu:P.underlying t=some (.slice (P.elem t)):=by rw[ee];exact ht.dK
 obtain⟨ad,len,cap,mD⟩:=s.ex;have e3:len=s.len/\cap=s.cap/\sliced ad l h m c=((s.top m).sub c l h).val:=by
  cases hn:s.nil with
  |true=>
   rw[Sv.p0 hn]at mD;obtain⟨rfl,rfl,rfl⟩:=by simpa using mD
   have:=hs.nil hn;have e2:((s.top m).sub c l h).nil=true:=hn;rw[Sv.p0 e2];have:l=0:=by omega
   have:h=0:=by omega
   have:m=0:=by omega
   subst l h m;exact⟨by omega,by omega,by simp[sliced]⟩
  |false=>
   rw[Sv.gn hn]at mD;obtain⟨rfl,rfl,rfl⟩:=by simpa using mD
   have e2:((s.top m).sub c l h).nil=false:=hn;rw[Sv.gn e2];refine⟨rfl,rfl,?_⟩;simp only[sliced,Sv.sub,Sv.top]
   by_cases hc:m=l
   ·
    simp[hc]
   ·
    have eR:=hs.sp (by omega);simp[hc,eR,Addr.gl]
 obtain⟨e1,e2,e3⟩:=e3;have hr:=run_slice_lhm (P:=P) (w:=w) t ad len cap hu k k' Ml (l:Int) (h:Int) (m:Int) (by omega) (by omega) (by omega) (by omega);rw[ee,jW w ht.size]at hr;simp only[Result.andThen,am1,e3]at hr;simp only[execOp,ha.ev hx,ha.ev hl,ha.ev hh,ha.ev hm,mD,am3,run_sliceAt_slice (h:=hu),hr,Sem.run_bind,Result.andThen,Sem.run_pure]
theorem Vd{t e:TypeId}{x:Operand}{m n:Nat}[ht:ei P t e m](hx:ev env x=some s.val)(mN:s.nil=false)(hn:s.cap=n):
  Ry P N w0 env L ⟨d, .call {callee:= .builtin .cap,args:= #[x],argTypes:= #[t]},ty,ps,af,gd⟩ (.int .i64 n):=fun a w ha _=>by
 subst hn;rw[Sv.gn mN]at hx;have hu:P.underlying t=some (.slice (P.elem t)):=by rw[xo ht.dK];exact ht.dK
 have:=run_cap_slice (P:=P) (w:=w) t ty (some ⟨s.b,s.o,s.sp⟩) s.len s.cap hu;simp[execOp,ha.ev hx,resolve,invoke,builtin,this,Result.andThen,goInt]
class Mm(P:Program)(f:FuncId)(tS tR:outParam TypeId):Prop where
 fn: ∃fn,P.funcs[f]? =some fn∧(fn.name== "runtime.NumGoroutine")=false∧fn.body.isNone=true∧Extern.findNext fn=none∧Extern.find fn=some (Extern.SlicesOverlaps.overlaps #[tS,tS] #[tR])
theorem Mem.apart{w:World}{i j k:Nat}{e e':ah}(h:Mem w0 L w)(hi:L[i]? =some e)(hj:L[j]? =some e')(tX:i≠j)(hk:e.fp k): ¬e'.fp k:=by
 obtain⟨gi,rfl⟩:=zz.1 hi;obtain⟨gj,rfl⟩:=zz.1 hj;have hd:=aou.1 h.ny;rcases Nat.lt_or_gt_of_ne tX with h1|h1
 ·
  exact hd i j gi gj h1 k hk
 exact fun h2=>hd j i gj gi h1 k h2 hk
theorem Ve{V D:Sv}{x y:Operand}{f:FuncId}{ts:Array TypeId}{tS tR e T:TypeId}{i j b:Nat}{cs:Array Value}(hx:ev env x=some V.val)(hy:ev env y=some D.val)[hf:Mm P f tS tR][ht:ei P tS e c](hc:1<c)[q:eS L V enc c xs i](hv:0<xs.length)[hh:Has L b cs T j](mO:D.nil=false)(mP:D.sp=none)(oy:D.b=b)(fH:0<cs.size)(tX:i≠j:=by decide):
  Ry P N w0 env L ⟨d, .call {callee:= .value (.func f),args:= #[x,y],argTypes:=ts},ty,ps,af,gd⟩ (.bool false):=fun a w ha hw=>by
 obtain⟨r,mF⟩:=hw.get q.h;have GF:=r.some hv;obtain⟨Vf,cv,Tv,fz,eL,dU,lp,kN⟩:=mF GF;obtain rfl:=kN hc;have hb:=hw.block hh.h;have cE:V.b≠b:=fun e0=>hw.apart q.h hh.h tX (k:=V.b) ⟨GF,rfl⟩ e0;subst oy;rw[Sv.gn GF,Vf]at hx;rw[Sv.gn mO,mP]at hy;obtain⟨fn,h1,h2,h3,h4,h5⟩:=hf.fn;have fq:=Lib.run_overlaps_apart (P:=P) w tS tR e ht.dK c (fun w=>jW w ht.size) ⟨V.b,V.o,none⟩ ⟨D.b,D.o,none⟩ V.len V.cap D.len D.cap cE Tv T cv.size cs.size (by simp[World.shape?,eL]) (by simp[World.shape?,hb]) (by omega) (by simp[World.frozen?,eL]) (by simp[World.frozen?,eL]);have Mn:=run_callFunc_extern (P:=P) h1 h2 h3 h4 h5 #[.slice (some ⟨V.b,V.o,none⟩) V.len V.cap, .slice (some ⟨D.b,D.o,none⟩) D.len D.cap] w;rw[fq]at Mn;have e1:a.eval (.func f)= .func (.func f) #[] #[]:=rfl;simp[execOp,ha.ev hx,ha.ev hy,resolve,e1,Deferred.ofValue,invoke,Mn,Result.andThen]
end
end Go.ay
namespace Go.Kb
def Vg:Nat:=3988292384
def GG(n:Nat):Nat:=(n/2)^^^(if n%2=1 then Vg else 0)
theorem Vh{n:Nat}(h:n<2^32):GG n<2^32:=by
 refine aoG (by omega) ?_;split
 ·
  decide
 decide
def mQ(n:Nat):Nat->Nat
 |0=>n
 |k+1=>GG (mQ n k)
theorem GH{n:Nat}(h:n<2^32): ∀k,mQ n k<2^32
 |0=>h
 |k+1=>Vh (GH h k)
def GI(n:Nat)(b:UInt8):Nat:=mQ (n^^^b.toNat) 8
theorem Vi{n:Nat}{b:UInt8}(h:n<2^32):GI n b<2^32:=GH (aoG h (by have:=b.toNat_lt;omega)) 8
def jI(n:Nat)(l:List UInt8):Nat:=l.foldl GI n
theorem CT{n:Nat}(h:n<2^32): ∀l,jI n l<2^32
 |[]=>h
 |b::l=>CT (Vi h) l
theorem Vj{n:Nat}{l:List UInt8}{i:Nat}{b:UInt8}(h:l[i]? =some b):jI n (l.take (i+1))=GI (jI n (l.take i)) b:=by
 rw[amq,h,jI,jI,anT];rfl
def pv(l:List UInt8):Nat:=4294967295 -jI 4294967295 l
theorem Mo(l:List UInt8):pv l<2^32:=by unfold pv;omega
end Go.Kb
namespace Go.ay
open Go.RowKit
section
variable {α:Type} {enc:α->Array Value} {c:Nat} {s:Sv} {xs:List α}
theorem Mem.Mp{w0 w:World}{L:List ah}{i k:Nat}(hw:Mem w0 L w)(hi:L[i]? =some (own enc c s xs))(hk:k<=xs.length):Mem w0 (L.set i (own enc c (s.sub c 0 k) (xs.take k))) w:=by
 obtain⟨r,mF⟩:=hw.get hi;have r2:=r.sub (lo:=0) (hi:=k) (amK _) hk;rw[anh,Nat.sub_zero]at r2;refine hw.change hi (fun k hk=>hk) (fun _ _=>rfl) rfl ⟨rfl,rfl,rfl⟩ ⟨r2,fun hn=>?_⟩;obtain⟨h1,cs,T,fz,h2,h3,h4,h5⟩:=mF hn;refine⟨h1,cs,T,fz,h2,?_,h4,h5⟩;rw[Sv.Am];exact h3
end
section
variable {P:Program} {N:cc} {w0:World} {env:Env} {L:List ah} {Q:Exit->Act->World->Prop} {l rest:List Oper} {d:Option Tmp} {ty:TypeId} {ps:String} {af:Array Edge} {gd:Option (Nat×Bool)}
variable {α:Type} {enc:α->Array Value} {c:Nat} {xs:List α}
theorem Mq{x y:Operand}{tx fv e:TypeId}{cf k:Nat}{z:Value}{kn kq:IntKind}{iy:Int}(x0:α)(hx:ev env x=some (.slice none 0 0))(hy:ev env y=some (.int kq iy))(wa:iy=(k:Int))(h0:0<k)
  [ht:dC P tx e c cf] [he:bn enc c] (hc:0<c) [hz:dH P e z] (Mr:enc x0=z.cells) (GC:P.underlying fv=some (.int kn)) (hb:k*cf<=140737488355328) (fQ:k<=140737488355328)
  (hk: ∀b C:Nat,k<=C->Sq P N w0 l Q rest (bZ env d (Sv.val ⟨false,b,0,k,C,none⟩)) (own enc c ⟨false,b,0,k,C,none⟩ (List.replicate k x0)::L)) (hd:cN N d=true:=by rfl):
  Sq P N w0 l Q (⟨d, .call {callee:= .builtin .append,args:= #[x,y],argTypes:= #[tx,fv]},ty,ps,af,none⟩::rest) env L:=
 lj rfl hd fun aa w ha hw=>by
  subst wa;obtain⟨i',z',bf,aF,bo,cI,lN⟩:=ht.info;obtain rfl:z'=z:=by
   have:=hz.zero;rw[bf,am3,aF]at this;exact amn (amn this)
  subst bo cI;have fq:=Lib.run_append_nil_zeros (P:=P) w tx fv ty e i' z' kq kn ht.dK GC bf aF k h0 hc (by omega) (by omega);have qY:=grownCap_ge w k 0 e;generalize grownCap w k 0 e=C at fq qY;have Ap:=size_zeroCells z'.cells k;have CS:=size_zeroCells z'.cells (C -k);have Vk: ∀m i j,i<m->j<i'.size->(Builtin.zeroCells z'.cells m)[i*i'.size+j]? =z'.cells[j]? :=fun m i j hi hj=>by
   have bx:i*i'.size+j<m*z'.cells.size:=by
    rw[lN];have:(i+1)*i'.size<=m*i'.size:=amy _ hi;rw[amI]at this;omega
   have e1:(i*i'.size+j)%z'.cells.size=j:=by rw[lN,anv,Nat.mul_add_mod];exact amY hj
   have Vl:j<z'.cells.size:=by omega
   simp[Builtin.zeroCells,bx,e1,Vl]
  refine⟨_,_,_,?_,hw.drew.call (ui (enc:=enc) (c:=i'.size) (xs:=List.replicate k x0) (cs:=Builtin.zeroCells z'.cells k++Builtin.zeroCells z'.cells (C -k)) (e:=e) rfl k C (by simp) qY fQ ?_ fun i x hx j hj=>?_),hk _ C qY⟩
  ·
   simp[execOp,ha.ev hx,ha.ev hy,resolve,invoke,builtin,fq,Result.andThen,Sv.val]
  ·
   rw[amT,Ap,CS,lN,←amI];exact amy _ (by omega)
  ·
   have hi:i<k:=by
    have:=(zz.1 hx).1;simpa using this
   obtain rfl:x0=x:=by rw[aoi,if_pos hi]at hx;exact amn hx
   rw[Mr,←Vk k i j hi hj,amW];rw[Ap,lN];have:(i+1)*i'.size<=k*i'.size:=amy _ hi;rw[amI]at this;omega
theorem CU{t e:TypeId}{x:Operand}{m:Nat}[ht:ei P t e m](hx:ev env x=some (.slice none 0 0)):
  Ry P N w0 env L ⟨d, .call {callee:= .builtin .cap,args:= #[x],argTypes:= #[t]},ty,ps,af,gd⟩ (.int .i64 (0:Nat)):=fun a w ha _=>by
 have hu:P.underlying t=some (.slice (P.elem t)):=by rw[xo ht.dK];exact ht.dK
 have:=run_cap_slice (P:=P) (w:=w) t ty none 0 0 hu;simp[execOp,ha.ev hx,resolve,invoke,builtin,this,Result.andThen,goInt]
class kQ(w0:World)(L:List ah){τ:Type}[Deep τ](xs:List τ):Prop where
 h: ∀w,Mem w0 L w-> ∀x∈xs,Deep.dD (hp w) x
instance kQ.nil{τ:Type}[Deep τ]:kQ w0 L ([]:List τ):=⟨fun _ _ _ h=>by cases h⟩
instance kQ.cons{τ:Type}[Deep τ]{x:τ}{xs:List τ}[a:aU w0 L x][b:kQ w0 L xs]:kQ w0 L (x::xs):=⟨fun w hw y hy=>by
 rcases amA.1 hy with rfl|hy
 ·
  exact a.h w hw
 exact b.h w hw y hy⟩
instance (priority:=low) aU.flat {τ:Type}[Deep τ][Plain τ]{enc:τ->Array Value}{c:Nat}[ff τ enc c]{s:Sv}{xs:List τ}[q:cS w0 L enc c s xs]:aU w0 L (⟨s,xs⟩:Sl τ):=⟨fun w hw=>by
 have hl:=q.h w hw;have e1:Deep.cells (τ:=τ)=enc:=funext (ff.h (c:=c));have e2:Deep.c τ=c:=ff.hc (enc:=enc);refine⟨?_,fun x _=>Deep.iU _ x (by rw[Plain.h x];exact trivial)⟩;subst e1 e2;exact hl⟩
instance (priority:=low) aU.rows {τ:Type}[Deep τ]{enc:τ->Array Value}{c:Nat}[ff τ enc c]{s:Sv}{xs:List τ}[q:cS w0 L enc c s xs][g:kQ w0 L xs]:aU w0 L (⟨s,xs⟩:Sl τ):=⟨fun w hw=>by
 have hl:=q.h w hw;have e1:Deep.cells (τ:=τ)=enc:=funext (ff.h (c:=c));have e2:Deep.c τ=c:=ff.hc (enc:=enc);refine⟨?_,g.h w hw⟩;subst e1 e2;exact hl⟩
theorem Vm{τ:Type}[Deep τ]{s:Sv}{xs:List τ}[g:aU w0 L (⟨s,xs⟩:Sl τ)](h: ∀a:Sl τ,a=⟨s,xs⟩->aU w0 L a->Sq P N w0 l Q rest (bZ env d a.sv.val) L):Sq P N w0 l Q rest (bZ env d s.val) L:=h _ rfl g
def jJ(l:List (Sl UInt8)):List UInt8:=(l.map Sl.xs).flatten
theorem CW{l:List (Sl UInt8)}{i:Nat}{x:Sl UInt8}(h:l[i]? =some x):jJ (l.take (i+1))=jJ (l.take i)++x.xs:=by
 rw[jJ,amq,h];simp[jJ]
theorem Vn(l:List (Sl UInt8))(i:Nat):(jJ (l.take i)).length<=(jJ l).length:=by
 have e:jJ l=jJ (l.take i)++jJ (l.drop i):=by
  unfold jJ;rw[←List.flatten_append,←am0,amO]
 rw[e,adr];omega
end
theorem Ms(l:List UInt8):de l<256^l.length:=by
 have:=EU l l.length (amz _);rwa [amN]at this
section
variable {w0:World} {L:List ah} {α:Type} {enc:α->Array Value} {c:Nat} {xs ys:List α} {s t:Sv} {g:Bool}
end
section
variable {P:Program} {N:cc} {w0:World} {env:Env} {L:List ah} {l:List Oper} {Q:Exit->Act->World->Prop} {rest:List Oper} {d:Option Tmp} {ty:TypeId} {ps:String} {af:Array Edge}
end
section
variable {w0:World} {L:List ah} {τ:Type} [Deep τ]
instance (priority:=low) kQ.of {a:Sl τ}[q:aU w0 L a]:kQ w0 L a.xs:=⟨fun w hw=>(q.h w hw).2⟩
instance kQ.append{xs ys:List τ}[a:kQ w0 L xs][b:kQ w0 L ys]:kQ w0 L (xs++ys):=⟨fun w hw x hx=>by
 rcases amM.1 hx with h|h
 ·
  exact a.h w hw x h
 exact b.h w hw x h⟩
end
section
variable {w0:World} {L:List ah} {τ:Type} [Deep τ]
instance kQ.take{xs:List τ}{n:Nat}[q:kQ w0 L xs]:kQ w0 L (xs.take n):=⟨fun w hw x hx=>q.h w hw x (aov hx)⟩
instance kQ.drop{xs:List τ}{n:Nat}[q:kQ w0 L xs]:kQ w0 L (xs.drop n):=⟨fun w hw x hx=>q.h w hw x (List.mem_of_mem_drop hx)⟩
class Vo(a:Sl τ)(s:outParam Sv)(xs:outParam (List τ)):Prop where
 h:a=⟨s,xs⟩
instance (priority:=low) aU.named {a:Sl τ}{s:Sv}{xs:List τ}[n:Vo a s xs][q:aU w0 L (⟨s,xs⟩:Sl τ)]:aU w0 L a:=⟨by rw[n.h];exact q.h⟩
end
class fc(τ:Type)[d:Deep τ] where
 reach:τ->Nat->Prop
 congr: ∀(h h':Nat->Option Obj) (x:τ),(∀k,reach x k->h' k=h k)->d.dD h x->d.dD h' x
theorem dL.congr{α:Type}{enc:α->Array Value}{c:Nat}{h h':Nat->Option Obj}{s:Sv}{xs:List α}(e:xs≠[]->h' s.b=h s.b)(r:dL enc c h s xs):dL enc c h' s xs:=
 ⟨r.ok,r.len,fun i x hi j hj=>by
  have cE:xs≠[]:=fun he=>by rw[he]at hi;simp at hi
  rw[←r.row i x hi j hj];unfold ll;rw[e cE]⟩
@[reducible] def fc.flat {τ:Type}[d:Deep τ](hg: ∀h x,d.dD h x):fc τ:=⟨fun _ _=>False,fun _ h' x _ _=>hg h' x⟩
instance fc.slice{τ:Type}[d:Deep τ][r:fc τ]:fc (Sl τ) where
 reach a k:=(a.xs≠[]/\k=a.sv.b)\/ ∃x∈a.xs,r.reach x k
 congr h h' a e g:=⟨g.1.congr fun cE=>e _ (.inl ⟨cE,rfl⟩),fun x hx=>r.congr h h' x (fun k hk=>e k (.inr ⟨x,hx,hk⟩)) (g.2 x hx)⟩
instance:fc UInt8:=fc.flat fun _ _=>trivial
def fz{τ:Type}[d:Deep τ][r:fc τ](x:τ):ah:=⟨r.reach x,fun h=>d.dD h x,fun h h' e s=>r.congr h h' x e s⟩
section
variable {w0:World} {L:List ah} {τ:Type} [d:Deep τ] [r:fc τ]
instance (priority:=high) aU.frozen {a:τ}{i:Nat}[q:At L (fz a) i]:aU w0 L a:=⟨fun _ hw=>hw.get q.h⟩
theorem Mem.freeze{w:World}{es:List ah}(x:τ)(hg:d.dD (hp w) x)(hr: ∀k,r.reach x k-> ∃e∈es,e.fp k)(h:Mem w0 (es++L) w):Mem w0 (fz x::L) w:=by
 have hd:=List.pairwise_append.1 h.ny;refine⟨h.below,fun e he=>?_,fun e he k hk=>?_,anm.2 ⟨fun y hy k hk jf=>?_,hd.2.1⟩⟩
 ·
  rcases amA.1 he with rfl|he
  ·
   exact hg
  exact h.sat e (amM.2 (.inr he))
 ·
  rcases amA.1 he with rfl|he
  ·
   obtain⟨e',og,jf⟩:=hr k hk;exact h.iO e' (amM.2 (.inl og)) k jf
  exact h.iO e (amM.2 (.inr he)) k hk
 obtain⟨e',og,qa⟩:=hr k hk;exact hd.2.2 e' og y hy k qa jf
theorem Mem.Vp{w:World}{e:ah}(x:τ)(hg:d.dD (hp w) x)(hr: ∀k,r.reach x k->e.fp k)(h:Mem w0 (e::L) w):Mem w0 (fz x::L) w:=
 Mem.freeze (es:=[e]) x hg (fun k hk=>⟨e,by simp,hr k hk⟩) h
end
open Go.Kb
section
variable {w0:World} {L:List ah} {τ:Type} [Deep τ] {xs:List τ} {es:List ah}
theorem Mem.wb{w:World}(h:Mem w0 L w):Mem w0 (ah.all []::L) w:=Mem.zG.2 h
theorem Mem.Vq{w:World}{e:ah}(h:Mem w0 (e::ah.all es::L) w):Mem w0 (ah.all (e::es)::L) w:=Mem.vD.2 h
theorem Mem.Mt{w:World}{s:Sv}{enc:τ->Array Value}{c:Nat}[f:ff τ enc c][Plain τ](h:Mem w0 (own enc c s xs::L) w):Mem w0 (Deep.cg (⟨s,xs⟩:Sl τ)::L) w:=Tr.EZ.mem h
end
end Go.ay
namespace Go.Kb
open Go.ay
theorem ry(k:IntKind)(n:Int):(Value.int k n).oneCell'=true:=rfl
theorem rz(b:Bool):(Value.bool b).oneCell'=true:=rfl
instance:fc Int:=fc.flat fun _ _=>trivial
structure Ft where
 op:Int
 fail:Bool
 cut:Bool
 mask:UInt8
 deriving DecidableEq
def cO(x:Ft):Array Value:= #[.int .i64 x.op, .bool x.fail, .bool x.cut, .int .u8 x.mask.toNat]
instance:bn cO 4:=⟨fun _=>rfl,fun x=>by
 simp only[cO,anI,anQ,anY,Sv.one,ry,rz,anR]⟩
instance (x:Ft):eY (cO x) 4:=⟨rfl,bn.one x⟩
instance (x:Ft):bH (cO x) 0 (.int .i64 x.op):=⟨rfl⟩
instance (x:Ft):bH (cO x) 1 (.bool x.fail):=⟨rfl⟩
instance (x:Ft):bH (cO x) 2 (.bool x.cut):=⟨rfl⟩
instance (x:Ft):bH (cO x) 3 (.int .u8 x.mask.toNat):=⟨rfl⟩
instance:Deep Ft:=Deep.flat cO 4
instance:Plain Ft:=⟨fun _=>rfl⟩
instance:fc Ft:=fc.flat fun _ _=>trivial
instance:ff Ft cO 4:=⟨rfl,fun _=>rfl⟩
def xR:Ft:=⟨0,false,false,0⟩
structure Bk where
 ab:Sl (Sl UInt8)
 used:Int
 bC:Int
 bad:Bool
def bU(x:Bk):Array Value:= #[x.ab.sv.val, .int .i64 x.used, .int .i64 x.bC, .bool x.bad]
instance:bn bU 4:=⟨fun _=>rfl,fun x=>by
 simp only[bU,anI,anQ,anY,Sv.one,ry,rz,anR]⟩
instance (x:Bk):eY (bU x) 4:=⟨rfl,bn.one x⟩
instance (x:Bk):bH (bU x) 0 (x.ab.sv.val):=⟨rfl⟩
instance (x:Bk):bH (bU x) 1 (.int .i64 x.used):=⟨rfl⟩
instance (x:Bk):bH (bU x) 2 (.int .i64 x.bC):=⟨rfl⟩
instance (x:Bk):bH (bU x) 3 (.bool x.bad):=⟨rfl⟩
instance:Deep Bk where
 c:=4
 cells:=bU
 size:=bn.size
 one:=bn.one
 dD h x:=Deep.dD h x.ab
 cg x:=Deep.cg x.ab
 iU h x hs:=Deep.iU h x.ab hs
 mono w w' x hg hb:=Deep.mono w w' x.ab hg hb
instance:fc Bk where
 reach x k:=fc.reach x.ab k
 congr h h' x e hg:=fc.congr h h' x.ab (fun k hk=>e k (hk)) hg
variable {w0:World}{L:List ah}
instance{x:Bk}[q:aU w0 L x]:aU w0 L x.ab:=⟨fun w hw=>(q.h w hw)⟩
instance:ff Bk bU 4:=⟨rfl,fun _=>rfl⟩
def oz:Bk:=⟨⟨Sv.none,[]⟩,0,0,false⟩
structure Cp where
 ab:Int
 size:Int
 blocks:Sl Bk
 ops:Int
 off:Bool
 bb:Sl Ft
def aS(x:Cp):Array Value:= #[.int .i64 x.ab, .int .i64 x.size,x.blocks.sv.val, .int .i64 x.ops, .bool x.off,x.bb.sv.val]
instance:bn aS 6:=⟨fun _=>rfl,fun x=>by
 simp only[aS,anI,anQ,anY,Sv.one,ry,rz,anR]⟩
instance (x:Cp):eY (aS x) 6:=⟨rfl,bn.one x⟩
instance (x:Cp):bH (aS x) 0 (.int .i64 x.ab):=⟨rfl⟩
instance (x:Cp):bH (aS x) 1 (.int .i64 x.size):=⟨rfl⟩
instance (x:Cp):bH (aS x) 2 (x.blocks.sv.val):=⟨rfl⟩
instance (x:Cp):bH (aS x) 3 (.int .i64 x.ops):=⟨rfl⟩
instance (x:Cp):bH (aS x) 4 (.bool x.off):=⟨rfl⟩
instance (x:Cp):bH (aS x) 5 (x.bb.sv.val):=⟨rfl⟩
instance:Deep Cp where
 c:=6
 cells:=aS
 size:=bn.size
 one:=bn.one
 dD h x:=Deep.dD h x.blocks/\Deep.dD h x.bb
 cg x:= .two (Deep.cg x.blocks) (Deep.cg x.bb)
 iU h x hs:=⟨Deep.iU h x.blocks hs.1,Deep.iU h x.bb hs.2.1⟩
 mono w w' x hg hb:=⟨Deep.mono w w' x.blocks hg.1 hb,Deep.mono w w' x.bb hg.2 hb⟩
instance:fc Cp where
 reach x k:=fc.reach x.blocks k\/fc.reach x.bb k
 congr h h' x e hg:=⟨fc.congr h h' x.blocks (fun k hk=>e k (.inl hk)) hg.1,fc.congr h h' x.bb (fun k hk=>e k (.inr hk)) hg.2⟩
instance{x:Cp}[q:aU w0 L x]:aU w0 L x.blocks:=⟨fun w hw=>(q.h w hw).1⟩
instance{x:Cp}[q:aU w0 L x]:aU w0 L x.bb:=⟨fun w hw=>(q.h w hw).2⟩
instance{ab:Int}{size:Int}{blocks:Sl Bk}{ops:Int}{off:Bool}{bb:Sl Ft}[q0:aU w0 L blocks][q1:aU w0 L bb]:aU w0 L (Cp.mk ab size blocks ops off bb):=⟨fun w hw=>⟨q0.h w hw,q1.h w hw⟩⟩
def fL:Cp:=⟨0,0,⟨Sv.none,[]⟩,0,false,⟨Sv.none,[]⟩⟩
end Go.Kb
namespace Go.ay
theorem dL.cut{α:Type}{enc:α->Array Value}{c:Nat}{h:Nat->Option Obj}{s:Sv}{xs:List α}(r:dL enc c h s xs){lo hi:Nat}(h1:lo<=hi)(h2:hi<=xs.length):dL enc c h ⟨s.nil,s.b,if hi=lo then s.o else s.o+lo*c,hi -lo,hi -lo,s.sp⟩ ((xs.drop lo).take (hi -lo)):=by
  have hl:=r.len;have hle:=r.ok.le;have iZ:=r.ok.bd;refine⟨⟨fun hn=>?_,amz _,?_,fun hc=>?_⟩,?_,fun i x pd j hj=>?_⟩
  ·have:=r.ok.nil hn
   simp only at this⊢;omega
  ·simp only;omega
  ·simp only at hc⊢;exact r.ok.sp (by omega)
  ·simp;omega
  ·have hK:=(zz.1 pd).1
   rw[amo,amu]at hK;have hx:xs[lo+i]? =Option.some x:=by rw[anO,if_pos (by omega),ang]at pd;exact pd
   have:=r.row (lo+i) x hx j hj;simp only;rw[if_neg (by omega),show s.o+lo*c+i*c+j=s.o+(lo+i)*c+j by rw[amI];omega];exact this
end Go.ay
namespace Go.Kb
open Go.ay
structure BV where
  ab:List (List UInt8)
  used:Int
  bC:Int
  bad:Bool
  deriving DecidableEq
structure CV where
  ab:Int
  size:Int
  blocks:List BV
  ops:Int
  off:Bool
  bb:List Ft
  deriving DecidableEq
def aM(l:List (Sl UInt8)):List (List UInt8):=l.map fun x=>x.xs
theorem mR(l:List (Sl UInt8)):(aM l).length=l.length:=by simp[aM]
theorem oA{l:List (Sl UInt8)}{i:Nat}{x:Sl UInt8}(h:l[i]? =some x):(aM l)[i]? =some x.xs:=by simp[aM,h]
def bv(b:Bk):BV:=⟨aM b.ab.xs,b.used,b.bC,b.bad⟩
def hU(l:List Bk):List BV:=l.map bv
theorem fT(l:List Bk):(hU l).length=l.length:=by simp[hU]
theorem ly{l:List Bk}{i:Nat}{x:Bk}(h:l[i]? =some x):(hU l)[i]? =some (bv x):=by simp[hU,h]
def cv(c:Cp):CV:=⟨c.ab,c.size,hU c.blocks.xs,c.ops,c.off,c.bb.xs⟩
def win(rm:Sv)(lo hi:Nat):Sv:=⟨rm.nil,rm.b,if hi=lo then rm.o else rm.o+lo,hi -lo,hi -lo,rm.sp⟩
def cT(rm:Sv):Nat->List (List UInt8)->List (Sl UInt8)
  |_,[]=>[]
  |o,p::r=>⟨win rm o (o+p.length),p⟩::cT rm (o+p.length) r
theorem uA(rm:Sv): ∀(o:Nat) (l:List (List UInt8)),aM (cT rm o l)=l
  |_,[]=>rfl
  |o,p::r=>by
   have:=uA rm (o+p.length) r;simp only[aM,cT,amR]at this⊢;rw[this]
theorem GJ(rm:Sv): ∀(o:Nat) (l:List (List UInt8)),(cT rm o l).length=l.length
  |_,[]=>rfl
  |o,p::r=>by rw[cT,ad2,ad2,GJ]
theorem CX(rm:Sv): ∀(o:Nat) (l:List (List UInt8)) (x:Sl UInt8),x∈cT rm o l->x.sv.b=rm.b
  |_,[],_,h=>by cases h
  |o,p::r,x,h=>by
   rcases amA.1 h with rfl|h
   ·rfl
   ·exact CX rm _ r x h
theorem Mu(rm:Sv): ∀(o:Nat) (l:List (List UInt8)) (p:List UInt8),cT rm o (l++[p])=cT rm o l++[⟨win rm (o+l.flatten.length) (o+l.flatten.length+p.length),p⟩]
  |o,[],p=>by simp[cT]
  |o,q::r,p=>by
   rw[anj,cT,Mu,cT];simp only[anr,adr,anj,anz]
theorem Mv{rm:Sv}{h:Nat->Option Obj}{all:List UInt8}(hl:dL aL 1 h rm all): ∀(o:Nat) (l:List (List UInt8)),o+l.flatten.length<=all.length->(all.drop o).take l.flatten.length=l.flatten-> ∀x∈cT rm o l,dL aL 1 h x.sv x.xs
  |_,[],_,_,_,hx=>by cases hx
  |o,p::r,hb,he,x,hx=>by
   rw[anr,adr]at hb;rw[anr,adr]at he
   have e1:(all.drop o).take p.length=p:=by
      have:=congrArg (List.take p.length) he;rw[List.take_take,aon (by omega),List.take_left']at this
      ·exact this
      ·rfl
   have e2:(all.drop (o+p.length)).take r.flatten.length=r.flatten:=by
      have:=congrArg (List.drop p.length) he;rw[List.drop_take,aox,List.drop_left' rfl,show p.length+r.flatten.length -p.length=r.flatten.length by omega]at this;exact this
   rcases amA.1 hx with rfl|hx
   ·have:=hl.cut (lo:=o) (hi:=o+p.length) (by omega) (by omega)
    rw[an0,show o+p.length -o=p.length by omega,e1]at this;simpa[win]using this
   ·exact Mv hl (o+p.length) r (by omega) e2 x hx
def xS(a:Sl (Sl UInt8)):ah:=⟨fun k=> ∃x∈a.xs,k=x.sv.b,fun h=>a.xs=[]\/ ∃rm,rm.nil=false/\a.xs=cT rm 0 (aM a.xs)/\(own aL 1 rm (aM a.xs).flatten).sat h,fun h h' e s=>by
  rcases s with s|⟨rm,h1,h2,h3⟩
  ·exact .inl s
  ·rcases List.eq_nil_or_concat a.xs with hx|⟨l,x,hx⟩
   ·exact .inl hx
   ·have hm:x∈a.xs:=by rw[hx];simp
    have hb:x.sv.b=rm.b:=CX rm 0 _ x (h2▸hm);exact .inr ⟨rm,h1,h2,(own aL 1 rm (aM a.xs).flatten).loc h h' (fun k hk=>e k ⟨x,hm,by rw[hb];exact hk.2⟩) h3⟩⟩
def eA(a:Sl (Sl UInt8)):ah:= .two (own (bX (τ:=UInt8)) 1 a.sv a.xs) (xS a)
theorem Vr{a:Sl (Sl UInt8)}{h:Nat->Option Obj}(s:(xS a).sat h): ∀x∈a.xs,dL aL 1 h x.sv x.xs:=fun x hx=>by
  rcases s with s|⟨rm,h1,h2,h3⟩
  ·rw[s]at hx;cases hx
  ·refine Mv h3.1 0 (aM a.xs) (by omega) (by rw[anh,amN]) x (h2▸hx)
theorem Aq{α:Type}{enc:α->Array Value}{c:Nat}{s:Sv}{xs:List α}{h:Nat->Option Obj}(hl:dL enc c h s xs)(hx:xs≠[]):(own enc c s xs).fp s.b:=
  ⟨hl.ok.some (by have:=hl.len;have:=anf.2 hx;omega),rfl⟩
theorem ah.CY{k:Nat}: ∀{es:List ah} {e:ah},e∈es->e.fp k->(ah.all es).fp k
  |_::_,_,he,hk=>(amA.1 he).elim (fun h=> .inl (h▸hk)) fun h=> .inr (ah.CY h hk)
theorem Mw{α:Type}{e:α}: ∀{L:List α} {i:Nat},L[i]? =Option.some e->L.Perm (e::L.eraseIdx i)
  |[],i,h=>by simp at h
  |x::L,0,h=>by obtain rfl:x=e:=by simpa using h
                simp
  |x::L,i+1,h=>by
   have:=Mw (L:=L) (i:=i) (by simpa using h);rw[aoD];exact(this.cons x).trans (.swap _ _ _)
theorem Mem.pick{τ:Type}{f:τ->ah}{w0 w:World}{L:List ah}{xs:List τ}{i:Nat}{x:τ}(hx:xs[i]? =some x):Mem w0 (ah.all (xs.map f)::L) w↔Mem w0 (f x::ah.all ((xs.eraseIdx i).map f)::L) w:=by
  have hp:(xs.map f).Perm (f x::(xs.eraseIdx i).map f):=by
    have:=Mw hx;simpa using this.map f
  rw[Mem.zH];have e:Mem w0 (f x::ah.all ((xs.eraseIdx i).map f)::L) w↔Mem w0 (f x::((xs.eraseIdx i).map f++L)) w:=by
    have sw: ∀(a b:ah) (K:List ah),Mem w0 (a::b::K) w↔Mem w0 (b::a::K) w:=fun a b K=>⟨fun h=>h.perm (List.Perm.swap _ _ _),fun h=>h.perm (List.Perm.swap _ _ _)⟩;rw[sw,Mem.zH];exact⟨fun h=>h.perm anX,fun h=>h.perm anX.symm⟩
  rw[e];exact⟨fun h=>h.perm (hp.append_right L),fun h=>h.perm (hp.append_right L).symm⟩
theorem Vs{w0 w:World}{L:List ah}{a:Sl Bk}(h:Mem w0 (own bU 4 a.sv a.xs::ah.all (a.xs.map fun b:Bk=>eA b.ab)::L) w):Mem w0 (fz a::L) w:=by
  have hs:=h.sat (own bU 4 a.sv a.xs) (by simp);have ha:=h.sat (ah.all (a.xs.map fun b:Bk=>eA b.ab)) (by simp);have hb: ∀x∈a.xs,(eA x.ab).sat fun k=>w.heap[k]? :=fun x hx=>ah.zI ha _ (am5 hx);refine Mem.freeze (es:=[own bU 4 a.sv a.xs,ah.all (a.xs.map fun b:Bk=>eA b.ab)]) a ⟨hs.1,fun x hx=>⟨(hb x hx).1.1,fun y hy=>⟨Vr (hb x hx).2.1 y hy,fun _ _=>trivial⟩⟩⟩ (fun k hk=>?_) h;rcases hk with⟨cE,rfl⟩|⟨x,hx,hk⟩
  ·exact⟨_,by simp,Aq hs.1 cE⟩
  ·refine⟨ah.all (a.xs.map fun b:Bk=>eA b.ab),by simp,ah.CY (am5 hx) ?_⟩
   rcases hk with⟨cE,rfl⟩|⟨y,hy,⟨_,rfl⟩|⟨_,_,hf⟩⟩
   ·exact .inl (Aq (hb x hx).1.1 cE)
   ·exact .inr ⟨y,hy,rfl⟩
   ·exact hf.elim
theorem CZ{τ:Type}[Deep τ][r:fc τ][Plain τ]{enc:τ->Array Value}{c:Nat}[f:ff τ enc c](hr: ∀(x:τ) k,¬r.reach x k)(hg: ∀h (x:τ),Deep.dD h x){w0 w:World}{L:List ah}{a:Sl τ}(h:Mem w0 (own enc c a.sv a.xs::L) w):Mem w0 (fz a::L) w:=by
  have hs:=h.sat (own enc c a.sv a.xs) (by simp);have e1:Deep.cells (τ:=τ)=enc:=funext (ff.h (c:=c));have e2:Deep.c τ=c:=ff.hc (enc:=enc);refine Mem.Vp a ⟨by rw[e1,e2];exact hs.1,fun x _=>hg _ x⟩ (fun k hk=>?_) h;rcases hk with⟨cE,rfl⟩|⟨x,_,hk⟩
  ·exact Aq hs.1 cE
  ·exact(hr x k hk).elim
theorem C0{w0 w:World}{L:List ah}{d:Cp}(h:Mem w0 (fz d.blocks::fz d.bb::L) w):Mem w0 (fz d::L) w:=by
  refine Mem.freeze (es:=[fz d.blocks,fz d.bb]) d ⟨h.sat (fz d.blocks) (by simp),h.sat (fz d.bb) (by simp)⟩ (fun k hk=>?_) h;rcases hk with hk|hk
  ·exact⟨fz d.blocks,by simp,hk⟩
  ·exact⟨fz d.bb,by simp,hk⟩
theorem GK{w0 w:World}{L:List ah}{a:Sl Ft}(h:Mem w0 (own cO 4 a.sv a.xs::L) w):Mem w0 (fz a::L) w:=CZ (fun _ _ h=>h) (fun _ _=>trivial) h
theorem wc{w0 w:World}{L:List ah}{a:Sl Int}(h:Mem w0 (own bT 1 a.sv a.xs::L) w):Mem w0 (fz a::L) w:=CZ (fun _ _ h=>h) (fun _ _=>trivial) h
theorem GL{w0 w:World}{L:List ah}{a:Sl UInt8}(h:Mem w0 (own aL 1 a.sv a.xs::L) w):Mem w0 (fz a::L) w:=CZ (fun _ _ h=>h) (fun _ _=>trivial) h
def dG:Int:=1099511627776
def s0(b p s:Int):Bool:=decide (1<=b)&&decide (b<=32)&&decide (1<=p)&&decide (p<=16)&&decide (1<=s)&&decide (s<=256)
theorem kt{b p s:Int}:s0 b p s=true↔1<=b/\b<=32/\1<=p/\p<=16/\1<=s/\s<=256:=by
 simp only[s0,alM,decide_eq_true_eq,and_assoc]
def Mx(s:Int)(x:List UInt8):Bool:=decide ((x.length:Int)=s)
def oB(p s:Int)(b:BV):Bool:=decide ((b.ab.length:Int)=p)&&decide (0<=b.used)&&decide (b.used<=p)&&decide (0<=b.bC)&&decide (b.bC<=dG)&&b.ab.all (Mx s)
theorem gF{p s:Int}{b:BV}:oB p s b=true↔(b.ab.length:Int)=p/\0<=b.used/\b.used<=p/\0<=b.bC/\b.bC<=dG/\ ∀x∈b.ab,(x.length:Int)=s:=by
 simp only[oB,Mx,alM,decide_eq_true_eq,and_assoc,amt]
def bl(c:CV):Bool:=s0 c.blocks.length c.ab c.size&&decide (0<=c.ops)&&decide (c.ops<=dG)&&decide (c.bb.length<=64)&&c.blocks.all (oB c.ab c.size)
theorem eB{c:CV}:bl c=true↔s0 c.blocks.length c.ab c.size=true/\0<=c.ops/\c.ops<=dG/\c.bb.length<=64/\ ∀b∈c.blocks,oB c.ab c.size b=true:=by
 simp only[bl,alM,decide_eq_true_eq,and_assoc,amt]
def lz(c:CV)(block:Int):Bool:=bl c&&decide (0<=block)&&decide (block<c.blocks.length)
theorem mS{c:CV}{block:Int}:lz c block=true↔bl c=true/\0<=block/\block<c.blocks.length:=by
 simp only[lz,alM,decide_eq_true_eq,and_assoc]
def Vt:BV:=⟨[],0,0,false⟩
def aN(c:CV)(block:Int):BV:=c.blocks.getD block.toNat Vt
def gT(n:Int):List UInt8:=List.replicate n.toNat 255
def jj(b p s:Int):CV×Int:=if s0 b p s=true then(⟨p,s,List.replicate b.toNat ⟨List.replicate p.toNat (gT s),0,0,false⟩,0,false,[]⟩,0)else(⟨0,0,[],0,false,[]⟩,1)
def bS(c:CV):Ft×Bool:=match c.bb.find? fun f=>decide (f.op=c.ops)with
 |some f=>(f,f.cut||f.fail)
 |none=>(xR,false)
def nR(f:Ft):Int:=if f.cut=true then 7 else 9
def s8(c:CV)(block mT:Int)(p:List UInt8):Bool:=lz c block&&decide (0<=mT)&&decide (mT<c.ab)&&decide ((p.length:Int)=c.size)&&decide (c.ops<dG)
theorem qm{c:CV}{block mT:Int}{p:List UInt8}:s8 c block mT p=true↔lz c block=true/\0<=mT/\mT<c.ab/\(p.length:Int)=c.size/\c.ops<dG:=by
 simp only[s8,alM,decide_eq_true_eq,and_assoc]
def cP(m:UInt8)(p:List UInt8):List UInt8:=p.map fun x=>x|||m
def xT(c:CV)(p:List UInt8):List UInt8:=if(bS c).2=true then cP (~~~(bS c).1.mask) p else p
def rA(c:CV)(block mT:Int)(p:List UInt8):CV:=
 {c with ops:=c.ops+1,off:=(bS c).2&&(bS c).1.cut,blocks:=c.blocks.set block.toNat {aN c block with used:=(aN c block).used+1,ab:=(aN c block).ab.set mT.toNat (xT c p)}}
def lA(c:CV)(block mT:Int)(p:List UInt8):Int:=
 if s8 c block mT p=true then(if c.off=true then 7 else if(aN c block).bad=true\/mT≠(aN c block).used then 9 else if(bS c).2=true then nR (bS c).1 else 0)else 1
def mU(c:CV)(block mT:Int)(p:List UInt8):CV:=
 if s8 c block mT p=true/\c.off=false/\(aN c block).bad=false/\mT=(aN c block).used then rA c block mT p else c
def s9(c:CV)(block:Int):Bool:=lz c block&&decide (c.ops<dG)&&decide ((aN c block).bC<dG)
theorem xU{c:CV}{block:Int}:s9 c block=true↔lz c block=true/\c.ops<dG/\(aN c block).bC<dG:=by
 simp only[s9,alM,decide_eq_true_eq,and_assoc]
def uB(c:CV)(ps:List (List UInt8)):List (List UInt8):=if(bS c).2=true then ps.map (cP (bS c).1.mask)else ps.map fun _=>gT c.size
def uC(c:CV)(block:Int):CV:=
 {c with ops:=c.ops+1,off:=(bS c).2&&(bS c).1.cut,blocks:=c.blocks.set block.toNat {aN c block with used:=if(bS c).2=true then c.ab else 0,bC:=(aN c block).bC+1,ab:=uB c (aN c block).ab}}
def eG(c:CV)(block:Int):Int:=
 if s9 c block=true then(if c.off=true then 7 else if(aN c block).bad=true then 9 else if(bS c).2=true then nR (bS c).1 else 0)else 1
def mV(c:CV)(block:Int):CV:=if s9 c block=true/\c.off=false/\(aN c block).bad=false then uC c block else c
def rB(c:CV)(block:Int):Int:=if lz c block=true then(if c.off=true then 7 else 0)else 1
def qn(c:CV)(block:Int):CV:=if rB c block=0 then{c with blocks:=c.blocks.set block.toNat {aN c block with bad:=true}}else c
def lX(c:CV)(fs:List Ft):Int:=if bl c=true/\fs.length<=64 then 0 else 1
def oC(c:CV)(fs:List Ft):CV:=if lX c fs=0 then{c with off:=false,bb:=fs}else c
theorem C1{c:CV}{block:Int}(h:lz c block=true):c.blocks[block.toNat]? =some (aN c block):=by
 obtain⟨_,h2,h3⟩:=mS.1 h;exact jZ (by omega)
theorem we{c:CV}{block:Int}(h:lz c block=true):oB c.ab c.size (aN c block)=true:=
 (eB.1 (mS.1 h).1).2.2.2.2 _ (amm (C1 h))
end Go.Kb
namespace Go.ay
open Go.RowKit
section
variable {α:Type} {enc:α->Array Value} {c:Nat}
theorem Vu{P:Program}{t tx ty e:TypeId}{cf:Nat}(ht:dC P t e c cf)[he:bn enc c]{w0 w:World}{L:List ah}{i:Nat}{s:Sv}{xs ys:List α}{x:Value}
  (hw:Mem w0 L w) (hi:L[i]? =some (own enc c s xs)) (hs:Src P c tx x ys.length (aH enc ys) w) (hn:s.nil=false) (nB:s.len+ys.length<=s.cap) (iZ:s.len+ys.length<=140737488355328):
  ∃w',(Builtin.append_ #[t,tx] ty #[s.val,x]).run P w= .ok (Sv.val {s with len:=s.len+ys.length}) w'/\Mem w0 (L.set i (own enc c {s with len:=s.len+ys.length} (xs++ys))) w':=by
 obtain⟨r,mF⟩:=hw.get hi;obtain⟨i',z,bf,aF,bo,cI,lN⟩:=ht.info;subst bo cI;have hlen:=r.len;have hle:=r.ok.le;obtain⟨eR,cs,T,fz,eL,dU,lp,kN⟩:=mF hn;have hmul:(s.len+ys.length)*i'.size<=s.cap*i'.size:=amy _ nB;have dM:(aH enc ys).length=ys.length*i'.size:=gp ys;have ij:s.o+s.len*i'.size+(aH enc ys).toArray.size<=cs.size:=by
  rw[am2,dM];rw[amI]at hmul;omega
 have bE:=zA (P:=P) s.b (s.o+s.len*i'.size) T fz (aH enc ys) 0 cs w eL lp (by simpa using ij) hs.one;have zC:(storeCells ⟨s.b,s.o+s.len*i'.size,none⟩ (aH enc ys)).run P w= .ok () (w.setRow s.b (over cs (s.o+s.len*i'.size) (aH enc ys).toArray)):=by
  simpa[over]using bE
 refine⟨w.setRow s.b (over cs (s.o+s.len*i'.size) (aH enc ys).toArray),?_,?_⟩
 ·
  have ki:({s with len:=s.len+ys.length}:Sv).val= .slice (some ⟨s.b,s.o,s.sp⟩) (s.len+ys.length) s.cap:=Sv.gn (s:={s with len:=s.len+ys.length}) hn
  rw[Sv.gn hn,ki,eR];rcases hs.kind with⟨e',hk⟩|hk<;>simp[Builtin.append_,run_underlying ht.dK,run_underlying hk,sizeOf,typeInfo,bf,hs.len,nB,hs.cells,Addr.gl,zC]
 ·
  have lq:hp (w.setRow s.b (over cs (s.o+s.len*i'.size) (aH enc ys).toArray)) s.b=some (.cells (over cs (s.o+s.len*i'.size) (aH enc ys).toArray) T fz):=setRow_heap w s.b cs _ T fz eL;refine hw.change hi (fun k hk=>hk) (fun k hk=>?_) (by simp[World.setRow]) ⟨rfl,rfl,rfl⟩ ⟨ug ⟨(fun h=>by rw[hn]at h;cases h),nB,by simp only;omega,r.ok.sp⟩ (by simp[hlen]) lq fun k y hy j hj=>?_,fun _=>⟨eR,_,_,_,lq,?_,by rw[mE ij];exact lp,kN⟩⟩
  ·
   exact setRow_other w s.b k _ (fun e=>hk ⟨hn,e⟩)
  ·
   rw[qX ij]
   by_cases hk:k<xs.length
   ·
    rw[if_neg,←r.row k y (by rw[amC hk]at hy;exact hy) j hj]
    ·
     unfold ll;rw[eL]
    ·
     have:(k+1)*i'.size<=s.len*i'.size:=amy _ (by omega);rw[amI]at this;intro h;have:=h.1;simp only at this;omega
   ·
    rw[amw (by omega)]at hy;have p8:=lM (enc:=enc) ys (k -xs.length) y hy j hj;have qa:s.len*i'.size+(k -xs.length)*i'.size=k*i'.size:=by rw[←amI];congr 1;omega
    have bx:(k -xs.length+1)*i'.size<=ys.length*i'.size:=amy _ (by have:=(zz.1 hy).1;omega);rw[amI]at bx;rw[if_pos ⟨by simp only;omega,by rw[am2,dM];simp only;omega⟩,←p8];simp only[anu];congr 1;omega
  ·
   rw[mE ij];exact dU
theorem Vv{P:Program}{w0 w:World}{L:List ah}{i:Nat}{s:Sv}{xs ys:List α}[he:bn enc c]{k:Nat}(hw:Mem w0 L w)(hi:L[i]? =some (own enc c s xs))(hn:s.nil=false)(hk:k+ys.length<=xs.length):
  ∃w',(storeCells ⟨s.b,s.o+k*c,none⟩ (aH enc ys)).run P w= .ok () w'/\Mem w0 (L.set i (own enc c s (xs.take k++(ys++xs.drop (k+ys.length))))) w':=by
 obtain⟨r,mF⟩:=hw.get hi;have hlen:=r.len;have hle:=r.ok.le;obtain⟨eR,cs,T,fz,eL,dU,lp,kN⟩:=mF hn;have hmul:(k+ys.length)*c<=s.cap*c:=amy _ (by omega);have dM:(aH enc ys).length=ys.length*c:=gp ys;have ij:s.o+k*c+(aH enc ys).toArray.size<=cs.size:=by
  rw[am2,dM];rw[amI]at hmul;omega
 have rl: ∀v∈aH enc ys,v.oneCell'=true:=uf ys;have bE:=zA (P:=P) s.b (s.o+k*c) T fz (aH enc ys) 0 cs w eL lp (by simpa using ij) rl;have zC:(storeCells ⟨s.b,s.o+k*c,none⟩ (aH enc ys)).run P w= .ok () (w.setRow s.b (over cs (s.o+k*c) (aH enc ys).toArray)):=by
  simpa[over]using bE
 refine⟨_,zC,?_⟩;have lq:hp (w.setRow s.b (over cs (s.o+k*c) (aH enc ys).toArray)) s.b=some (.cells (over cs (s.o+k*c) (aH enc ys).toArray) T fz):=setRow_heap w s.b cs _ T fz eL;have mW:(xs.take k++(ys++xs.drop (k+ys.length))).length=xs.length:=by simp only[adr,amo,amu];omega
 refine hw.change hi (fun k hk=>hk) (fun k hk=>?_) (by simp[World.setRow]) ⟨rfl,rfl,rfl⟩ ⟨ug r.ok (by rw[mW];exact hlen) lq fun m y hy j hj=>?_,fun _=>⟨eR,_,_,_,lq,?_,by rw[mE ij];exact lp,kN⟩⟩
 ·
  exact setRow_other w s.b k _ (fun e=>hk ⟨hn,e⟩)
 ·
  rw[qX ij];rcases amv m k with h1|h1
  ·
   have uy:xs[m]? =some y:=by
    rw[amC (by rw[amo];omega),anO,if_pos h1]at hy;exact hy
   rw[if_neg,←r.row m y uy j hj]
   ·
    unfold ll;rw[eL]
   ·
    have:(m+1)*c<=k*c:=amy _ (by omega);rw[amI]at this;intro h;have:=h.1;omega
  ·
   rcases amv m (k+ys.length)with h2|h2
   ·
    have uy:ys[m -k]? =some y:=by
     rw[amw (by rw[amo];omega),amo,aon (by omega),amC (by omega)]at hy;exact hy
    have p8:=lM (enc:=enc) ys (m -k) y uy j hj;have qa:k*c+(m -k)*c=m*c:=by rw[←amI];congr 1;omega
    have bx:(m -k+1)*c<=ys.length*c:=amy _ (by omega);rw[amI]at bx;rw[if_pos ⟨by omega,by rw[am2,dM];omega⟩,←p8];simp only[anu];congr 1;omega
   ·
    have uy:xs[m]? =some y:=by
     rw[amw (by rw[amo];omega),amo,aon (by omega),amw (by omega),ang]at hy;rw[←hy];congr 1;omega
    rw[if_neg,←r.row m y uy j hj]
    ·
     unfold ll;rw[eL]
    ·
     have:(k+ys.length)*c<=m*c:=amy _ h2;rw[amI]at this;intro h;have:=h.2;rw[am2,dM]at this;omega
 ·
  rw[mE ij];exact dU
end
section
variable {P:Program} {N:cc} {w0:World} {env:Env} {L:List ah} {l:List Oper} {Q:Exit->Act->World->Prop} {rest:List Oper} {d:Option Tmp} {ty:TypeId} {ps:String} {af:Array Edge} {gd:Option (Nat×Bool)} {K:Value->List ah->Prop}
variable {α:Type} {enc:α->Array Value} {c:Nat} {s:Sv} {xs ys:List α}
theorem Vw{t tx e:TypeId}{x y:Operand}{yv:Value}{cf i:Nat}[ht:dC P t e c cf][he:bn enc c](hx:ev env x=some s.val)(hy:ev env y=some yv)[q:eS L s enc c xs i]
  (hs: ∀w,Mem w0 L w->Src P c tx yv ys.length (aH enc ys) w) (hn:s.nil=false) (nB:s.len+ys.length<=s.cap) (iZ:s.len+ys.length<=140737488355328) {L':List ah} [hu:eK L i (own enc c {s with len:=s.len+ys.length} (xs++ys)) L']
  (hk:K (Sv.val {s with len:=s.len+ys.length}) L'):
  aO P N w0 env L ⟨d, .call {callee:= .builtin .append,args:= #[x,y],argTypes:= #[t,tx]},ty,ps,af,gd⟩ K:=
 sS fun a w ha hw=>by
  obtain⟨w',h1,h4⟩:=Vu (ty:=ty) ht hw q.h (hs w hw) hn nB iZ;refine⟨_,w',L',?_,by rw[←hu.h];exact h4,hk⟩;simp[execOp,ha.ev hx,ha.ev hy,resolve,invoke,builtin,h1,Result.andThen]
theorem Vx{t tx e:TypeId}{x y:Operand}{yv:Value}{cf i:Nat}[ht:dC P t e c cf][he:bn enc c](hx:ev env x=some s.val)(hy:ev env y=some yv)[q:eS L s enc c xs i]
  (hs: ∀w,Mem w0 L w->Src P c tx yv ys.length (aH enc ys) w) (hn:s.nil=false) (nB:s.len+ys.length<=s.cap) (iZ:s.len+ys.length<=140737488355328) {L':List ah} [hu:eK L i (own enc c {s with len:=s.len+ys.length} (xs++ys)) L']
  (hk:Sq P N w0 l Q rest (bZ env d (Sv.val {s with len:=s.len+ys.length})) L') (hd:cN N d=true:=by rfl):
  Sq P N w0 l Q (⟨d, .call {callee:= .builtin .append,args:= #[x,y],argTypes:= #[t,tx]},ty,ps,af,none⟩::rest) env L:=
 La rfl hd (Vw hx hy hs hn nB iZ hk)
theorem My{D S rm:Sv}{x y:Operand}{tx fv e:TypeId}{i k:Nat}{ys:List α}[he:bn enc c](hx:ev env x=some D.val)(mO:D.nil=false)(mP:D.sp=none)(oy:D.b=rm.b)(ql:D.o=rm.o+k*c)(hy:ev env y=some S.val)[ht:ei P tx e c][q:eS L rm enc c xs i][hS:Hd w0 L S enc c ys](hc:0<c)(hn:rm.nil=false)(h0:0<ys.length)(hl:ys.length<=D.len)(jf:k+ys.length<=xs.length)
  {L':List ah} [hu:eK L i (own enc c rm (xs.take k++(ys++xs.drop (k+ys.length)))) L'] (hk:K (.int .i64 ys.length) L'):
  aO P N w0 env L ⟨d, .call {callee:= .builtin .copy,args:= #[x,y],argTypes:= #[tx,fv]},ty,ps,af,gd⟩ K:=
 sS fun a w ha hw=>by
  have hs:=hS.h w hw;have An:=hs.some h0;have nK:=hs.len;have Ao:=hs.ok.sp (by have:=hs.ok.le;omega);rw[Sv.gn mO,mP,oy,ql]at hx;rw[Sv.gn An,Ao]at hy;obtain⟨w',h1,h2⟩:=Vv (P:=P) hw q.h hn jf;rw[hu.h]at h2;refine⟨_,w',L',?_,h2,hk⟩;have C2:=run_loadCells_list (P:=P) w ⟨S.b,S.o,none⟩ (aH enc ys) (fun j v hj=>by
   obtain⟨z,hz,hv⟩:=B2 hc hj;rw[Addr.gl,p6,←hv,←hs.row _ z hz (j%c) (an1 _ hc)];congr 1;have:=aop j c;rw[anv]at this;omega)
  rw[gp]at C2
  cases hq:P.info? e with
  |none=>have:=ht.size;simp[hq]at this
  |some i'=>
   have hi:i'.size=c:=by have:=ht.size;simpa[hq]using this
   have zl:Nat.min S.len D.len=ys.length:=by rw[nK];exact aon hl
   have fq:(Builtin.copy_ #[tx,fv] ty #[.slice (some ⟨rm.b,rm.o+k*c,none⟩) D.len D.cap, .slice (some ⟨S.b,S.o,none⟩) S.len S.cap]).run P w= .ok (goInt ys.length) w':=by
    simp[Builtin.copy_,run_underlying ht.dK,Builtin.lenOf,Builtin.firstCells,sizeOf,typeInfo,hq,hi,zl,C2,h1]
   simp[execOp,ha.ev hx,ha.ev hy,resolve,invoke,builtin,fq,Result.andThen,goInt]
theorem Vy{D S rm:Sv}{x y:Operand}{tx fv e:TypeId}{i k:Nat}{ys:List α}[he:bn enc c](hx:ev env x=some D.val)(mO:D.nil=false)(mP:D.sp=none)(oy:D.b=rm.b)(ql:D.o=rm.o+k*c)(hy:ev env y=some S.val)[ht:ei P tx e c][q:eS L rm enc c xs i][hS:Hd w0 L S enc c ys](hc:0<c)(hn:rm.nil=false)(h0:0<ys.length)(hl:ys.length<=D.len)(jf:k+ys.length<=xs.length)
  {L':List ah} [hu:eK L i (own enc c rm (xs.take k++(ys++xs.drop (k+ys.length)))) L'] (hk:Sq P N w0 l Q rest (bZ env d (.int .i64 ys.length)) L') (hd:cN N d=true:=by rfl):
  Sq P N w0 l Q (⟨d, .call {callee:= .builtin .copy,args:= #[x,y],argTypes:= #[tx,fv]},ty,ps,af,none⟩::rest) env L:=
 La rfl hd (My hx mO mP oy ql hy hc hn h0 hl jf hk)
end
theorem Mem.xV{w0 w:World}{L:List ah}{e:ah}{es:List ah}(h:Mem w0 (e::ah.all es::L) w):Mem w0 (ah.all (es++[e])::L) w:=by
 have h1:Mem w0 (ah.all (e::es)::L) w:=Mem.Vq h;rw[Mem.zH]at h1⊢;exact h1.perm ((List.perm_append_singleton e es).symm.append_right L)
theorem Mem.C3{w0 w:World}{L:List ah}{e e':ah}(hf: ∀k,e'.fp k->e.fp k)(hs:(e.sat fun k=>w.heap[k]?)->e'.sat fun k=>w.heap[k]?)(h:Mem w0 (e::L) w):Mem w0 (e'::L) w:=by
 have hd:=anm.1 h.ny;refine⟨h.below,fun x he=>?_,fun x he k hk=>?_,anm.2 ⟨fun y hy k hk=>hd.1 y hy k (hf k hk),hd.2⟩⟩
 ·
  rcases amA.1 he with rfl|he
  ·
   exact hs (h.sat e (by simp))
  exact h.sat x (by simp[he])
 rcases amA.1 he with rfl|he
 ·
  exact h.iO e (by simp) k (hf k hk)
 exact h.iO x (by simp[he]) k hk
end Go.ay
namespace Go.Kb
open Go.ay
theorem Mz{w0 w:World}{L:List ah}{s rm:Sv}{l:List (List UInt8)}{xs:List (Sl UInt8)}(hx:xs=cT rm 0 l)(hn:rm.nil=false)(h:Mem w0 (own (bX (τ:=UInt8)) 1 s xs::own aL 1 rm l.flatten::L) w):Mem w0 (eA ⟨s,xs⟩::L) w:=by
 have ht:aM xs=l:=by rw[hx,uA]
 have h1:=h.perm (List.Perm.swap _ _ _);have h2:Mem w0 (xS ⟨s,xs⟩::own (bX (τ:=UInt8)) 1 s xs::L) w:=Mem.C3 (fun k hk=>by
  obtain⟨x,xH,rfl⟩:=hk;exact⟨hn,CX rm 0 l x (hx▸xH)⟩) (fun hs=> .inr ⟨rm,hn,by simp only[ht];exact hx,by simp only[ht];exact hs⟩) h1
 exact Mem.vD.2 (h2.perm (List.Perm.swap _ _ _))
theorem Vz{w0 w:World}{L:List ah}{s:Sv}(h:Mem w0 (own (bX (τ:=UInt8)) 1 s []::L) w):Mem w0 (eA ⟨s,[]⟩::L) w:=by
 refine Mem.vD.2 (Mem.perm (Mem.C3 (e:= .emp) (e':=xS ⟨s,[]⟩) (fun k hk=>?_) (fun _=> .inl rfl) (Mem.zG.2 h)) (List.Perm.swap _ _ _));obtain⟨x,hx,_⟩:=hk
 cases hx
theorem VA{w0 w:World}{L:List ah}{a:Sl (Sl UInt8)}(cE:a.xs≠[])(h:Mem w0 (eA a::L) w): ∃rm:Sv,(rm.nil=false/\rm.sp=none/\a.xs=cT rm 0 (aM a.xs))/\Mem w0 (own (bX (τ:=UInt8)) 1 a.sv a.xs::own aL 1 rm (aM a.xs).flatten::L) w:=by
 have h1:=Mem.vD.1 h;have hr:=h1.sat (xS a) (by simp);rcases hr with hr|⟨rm,g1,g2,g3⟩
 ·
  exact absurd hr cE
 refine⟨rm,⟨g1,(g3.2 g1).1,g2⟩,?_⟩;have h2:=h1.perm (List.Perm.swap _ _ _);obtain⟨x,l,xW⟩:=List.exists_cons_of_ne_nil cE;have hm:x∈a.xs:=by rw[xW];simp
 have hb:x.sv.b=rm.b:=CX rm 0 _ x (g2▸hm);exact(Mem.C3 (e:=xS a) (e':=own aL 1 rm (aM a.xs).flatten) (fun k hk=>⟨x,hm,by rw[hb];exact hk.2⟩) (fun _=>g3) h2).perm (List.Perm.swap _ _ _)
theorem C4: ∀{l:List (List UInt8)} {i:Nat} {q r:List UInt8},l[i]? =some q->r.length=q.length->(l.set i r).flatten=l.flatten.take (l.take i).flatten.length++(r++l.flatten.drop ((l.take i).flatten.length+r.length))
 |y::l,0,q,r,h,hr=>by
  obtain rfl:y=q:=by simpa using h
  simp[hr]
 |y::l,i+1,q,r,h,hr=>by
  have:=C4 (l:=l) (i:=i) (q:=q) (r:=r) (by simpa using h) hr;simp only[List.set_cons_succ,anr,this,ane,adr];rw[List.take_length_add_append,anz,List.drop_length_add_append,ams]
theorem C5{rm:Sv}: ∀{o:Nat} {l:List (List UInt8)} {i:Nat} {q:List UInt8},l[i]? =some q->(cT rm o l)[i]? =some ⟨win rm (o+(l.take i).flatten.length) (o+(l.take i).flatten.length+q.length),q⟩
 |o,y::l,0,q,h=>by
  obtain rfl:y=q:=by simpa using h
  simp[cT]
 |o,y::l,i+1,q,h=>by
  have:=C5 (rm:=rm) (o:=o+y.length) (l:=l) (i:=i) (q:=q) (by simpa using h);simp only[cT,List.getElem?_cons_succ,this,ane,anr,adr,anz]
def MA(l:List (List UInt8)):Prop:=l.length<=1000000/\l.flatten.length<=1000000
theorem Ar{l:List (List UInt8)}{i:Nat}{q:List UInt8}(h:l[i]? =some q):(l.take (i+1)).flatten.length=(l.take i).flatten.length+q.length:=by
 rw[amq,h];simp
theorem As(l:List (List UInt8))(i:Nat):(l.take i).flatten.length<=l.flatten.length:=by
 have:l.flatten=(l.take i).flatten++(l.drop i).flatten:=by rw[←List.flatten_append,amO]
 rw[this,adr];omega
theorem VB{rm:Sv}{l:List (List UInt8)}{n i:Nat}{r q:List UInt8}(hn:n=l.length)(hr:r=(l.take i).flatten)(h:l[i]? =some q):(cT rm 0 (l.take i)++List.replicate (n -i) (⟨Sv.none,[]⟩:Sl UInt8)).set i ⟨win rm r.length (r.length+q.length),q⟩=cT rm 0 (l.take (i+1))++List.replicate (n -(i+1)) (⟨Sv.none,[]⟩:Sl UInt8):=by
 have hi:=(zz.1 h).1;have hl:(cT rm 0 (l.take i)).length=i:=by rw[GJ,amo];omega
 rw[anM _ _ (by omega),hl,anZ,amq,h,show n -i=n -(i+1)+1 by omega,aoA,anP];simp only[aoH];rw[Mu,hr,amX,ams,List.singleton_append]
theorem mX{w0 w:World}{L:List ah}(d:Cp)(h:Mem w0 (own bU 4 d.blocks.sv d.blocks.xs::ah.all (d.blocks.xs.map fun b:Bk=>eA b.ab)::own cO 4 d.bb.sv d.bb.xs::L) w):Mem w0 (fz d::L) w:=
 C0 ((GK (a:=d.bb) ((Vs h).perm (List.Perm.swap _ _ _))).perm (List.Perm.swap _ _ _))
theorem GM{α:Type}{enc:α->Array Value}{c:Nat}{s:Sv}{xs ys:List α}{w0 w:World}{L:List ah}(e:xs.map enc=ys.map enc)(h:Mem w0 (own enc c s xs::L) w):Mem w0 (own enc c s ys::L) w:=
 Mem.C3 (e:=own enc c s xs) (fun _ hk=>hk) (fun hs=>⟨⟨hs.1.ok,by have:=congrArg List.length e;simp only[amF]at this;rw[←this];exact hs.1.len,fun i y hy j hj=>by
  have h1:(xs.map enc)[i]? =(ys.map enc)[i]? :=by rw[e]
  rw[amx,amx,hy]at h1
  cases hx:xs[i]?with
  |none=>rw[hx]at h1;cases h1
  |some x=>
   rw[hx]at h1;have h2:enc x=enc y:=by simpa using h1
   have:=hs.1.row i x hx j hj;rw[h2]at this;exact this⟩,hs.2⟩) h
theorem C6{w0 w:World}{L:List ah}{s sp rm:Sv}{xs:List Bk}{i:Nat}{B B':Bk}{ps:List (Sl UInt8)}{l:List (List UInt8)}(hi:i<xs.length)(hp:ps.map (fun x=>x.sv)=(cT rm 0 l).map (fun x=>x.sv))(hn:rm.nil=false)(hc:bU B=bU B')(hB:B'.ab=⟨sp,cT rm 0 l⟩)
  (h:Mem w0 (own (bX (τ:=UInt8)) 1 sp ps::own aL 1 rm l.flatten::own bU 4 s (xs.set i B)::ah.all ((xs.eraseIdx i).map fun b:Bk=>eA b.ab)::L) w):Mem w0 (own bU 4 s (xs.set i B')::ah.all ((xs.set i B').map fun b:Bk=>eA b.ab)::L) w:=by
 have h1:Mem w0 (own (bX (τ:=UInt8)) 1 sp (cT rm 0 l)::own aL 1 rm l.flatten::own bU 4 s (xs.set i B)::ah.all ((xs.eraseIdx i).map fun b:Bk=>eA b.ab)::L) w:=GM (by
  have:=congrArg (List.map fun v:Sv=>(#[v.val]:Array Value)) hp;rw[List.map_map,List.map_map]at this;exact this) h
 have h2:=Mz (xs:=cT rm 0 l) rfl hn h1;rw[←hB]at h2;have h3:=GM (ys:=xs.set i B') (by rw[aoh,aoh,hc]) (h2.perm (List.Perm.swap _ _ _));have h4:Mem w0 (eA B'.ab::ah.all (((xs.set i B').eraseIdx i).map fun b:Bk=>eA b.ab)::own bU 4 s (xs.set i B')::L) w:=by
  rw[List.eraseIdx_set_eq];exact h3.perm ((List.Perm.swap _ _ _).trans (List.Perm.cons _ (List.Perm.swap _ _ _)))
 have h5:=(Mem.pick (f:=fun b:Bk=>eA b.ab) (xs:=xs.set i B') (i:=i) (x:=B') (by rw[amP hi])).2 h4;exact h5.perm (List.Perm.swap _ _ _)
theorem MB{w0 w:World}{L:List ah}{s:Sv}{xs:List Bk}{i:Nat}{B:Bk}(hB:xs[i]? =some B)(cE:B.ab.xs≠[])(h:Mem w0 (own bU 4 s xs::ah.all (xs.map fun b:Bk=>eA b.ab)::L) w):
  ∃rm:Sv,(rm.nil=false/\rm.sp=none/\B.ab.xs=cT rm 0 (aM B.ab.xs))/\Mem w0 (own (bX (τ:=UInt8)) 1 B.ab.sv B.ab.xs::own aL 1 rm (aM B.ab.xs).flatten::own bU 4 s xs::ah.all ((xs.eraseIdx i).map fun b:Bk=>eA b.ab)::L) w:=by
 have h1:=(Mem.pick (f:=fun b:Bk=>eA b.ab) hB).1 (h.perm (List.Perm.swap _ _ _));obtain⟨rm,hr,h2⟩:=VA cE h1;refine⟨rm,hr,h2.perm (List.Perm.cons _ (List.Perm.cons _ (List.Perm.swap _ _ _)))⟩
end Go.Kb
namespace Go.ay
section
variable {P:Program} {N:cc} {w0:World} {env:Env} {L:List ah} {d:Option Tmp} {ty:TypeId} {ps:String} {af:Array Edge} {gd:Option (Nat×Bool)} {x y:Operand} {t u:TypeId}
theorem MC{a b:UInt8}(hx:ev env x=some (.int .u8 a.toNat))(hy:ev env y=some (.int .u8 b.toNat)):
  Ry P N w0 env L ⟨d, .binOp .or t x y u,ty,ps,af,gd⟩ (.int .u8 (a|||b).toNat):=by
 have ha:=a.toNat_lt;have hb:=b.toNat_lt;rw[UInt8.toNat_or];exact zu hx hy rfl rfl (by simp only[nb];omega) (by simp only[nb];omega)
theorem VC: ∀n,n<256->(255^^^n:Nat)=255 -n:=by decide+kernel
theorem VD{p q:Nat}(hp:p<2^nb .u8)(hq:q<2^nb .u8):Op.intBits .xor .u8 (p:Int) (q:Int)=(pure (.int .u8 ((p^^^q:Nat):Int)):Sem Value):=by
 simp only[Op.intBits,xh,BitVec.toNat_xor,anF,amY (ph hp),amY (ph hq)];rw[od (aoG hp hq)]
theorem VE{a:UInt8}(hx:ev env x=some (.int .u8 a.toNat)):
  Ry P N w0 env L ⟨d, .unOp .xor t x,ty,ps,af,gd⟩ (.int .u8 (~~~a).toNat):=fun aa w ha _=>by
 have e:(Op.intBits .xor .u8 255 (a.toNat:Int))=(pure (.int .u8 ((~~~a).toNat:Int)):Sem Value):=by
  have h3:=a.toNat_lt;have h4:(~~~a).toNat=255 -a.toNat:=UInt8.toNat_not a;have h5:(255^^^a.toNat:Nat)=255 -a.toNat:=VC a.toNat h3;have hp:(255:Nat)<2^nb .u8:=by decide
  have hq:a.toNat<2^nb .u8:=h3;have hx:=VD hp hq;rw[h5]at hx;rw[h4];exact hx
 simp only[execOp,ha.ev hx,Op.unary,Sem.run_bind,Result.andThen];rw[show(if IntKind.u8.signed=true then(-1:Int)else IntKind.u8.max)=255 by decide,e];rfl
end
open Go.RowKit
section
variable {P:Program} {N:cc} {w0:World} {env:Env} {L:List ah} {l:List Oper} {Q:Exit->Act->World->Prop} {rest:List Oper} {d:Option Tmp} {ty:TypeId} {ps:String} {af:Array Edge} {gd:Option (Nat×Bool)} {K:Value->List ah->Prop}
variable {α:Type} {enc:α->Array Value} {c:Nat}
theorem VF{β:Type}{l:List β}{i:Nat}{z:β}(h:l[i]? =some z):l.set i z=l:=by
 obtain⟨hi,rfl⟩:=zz.1 h;exact List.set_getElem_self hi
theorem VG{D S:Sv}{x y:Operand}{tx fv e:TypeId}(hx:ev env x=some D.val)(hy:ev env y=some S.val)[ht:ei P tx e c][hS:Hd w0 L S enc c []](hk:K (.int .i64 0) L):
  aO P N w0 env L ⟨d, .call {callee:= .builtin .copy,args:= #[x,y],argTypes:= #[tx,fv]},ty,ps,af,gd⟩ K:=
 sS fun a w ha hw=>by
  have hs:=hS.h w hw;have nK:S.len=0:=hs.len;obtain⟨ad,len,cap,e1⟩:=S.ex;have el:len=S.len:=by
   cases hn:S.nil with
   |true=>rw[Sv.p0 hn]at e1;have:=hs.ok.nil hn;cases e1;omega
   |false=>rw[Sv.gn hn]at e1;cases e1;rfl
  obtain⟨MD,CI,VH,e2⟩:=D.ex;refine⟨_,w,L,?_,hw,hk⟩
  cases hq:P.info? e with
  |none=>have:=ht.size;simp[hq]at this
  |some i'=>
   rw[e1]at hy;rw[e2]at hx;have ta:len=0:=by omega
   have fq:(Builtin.copy_ #[tx,fv] ty #[.slice MD CI VH, .slice ad len cap]).run P w= .ok (goInt 0) w:=by
    have C2: ∀v:Addr,(loadCells v 0).run P w= .ok #[] w:=fun v=>by
     have:=run_loadCells_list (P:=P) w v [] (fun j v hj=>by simp at hj);simpa using this
    have bE: ∀v:Addr,(storeCells v []).run P w= .ok () w:=fun v=>rfl
    cases MD<;>cases ad<;>simp[Builtin.copy_,run_underlying ht.dK,Builtin.lenOf,Builtin.firstCells,sizeOf,typeInfo,hq,ta,C2,bE]
   simp[execOp,ha.ev hx,ha.ev hy,resolve,invoke,builtin,fq,Result.andThen,goInt]
theorem GN{D S rm:Sv}{x y:Operand}{tx fv e:TypeId}{i k:Nat}{xs ys:List α}[he:bn enc c](hx:ev env x=some D.val)(mO:D.nil=false)(mP:D.sp=none)(oy:D.b=rm.b)(ql:D.o=rm.o+k*c)(hy:ev env y=some S.val)[ht:ei P tx e c][q:eS L rm enc c xs i][hS:Hd w0 L S enc c ys](hc:0<c)(hn:rm.nil=false)(hl:ys.length<=D.len)(jf:k+ys.length<=xs.length)
  {L':List ah} [hu:eK L i (own enc c rm (xs.take k++(ys++xs.drop (k+ys.length)))) L'] (hk:K (.int .i64 ys.length) L'):
  aO P N w0 env L ⟨d, .call {callee:= .builtin .copy,args:= #[x,y],argTypes:= #[tx,fv]},ty,ps,af,gd⟩ K:=by
 by_cases h0:ys=[]
 ·
  subst h0;have e1:xs.take k++([]++xs.drop (k+([]:List α).length))=xs:=by simp
  have e2:L'=L:=by
   rw[←hu.h,e1];exact VF q.h
  exact VG (c:=c) (enc:=enc) hx hy (by rw[e2]at hk;exact hk)
 ·
  exact My hx mO mP oy ql hy hc hn (anf.2 h0) hl jf hk
end
end Go.ay
namespace Go.Kb
open Go.ay
def fe(c:Cp):Prop:=c.blocks.xs.length<=1000000/\c.bb.xs.length<=1000000/\ ∀b∈c.blocks.xs,MA (aM b.ab.xs)
theorem xX{α:Type}{l:List α}{i:Nat}{z:α}(h:l[i]? =some z):l.set i z=l:=by
 obtain⟨hi,rfl⟩:=zz.1 h;exact List.set_getElem_self hi
theorem wg(l:List Bk)(i:Nat)(b:Bk):hU (l.set i b)=(hU l).set i (bv b):=by simp[hU,aoh]
theorem VI{zs:List Bk}{i:Nat}{z z':Bk}(h:zs[i]? =some z):((zs.take i).map fun b:Bk=>eA b.ab)++[eA z'.ab]=((zs.set i z').take (i+1)).map fun b:Bk=>eA b.ab:=by
 have hi:=(zz.1 h).1;rw[amq,amP hi,aoj (amz _),am0];rfl
theorem VJ{c:CV}(h: ∀f∈c.bb,f.op≠c.ops):bS c=(xR,false):=by
 have:c.bb.find? (fun f=>decide (f.op=c.ops))=none:=List.find?_eq_none.2 fun f hf=>by simpa using h f hf
 rw[bS,this]
theorem VK{c:CV}{i:Nat}{f:Ft}(hf:c.bb[i]? =some f)(h: ∀j g,j<i->c.bb[j]? =some g->g.op≠c.ops)(he:f.op=c.ops):bS c=(f,f.cut||f.fail):=by
 have:c.bb.find? (fun f=>decide (f.op=c.ops))=some f:=by
  rw[List.find?_eq_some_iff_getElem];obtain⟨hi,rfl⟩:=zz.1 hf;exact⟨by simpa using he,i,hi,rfl,fun j hj=>by
   simpa using h j (c.bb[j]'(by omega)) hj (amG (by omega))⟩
 rw[bS,this]
theorem ME: ∀l:List (List UInt8),(∀x∈l,x.length<=256)->(l.map List.length).sum<=l.length*256
 |[],_=>by simp
 |x::l,hl=>by
  have h1:=ME l fun y hy=>hl y (ans _ hy);have h2:=hl x List.mem_cons_self;simp only[amR,List.sum_cons,ad2];omega
theorem rC{c:Cp}(h:bl (cv c)=true):fe c:=by
 obtain⟨h1,h2,h3,h4,h5⟩:=eB.1 h;obtain⟨s1,s2,s3,s4,s5,s6⟩:=kt.1 h1;simp only[cv,fT]at*;refine⟨by omega,by omega,fun b hb=>?_⟩;have g:=gF.1 (h5 (bv b) (am5 hb));simp only[bv]at g;have hf:(aM b.ab.xs).flatten.length<=(aM b.ab.xs).length*256:=by
  rw[List.length_flatten];exact ME _ fun x hx=>by have:=g.2.2.2.2.2 x hx;omega
 exact⟨by omega,by omega⟩
theorem GO{rm:Sv}: ∀{o:Nat} {l l':List (List UInt8)},l.map List.length=l'.map List.length->(cT rm o l).map (fun x=>x.sv)=(cT rm o l').map (fun x=>x.sv)
 |_,[],[],_=>rfl
 |_,[],_::_,h=>by simp at h
 |_,_::_,[],h=>by simp at h
 |o,p::l,p'::l',h=>by
  simp only[amR,aor]at h;have:=GO (rm:=rm) (o:=o+p'.length) h.2;simp only[cT,amR,h.1,this]
theorem VL{rm:Sv}{l:List (List UInt8)}{i:Nat}{q r:List UInt8}(h:l[i]? =some q)(hr:r.length=q.length):(cT rm 0 l).map (fun x=>x.sv)=(cT rm 0 (l.set i r)).map (fun x=>x.sv):=GO (by
 rw[aoh,hr,xX];rw[amx,h];rfl)
theorem xY: ∀{l:List (List UInt8)} {i j:Nat} {q:List UInt8},l[i]? =some q->j<q.length->l.flatten[(l.take i).flatten.length+j]? =q[j]?
 |y::l,0,j,q,h,hj=>by
  obtain rfl:y=q:=by simpa using h
  simp only[amL,aoQ,af0,amX,anr];rw[amC hj]
 |y::l,i+1,j,q,h,hj=>by
  have:=xY (l:=l) (i:=i) (j:=j) (q:=q) (by simpa using h) hj;simp only[ane,anr,adr];rw[anz,amw (by omega),amV,this]
theorem MF: ∀{l:List (List UInt8)} {i j:Nat} {q:List UInt8} {v:UInt8},l[i]? =some q->j<q.length->l.flatten.set ((l.take i).flatten.length+j) v=(l.set i (q.set j v)).flatten
 |y::l,0,j,q,v,h,hj=>by
  obtain rfl:y=q:=by simpa using h
  simp only[amL,aoQ,af0,amX,anr,anP];rw[List.set_append_left _ _ hj]
 |y::l,i+1,j,q,v,h,hj=>by
  have:=MF (l:=l) (i:=i) (j:=j) (q:=q) (v:=v) (by simpa using h) hj;simp only[ane,anr,adr,List.set_cons_succ];rw[anz,anM _ _ (by omega),amV,this]
theorem GP{l:List (List UInt8)}{i:Nat}{r:List UInt8}:(l.set i r).take i=l.take i:=aoj (amz _)
theorem xZ{rm:Sv}{lo n:Nat}(h:0<n):(win rm lo (lo+n)).o=rm.o+lo:=by
 simp only[win];rw[if_neg (by omega)]
theorem C7{rm:Sv}{lo n:Nat}(hn:rm.nil=false)(hs:rm.sp=none)(hb:n<=1000000):(win rm lo (lo+n)).Ok:=
 ⟨fun h=>absurd (hn.symm.trans h) (by decide),amz _,by simp only[win];omega,fun _=>hs⟩
theorem MG{c:CV}{x:Cp}{B:Bk}{b g:Int}{q:List UInt8}{rm:Sv}{off:Bool}(hx:cv x=c)(hB:bv B=aN c b):
  cv ⟨x.ab,x.size,⟨x.blocks.sv,x.blocks.xs.set b.toNat ⟨⟨B.ab.sv,cT rm 0 ((aM B.ab.xs).set g.toNat q)⟩,B.used+1,B.bC,B.bad⟩⟩,x.ops+1,off,x.bb⟩={c with ops:=c.ops+1,off:=off,blocks:=c.blocks.set b.toNat {aN c b with used:=(aN c b).used+1,ab:=(aN c b).ab.set g.toNat q}}:=by
 subst hx;rw[←hB];simp only[cv,wg,bv,uA]
theorem VM{m:UInt8}{xs:List UInt8}{i:Nat}{z:UInt8}(h:xs[i]? =some z):(cP m (xs.take i)++xs.drop i).set i (z|||m)=cP m (xs.take (i+1))++xs.drop (i+1):=by
 have hi:=(zz.1 h).1;have hl:(cP m (xs.take i)).length=i:=by rw[cP,amF,amo];omega
 rw[anM _ _ (by omega),hl,anZ,anJ hi,anP,amq,h,cP,cP,am0,ams];rfl
theorem MH{m:UInt8}{xs:List UInt8}{i:Nat}(h:i<xs.length):(cP m (xs.take i)++xs.drop i)[i]? =xs[i]? :=by
 have hl:(cP m (xs.take i)).length=i:=by rw[cP,amF,amo];omega
 rw[amw (by omega),hl,anZ,ang,anA]
theorem GQ{m:UInt8}{xs:List UInt8}{i:Nat}(h:i<=xs.length):(cP m (xs.take i)++xs.drop i).length=xs.length:=by
 rw[cP,adr,amF,amo,amu];omega
theorem MI{T:List (List UInt8)}{g i:Nat}{q xs:List UInt8}{m z:UInt8}(hq:T[g]? =some q)(hz:xs[i]? =some z):(T.set g (cP m (xs.take (i+1))++xs.drop (i+1))).flatten=(T.set g (cP m (xs.take i)++xs.drop i)).flatten.set ((T.take g).flatten.length+i) (z|||m):=by
 have hg:=(zz.1 hq).1;have hi:=(zz.1 hz).1;have h1:=MF (l:=T.set g (cP m (xs.take i)++xs.drop i)) (i:=g) (j:=i) (v:=z|||m) (amP hg) (by rw[GQ (by omega)];exact hi);rw[GP]at h1;rw[h1,List.set_set,VM hz]
def mixed(f:List UInt8->List UInt8)(T:List (List UInt8))(k:Nat):List (List UInt8):=(T.take k).map f++T.drop k
theorem MJ{f:List UInt8->List UInt8}{T:List (List UInt8)}:mixed f T 0=T:=by simp[mixed]
theorem MK{f:List UInt8->List UInt8}{T:List (List UInt8)}{k:Nat}(h:T.length<=k):mixed f T k=T.map f:=by
 rw[mixed,amr h,aoI h,am4]
theorem Au{f:List UInt8->List UInt8}{T:List (List UInt8)}{k:Nat}{q:List UInt8}(h:T[k]? =some q):(mixed f T k)[k]? =some q:=by
 have hk:=(zz.1 h).1;have hl:((T.take k).map f).length=k:=by rw[amF,amo];omega
 rw[mixed,amw (by omega),hl,anZ,ang,anA,h]
theorem GR{f:List UInt8->List UInt8}{T:List (List UInt8)}{k:Nat}{q:List UInt8}(h:T[k]? =some q):(mixed f T k).set k (f q)=mixed f T (k+1):=by
 have hk:=(zz.1 h).1;have hl:((T.take k).map f).length=k:=by rw[amF,amo];omega
 obtain⟨_,rfl⟩:=zz.1 h;rw[mixed,anM _ _ (by omega),hl,anZ,anJ hk,anP,mixed,amq,amG hk,am0,ams];rfl
theorem C8{f:List UInt8->List UInt8}{T:List (List UInt8)}{k:Nat}(hf: ∀x∈T,(f x).length=x.length)(hk:k<=T.length):((mixed f T k).take k).flatten.length=(T.take k).flatten.length:=by
 have hl:((T.take k).map f).length=k:=by rw[amF,amo];omega
 rw[mixed,List.take_append_of_le_length (by omega),amr (by omega),List.length_flatten,List.length_flatten,List.map_map];congr 1;exact aoB fun x hx=>hf x (aov hx)
theorem VN{f:List UInt8->List UInt8}{T:List (List UInt8)}{k n:Nat}{q:List UInt8}(hq:T[k]? =some q)(hf: ∀x∈T,(f x).length=x.length)(he:f q=List.replicate n 255)(hn:n=q.length):(mixed f T (k+1)).flatten=(mixed f T k).flatten.take (T.take k).flatten.length++(List.replicate n 255++(mixed f T k).flatten.drop ((T.take k).flatten.length+n)):=by
 have hk:=(zz.1 hq).1;rw[←GR hq,C4 (Au hq) (by rw[he,amZ,hn]),C8 hf (by omega),he,amZ]
theorem VO{rm:Sv}{f:List UInt8->List UInt8}{T:List (List UInt8)}(hf: ∀x∈T,(f x).length=x.length):(cT rm 0 T).map (fun x=>x.sv)=(cT rm 0 (T.map f)).map (fun x=>x.sv):=GO (by
 rw[List.map_map];exact(aoB fun x hx=>(hf x hx)).symm)
theorem VP{rm:Sv}{lo n:Nat}(hn:rm.nil=false)(hs:rm.sp=none)(h:0<n):(win rm lo (lo+n)).val= .slice (some ⟨rm.b,rm.o+lo,none⟩) n n:=by
 rw[Sv.gn (s:=win rm lo (lo+n)) hn,show(win rm lo (lo+n)).sp=rm.sp from rfl,hs,xZ h,show(win rm lo (lo+n)).len=n from amV ..,show(win rm lo (lo+n)).cap=n from amV ..];rfl
theorem wh{c:Cp}{b:Int}:bv (c.blocks.xs.getD b.toNat oz)=aN (cv c) b:=by
 simp only[aN,cv,hU,aot,amx]
 cases c.blocks.xs[b.toNat]? <;>rfl
theorem GS{c:Cp}{b:Int}(h:lz (cv c) b=true):0<=b/\b.toNat<c.blocks.xs.length:=by
 obtain⟨_,h2,h3⟩:=mS.1 h;simp only[cv,fT]at h3;exact⟨h2,by omega⟩
theorem ML{c:CV}{x:Cp}{B:Bk}{b u:Int}{l:List (List UInt8)}{rm:Sv}{off:Bool}(hx:cv x=c)(hB:bv B=aN c b):
  cv ⟨x.ab,x.size,⟨x.blocks.sv,x.blocks.xs.set b.toNat ⟨⟨B.ab.sv,cT rm 0 l⟩,u,B.bC+1,B.bad⟩⟩,x.ops+1,off,x.bb⟩={c with ops:=c.ops+1,off:=off,blocks:=c.blocks.set b.toNat {aN c b with used:=u,bC:=(aN c b).bC+1,ab:=l}}:=by
 subst hx;rw[←hB];simp only[cv,wg,bv,uA]
theorem VQ{xs:List Bk}{i:Nat}{B B':Bk}(h:xs[i]? =some B)(hp:B'.ab=B.ab):((xs.set i B').map fun b:Bk=>eA b.ab)=xs.map fun b:Bk=>eA b.ab:=by
 rw[aoh,hp];refine xX ?_;rw[amx,h];rfl
theorem VR{c:CV}{x:Cp}{B:Bk}{b:Int}(hx:cv x=c)(hB:bv B=aN c b):
  cv ⟨x.ab,x.size,⟨x.blocks.sv,x.blocks.xs.set b.toNat ⟨B.ab,B.used,B.bC,true⟩⟩,x.ops,x.off,x.bb⟩={c with blocks:=c.blocks.set b.toNat {aN c b with bad:=true}}:=by
 subst hx;rw[←hB];simp only[cv,wg,bv]
theorem GU{w0 w:World}{L:List ah}{s:Sv}{xs:List (Sl UInt8)}(h:Mem w0 (own (bX (τ:=UInt8)) 1 s xs::ah.all (xs.map fun p:Sl UInt8=>fz p)::L) w):Mem w0 (fz (⟨s,xs⟩:Sl (Sl UInt8))::L) w:=by
 have hs:=h.sat (own (bX (τ:=UInt8)) 1 s xs) (by simp);have ha:=h.sat (ah.all (xs.map fun p:Sl UInt8=>fz p)) (by simp);refine Mem.freeze (es:=[own (bX (τ:=UInt8)) 1 s xs,ah.all (xs.map fun p:Sl UInt8=>fz p)]) _ ⟨hs.1,fun x hx=>ah.zI ha (fz x) (am5 hx)⟩ (fun k hk=>?_) h;rcases hk with⟨cE,rfl⟩|⟨x,hx,hk⟩
 ·
  exact⟨_,by simp,Aq hs.1 cE⟩
 exact⟨ah.all (xs.map fun p:Sl UInt8=>fz p),by simp,ah.CY (am5 (f:=fun p:Sl UInt8=>fz p) hx) hk⟩
theorem MM{w0 w:World}{L:List ah}{s:Sv}{xs:List Bk}(h:Mem w0 (own bU 4 s xs::ah.all (xs.map fun b:Bk=>fz b.ab)::L) w):Mem w0 (fz (⟨s,xs⟩:Sl Bk)::L) w:=by
 have hs:=h.sat (own bU 4 s xs) (by simp);have ha:=h.sat (ah.all (xs.map fun b:Bk=>fz b.ab)) (by simp);refine Mem.freeze (es:=[own bU 4 s xs,ah.all (xs.map fun b:Bk=>fz b.ab)]) _ ⟨hs.1,fun x hx=>ah.zI ha (fz x.ab) (am5 (f:=fun b:Bk=>fz b.ab) hx)⟩ (fun k hk=>?_) h;rcases hk with⟨cE,rfl⟩|⟨x,hx,hk⟩
 ·
  exact⟨_,by simp,Aq hs.1 cE⟩
 exact⟨ah.all (xs.map fun b:Bk=>fz b.ab),by simp,ah.CY (am5 (f:=fun b:Bk=>fz b.ab) hx) hk⟩
theorem MN{w0 w:World}{L:List ah}{s:Sv}(hs:s.Ok)(hl:s.len=0)(h:Mem w0 L w):Mem w0 (fz (⟨s,[]⟩:Sl Ft)::L) w:=
 Mem.freeze (es:=[]) _ ⟨⟨hs,hl,fun i x hx=>by cases hx⟩,fun x hx=>by cases hx⟩ (fun k hk=>by
  rcases hk with⟨cE,_⟩|⟨x,hx,_⟩
  ·
   exact absurd rfl cE
  cases hx) h
theorem MO{w0 w:World}{L:List ah}{d:Cp}(hf:d.bb=⟨Sv.none,[]⟩)(h:Mem w0 (own bU 4 d.blocks.sv d.blocks.xs::ah.all (d.blocks.xs.map fun b:Bk=>fz b.ab)::L) w):Mem w0 (fz d::L) w:=by
 have h1:=MN (s:=Sv.none) Sv.zx rfl (MM h);rw[←hf]at h1;exact C0 (h1.perm (List.Perm.swap _ _ _))
theorem MP{zs:List Bk}{i:Nat}{z z':Bk}(h:zs[i]? =some z):((zs.take i).map fun b:Bk=>fz b.ab)++[fz z'.ab]=((zs.set i z').take (i+1)).map fun b:Bk=>fz b.ab:=by
 have hi:=(zz.1 h).1;rw[amq,amP hi,aoj (amz _),am0];rfl
theorem GV{zs:List (Sl UInt8)}{i:Nat}{z z':Sl UInt8}(h:zs[i]? =some z):((zs.take i).map fun b:Sl UInt8=>fz b)++[fz z']=((zs.set i z').take (i+1)).map fun b:Sl UInt8=>fz b:=by
 have hi:=(zz.1 h).1;rw[amq,amP hi,aoj (amz _),am0];rfl
theorem C9{α β:Type}{f:α->β}{zs:List α}{i:Nat}{z z':α}(h:zs[i]? =some z):((zs.set i z').take (i+1)).map f=(zs.take i).map f++[f z']:=by
 have hi:=(zz.1 h).1;rw[amq,amP hi,aoj (amz _),am0];rfl
theorem Da{b n:Nat}(h:n<=1000000):(⟨false,b,0,n,n,none⟩:Sv).Ok:=⟨fun h=>(by cases h),amz _,by simp only;omega,fun _=>rfl⟩
end Go.Kb
namespace Go.ay
theorem MQ{P:Program}{N:cc}{w0:World}{env:Env}{L:List ah}{Q:Exit->Act->World->Prop}{c:Code}{X:Type}{pr:X->Prop}(Lx:X->List ah)(h: ∀w,Mem w0 L w-> ∃x,pr x/\Mem w0 (Lx x) w)(hk: ∀x,pr x->Cw P N w0 Q c env (Lx x)):Cw P N w0 Q c env L:=fun a w ha hw=>by
 obtain⟨x,h1,h2⟩:=h w hw;exact hk x h1 a w ha h2
end Go.ay
namespace Go.Kb
open Go.ay
structure dW where
 kind:Int
 id:Int
 gen:UInt64
 body:Sl UInt8
def cG(x:dW):Array Value:= #[.int .i64 x.kind, .int .i64 x.id, .int .u64 x.gen.toNat,x.body.sv.val]
instance:bn cG 4:=⟨fun _=>rfl,fun x=>by
 simp only[cG,anI,anQ,anY,Sv.one,ry,rz,anR]⟩
instance (x:dW):eY (cG x) 4:=⟨rfl,bn.one x⟩
instance (x:dW):bH (cG x) 0 (.int .i64 x.kind):=⟨rfl⟩
instance (x:dW):bH (cG x) 1 (.int .i64 x.id):=⟨rfl⟩
instance (x:dW):bH (cG x) 2 (.int .u64 x.gen.toNat):=⟨rfl⟩
instance (x:dW):bH (cG x) 3 (x.body.sv.val):=⟨rfl⟩
instance:Deep dW where
 c:=4
 cells:=cG
 size:=bn.size
 one:=bn.one
 dD h x:=Deep.dD h x.body
 cg x:=Deep.cg x.body
 iU h x hs:=Deep.iU h x.body hs
 mono w w' x hg hb:=Deep.mono w w' x.body hg hb
variable {w0:World}{L:List ah}
instance{x:dW}[q:aU w0 L x]:aU w0 L x.body:=⟨fun w hw=>(q.h w hw)⟩
instance{kind:Int}{id:Int}{gen:UInt64}{body:Sl UInt8}[q0:aU w0 L body]:aU w0 L (dW.mk kind id gen body):=⟨fun w hw=>q0.h w hw⟩
def mY:dW:=⟨0,0,0,⟨Sv.none,[]⟩⟩
structure cU where
 gen:UInt64
 at_:Sl Int
def dI(x:cU):Array Value:= #[.int .u64 x.gen.toNat,x.at_.sv.val]
instance:bn dI 2:=⟨fun _=>rfl,fun x=>by
 simp only[dI,anI,anQ,anY,Sv.one,ry,rz,anR]⟩
instance (x:cU):eY (dI x) 2:=⟨rfl,bn.one x⟩
instance (x:cU):bH (dI x) 0 (.int .u64 x.gen.toNat):=⟨rfl⟩
instance (x:cU):bH (dI x) 1 (x.at_.sv.val):=⟨rfl⟩
instance:Deep cU where
 c:=2
 cells:=dI
 size:=bn.size
 one:=bn.one
 dD h x:=Deep.dD h x.at_
 cg x:=Deep.cg x.at_
 iU h x hs:=Deep.iU h x.at_ hs
 mono w w' x hg hb:=Deep.mono w w' x.at_ hg hb
instance{x:cU}[q:aU w0 L x]:aU w0 L x.at_:=⟨fun w hw=>(q.h w hw)⟩
instance{gen:UInt64}{at_:Sl Int}[q0:aU w0 L at_]:aU w0 L (cU.mk gen at_):=⟨fun w hw=>q0.h w hw⟩
def ku:cU:=⟨0,⟨Sv.none,[]⟩⟩
structure aI where
 live:Int
 used:Int
 bC:Int
 bad:Bool
 deriving DecidableEq
def bF(x:aI):Array Value:= #[.int .i64 x.live, .int .i64 x.used, .int .i64 x.bC, .bool x.bad]
instance:bn bF 4:=⟨fun _=>rfl,fun x=>by
 simp only[bF,anI,anQ,anY,Sv.one,ry,rz,anR]⟩
instance (x:aI):eY (bF x) 4:=⟨rfl,bn.one x⟩
instance (x:aI):bH (bF x) 0 (.int .i64 x.live):=⟨rfl⟩
instance (x:aI):bH (bF x) 1 (.int .i64 x.used):=⟨rfl⟩
instance (x:aI):bH (bF x) 2 (.int .i64 x.bC):=⟨rfl⟩
instance (x:aI):bH (bF x) 3 (.bool x.bad):=⟨rfl⟩
def hY:aI:=⟨0,0,0,false⟩
structure ca where
 ai:Cp
 at_:Sl Int
 gen:UInt64
 last:Int
def cj(x:ca):Array Value:= #[.int .i64 x.ai.ab, .int .i64 x.ai.size,x.ai.blocks.sv.val, .int .i64 x.ai.ops, .bool x.ai.off,x.ai.bb.sv.val,x.at_.sv.val, .int .u64 x.gen.toNat, .int .i64 x.last]
instance:bn cj 9:=⟨fun _=>rfl,fun x=>by
 simp only[cj,anI,anQ,anY,Sv.one,ry,rz,anR]⟩
instance (x:ca):eY (cj x) 9:=⟨rfl,bn.one x⟩
instance (x:ca):bH (cj x) 0 (.int .i64 x.ai.ab):=⟨rfl⟩
instance (x:ca):bH (cj x) 1 (.int .i64 x.ai.size):=⟨rfl⟩
instance (x:ca):bH (cj x) 2 (x.ai.blocks.sv.val):=⟨rfl⟩
instance (x:ca):bH (cj x) 4 (.bool x.ai.off):=⟨rfl⟩
instance (x:ca):bH (cj x) 6 (x.at_.sv.val):=⟨rfl⟩
instance (x:ca):bH (cj x) 7 (.int .u64 x.gen.toNat):=⟨rfl⟩
instance (x:ca):bH (cj x) 8 (.int .i64 x.last):=⟨rfl⟩
instance (x:ca):kJ (cj x) 0 6 (aS x.ai):=⟨rfl,fun j hj=>by
 match j,hj with
 |0,_=>rfl
 |1,_=>rfl
 |2,_=>rfl
 |3,_=>rfl
 |4,_=>rfl
 |5,_=>rfl⟩
instance:Deep ca where
 c:=9
 cells:=cj
 size:=bn.size
 one:=bn.one
 dD h x:=Deep.dD h x.ai/\Deep.dD h x.at_
 cg x:= .two (Deep.cg x.ai) (Deep.cg x.at_)
 iU h x hs:=⟨Deep.iU h x.ai hs.1,Deep.iU h x.at_ hs.2.1⟩
 mono w w' x hg hb:=⟨Deep.mono w w' x.ai hg.1 hb,Deep.mono w w' x.at_ hg.2 hb⟩
instance:fc ca where
 reach x k:=fc.reach x.ai k\/fc.reach x.at_ k
 congr h h' x e hg:=⟨fc.congr h h' x.ai (fun k hk=>e k (.inl hk)) hg.1,fc.congr h h' x.at_ (fun k hk=>e k (.inr hk)) hg.2⟩
instance{x:ca}[q:aU w0 L x]:aU w0 L x.ai:=⟨fun w hw=>(q.h w hw).1⟩
instance{x:ca}[q:aU w0 L x]:aU w0 L x.at_:=⟨fun w hw=>(q.h w hw).2⟩
instance{ai:Cp}{at_:Sl Int}{gen:UInt64}{last:Int}[q0:aU w0 L ai][q1:aU w0 L at_]:aU w0 L (ca.mk ai at_ gen last):=⟨fun w hw=>⟨q0.h w hw,q1.h w hw⟩⟩
def kv:ca:=⟨fL,⟨Sv.none,[]⟩,0,0⟩
structure aR where
 aq:ca
 beyond:Bool
def aP(x:aR):Array Value:= #[.int .i64 x.aq.ai.ab, .int .i64 x.aq.ai.size,x.aq.ai.blocks.sv.val, .int .i64 x.aq.ai.ops, .bool x.aq.ai.off,x.aq.ai.bb.sv.val,x.aq.at_.sv.val, .int .u64 x.aq.gen.toNat, .int .i64 x.aq.last, .bool x.beyond]
instance (x:aR):bH (aP x) 0 (.int .i64 x.aq.ai.ab):=⟨rfl⟩
instance (x:aR):bH (aP x) 1 (.int .i64 x.aq.ai.size):=⟨rfl⟩
instance (x:aR):bH (aP x) 2 (x.aq.ai.blocks.sv.val):=⟨rfl⟩
instance (x:aR):bH (aP x) 6 (x.aq.at_.sv.val):=⟨rfl⟩
instance (x:aR):bH (aP x) 7 (.int .u64 x.aq.gen.toNat):=⟨rfl⟩
instance (x:aR):bH (aP x) 8 (.int .i64 x.aq.last):=⟨rfl⟩
instance (x:aR):bH (aP x) 9 (.bool x.beyond):=⟨rfl⟩
instance (x:aR):kJ (aP x) 0 9 (cj x.aq):=⟨rfl,fun j hj=>by
 match j,hj with
 |0,_=>rfl
 |1,_=>rfl
 |2,_=>rfl
 |3,_=>rfl
 |4,_=>rfl
 |5,_=>rfl
 |6,_=>rfl
 |7,_=>rfl
 |8,_=>rfl⟩
instance (x:aR):kJ (aP x) 0 6 (aS x.aq.ai):=⟨rfl,fun j hj=>by
 match j,hj with
 |0,_=>rfl
 |1,_=>rfl
 |2,_=>rfl
 |3,_=>rfl
 |4,_=>rfl
 |5,_=>rfl⟩
structure iq where
 w:aI
 ab:Int
 deriving DecidableEq
def eH(x:iq):Array Value:= #[.int .i64 x.w.live, .int .i64 x.w.used, .int .i64 x.w.bC, .bool x.w.bad, .int .i64 x.ab]
instance:bn eH 5:=⟨fun _=>rfl,fun x=>by
 simp only[eH,anI,anQ,anY,Sv.one,ry,rz,anR]⟩
instance (x:iq):eY (eH x) 5:=⟨rfl,bn.one x⟩
instance (x:iq):bH (eH x) 0 (.int .i64 x.w.live):=⟨rfl⟩
instance (x:iq):bH (eH x) 1 (.int .i64 x.w.used):=⟨rfl⟩
instance (x:iq):bH (eH x) 2 (.int .i64 x.w.bC):=⟨rfl⟩
instance (x:iq):bH (eH x) 3 (.bool x.w.bad):=⟨rfl⟩
instance (x:iq):bH (eH x) 4 (.int .i64 x.ab):=⟨rfl⟩
def VS:iq:=⟨hY,0⟩
end Go.Kb
namespace Go.ay
open Go.Kb
section
variable {P:Program} {N:cc} {w0:World} {env:Env} {L:List ah} {d:Option Tmp} {ty:TypeId} {ps:String} {af:Array Edge} {gd:Option (Nat×Bool)}
theorem VT{p:Nat}(h:p<2^32):4294967295^^^p=4294967295 -p:=by
 have e:(BitVec.allOnes 32^^^BitVec.ofNat 32 p).toNat=(~~~(BitVec.ofNat 32 p)).toNat:=by rw[BitVec.allOnes_xor]
 rw[BitVec.toNat_xor,BitVec.toNat_not,BitVec.toNat_allOnes,anF,amY h]at e;simpa using e
theorem MR{x:Operand}{a:Int}{p:Nat}{t:TypeId}(hx:ev env x=some (.int .u32 a))(ea:a=(p:Int))(hp:p<2^32):
  Ry P N w0 env L ⟨d, .unOp .xor t x,ty,ps,af,gd⟩ (.int .u32 ((4294967295 -p:Nat):Int)):=fun a w ha _=>by
 subst ea;have h1:(Op.intBits .xor .u32 4294967295 (p:Int)).run P w= .ok (.int .u32 ((4294967295 -p:Nat):Int)) w:=by
  have e2:(BitVec.ofInt 32 4294967295^^^BitVec.ofInt 32 (p:Int)).toNat=4294967295 -p:=by
   rw[xh,BitVec.toNat_xor,anF,amY hp,←VT hp];rfl
  show Sem.run P (pure (Value.int .u32 (IntKind.u32.wrap ((BitVec.ofInt 32 4294967295^^^BitVec.ofInt 32 (p:Int)).toNat:Int)))) w=_;rw[e2,od (k:= .u32) (by show 4294967295 -p<4294967296;omega)];rfl
 have h2:Op.unary .xor (.int .u32 (p:Int))=Op.intBits .xor .u32 4294967295 (p:Int):=rfl;simp only[execOp,ha.ev hx,h2,Sem.run_bind,h1,Sem.run_pure,Result.andThen]
theorem VU{x y:Operand}{p:Nat}{a:Int}{k':IntKind}{t u:TypeId}(hx:ev env x=some (.int .u64 a))(hy:ev env y=some (.int k' 8))(ea:a=(p:Int))(hp:p*256<2^64):
  Ry P N w0 env L ⟨d, .binOp .shl t x y u,ty,ps,af,gd⟩ (.int .u64 ((p*256:Nat):Int)):=by
 subst ea;have h:=EC (P:=P) (N:=N) (w0:=w0) (L:=L) (d:=d) (ty:=ty) (ps:=ps) (af:=af) (gd:=gd) (t:=t) (u:=u) hx hy (by decide);have e:IntKind.u64.wrap ((p:Int)*2^min (Int.toNat 8) IntKind.u64.bits)=((p*256:Nat):Int):=by
  have e1:(p:Int)*2^min (Int.toNat 8) IntKind.u64.bits=((p*256:Nat):Int):=by
   rw[show(2:Int)^min (Int.toNat 8) IntKind.u64.bits=256 from by decide];omega
  rw[e1];exact od hp
 rw[e]at h;exact h
theorem VW{n many i:Nat}(h:i<many):(List.replicate (many -i) (0:UInt8)++be n i).set (many -1 -i) (b8 (n/256^i))=List.replicate (many -(i+1)) 0++be n (i+1):=by
 rw[List.set_append_left _ _ (by simp;omega)];have e:List.replicate (many -i) (0:UInt8)=List.replicate (many -(i+1)) 0++[0]:=by
  rw[show many -i=many -(i+1)+1 by omega,List.replicate_succ',]
 rw[e,anM _ _ (by simp;omega)];simp only[amZ,show many -1 -i -(many -(i+1))=0 by omega,anP,ams];rfl
end
end Go.ay
namespace Go.Kb
open Go.ay
def dr(n:Int):UInt8:=b8 (n%256).toNat
theorem ya(n:Int):IntKind.u8.wrap n=((dr n).toNat:Int):=by
 unfold dr;rw[ET];simp[IntKind.wrap,IntKind.bits,IntKind.signed];omega
def gU(r:Rt):List UInt8:=
 [if r.p.bits=128 then 1 else 0,dr r.p.len]++(List.range 16).map (fun i=>b8 (aX r.p.key i))++[b8 (r.eC.toNat/256),b8 r.eC.toNat]
theorem rD(r:Rt):(gU r).length=20:=by simp[gU]
theorem VX(r:Rt):(gU r)[0]? =some (if r.p.bits=128 then 1 else 0):=by simp[gU]
theorem VY(r:Rt):(gU r)[1]? =some (dr r.p.len):=by simp[gU]
theorem VZ(r:Rt)(i:Nat)(h:i<16):(gU r)[2+i]? =some (b8 (aX r.p.key i)):=by
 unfold gU;rw[ams,amw (by simp),amC (by simp;omega)];simp[h]
theorem V0(r:Rt):(gU r)[18]? =some (b8 (r.eC.toNat/256)):=by simp[gU]
theorem V1(r:Rt):(gU r)[19]? =some (b8 r.eC.toNat):=by simp[gU]
theorem MS(r:Rt){yb:Array Value}(h0:yb.size=20)(hz:yb[0]? =some (.int .u8 (if r.p.bits=128 then 1 else 0:Nat))):
  (((over (yb.setIfInBounds 1 (.int .u8 (dr r.p.len).toNat)) 2 (bw r.p.key)).setIfInBounds 18 (.int .u8 (b8 (r.eC.toNat/256)).toNat)).setIfInBounds 19 (.int .u8 (b8 r.eC.toNat).toNat))=(aH aL (gU r)).toArray:=by
 have hs:(over (yb.setIfInBounds 1 (.int .u8 (dr r.p.len).toNat)) 2 (bw r.p.key)).size=20:=by rw[mE (by simp[du,h0])];simpa using h0
 refine am7 fun j=>?_;have hf: ∀b,(gU r)[j]? =some b->(aH aL (gU r)).toArray[j]? =some (.int .u8 b.toNat):=fun b hb=>by
  have:=lM (enc:=aL) (gU r) j b hb 0 (by decide);simp only[an0,anA]at this;simpa[aL]using this
 have hk:2+(bw r.p.key).size<=(yb.setIfInBounds 1 (.int .u8 (dr r.p.len).toNat)).size:=by simp[du,h0]
 rw[amQ,amQ]
 by_cases MT:19=j
 ·
  subst MT;rw[hf _ (V1 r)];simp[hs]
 by_cases Av:18=j
 ·
  subst Av;rw[hf _ (V0 r)];simp[hs]
 rw[if_neg MT,if_neg Av,qX hk,du]
 by_cases h2:2<=j/\j<2+16
 ·
  rw[if_pos h2,fK _ _ (by omega)];have:=VZ r (j -2) (by omega);rw[show 2+(j -2)=j by omega]at this;rw[hf _ this,ET];have:=fJ r.p.key (j -2);rw[amY this]
 rw[if_neg h2,amQ]
 by_cases h1:1=j
 ·
  subst h1;rw[hf _ (VY r)];simp[h0]
 rw[if_neg h1]
 by_cases hj:j=0
 ·
  subst hj;rw[hz,hf _ (VX r)];split<;>rfl
 ·
  have e1:yb[j]? =none:=by simp;omega
  rw[e1];have:(aH aL (gU r)).length=20:=by rw[gp,rD]
  simp;omega
structure PV where
 kind:Int
 id:Int
 gen:Nat
 body:List UInt8
 deriving DecidableEq
def jK:PV:=⟨0,0,0,[]⟩
def cA(p:dW):PV:=⟨p.kind,p.id,p.gen.toNat,p.body.xs⟩
def rE(n:Int):Bool:=decide (24<=n)&&decide (n<=256)
theorem Aw{n:Int}:rE n=true↔24<=n/\n<=256:=by simp only[rE,alM,decide_eq_true_eq]
def fj(n:Int):Int:=if rE n=true then n -16 else 0
def yc(p:PV)(n:Int):Bool:=rE n&&(decide (p.kind=1)||decide (p.kind=2))&&decide (0<=p.id)&&decide (p.id<64)&&decide (p.gen<281474976710656)&&decide ((p.body.length:Int)<=fj n)
theorem MU{p:PV}{n:Int}:yc p n=true↔rE n=true/\(p.kind=1\/p.kind=2)/\0<=p.id/\p.id<64/\p.gen<281474976710656/\(p.body.length:Int)<=fj n:=by
 simp only[yc,alM,anp,decide_eq_true_eq,and_assoc]
def pw(b:List UInt8):Bool:=b.all fun x=>decide (x=255)
theorem MW{b:List UInt8}:pw b=true↔ ∀x∈b,x=255:=by simp only[pw,amt,decide_eq_true_eq]
def mZ(p:PV)(n:Nat):List UInt8:=[dr p.kind,dr p.id]++be p.gen 6++be p.body.length 2++p.body++List.replicate (n -4 -10 -p.body.length) 0
def dX(p:PV)(n:Int):List UInt8×Int:=if yc p n=true then(mZ p n.toNat++be (pv (mZ p n.toNat)) 4,0)else([],1)
def yd(b:List UInt8):PV:=⟨(b.getD 0 0).toNat,(b.getD 1 0).toNat,de ((b.drop 2).take (8 -2)),[]⟩
def jk(b:List UInt8):Nat:=de ((b.drop 8).take (10 -8))
def nf(b:List UInt8):List UInt8:=(b.drop 0).take (b.length -4 -0)
def Db(b:List UInt8):List UInt8:=(b.drop (b.length -4)).take (b.length -(b.length -4))
def oD(b:List UInt8):List UInt8:=((nf b).drop (10+jk b)).take ((nf b).length -(10+jk b))
def ye(b:List UInt8):Bool:=b.all fun x=>decide (x=0)
theorem MX{b:List UInt8}:ye b=true↔ ∀x∈b,x=0:=by simp only[ye,amt,decide_eq_true_eq]
def rF(b:List UInt8):Bool:=decide ((jk b:Int)<=fj b.length)&&yc (yd b) b.length
def db(b:List UInt8):PV×Int:=
 if rE b.length=false then(jK,3)
 else if pw b=true then(jK,0)
 else if de (Db b)≠pv (nf b)then(jK,4)
 else if rF b=false then(jK,2)
 else if ye (oD b)=false then(jK,2)
 else({yd b with body:=(b.drop 10).take (10+jk b -10)},0)
theorem MY(b:List UInt8):jk b<65536:=by
 have h:=Ms ((b.drop 8).take (10 -8));have h2:((b.drop 8).take (10 -8)).length<=2:=by rw[amo];omega
 have h3:=ank (show 0<256 by decide) h2;rw[jk];omega
theorem GW(b:List UInt8):de ((b.drop 2).take (8 -2))<281474976710656:=by
 have h:=Ms ((b.drop 2).take (8 -2));have h2:((b.drop 2).take (8 -2)).length<=6:=by rw[amo];omega
 have h3:=ank (show 0<256 by decide) h2;omega
def tc(b:List UInt8):dW:=⟨(b.getD 0 0).toNat,(b.getD 1 0).toNat,UInt64.ofNat (de ((b.drop 2).take (8 -2))),⟨Sv.none,[]⟩⟩
theorem MZ(b:List UInt8):(UInt64.ofNat (de ((b.drop 2).take (8 -2)))).toNat=de ((b.drop 2).take (8 -2)):=by
 have:=GW b;rw[UInt64.toNat_ofNat'];omega
theorem M0(b:List UInt8)(s:Sv)(l:List UInt8):cA {tc b with body:=⟨s,l⟩}={yd b with body:=l}:=by
 simp only[cA,tc,MZ];rfl
theorem GX(b:List UInt8):cA (tc b)=yd b:=M0 b Sv.none []
theorem V2(b:List UInt8):(nf b).length=b.length -4:=by rw[nf,amo,amu];omega
theorem V3{M:Nat}{k d:UInt8}(h:2<=M):((List.replicate M (0:UInt8)).set 0 k).set 1 d=[k,d]++List.replicate (M -2) 0:=by
 obtain⟨m,rfl⟩: ∃m,M=m+2:=⟨M -2,by omega⟩;simp[aoA]
theorem GY{A Y:List UInt8}{k N:Nat}(hk:k=A.length):(A++List.replicate N 0).take k++(Y++(A++List.replicate N 0).drop (k+Y.length))=A++Y++List.replicate (N -Y.length) 0:=by
 subst hk;rw[List.take_left',List.drop_append,aoI (by omega),amV,List.drop_replicate,am6,ams];rfl
theorem V4{p:PV}{n:Nat}(h:p.body.length+14<=n):(mZ p n).length=n -4:=by
 simp only[mZ,adr,mG,amZ,ad2,af0];omega
theorem GZ(b:List UInt8):(db b).1.body.length<=65536:=by
 have h:=MY b;rw[db];split
 ·
  simp[jK]
 split
 ·
  simp[jK]
 split
 ·
  simp[jK]
 split
 ·
  simp[jK]
 split
 ·
  simp[jK]
 simp only[amo];omega
structure RV where
 gen:Nat
 at_:List Int
 deriving DecidableEq
def gw:RV:=⟨0,[]⟩
def cZ(r:cU):RV:=⟨r.gen.toNat,r.at_.xs⟩
def lB(n:Int):Int:=min 64 (fj n/2)
def yf(x:Int):Bool:=decide (0<=x)&&decide (x<=65535)
theorem G0{x:Int}:yf x=true↔0<=x/\x<=65535:=by simp only[yf,alM,decide_eq_true_eq]
def td(r:RV)(n:Int):Bool:= !decide (fj n=0)&&decide (r.gen<281474976710656)&&decide ((r.at_.length:Int)<=lB n)&&r.at_.all yf
theorem Ax{r:RV}{n:Int}:td r n=true↔fj n≠0/\r.gen<281474976710656/\(r.at_.length:Int)<=lB n/\ ∀x∈r.at_,yf x=true:=by
 simp only[td,alM,anS,decide_eq_true_eq,decide_eq_false_iff_not,and_assoc,amt,ne_eq]
def qo(b:List UInt8)(i:Nat):Int:=((vC (b.getD (2*i) 0) (b.getD (2*i+1) 0)).toNat:Int)
def px(b:List UInt8):List Int:=(List.range (b.length/2)).map (qo b)
def uD(p:PV):Bool:=decide (p.kind=2)&&decide (p.body.length%2=0)&&decide (p.id=max 0 ((p.body.length/2:Nat) -1:Int))
def eN(b:List UInt8):RV×Int:=
 if(db b).2≠0 then(gw,(db b).2)
 else if(db b).1.kind=0 then(gw,6)
 else if uD (db b).1=false then(gw,2)
 else(⟨(db b).1.gen,px (db b).1.body⟩,0)
def Dc(x:Int):List UInt8:=[dr (x/256),dr x]
def jl(l:List Int):List UInt8:=(l.map Dc).flatten
def df(r:RV)(n:Int):List UInt8×Int:=if td r n=true then dX ⟨2,max 0 ((r.at_.length:Int) -1),r.gen,jl r.at_⟩ n else([],1)
theorem V5{b:List UInt8}{i:Nat}(h:i<b.length/2):(px b).take (i+1)=(px b).take i++[qo b i]:=by
 rw[amq,px,amx,an7 h];rfl
theorem G1(b:List UInt8):(px b).length=b.length/2:=by simp[px]
theorem V6{l:List Int}{i:Nat}{x:Int}(h:l[i]? =some x):jl (l.take (i+1))=jl (l.take i)++Dc x:=by
 simp[jl,amq,h]
theorem V7(l:List Int):(jl l).length=2*l.length:=by
 induction l with
 |nil=>rfl
 |cons x l ih=>
  have:jl (x::l)=Dc x++jl l:=by simp[jl]
  rw[this,adr,ih];simp only[Dc,ad2,af0];omega
structure NS where
 at_:Int
 new:RV
 found:Bool
 blank:Bool
 deriving DecidableEq
def wi(s:NS)(i:Nat)(b:List UInt8):NS:=
 if(eN b).2=0/\(s.found=false\/s.new.gen<=(eN b).1.gen)then⟨i,(eN b).1,true,s.blank&&pw b⟩else{s with blank:=s.blank&&pw b}
def dN(l:List (List UInt8)):Nat->NS
 |0=>⟨0,gw,false,true⟩
 |k+1=>wi (dN l k) k (l.getD k [])
def fB(l:List (List UInt8)):Int×RV×Int:=
 if(dN l l.length).found=true then((dN l l.length).at_,(dN l l.length).new,0)else if(dN l l.length).blank=true then(0,gw,6)else(0,gw,2)
theorem V8{l:List (List UInt8)}{i:Nat}{b:List UInt8}(hb:l[i]? =some b)(h:(eN b).2=0/\((dN l i).found=false\/(dN l i).new.gen<=(eN b).1.gen)):dN l (i+1)=⟨i,(eN b).1,true,(dN l i).blank&&pw b⟩:=by
 rw[dN,show l.getD i []=b by simp[List.getD,hb],wi,if_pos h]
theorem V9{l:List (List UInt8)}{i:Nat}{b:List UInt8}(hb:l[i]? =some b)(h: ¬((eN b).2=0/\((dN l i).found=false\/(dN l i).new.gen<=(eN b).1.gen))):dN l (i+1)={dN l i with blank:=(dN l i).blank&&pw b}:=by
 rw[dN,show l.getD i []=b by simp[List.getD,hb],wi,if_neg h]
structure VV where
 ai:CV
 at_:List Int
 gen:Nat
 last:Int
 deriving DecidableEq
def Wa:CV:=⟨0,0,[],0,false,[]⟩
def lY:VV:=⟨Wa,[],0,0⟩
def vv(v:ca):VV:=⟨cv v.ai,v.at_.xs,v.gen.toNat,v.last⟩
def rG(c:CV):Bool:=bl c&&decide (4<=(c.blocks.length:Int))&&decide (2<=c.ab)&&decide (24<=c.size)
theorem Ay{c:CV}:rG c=true↔bl c=true/\4<=(c.blocks.length:Int)/\2<=c.ab/\24<=c.size:=by simp only[rG,alM,decide_eq_true_eq,and_assoc]
def yg(c:CV)(k:Int):List UInt8:=(aN c (k/c.ab)).ab.getD (k%c.ab).toNat []
def uE(c:CV)(k:Int):Bool:=decide (2<=k/c.ab)&&decide (k/c.ab<(c.blocks.length:Int))&&decide (k%c.ab<(aN c (k/c.ab)).used)
theorem Dd{c:CV}{k:Int}:uE c k=true↔2<=k/c.ab/\k/c.ab<(c.blocks.length:Int)/\k%c.ab<(aN c (k/c.ab)).used:=by simp only[uE,alM,decide_eq_true_eq,and_assoc]
def M1(p:PV×Int)(id:Int):Bool:=decide (p.2=0)&&decide (p.1.kind=1)&&decide (p.1.id=id)
def yh(c:CV)(id n:Int):Bool:=uE c (n -1)&&M1 (db (yg c (n -1))) id
theorem Wb(c:CV):{oC c c.bb with off:=c.off}=c:=by
 rw[oC];split<;>rfl
def te(c:CV)(l:List Int)(i:Nat):Bool:=decide (l.getD i 0=0)||(!(l.take i).contains (l.getD i 0)&&yh c (i:Int) (l.getD i 0))
def uF(c:CV)(l:List Int):Bool:=(List.range l.length).all (te c l)
theorem G2{c:CV}{l:List Int}:uF c l=true↔ ∀i,i<l.length->te c l i=true:=by simp only[uF,amt,anc]
def jm(l:List Int)(i:Nat):Int->Option Unit:=fun x=>if x≠0/\x∈l.take i then some ()else none
theorem Az{l:List Int}{i:Nat}{x:Int}:(jm l i x).isSome=decide (x≠0/\x∈l.take i):=by
 unfold jm;split<;>simp_all
theorem M3{l:List Int}:(fun _=>none)=jm l 0:=by
 funext x;simp[jm]
theorem M4{l:List Int}{i:Nat}(h:l[i]? =some 0):jm l (i+1)=jm l i:=by
 funext x
 unfold jm;rw[amq,h]
 by_cases hx:x=0
 ·
  simp[hx]
 simp[hx]
theorem M5{l:List Int}{i:Nat}{y:Int}(h:l[i]? =some y)(hy:y≠0):(fun z=>if z=y then some ()else jm l i z)=jm l (i+1):=by
 funext x
 unfold jm;rw[amq,h]
 by_cases hx:x=y
 ·
  subst hx;simp[hy]
 simp[hx]
theorem wj{l:List Int}{i:Nat}{y:Int}(h:l[i]? =some y):l.getD i 0=y:=by simp[List.getD,h]
def eI(l:List (Sl (Sl UInt8))):List (Sl UInt8):=(l.map Sl.xs).flatten
theorem De{l:List (Sl (Sl UInt8))}{i:Nat}{x:Sl (Sl UInt8)}(h:l[i]? =some x):eI (l.take (i+1))=eI (l.take i)++x.xs:=by
 rw[eI,amq,h];simp[eI]
theorem Wc(l:List (Sl (Sl UInt8)))(i:Nat):(eI (l.take i)).length<=(eI l).length:=by
 have e:eI l=eI (l.take i)++eI (l.drop i):=by
  unfold eI;rw[←List.flatten_append,←am0,amO]
 rw[e,adr];omega
class M6(w0:World)(l:List (Sl UInt8)):Prop where
 h: ∀y∈l,Deep.dD (hp w0) y
variable {w0:World}{L:List ah}
instance aU.row{x:Sv}{l:List (Sl UInt8)}{i:Nat}[q:eS L x (bX (τ:=UInt8)) 1 l i][m:M6 w0 l]:aU w0 L (⟨x,l⟩:Sl (Sl UInt8)):=
 ⟨fun w hw=>⟨(hw.get q.h).1,fun y hy=>Deep.mono w0 w y (m.h y hy) hw.below⟩⟩
def eT(c:CV):Int×RV×Int:=fB ((aN c 0).ab++(aN c 1).ab)
def tg(c:CV):Bool:=decide ((eT c).1%c.ab<(aN c ((eT c).1/c.ab)).used)&&uF c (eT c).2.1.at_
def bL(c:CV):VV×Int:=
 if rG c=false then(lY,1)
 else if c.off=true then(lY,7)
 else if(eT c).2.2≠0 then(lY,(eT c).2.2)
 else if tg c=false then(lY,2)
 else(⟨c,(eT c).2.1.at_,(eT c).2.1.gen,(eT c).1/c.ab⟩,0)
theorem M7(l:List (List UInt8)): ∀k,k<=l.length->(dN l k).at_=0\/(0<=(dN l k).at_/\(dN l k).at_<k)
 |0,_=> .inl rfl
 |k+1,h=>by
  have:=M7 l k (by omega);rw[dN,wi];split
  ·
   exact .inr ⟨by simp only;omega,by simp only;omega⟩
  simp only;omega
theorem M8{l:List (List UInt8)}(h:0<l.length):0<=(fB l).1/\(fB l).1<l.length:=by
 have:=M7 l l.length (amz _);rw[fB];split
 ·
  simp only;omega
 split<;>(simp only;omega)
theorem Wd(b:List UInt8): ∀x∈px b,0<=x/\x<=65535:=by
 intro x hx;obtain⟨i,_,rfl⟩:=anB.1 hx;have:=(vC (b.getD (2*i) 0) (b.getD (2*i+1) 0)).toNat_lt;simp only[qo];omega
theorem We(b:List UInt8): ∀x∈(eN b).1.at_,0<=x/\x<=65535:=by
 rw[eN];split
 ·
  simp[gw]
 split
 ·
  simp[gw]
 split
 ·
  simp[gw]
 exact Wd _
theorem M9(l:List (List UInt8)): ∀k,∀x∈(dN l k).new.at_,0<=x/\x<=65535
 |0=>by simp[dN,gw]
 |k+1=>by
  have:=M9 l k;rw[dN,wi];split
  ·
   exact We _
  exact this
theorem Na(l:List (List UInt8)): ∀x∈(fB l).2.1.at_,0<=x/\x<=65535:=by
 rw[fB];split
 ·
  exact M9 _ _
 split<;>simp[gw]
theorem G3(a b:Sl (Sl UInt8)):aM (eI [a,b])=aM a.xs++aM b.xs:=by simp[aM,eI]
theorem G4{c:Cp}{i:Nat}{B:Bk}(h:c.blocks.xs[i]? =some B):aN (cv c) (i:Int)=bv B:=by
 rw[←wh];simp[List.getD,h]
theorem Wf(b:List UInt8):(eN b).1.at_.length<=65536:=by
 have h:=GZ b;rw[eN];split
 ·
  simp[gw]
 split
 ·
  simp[gw]
 split
 ·
  simp[gw]
 simp only[G1];omega
theorem Nb(l:List (List UInt8)): ∀k,(dN l k).new.at_.length<=65536
 |0=>by simp[dN,gw]
 |k+1=>by
  have:=Nb l k;rw[dN,wi];split
  ·
   exact Wf _
  exact this
theorem Wg(l:List (List UInt8)):(fB l).2.1.at_.length<=65536:=by
 rw[fB];split
 ·
  exact Nb _ _
 split<;>simp[gw]
theorem Nc(c:CV):(bL c).1.at_.length<=65536:=by
 have h:=Wg ((aN c 0).ab++(aN c 1).ab);rw[bL];split
 ·
  simp[lY]
 split
 ·
  simp[lY]
 split
 ·
  simp[lY]
 split
 ·
  simp[lY]
 exact h
theorem G5{c:CV}(h:(bL c).2=0):rG c=true:=by
 cases hb:rG c with
 |true=>rfl
 |false=>rw[bL,if_pos hb]at h;cases h
def py(x:VV):Bool:=decide ((bL {x.ai with off:=false}).2=0)&&decide ((bL {x.ai with off:=false}).1.gen=x.gen)&&decide ((bL {x.ai with off:=false}).1.last=x.last)&&decide ((bL {x.ai with off:=false}).1.at_=x.at_)
theorem Wh{w0 w:World}{L:List ah}(h:Mem w0 L w):Mem w0 (fz fL::L) w:=
 C0 (d:=fL) (Mem.freeze (es:=[]) _ ⟨dL.nil _ _ _,fun x hx=>by cases hx⟩ (fun k hk=>by
  rcases hk with⟨cE,_⟩|⟨x,hx,_⟩
  ·
   exact absurd rfl cE
  cases hx) (MN (s:=Sv.none) Sv.zx rfl h))
class Nf(a:Cp)(b:outParam Cp):Prop where
 h:a=b
instance aU.ahU{v:ca}{c:Cp}[e:Nf v.ai c][q1:aU w0 L c][q2:aU w0 L v.at_]:aU w0 L v:=
 ⟨fun w hw=>⟨by rw[e.h];exact q1.h w hw,q2.h w hw⟩⟩
def kR(c:CV)(n:Int):List UInt8:=if(db (yg c (n -1))).2=0 then(db (yg c (n -1))).1.body else[]
theorem G6{c:CV}(h:(bL c).2=0):rG c=true/\tg c=true/\bL c=(⟨c,(eT c).2.1.at_,(eT c).2.1.gen,(eT c).1/c.ab⟩,0):=by
 have hb:=G5 h
 by_cases h1:c.off=true
 ·
  rw[bL,if_neg (by rw[hb];simp),if_pos h1]at h;cases h
 by_cases h2:(eT c).2.2≠0
 ·
  rw[bL,if_neg (by rw[hb];simp),if_neg h1,if_pos h2]at h;exact absurd h h2
 cases h3:tg c with
 |false=>rw[bL,if_neg (by rw[hb];simp),if_neg h1,if_neg h2,if_pos h3]at h;cases h
 |true=>exact⟨hb,rfl,by rw[bL,if_neg (by rw[hb];simp),if_neg h1,if_neg h2,if_neg (by rw[h3];simp)]⟩
theorem Df{x:VV}(h:py x=true):bl x.ai=true/\uF x.ai x.at_=true/\ ∀y∈x.at_,0<=y/\y<=65535:=by
 simp only[py,alM,decide_eq_true_eq]at h;obtain⟨⟨⟨h1,h2⟩,h3⟩,h4⟩:=h;obtain⟨hb,hl,hf⟩:=G6 h1;rw[hf]at h4;simp only at h4;simp only[tg,alM,decide_eq_true_eq]at hl;rw[h4]at hl;refine⟨(Ay.1 hb).1,hl.2,?_⟩;rw[←h4];exact Na _
theorem Ng{x:VV}(h:py x=true){i:Nat}{y:Int}(hy:x.at_[i]? =some y)(h0:y≠0):1<=y/\y<=1000000/\uE x.ai (y -1)=true:=by
 obtain⟨h1,h2,h3⟩:=Df h;have hr:=h3 y (amm hy);have hp:=G2.1 h2 i (zz.1 hy).1;rw[te,wj hy]at hp;simp only[anp,decide_eq_true_eq,alM]at hp;rcases hp with hp|hp
 ·
  exact absurd hp h0
 have hn:=hp.2;rw[yh,alM]at hn;exact⟨by omega,by omega,hn.1⟩
def uG(l:List Int)(j:Nat):Bool:=decide (l.getD j 0≠0)&& !(l.take j).contains (l.getD j 0)
def rH(ab:Int)(l:List Int)(k i:Nat):Nat:=((List.range k).filter fun j=>uG l j&&decide ((l.getD j 0 -1)/ab=(i:Int)+2)).length
def uH(b:BV)(live:Nat):aI:=⟨live,b.used,b.bC,b.bad⟩
def jn(c:CV)(l:List Int)(k:Nat):List aI:=(List.range (c.blocks.length -2)).map fun i:Nat=>uH (aN c ((i:Int)+2)) (rH c.ab l k i)
def ir(c:CV)(l:List Int):List aI:=jn c l l.length
theorem yi(c:CV)(l:List Int)(k:Nat):(jn c l k).length=c.blocks.length -2:=by simp[jn]
theorem G7(ab:Int)(l:List Int)(k i:Nat):rH ab l (k+1) i=rH ab l k i+(if uG l k&&decide ((l.getD k 0 -1)/ab=(i:Int)+2)then 1 else 0):=by
 rw[rH,aof,aom,adr,rH];congr 1;simp only[aoa,aoE];split<;>rfl
theorem Wi{c:CV}{l:List Int}{k:Nat}(h:uG l k=false):jn c l (k+1)=jn c l k:=by
 refine aoB fun i _=>?_;rw[G7,h];simp
theorem Wj{l:List Int}{i:Nat}{y:Int}(h:l[i]? =some y)(hy:y≠0/\y∈l.take i):jm l (i+1)=jm l i:=by
 funext x
 unfold jm;rw[amq,h]
 by_cases hx:x=y
 ·
  subst hx;simp[hy.1,hy.2]
 simp[hx]
theorem Wk{c:CV}{l:List Int}{k i:Nat}{x:aI}(h:uG l k=true)(hi:(l.getD k 0 -1)/c.ab=(i:Int)+2)(hx:(jn c l k)[i]? =some x):jn c l (k+1)=(jn c l k).set i {x with live:=x.live+1}:=by
 have hK:i<c.blocks.length -2:=by have:=(zz.1 hx).1;rwa [yi]at this
 have pz:x=uH (aN c ((i:Int)+2)) (rH c.ab l k i):=by
  rw[jn,amx,an7 hK]at hx;exact(amn hx).symm
 refine anq fun j=>?_;rw[anD]
 by_cases hj:i=j
 ·
  subst hj;rw[if_pos rfl,if_pos (by rw[yi];exact hK),jn,amx,an7 hK,am3,G7,h,hi,pz];simp[uH]
 rw[if_neg hj,jn,jn,amx,amx];rcases amv j (c.blocks.length -2)with jT|jT
 ·
  rw[an7 jT,am3,am3,G7,h,hi];simp only[an9];rw[decide_eq_false (by omega)];simp
 rw[amD (by simpa using jT)];rfl
def ar(l:List (Sl Int)):List Int:=(l.map Sl.xs).flatten
theorem Nh{l:List (Sl Int)}{i:Nat}{x:Sl Int}(h:l[i]? =some x):ar (l.take (i+1))=ar (l.take i)++x.xs:=by
 rw[ar,amq,h];simp[ar]
theorem Wl{l:List (Sl Int)}{i j:Nat}{x:Sl Int}{y:Int}(h:l[i]? =some x)(hy:x.xs[j]? =some y):(ar l)[(ar (l.take i)).length+j]? =some y:=by
 have hj:=(zz.1 hy).1;have e:ar l=ar (l.take (i+1))++ar (l.drop (i+1)):=by
  unfold ar;rw[←List.flatten_append,←am0,amO]
 rw[e,Nh h,amC (by rw[adr];omega),amw (by omega),amV,hy]
def uI(c:CV)(l:List Int):Prop:=(bl c=true/\l.length<=1000000)/\2<=c.blocks.length/\ ∀n∈l,n=0\/(1<=n/\n<=1000000/\2<=(n -1)/c.ab/\(n -1)/c.ab<(c.blocks.length:Int))
theorem Wm(c:CV)(l:List Int):jn c l 0=(List.range (c.blocks.length -2)).map fun i:Nat=>uH (aN c ((i:Int)+2)) 0:=by
 refine aoB fun i _=>?_;simp[rH]
theorem Ni(ab:Int)(l:List Int)(k i:Nat):rH ab l k i<=k:=by
 rw[rH];exact Nat.le_trans (aos _ _) (by simp)
theorem Wn{c:CV}{l:List Int}{k i:Nat}{z:aI}(h:(jn c l k)[i]? =some z):0<=z.live/\z.live<=k:=by
 rw[jn,amx,anH]at h;obtain⟨j,_,rfl⟩:=h;have:=Ni c.ab l k j;simp only[uH];omega
def wk(a b:Int):Int:=if a<b then -1 else if b<a then 1 else 0
def rI(p:Int)(x:aI):Bool:= !x.bad&&decide (x.used<p)
def rJ(x:aI):Bool:= !x.bad&&decide (x.live=0)&&decide (0<x.used)
def AA(p:Int)(x:aI):Bool:=if x.bad=true then decide (0<x.live)else decide (x.used=p)&&decide (0<x.live)&&decide (x.live<p)
def G8(a b:aI):Int:=wk b.used a.used
def AB(a b:aI):Int:=wk a.bC b.bC
def G9(a b:aI):Int:=wk a.live b.live
def yj(a b:aI):Int:=if a.bad=b.bad then 0 else if a.bad=true then -1 else 1
def uJ(p:Int)(x:aI):Bool:=decide (0<=x.live)&&decide (x.live<=x.used)&&decide (x.used<=p)&&decide (0<=x.bC)&&decide (x.bC<=dG)
theorem yk{p:Int}{x:aI}:uJ p x=true↔0<=x.live/\x.live<=x.used/\x.used<=p/\0<=x.bC/\x.bC<=dG:=by
 simp only[uJ,alM,decide_eq_true_eq,and_assoc]
def oE(l:List aI)(p:Int):Bool:=decide (1<=(l.length:Int))&&decide ((l.length:Int)<=32)&&decide (1<=p)&&decide (p<=16)&&l.all (uJ p)
theorem AD{l:List aI}{p:Int}:oE l p=true↔1<=(l.length:Int)/\(l.length:Int)<=32/\1<=p/\p<=16/\ ∀x∈l,uJ p x=true:=by
 simp only[oE,alM,decide_eq_true_eq,and_assoc,amt]
def rK(a b:aI):List (aI->aI->Int)->Bool
 |[]=>false
 |o::r=>if o a b≠0 then decide (o a b<0)else rK a b r
def ym(l:List aI)(dv:aI->Bool)(os:List (aI->aI->Int))(i:Nat)(s:Int×Bool):Int×Bool:=
 if dv (l.getD i hY)=true/\(s.2=false\/rK (l.getD i hY) (l.getD s.1.toNat hY) os=true)then((i:Int),true)else s
def gG(l:List aI)(dv:aI->Bool)(os:List (aI->aI->Int)):Nat->Int×Bool
 |0=>(0,false)
 |k+1=>ym l dv os k (gG l dv os k)
def gH(l:List aI)(p:Int)(dv:aI->Bool)(os:List (aI->aI->Int)):Int×Bool:=
 if oE l p=true then gG l dv os l.length else(0,false)
def fM(l:List aI)(p:Int):Int×Bool:=gH l p (rI p) [G8,AB]
def gx(l:List aI)(p:Int):Int×Bool:=gH l p rJ [AB]
def wm(l:List aI)(p:Int):Int×Bool:=gH l p (AA p) [yj,G9,AB]
def lZ(p:Int)(x:aI):Int:=if rJ x=true then p else if rI p x=true then p -x.used else 0
def l4:List Int->Int
 |[]=>0
 |x::r=>x+l4 r
def Dg(l:List aI)(p:Int):Int:=if oE l p=true then l4 (l.map (lZ p))else 0
theorem Wo(a b:List Int):l4 (a++b)=l4 a+l4 b:=by
 induction a with
 |nil=>simp[l4]
 |cons x r ih=>simp only[anj,l4,ih];omega
theorem Ha(l:List aI)(dv:aI->Bool)(os:List (aI->aI->Int)): ∀k,0<=(gG l dv os k).1/\(gG l dv os k).1<=k/\((gG l dv os k).2=true->(gG l dv os k).1<k/\dv (l.getD (gG l dv os k).1.toNat hY)=true)
 |0=>⟨by simp[gG],by simp[gG],fun h=>by simp[gG]at h⟩
 |k+1=>by
  obtain⟨h1,h2,h3⟩:=Ha l dv os k;rw[gG,ym];split
  ·
   rename_i h;exact⟨by simp only;omega,by simp only;omega,fun _=>⟨by simp only;omega,by simpa using h.1⟩⟩
  exact⟨h1,by omega,fun h=>⟨by have:=(h3 h).1;omega,(h3 h).2⟩⟩
theorem Nj{l:List aI}{dv:aI->Bool}{os:List (aI->aI->Int)}: ∀{k},(gG l dv os k).2=false-> ∀i,i<k->dv (l.getD i hY)=false
 |0,_,i,hi=>by omega
 |k+1,h,i,hi=>by
  rw[gG,ym]at h;split at h
  ·
   cases h
  rename_i hn
  by_cases e:i=k
  ·
   subst e
   cases hr:dv (l.getD i hY)with
   |false=>rfl
   |true=>exact absurd ⟨hr, .inl h⟩ hn
  exact Nj h i (by omega)
theorem Dh{l:List aI}{p:Int}{dv:aI->Bool}{os:List (aI->aI->Int)}(h:(gH l p dv os).2=true):oE l p=true/\0<=(gH l p dv os).1/\(gH l p dv os).1<l.length/\dv (l.getD (gH l p dv os).1.toNat hY)=true:=by
 unfold gH at h⊢;split at h
 ·
  rename_i hw;rw[if_pos hw];obtain⟨h1,h2,h3⟩:=Ha l dv os l.length;exact⟨hw,h1,(h3 h).1,(h3 h).2⟩
 cases h
theorem Nk{l:List aI}{p:Int}{dv:aI->Bool}{os:List (aI->aI->Int)}(hw:oE l p=true)(h:(gH l p dv os).2=false): ∀x∈l,dv x=false:=fun x hx=>by
 unfold gH at h;rw[if_pos hw]at h;obtain⟨i,hi⟩:=am9 hx;have hK:=(zz.1 hi).1;have:=Nj h i hK;rwa [show l.getD i hY=x by simp[List.getD,hi]]at this
theorem drop_at{α:Type}{l:List α}{i:Nat}{e:α}(he:l[i]? =some e):l.drop i=e::l.drop (i+1):=by
 obtain⟨hi,rfl⟩:=zz.1 he;rw[List.getElem_cons_drop]
theorem Wp{p:Int}{x:aI}(h:uJ p x=true)(hp:1<=p):0<=lZ p x/\lZ p x<=p:=by
 obtain⟨h1,h2,h3,_⟩:=yk.1 h;rw[lZ];split
 ·
  omega
 split<;>omega
theorem Nl(p:Int): ∀l:List aI,(∀x∈l,uJ p x=true)->1<=p->0<=l4 (l.map (lZ p))/\l4 (l.map (lZ p))<=(l.length:Int)*p
 |[],_,_=>by simp[l4]
 |x::r,h,hp=>by
  have h1:=Nl p r (fun y hy=>h y (ans _ hy)) hp;have h2:=Wp (h x List.mem_cons_self) hp;rw[amR,l4,ad2,Int.natCast_add,Int.add_mul];omega
theorem room_le{n:Nat}{p:Int}(h:n<=32)(h1:1<=p)(h2:p<=16):(n:Int)*p<=512:=by
 have:(n:Int)*p<=32*16:=aoL (by omega) h2 (by omega) (by omega);omega
structure eO(c d:CV):Prop where
 ab:d.ab=c.ab
 size:d.size=c.size
 len:d.blocks.length=c.blocks.length
theorem eO.gy(c:CV):eO c c:=⟨rfl,rfl,rfl⟩
theorem eO.trans{c d e:CV}(h:eO c d)(g:eO d e):eO c e:=⟨g.ab.trans h.ab,g.size.trans h.size,g.len.trans h.len⟩
theorem Wq(c:CV)(b g:Int)(p:List UInt8):eO c (mU c b g p):=by
 rw[mU];split
 ·
  exact⟨rfl,rfl,by simp[rA]⟩
 exact .gy c
theorem Ws(c:CV)(b:Int):eO c (mV c b):=by
 rw[mV];split
 ·
  exact⟨rfl,rfl,by simp[uC]⟩
 exact .gy c
theorem Wt(c:CV)(b:Int):eO c (qn c b):=by
 rw[qn];split
 ·
  exact⟨rfl,rfl,by simp⟩
 exact .gy c
theorem Hb{c:CV}(h:bl c=true){o:Int}{f:Bool}(h0:0<=o)(h1:o<=dG){i:Nat}{B:BV}(hB:oB c.ab c.size B=true):bl {c with ops:=o,off:=f,blocks:=c.blocks.set i B}=true:=by
 obtain⟨k1,k2,k3,k4,k5⟩:=eB.1 h;refine eB.2 ⟨by simpa using k1,h0,h1,k4,fun b hb=>?_⟩;rcases ani hb with hb|rfl
 ·
  exact k5 b hb
 exact hB
theorem Nn{c:CV}(h:bl c=true)(b g:Int)(p:List UInt8):bl (mU c b g p)=true:=by
 rw[mU];split
 ·
  rename_i hk;obtain⟨k1,k2,k3,k4⟩:=hk;obtain⟨j1,j2,j3,j4,j5⟩:=qm.1 k1;obtain⟨o1,o2,o3,o4,o5,o6⟩:=gF.1 (we j1);have:=(eB.1 h).2.1;refine Hb h (by omega) (by omega) (gF.2 ⟨by simpa using o1,by simp only;omega,by simp only;omega,o4,o5,fun x hx=>?_⟩);rcases ani hx with hx|rfl
  ·
   exact o6 x hx
  rw[xT];split
  ·
   simpa[cP]using j4
  exact j4
 exact h
theorem No{c:CV}(h:bl c=true)(b:Int):bl (mV c b)=true:=by
 rw[mV];split
 ·
  rename_i hk;obtain⟨k1,k2,k3⟩:=hk;obtain⟨j1,j2,j3⟩:=xU.1 k1;obtain⟨o1,o2,o3,o4,o5,o6⟩:=gF.1 (we j1);have:=(eB.1 h).2.1;have hs:=kt.1 (eB.1 h).1;have hl:(uB c (aN c b).ab).length=(aN c b).ab.length:=by rw[uB];split<;>simp
  refine Hb h (by omega) (by omega) (gF.2 ⟨by rw[hl];exact o1,?_,?_,by simp only;omega,by simp only;omega,fun x hx=>?_⟩)
  ·
   simp only;split<;>omega
  ·
   simp only;split<;>omega
  rw[uB]at hx;split at hx
  ·
   obtain⟨y,hy,rfl⟩:=anB.1 hx;simpa[cP]using o6 y hy
  obtain⟨y,hy,rfl⟩:=anB.1 hx;simp only[gT,amZ];omega
 exact h
theorem Wu{c:CV}(h:bl c=true)(b:Int):bl (qn c b)=true:=by
 rw[qn];split
 ·
  rename_i hk;have hh:lz c b=true:=by
   rw[rB]at hk;split at hk
   ·
    assumption
   cases hk
  obtain⟨o1,o2,o3,o4,o5,o6⟩:=gF.1 (we hh);have k:=eB.1 h;exact Hb (o:=c.ops) (f:=c.off) h k.2.1 k.2.2.1 (gF.2 ⟨o1,o2,o3,o4,o5,o6⟩)
 exact h
def fU(c:CV)(b:Int):Int:=if(aN c b).bad=true then 0 else c.ab -(aN c b).used
def l5(c:CV)(b e:Int):CV:=if e=9 then qn c b else c
def cm(c:CV)(b:Int)(p:List UInt8):Int:=lA c b (aN c b).used p
def dh(c:CV)(b:Int)(p:List UInt8):CV:=l5 (mU c b (aN c b).used p) b (cm c b p)
def jo(c:CV)(b:Int):CV:=l5 (mV c b) b (eG c b)
def jq(c:CV):List UInt8:=(dX ⟨1,0,0,[]⟩ c.size).1
def iI:Nat->CV->Int->CV×Int
 |0,c,b=>(jo c b,eG c b)
 |n+1,c,b=>if cm c b (jq c)≠0 then(dh c b (jq c),cm c b (jq c))else iI n (dh c b (jq c)) b
def dO(c:CV)(b:Int):CV×Int:=iI (fU c b).toNat c b
theorem Np{c:CV}(h:bl c=true)(b e:Int):bl (l5 c b e)=true:=by
 rw[l5];split
 ·
  exact Wu h b
 exact h
theorem Nq(c:CV)(b e:Int):eO c (l5 c b e):=by
 rw[l5];split
 ·
  exact Wt c b
 exact .gy c
theorem l6{c:CV}(h:bl c=true)(b:Int)(p:List UInt8):bl (dh c b p)=true:=Np (Nn h _ _ _) _ _
theorem ng(c:CV)(b:Int)(p:List UInt8):eO c (dh c b p):=(Wq _ _ _ _).trans (Nq _ _ _)
theorem Hc{c:CV}(h:bl c=true)(b:Int):bl (jo c b)=true:=Np (No h _) _ _
theorem He(c:CV)(b:Int):eO c (jo c b):=(Ws _ _).trans (Nq _ _ _)
theorem Nr: ∀(n:Nat) {c:CV} (b:Int),bl c=true->bl (iI n c b).1=true/\eO c (iI n c b).1
 |0,c,b,h=>⟨Hc h b,He c b⟩
 |n+1,c,b,h=>by
  rw[iI];split
  ·
   exact⟨l6 h _ _,ng _ _ _⟩
  have:=Nr n b (l6 h b (jq c));exact⟨this.1,(ng _ _ _).trans this.2⟩
theorem AE{c:CV}(b:Int)(h:bl c=true):bl (dO c b).1=true/\eO c (dO c b).1:=Nr _ b h
theorem yn{c:CV}{b:Int}{p:List UInt8}(h:cm c b p=0):s8 c b (aN c b).used p=true/\c.off=false/\(aN c b).bad=false/\(bS c).2=false/\dh c b p=rA c b (aN c b).used p:=by
 have h0:=h;rw[cm,lA]at h
 by_cases h1:s8 c b (aN c b).used p=true
 ·
  rw[if_pos h1]at h
  by_cases h2:c.off=true
  ·
   rw[if_pos h2]at h;cases h
  rw[if_neg h2]at h
  by_cases h3:(aN c b).bad=true\/(aN c b).used≠(aN c b).used
  ·
   rw[if_pos h3]at h;cases h
  rw[if_neg h3]at h;have xe:(aN c b).bad=false:=by
   cases hb:(aN c b).bad with
   |false=>rfl
   |true=>exact absurd (.inl hb) h3
  by_cases h4:(bS c).2=true
  ·
   rw[if_pos h4,nR]at h;split at h<;>cases h
  refine⟨h1,by simpa using h2,xe,by simpa using h4,?_⟩;rw[dh,l5,h0,if_neg (by decide),mU,if_pos ⟨h1,by simpa using h2,xe,rfl⟩]
 rw[if_neg h1]at h;cases h
theorem Hf{c:CV}{b:Int}(h:lz c b=true){o:Int}{f:Bool}{B:BV}:aN {c with ops:=o,off:=f,blocks:=c.blocks.set b.toNat B} b=B:=by
 obtain⟨_,h2,h3⟩:=mS.1 h;simp only[aN,List.getD,amP (show b.toNat<c.blocks.length by omega),aok]
theorem Ns{c:CV}{b:Int}{p:List UInt8}(h:cm c b p=0):fU (dh c b p) b=fU c b -1:=by
 obtain⟨h1,h2,h3,h4,h5⟩:=yn h;have hh:=(qm.1 h1).1;rw[h5,fU,fU,rA,Hf hh];simp only[h3];simp only[anw,if_false];omega
theorem Wv{c:CV}{b:Int}(h:0<fU c b):dO c b=if cm c b (jq c)≠0 then(dh c b (jq c),cm c b (jq c))else dO (dh c b (jq c)) b:=by
 obtain⟨n,hn⟩: ∃n,(fU c b).toNat=n+1:=⟨(fU c b).toNat -1,by omega⟩;rw[dO,hn,iI];split
 ·
  rfl
 rename_i h0;have sZ:cm c b (jq c)=0:=by simpa using h0
 rw[dO,Ns sZ,show(fU c b -1).toNat=n by omega]
theorem Ww{c:CV}{b:Int}(h: ¬0<fU c b):dO c b=(jo c b,eG c b):=by
 rw[dO,show(fU c b).toNat=0 by omega];rfl
theorem Di(c:CV)(b e:Int):(l5 c b e).ops=c.ops:=by
 rw[l5];split
 ·
  rw[qn];split<;>rfl
 rfl
theorem Wx(c:CV)(b g:Int)(p:List UInt8):c.ops<=(mU c b g p).ops:=by
 rw[mU];split
 ·
  simp only[rA];omega
 omega
theorem Wz(c:CV)(b:Int):c.ops<=(mV c b).ops:=by
 rw[mV];split
 ·
  simp only[uC];omega
 omega
theorem uK{c:CV}{b:Int}{p:List UInt8}(hb:(aN c b).bad=false)(he:cm c b p=9\/cm c b p=0):(dh c b p).ops=c.ops+1:=by
 rw[dh,Di,mU];rw[cm,lA]at he
 by_cases h1:s8 c b (aN c b).used p=true
 ·
  rw[if_pos h1]at he
  by_cases h2:c.off=true
  ·
   rw[if_pos h2]at he;omega
  rw[if_pos ⟨h1,by simpa using h2,hb,rfl⟩];rfl
 rw[if_neg h1]at he;omega
theorem WA{c:CV}{b:Int}(hb:(aN c b).bad=false)(he:eG c b=9\/eG c b=0):(jo c b).ops=c.ops+1:=by
 rw[jo,Di,mV];rw[eG]at he
 by_cases h1:s9 c b=true
 ·
  rw[if_pos h1]at he
  by_cases h2:c.off=true
  ·
   rw[if_pos h2]at he;omega
  rw[if_pos ⟨h1,by simpa using h2,hb⟩];rfl
 rw[if_neg h1]at he;omega
theorem WB{c:CV}{b:Int}{p:List UInt8}(h:cm c b p=0):(aN (dh c b p) b).bad=false:=by
 obtain⟨h1,h2,h3,h4,h5⟩:=yn h;rw[h5,rA,Hf (qm.1 h1).1];exact h3
theorem wo(c:CV)(b:Int)(p:List UInt8):c.ops<=(dh c b p).ops:=by rw[dh,Di];exact Wx _ _ _ _
theorem Nt(c:CV)(b:Int):c.ops<=(jo c b).ops:=by rw[jo,Di];exact Wz _ _
theorem yo: ∀(n:Nat) (c:CV) (b:Int),c.ops<=(iI n c b).1.ops
 |0,c,b=>Nt c b
 |n+1,c,b=>by
  rw[iI];split
  ·
   exact wo _ _ _
  have:=yo n (dh c b (jq c)) b;have:=wo c b (jq c);omega
theorem Nu: ∀(n:Nat) {c:CV} {b:Int},(aN c b).bad=false->(iI n c b).2=9\/(iI n c b).2=0->c.ops<(iI n c b).1.ops
 |0,c,b,hb,he=>by have:=WA hb he;simp only[iI];omega
 |n+1,c,b,hb,he=>by
  rw[iI]at he⊢
  by_cases h0:cm c b (jq c)≠0
  ·
   rw[if_pos h0]at he⊢;have:=uK hb (p:=jq c) (he.imp id fun h=>h);simp only;omega
  rw[if_neg h0]at he⊢;have sZ:cm c b (jq c)=0:=by simpa using h0
  have:=Nu n (WB sZ) he;have:=wo c b (jq c);omega
theorem Dj{c:CV}{b:Int}(hb:(aN c b).bad=false)(he:(dO c b).2=9\/(dO c b).2=0):c.ops<(dO c b).1.ops:=Nu _ hb he
def bV:aI:=⟨0,0,0,true⟩
def oG(x:aI):aI:=if x.bad=true then bV else x
def aT(c:CV)(fl:List Int):List aI:=(ir c fl).map oG
def lC(R:aI->Bool)(x:aI):aI:=if x.bad=true\/R x=false then bV else x
def cx(R:aI->Bool)(l:List aI):List aI:=l.map (lC R)
theorem qp(c:CV)(fl:List Int):(aT c fl).length=c.blocks.length -2:=by rw[aT,amF,ir,yi]
theorem Dk(R:aI->Bool)(l:List aI):(cx R l).length=l.length:=by simp[cx]
structure WV where
 v:VV
 beyond:Bool
 deriving DecidableEq
def WV.on(x:WV)(c:CV):WV:={x with v:={x.v with ai:=c}}
theorem rL{c:Cp}{b:Int}{B:Bk}(h:c.blocks.xs[b.toNat]? =some B):aN (cv c) b=bv B:=by
 rw[←wh];simp[List.getD,h]
def l8(c:CV):Nat:=(c.blocks.filter fun b=>b.bad).length
def th(p:List UInt8):Nat:=if(eN p).2=0 then(eN p).1.gen else 0
def rM(l:List (List UInt8)):Nat:=l.foldl (fun m p=>max m (th p)) 0
def nS(c:CV)(b:Int):Nat:=rM (aN c b).ab
theorem WC{l:List (List UInt8)}{i:Nat}{p:List UInt8}(h:l[i]? =some p):rM (l.take (i+1))=max (rM (l.take i)) (th p):=by
 rw[rM,amq,h];simp[rM]
theorem Nv(b:List UInt8):(db b).1.gen<281474976710656:=by
 have:=GW b;rw[db];split
 ·
  simp[jK]
 split
 ·
  simp[jK]
 split
 ·
  simp[jK]
 split
 ·
  simp[jK]
 split
 ·
  simp[jK]
 exact this
theorem Nw(p:List UInt8):th p<281474976710656:=by
 rw[th];split
 ·
  rw[eN];split
  ·
   simp[gw]
  split
  ·
   simp[gw]
  split
  ·
   simp[gw]
  exact Nv p
 omega
theorem Hg(l:List (List UInt8)):rM l<281474976710656:=by
 have: ∀(l:List (List UInt8)) (m:Nat),m<281474976710656->l.foldl (fun m p=>max m (th p)) m<281474976710656:=by
  intro l
  induction l with
  |nil=>intro m h;exact h
  |cons p r ih=>
   intro m h;have:=Nw p;exact ih _ (Nat.max_lt.2 ⟨h,this⟩)
 exact this l 0 (by omega)
def AF(c:CV)(b:Int):Bool:= !(aN c b).bad&&(decide (0<(aN c b).used)||(decide (b<2)&&decide (0<nS c b)))
def fC(c:CV)(b:Int):Nat:=max 1 (nS c (1 -b)+(1 -b).toNat)
def wq(c:CV)(last:Int):Int:=if(aN c (1 -last)).bad=true then fU c last else if(aN c last).bad=true/\0<fU c (1 -last)then fU c (1 -last)else c.ab
def AG(g:Nat):Bool:=decide (281474976710656<=g+2)
def kT(e:Int):Int:=if e=9 then 0 else e
theorem Nx{f:aI->aI}{l:List aI}{i:Nat}{x:aI}(h:l[i]? =some x):((l.take i).map f++l.drop i).set i (f x)=(l.take (i+1)).map f++l.drop (i+1):=by
 have hi:=(zz.1 h).1;have hl:((l.take i).map f).length=i:=by rw[amF,amo];omega
 rw[anM _ _ (by omega),hl,anZ,drop_at h,anP,amq,h];simp
theorem Ny{f:aI->aI}{l:List aI}{i:Nat}{x:aI}(h:l[i]? =some x)(hf:f x=x):(l.take i).map f++l.drop i=(l.take (i+1)).map f++l.drop (i+1):=by
 rw[drop_at h,amq,h];simp[hf]
theorem Nz{f:aI->aI}{l:List aI}{i:Nat}{x:aI}(h:l[i]? =some x):((l.take i).map f++l.drop i)[i]? =some x:=by
 have hi:=(zz.1 h).1;have hl:((l.take i).map f).length=i:=by rw[amF,amo];omega
 rw[amw (by omega),hl,anZ,ang,anA,h]
theorem WD{l:List BV}{i:Nat}{x:BV}(h:l[i]? =some x):((l.take (i+1)).filter fun b=>b.bad).length=((l.take i).filter fun b=>b.bad).length+(if x.bad=true then 1 else 0):=by
 rw[amq,h,aom,adr];congr 1;simp only[aoH,aoa,aoE];split<;>simp_all
def gV(c:CV)(l:List Int):Prop:= ∀n∈l,n=0\/(1<=n/\2<=(n -1)/c.ab/\(n -1)/c.ab<(c.blocks.length:Int))
theorem gV.jL{c d:CV}{l:List Int}(h:gV c l)(g:eO c d):gV d l:=fun n hn=>by
  rcases h n hn with h|h
  ·exact .inl h
  ·exact .inr (by rw[g.ab,g.len];exact h)
theorem gV.append{c:CV}{a b:List Int}(h:gV c a)(g:gV c b):gV c (a++b):=fun n hn=>(amM.1 hn).elim (h n) (g n)
theorem kU{c:CV}(h:bl c=true):1<=(c.blocks.length:Int)/\(c.blocks.length:Int)<=32/\1<=c.ab/\c.ab<=16/\1<=c.size/\c.size<=256:=kt.1 (eB.1 h).1
theorem NA{n p b:Int}(hp:1<=p)(kV:p<=16)(hb:b<=32)(h:(n -1)/p<b):n<=512:=by
  have h1:n -1=p*((n -1)/p)+(n -1)%p:=(Int.mul_ediv_add_emod (n -1) p).symm;have h2:=Int.emod_lt_of_pos (n -1) (show 0<p by omega);have h3:(n -1)/p<=31:=by omega
  have h4:p*((n -1)/p)<=p*31:=Int.mul_le_mul_of_nonneg_left h3 (by omega);omega
theorem gV.kn{c:CV}{l:List Int}(h:gV c l)(hk:bl c=true)(h2:2<=c.blocks.length)(hl:l.length<=1000000):uI c l:=
  ⟨⟨hk,hl⟩,h2,fun n hn=>by
    rcases h n hn with h|h
    ·exact .inl h
    ·have hd:=kU hk
     have:=NA (n:=n) hd.2.2.1 hd.2.2.2.1 hd.2.1 h.2.2;exact .inr ⟨h.1,by omega,h.2.1,h.2.2⟩⟩
theorem NB{c:CV}{fl:List Int}{i:Nat}(hi:i<c.blocks.length -2):(aT c fl)[i]? =some (oG (uH (aN c ((i:Int)+2)) (rH c.ab fl fl.length i))):=by
  rw[aT,ir,jn,amx,amx,an7 hi];rfl
theorem Dl{c:CV}{fl:List Int}{i:Nat}{x:aI}(h:(aT c fl)[i]? =some x):x.bad=(aN c ((i:Int)+2)).bad:=by
  have hi:=(zz.1 h).1;rw[qp]at hi;rw[NB hi]at h;obtain rfl:=amn h;rw[oG];split
  ·rename_i hb;exact hb.symm
  ·rfl
theorem AH{c:CV}(hk:bl c=true){b:Int}(h0:0<=b)(h1:b<c.blocks.length):oB c.ab c.size (aN c b)=true:=we (mS.2 ⟨hk,h0,h1⟩)
structure yp(c:CV)(n:Nat)(x:aI):Prop where
  WE:0<=x.live
  WG:x.live<=n
  Dm:0<=x.used
  Dn:x.used<=c.ab
  WH:0<=x.bC
  WI:x.bC<=dG
theorem Dp{c:CV}{fl:List Int}(hk:bl c=true){x:aI}(h:x∈aT c fl):yp c fl.length x:=by
  obtain⟨i,hi⟩:=am9 h;have hK:=(zz.1 hi).1;rw[qp]at hK;rw[NB hK]at hi;obtain rfl:=amn hi;have hd:=kU hk;have ti:dG=1099511627776:=rfl;rw[oG];split
  ·exact⟨by simp[bV],by simp[bV],by simp[bV],by simp only[bV];omega,by simp[bV],by simp only[bV];omega⟩
  ·have ho:=gF.1 (AH hk (b:=(i:Int)+2) (by omega) (by omega))
   have:=Ni c.ab fl fl.length i;exact⟨by simp only[uH];omega,by simp only[uH];omega,ho.2.1,ho.2.2.1,ho.2.2.2.1,ho.2.2.2.2.1⟩
theorem yp.bad(c:CV)(hk:bl c=true)(n:Nat):yp c n bV:=by
  have hd:=kU hk;have ti:dG=1099511627776:=rfl;exact⟨by simp[bV],by simp[bV],by simp[bV],by simp only[bV];omega,by simp[bV],by simp only[bV];omega⟩
theorem NC{R:aI->Bool}{l:List aI}{i:Nat}{x:aI}(h:(cx R l)[i]? =some x): ∃y,l[i]? =some y/\x=lC R y:=by
  rw[cx,amx,anH]at h;obtain⟨y,hy,rfl⟩:=h;exact⟨y,hy,rfl⟩
theorem WJ{R:aI->Bool}{y:aI}(h:(lC R y).bad=false):lC R y=y/\y.bad=false/\R y=true:=by
  unfold lC at h⊢;split at h
  ·cases h
  ·rename_i hn
   rw[if_neg hn];refine⟨rfl,h,?_⟩
   cases hR:R y with
   |true=>rfl
   |false=>exact absurd (.inr hR) hn
theorem AI{p:Int}{x:aI}(h:rI p x=true):x.bad=false/\x.used<p:=by
  simpa[rI]using h
theorem wu{x:aI}(h:rJ x=true):x.bad=false/\x.live=0/\0<x.used:=by
  simpa[rJ,and_assoc]using h
theorem Dq{R:aI→Bool}{l:List aI}{p:Int}{dv:aI→Bool}{os:List (aI→aI→Int)}(hr: ∀x,dv x=true→x.bad=false)(h:(gH (cx R l) p dv os).2=true):
    ∃x,l[(gH (cx R l) p dv os).1.toNat]? =some x/\x.bad=false/\R x=true/\dv x=true/\0<=(gH (cx R l) p dv os).1/\(gH (cx R l) p dv os).1<l.length:=by
  obtain⟨h1,h2,h3,h4⟩:=Dh h;rw[Dk]at h3;have hi:(cx R l)[(gH (cx R l) p dv os).1.toNat]? =some ((cx R l).getD (gH (cx R l) p dv os).1.toNat hY):=jZ (by rw[Dk];omega);obtain⟨y,hy,he⟩:=NC hi;rw[he]at h4;obtain⟨k1,k2,k3⟩:=WJ (hr _ h4);rw[k1]at h4;exact⟨y,hy,k2,k3,h4,h2,h3⟩
def wv(x:aI):Bool:=decide (0<x.live)
def jM(x:aI):Bool:=decide (x.live=0)
def pA(l:List aI):Nat:=(l.filter fun x=> !x.bad&&decide (x.live=0)).length
def oH(c:CV)(fl:List Int):Int×Bool:=fM (cx wv (aT c fl)) c.ab
def nh(c:CV)(fl:List Int):Int×Bool:=fM (cx jM (aT c fl)) c.ab
def oI(c:CV)(fl:List Int):Int:=(gx (cx jM (aT c fl)) c.ab).1
def bG(c:CV)(fl:List Int)(bt:Bool):CV×Int×Int:=
  if(oH c fl).2=true then(c,(oH c fl).1+2,0)
  else if pA (aT c fl)=0\/(pA (aT c fl)=1/\bt=false)then(c,0,5)
  else if(nh c fl).2=true then(c,(nh c fl).1+2,0)
  else((dO c (oI c fl+2)).1,oI c fl+2,(dO c (oI c fl+2)).2)
theorem WK{l:List aI}{i:Nat}{x:aI}(h:l[i]? =some x):((l.take (i+1)).filter fun z=> !z.bad&&decide (z.live=0)).length=((l.take i).filter fun z=> !z.bad&&decide (z.live=0)).length+(if x.bad=false/\x.live=0 then 1 else 0):=by
  rw[amq,h,aom,adr];congr 1;simp only[aoH,aoa,aoE];split<;>simp_all
theorem WL(l:List aI):(l.filter fun z=> !z.bad&&decide (z.live=0)).length<=l.length:=aos _ _
theorem ND{c:CV}{fl:List Int}(hk:bl c=true)(h2:3<=c.blocks.length)(hi:pA (aT c fl)≠0)(hb: ¬(nh c fl).2=true):0<=oI c fl/\oI c fl<(c.blocks.length:Int) -2/\(aN c (oI c fl+2)).bad=false:=by
  have hd:=kU hk;have dY:=qp c fl;have hw:oE (cx jM (aT c fl)) c.ab=true:=AD.2 ⟨by rw[Dk];omega,by rw[Dk];omega,by omega,by omega,fun x hx=>by
    obtain⟨i,hi⟩:=am9 hx;obtain⟨y,hy,rfl⟩:=NC hi;have t:=Dp hk (amm hy);have ti:dG=1099511627776:=rfl;unfold lC;split
    ·exact yk.2 (by simp only[bV];omega)
    ·rename_i hn
     have hl:y.live=0:=by
        cases hR:jM y with
        |true=>simpa[jM]using hR
        |false=>exact absurd (.inr hR) hn
     exact yk.2 ⟨by omega,by have:=t.Dm;omega,t.Dn,t.WH,t.WI⟩⟩
  have rN:(nh c fl).2=false:=by simpa using hb
  have WM:=Nk hw (show(gH _ _ _ _).2=false from rN);have wx:0<((aT c fl).filter fun x=> !x.bad&&decide (x.live=0)).length:=by rw[pA]at hi;omega
  obtain⟨x,hx⟩:=List.exists_mem_of_length_pos wx;obtain⟨qq,pz⟩:=anV.1 hx;simp only[alM,anS,decide_eq_true_eq]at pz;have yq:lC jM x=x:=by
    unfold lC;rw[if_neg];rintro(g|g)
    ·rw[pz.1]at g;cases g
    ·rw[show jM x=true by simp[jM,pz.2]]at g;cases g
  have tj:x∈cx jM (aT c fl):=by
    rw[←yq];exact am5 qq
  have NF:=WM x tj;have t:=Dp hk qq;have WN:rJ x=true:=by
    have: ¬x.used<c.ab:=fun h=>by
      rw[rI,pz.1,decide_eq_true h]at NF;cases NF
    simp only[rJ,pz.1,Bool.not_false,an9,alM,decide_eq_true_eq];omega
  have hf:(gx (cx jM (aT c fl)) c.ab).2=true:=by
    cases hq:(gx (cx jM (aT c fl)) c.ab).2 with
    |true=>rfl
    |false=>have:=Nk hw hq x tj;rw[WN]at this;cases this
  obtain⟨y,hy,k1,_,_,k4,k5⟩:=Dq (fun x h=>(wu h).1) hf;have pq:=Dl hy;change 0<=oI c fl at k4;change oI c fl<_ at k5;refine⟨k4,by omega,?_⟩;rw[←k1,pq];congr 2;change _=((oI c fl).toNat:Int)+2;omega
theorem NG{c:CV}{fl:List Int}(h:(oH c fl).2=true):0<=(oH c fl).1/\(oH c fl).1<((c.blocks.length -2:Nat):Int)/\(aN c ((oH c fl).1+2)).bad=false:=by
  obtain⟨y,hy,k1,_,_,k4,k5⟩:=Dq (fun x h=>(AI h).1) h;have pq:=Dl hy;rw[qp]at k5;refine⟨k4,k5,?_⟩;rw[←k1,pq];congr 2;change _=((oH c fl).1.toNat:Int)+2;change 0<=(oH c fl).1 at k4;omega
theorem NH{c:CV}{fl:List Int}(h:(nh c fl).2=true):0<=(nh c fl).1/\(nh c fl).1<((c.blocks.length -2:Nat):Int)/\(aN c ((nh c fl).1+2)).bad=false:=by
  obtain⟨y,hy,k1,_,_,k4,k5⟩:=Dq (fun x h=>(AI h).1) h;have pq:=Dl hy;rw[qp]at k5;refine⟨k4,k5,?_⟩;rw[←k1,pq];congr 2;change _=((nh c fl).1.toNat:Int)+2;change 0<=(nh c fl).1 at k4;omega
theorem WO{c:CV}{b:Int}(h:eG c b=0):s9 c b=true/\c.off=false/\(aN c b).bad=false/\(bS c).2=false/\jo c b=uC c b:=by
  have h0:=h;rw[eG]at h
  by_cases h1:s9 c b=true
  ·rw[if_pos h1]at h
   by_cases h2:c.off=true
   ·rw[if_pos h2]at h;cases h
   ·rw[if_neg h2]at h
    by_cases h3:(aN c b).bad=true
    ·rw[if_pos h3]at h;cases h
    ·rw[if_neg h3]at h
     by_cases h4:(bS c).2=true
     ·rw[if_pos h4,nR]at h
      split at h<;>cases h
     ·refine⟨h1,by simpa using h2,by simpa using h3,by simpa using h4,?_⟩
      rw[jo,l5,h0,if_neg (by decide),mV,if_pos ⟨h1,by simpa using h2,by simpa using h3⟩]
  ·rw[if_neg h1]at h;cases h
theorem NI{c:CV}{b:Int}(h:eG c b=0):(aN (jo c b) b).bad=false:=by
  obtain⟨h1,h2,h3,h4,h5⟩:=WO h;rw[h5,uC,Hf (xU.1 h1).1];exact h3
theorem Dr: ∀(n:Nat) {c:CV} {b:Int},(iI n c b).2=0->(aN (iI n c b).1 b).bad=false
  |0,c,b,h=>NI h
  |n+1,c,b,h=>by
   rw[iI]at h⊢
   by_cases h0:cm c b (jq c)≠0
   ·rw[if_pos h0]at h;exact absurd h h0
   ·rw[if_neg h0]at h⊢;exact Dr n h
theorem NJ{c:CV}{fl:List Int}{bt:Bool}(hk:bl c=true)(h2:3≤c.blocks.length):bl (bG c fl bt).1=true∧eO c (bG c fl bt).1∧c.ops≤(bG c fl bt).1.ops∧
    ((bG c fl bt).2.2=0->2<=(bG c fl bt).2.1/\(bG c fl bt).2.1<c.blocks.length/\(aN (bG c fl bt).1 (bG c fl bt).2.1).bad=false)/\((bG c fl bt).2.2=9->c.ops<(bG c fl bt).1.ops):=by
  rw[bG]
  by_cases h1:(oH c fl).2=true
  ·rw[if_pos h1]
   have:=NG h1;exact⟨hk, .gy c,ann _,fun _=>⟨by simp only;omega,by simp only;omega,this.2.2⟩,fun h=>absurd (show(0:Int)=9 from h) (by decide)⟩
  ·rw[if_neg h1]
   by_cases h3:pA (aT c fl)=0\/(pA (aT c fl)=1/\bt=false)
   ·rw[if_pos h3]
    exact⟨hk, .gy c,ann _,fun h=>absurd (show(5:Int)=0 from h) (by decide),fun h=>absurd (show(5:Int)=9 from h) (by decide)⟩
   ·rw[if_neg h3]
    by_cases h4:(nh c fl).2=true
    ·rw[if_pos h4]
     have:=NH h4;exact⟨hk, .gy c,ann _,fun _=>⟨by simp only;omega,by simp only;omega,this.2.2⟩,fun h=>absurd (show(0:Int)=9 from h) (by decide)⟩
    ·rw[if_neg h4]
     obtain⟨d1,d2,d3⟩:=ND hk h2 (fun e=>h3 (.inl e)) h4;have hc:=AE (oI c fl+2) hk;exact⟨hc.1,hc.2,yo _ _ _,fun h=>⟨by simp only;omega,by simp only;omega,Dr _ h⟩,fun h=>Dj d3 (.inl h)⟩
def jN:Nat->CV->List Int->Bool->List UInt8->CV×Int×Int
  |0,c,_,_,_=>(c,0,0)
  |n+1,c,fl,bt,b=>
   if(bG c fl bt).2.2=0 then
      (if cm (bG c fl bt).1 (bG c fl bt).2.1 b=0 then(dh (bG c fl bt).1 (bG c fl bt).2.1 b,(bG c fl bt).2.1*c.ab+(aN (bG c fl bt).1 (bG c fl bt).2.1).used+1,0)
       else if cm (bG c fl bt).1 (bG c fl bt).2.1 b≠9 then(dh (bG c fl bt).1 (bG c fl bt).2.1 b,0,cm (bG c fl bt).1 (bG c fl bt).2.1 b)
       else jN n (dh (bG c fl bt).1 (bG c fl bt).2.1 b) fl bt b)
   else if(bG c fl bt).2.2≠9 then((bG c fl bt).1,0,(bG c fl bt).2.2)
   else jN n (bG c fl bt).1 fl bt b
def dw(c:CV)(fl:List Int)(bt:Bool)(p:PV):CV×Int×Int:=
  if(dX p c.size).2≠0 then(c,0,(dX p c.size).2)else jN ((dG -c.ops).toNat+1) c fl bt (dX p c.size).1
theorem uL{c:CV}(h:bl c=true):c.ops<=dG:=(eB.1 h).2.2.1
theorem Hh: ∀(n:Nat) {c:CV} {fl:List Int} {bt:Bool} {b:List UInt8},bl c=true→3≤c.blocks.length→(dG -c.ops).toNat<n→
    bl (jN n c fl bt b).1=true/\eO c (jN n c fl bt b).1/\c.ops<=(jN n c fl bt b).1.ops/\((jN n c fl bt b).2.2=0->1<=(jN n c fl bt b).2.1/\2<=((jN n c fl bt b).2.1 -1)/c.ab/\((jN n c fl bt b).2.1 -1)/c.ab<c.blocks.length)
  |0,c,fl,bt,b,_,_,hn=>by omega
  |n+1,c,fl,bt,b,hk,h2,hn=>by
   obtain⟨f1,f2,f3,f4,f5⟩:=NJ (fl:=fl) (bt:=bt) hk h2;have hd:=kU hk;rw[jN]
   by_cases h0:(bG c fl bt).2.2=0
   ·rw[if_pos h0]
    obtain⟨g1,g2,g3⟩:=f4 h0
    by_cases h1:cm (bG c fl bt).1 (bG c fl bt).2.1 b=0
    ·rw[if_pos h1]
     have hl:=f2.trans (ng (bG c fl bt).1 (bG c fl bt).2.1 b);have hp:=qm.1 (yn h1).1;rw[f2.ab]at hp;have hu:0<=(aN (bG c fl bt).1 (bG c fl bt).2.1).used:=hp.2.1;have Hi:=hp.2.2.1
     have hq:((bG c fl bt).2.1*c.ab+(aN (bG c fl bt).1 (bG c fl bt).2.1).used+1 -1)/c.ab=(bG c fl bt).2.1:=by
          rw[Int.add_sub_cancel,Int.add_comm,Int.add_mul_ediv_right _ _ (by omega),Int.ediv_eq_zero_of_lt hu Hi,Int.zero_add]
     refine⟨l6 f1 _ _,hl,?_,fun _=>⟨?_,by simp only;rw[hq];exact g1,by simp only;rw[hq];exact g2⟩⟩
     ·have:=wo (bG c fl bt).1 (bG c fl bt).2.1 b;simp only;omega
     ·have:0<=(bG c fl bt).2.1*c.ab:=aoM (by omega) (by omega)
      simp only;omega
    ·rw[if_neg h1]
     by_cases h9:cm (bG c fl bt).1 (bG c fl bt).2.1 b≠9
     ·rw[if_pos h9]
      exact⟨l6 f1 _ _,f2.trans (ng _ _ _),by have:=wo (bG c fl bt).1 (bG c fl bt).2.1 b;simp only;omega,fun h=>absurd h h1⟩
     ·rw[if_neg h9]
      have ho:=uK g3 (p:=b) (.inl (by simpa using h9));have cd:=l6 f1 (bG c fl bt).2.1 b;have hl:=f2.trans (ng (bG c fl bt).1 (bG c fl bt).2.1 b);have hle:=uL cd;have:=Hh n (fl:=fl) (bt:=bt) (b:=b) cd (by rw[hl.len];exact h2) (by omega);refine⟨this.1,hl.trans this.2.1,by omega,fun h=>?_⟩;have g:=this.2.2.2 h;rw[hl.ab,hl.len]at g;exact g
   ·rw[if_neg h0]
    by_cases h9:(bG c fl bt).2.2≠9
    ·rw[if_pos h9]
     exact⟨f1,f2,f3,fun h=>absurd h h0⟩
    ·rw[if_neg h9]
     have ho:=f5 (by simpa using h9);have hle:=uL f1;have:=Hh n (fl:=fl) (bt:=bt) (b:=b) f1 (by rw[f2.len];exact h2) (by omega);refine⟨this.1,f2.trans this.2.1,by omega,fun h=>?_⟩;have g:=this.2.2.2 h;rw[f2.ab,f2.len]at g;exact g
theorem NK{c:CV}{fl:List Int}{bt:Bool}{p:PV}(hk:bl c=true)(h2:3≤c.blocks.length):
    bl (dw c fl bt p).1=true/\eO c (dw c fl bt p).1/\c.ops<=(dw c fl bt p).1.ops/\((dw c fl bt p).2.2=0->1<=(dw c fl bt p).2.1/\2<=((dw c fl bt p).2.1 -1)/c.ab/\((dw c fl bt p).2.1 -1)/c.ab<c.blocks.length):=by
  rw[dw];split
  ·rename_i h;exact⟨hk, .gy c,ann _,fun h'=>absurd h' h⟩
  ·exact Hh _ hk h2 (by omega)
def qt(p:Int)(x:aI):Int:=if x.live=0/\p -x.used=0 then p else p -x.used
def wy(p:Int)(s:Int×Int)(x:aI):Int×Int:=if x.bad=true then s else(s.1+qt p x,if x.live=0 then max s.2 (qt p x)else s.2)
def eP(p:Int)(l:List aI):Int×Int:=l.foldl (wy p) (0,0)
def oJ(c:CV)(fl:List Int):Int×Int:=((eP c.ab (aT c fl)).1 -(eP c.ab (aT c fl)).2,(eP c.ab (aT c fl)).1)
theorem NL{p:Int}{l:List aI}{i:Nat}{x:aI}(h:l[i]? =some x):eP p (l.take (i+1))=wy p (eP p (l.take i)) x:=by
  rw[eP,amq,h];simp[eP]
theorem WQ{c:CV}{n:Nat}{x:aI}(h:yp c n x)(hk:bl c=true):0<=qt c.ab x/\qt c.ab x<=c.ab:=by
  have hd:=kU hk;have:=h.Dm;have:=h.Dn;rw[qt];split<;>omega
theorem NM{c:CV}{n:Nat}(hk:bl c=true)(l:List aI)(h: ∀x∈l,yp c n x): ∀i,i<=l.length->0<=(eP c.ab (l.take i)).1/\(eP c.ab (l.take i)).1<=16*(i:Int)/\0<=(eP c.ab (l.take i)).2/\(eP c.ab (l.take i)).2<=16
  |0,_=>by simp[eP]
  |i+1,hi=>by
   obtain⟨x,hx⟩:=get_some (xs:=l) (i:=i) (by omega);have ih:=NM hk l h i (by omega);have hr:=WQ (h x (amm hx)) hk;have hd:=kU hk;rw[NL hx,wy];split
   ·omega
   ·refine⟨by simp only;omega,by simp only;omega,?_,?_⟩
    ·simp only;split<;>omega
    ·simp only;split<;>omega
structure dn(x:WV):Prop where
 ai:bl x.v.ai=true
 len:4<=(x.v.ai.blocks.length:Int)
 ab:2<=x.v.ai.ab
 size:24<=x.v.ai.size
 last:x.v.last=0\/x.v.last=1
 gen:x.v.gen<281474976710656
 tk:gV x.v.ai x.v.at_
 tl:x.v.at_.length<=64
theorem dn.on{x:WV}(h:dn x){c:CV}(hk:bl c=true)(hl:eO x.v.ai c):dn (x.on c):=
 ⟨hk,by simp only[WV.on];rw[hl.len];exact h.len,by simp only[WV.on];rw[hl.ab];exact h.ab,by simp only[WV.on];rw[hl.size];exact h.size,h.last,h.gen,h.tk.jL hl,h.tl⟩
theorem dn.tm{x:WV}(h:dn x):4<=x.v.ai.blocks.length:=by have:=h.len;omega
def bN(c:CV)(last:Int):CV×Int×Int:=
 if 0<fU c last then(c,last,0)
 else if 0<fU c (1 -last)then(c,1 -last,0)
 else if(aN c (1 -last)).bad=true then(c,0,9)
 else(jo c (1 -last),1 -last,eG c (1 -last))
theorem NN{c:CV}{b:Int}(h:0<fU c b):(aN c b).bad=false:=by
 rw[fU]at h;split at h
 ·
  omega
 rename_i hn;simpa using hn
theorem NO{c:CV}{last:Int}(hk:bl c=true)(hl:last=0\/last=1):bl (bN c last).1=true/\eO c (bN c last).1/\c.ops<=(bN c last).1.ops/\
  ((bN c last).2.2=0->((bN c last).2.1=0\/(bN c last).2.1=1)/\(aN (bN c last).1 (bN c last).2.1).bad=false):=by
 rw[bN]
 by_cases h1:0<fU c last
 ·
  rw[if_pos h1];exact⟨hk, .gy c,ann _,fun _=>⟨hl,NN h1⟩⟩
 ·
  rw[if_neg h1]
  by_cases h2:0<fU c (1 -last)
  ·
   rw[if_pos h2];exact⟨hk, .gy c,ann _,fun _=>⟨by simp only;omega,NN h2⟩⟩
  ·
   rw[if_neg h2]
   by_cases h3:(aN c (1 -last)).bad=true
   ·
    rw[if_pos h3];exact⟨hk, .gy c,ann _,fun h=>absurd (show(9:Int)=0 from h) (by decide)⟩
   ·
    rw[if_neg h3];exact⟨Hc hk _,He _ _,Nt _ _,fun h=>⟨by simp only;omega,NI h⟩⟩
def ni:Nat->WV->List Int->List UInt8->WV×Int
 |0,x,_,_=>(x,0)
 |n+1,x,a,b=>
  if(bN x.v.ai x.v.last).2.2≠0 then(x.on (bN x.v.ai x.v.last).1,(bN x.v.ai x.v.last).2.2)
  else if cm (bN x.v.ai x.v.last).1 (bN x.v.ai x.v.last).2.1 b=0 then
   (⟨⟨dh (bN x.v.ai x.v.last).1 (bN x.v.ai x.v.last).2.1 b,a,x.v.gen+1,if nS (dh (bN x.v.ai x.v.last).1 (bN x.v.ai x.v.last).2.1 b) 1=x.v.gen+1 then 1 else(bN x.v.ai x.v.last).2.1⟩,x.beyond⟩,0)
  else if cm (bN x.v.ai x.v.last).1 (bN x.v.ai x.v.last).2.1 b≠9 then
   (x.on (dh (bN x.v.ai x.v.last).1 (bN x.v.ai x.v.last).2.1 b),cm (bN x.v.ai x.v.last).1 (bN x.v.ai x.v.last).2.1 b)
  else ni n (x.on (dh (bN x.v.ai x.v.last).1 (bN x.v.ai x.v.last).2.1 b)) a b
def ia(x:WV)(a:List Int):WV×Int:=
 if(df ⟨x.v.gen+1,a⟩ x.v.ai.size).2≠0 then(x,(df ⟨x.v.gen+1,a⟩ x.v.ai.size).2)
 else ni ((dG -x.v.ai.ops).toNat+1) x a (df ⟨x.v.gen+1,a⟩ x.v.ai.size).1
structure iu(x y:WV):Prop where
 ok:dn y
 jL:eO x.v.ai y.v.ai
 ops:x.v.ai.ops<=y.v.ai.ops
 yr:y.v.at_.length=x.v.at_.length
theorem iu.gy{x:WV}(h:dn x):iu x x:=⟨h, .gy _,ann _,rfl⟩
theorem iu.trans{x y z:WV}(h:iu x y)(g:iu y z):iu x z:=⟨g.ok,h.jL.trans g.jL,Int.le_trans h.ops g.ops,g.yr.trans h.yr⟩
theorem iu.on{x:WV}(h:dn x){c:CV}(hk:bl c=true)(hl:eO x.v.ai c)(ho:x.v.ai.ops<=c.ops):iu x (x.on c):=⟨h.on hk hl,hl,ho,rfl⟩
theorem WR{r:RV}{n:Int}(h:(df r n).2=0):r.gen<281474976710656/\(r.at_.length:Int)<=lB n:=by
 rw[df]at h;split at h
 ·
  rename_i hm;have:=Ax.1 hm;exact⟨this.2.1,this.2.2.1⟩
 cases h
theorem WS(n:Int):lB n<=64:=by rw[lB];omega
theorem NP: ∀(n:Nat) {x:WV} {a:List Int} {b:List UInt8},dn x->gV x.v.ai a->a.length=x.v.at_.length->x.v.gen+1<281474976710656->(dG -x.v.ai.ops).toNat<n->iu x (ni n x a b).1/\((ni n x a b).2=0->x.v.ai.ops<(ni n x a b).1.v.ai.ops)
 |0,x,a,b,_,_,_,_,hn=>by omega
 |n+1,x,a,b,hx,ha,hM,hg,hn=>by
  obtain⟨r1,r2,r3,r4⟩:=NO (c:=x.v.ai) (last:=x.v.last) hx.ai hx.last;rw[ni]
  by_cases h0:(bN x.v.ai x.v.last).2.2≠0
  ·
   rw[if_pos h0];exact⟨.on hx r1 r2 r3,fun h=>absurd h h0⟩
  rw[if_neg h0];obtain⟨r5,r6⟩:=r4 (by simpa using h0);have j8:=l6 r1 (bN x.v.ai x.v.last).2.1 b;have gA:=r2.trans (ng (bN x.v.ai x.v.last).1 (bN x.v.ai x.v.last).2.1 b);have kW:=wo (bN x.v.ai x.v.last).1 (bN x.v.ai x.v.last).2.1 b
  by_cases h1:cm (bN x.v.ai x.v.last).1 (bN x.v.ai x.v.last).2.1 b=0
  ·
   rw[if_pos h1];have ho:=uK r6 (p:=b) (.inr h1);have kf:=hx.on j8 gA;refine⟨⟨⟨j8,kf.len,kf.ab,kf.size,?_,hg,ha.jL gA,by simp only;rw[hM];exact hx.tl⟩,gA,by simp only;omega,hM⟩,fun _=>by simp only;omega⟩;simp only;split
   ·
    exact .inr rfl
   exact r5
  rw[if_neg h1]
  by_cases h9:cm (bN x.v.ai x.v.last).1 (bN x.v.ai x.v.last).2.1 b≠9
  ·
   rw[if_pos h9];exact⟨.on hx j8 gA (by omega),fun h=>absurd h h1⟩
  rw[if_neg h9];have ho:=uK r6 (p:=b) (.inl (by simpa using h9));have hle:=uL j8;have kf:=hx.on j8 gA;have:=NP n (x:=x.on (dh (bN x.v.ai x.v.last).1 (bN x.v.ai x.v.last).2.1 b)) (a:=a) (b:=b) kf (ha.jL gA) hM hg (by simp only[WV.on];omega);exact⟨(iu.on hx j8 gA (by omega)).trans this.1,fun h=>by
   have h2:(dh (bN x.v.ai x.v.last).1 (bN x.v.ai x.v.last).2.1 b).ops<_:=this.2 h;omega⟩
theorem NQ{x:WV}{a:List Int}(hx:dn x)(ha:gV x.v.ai a)(hM:a.length=x.v.at_.length):iu x (ia x a).1/\((ia x a).2=0->x.v.ai.ops<(ia x a).1.v.ai.ops):=by
 rw[ia];split
 ·
  rename_i h;exact⟨.gy hx,fun h'=>absurd h' h⟩
 rename_i h;have:=WR (r:=⟨x.v.gen+1,a⟩) (n:=x.v.ai.size) (by simpa using h);exact NP _ hx ha hM this.1 (by omega)
def lD:Nat->Int->CV->CV×Int
 |0,_,c=>(c,0)
 |n+1,b,c=>if AF c b=false then lD n (b+1) c
  else if eG c b≠0/\eG c b≠9 then(jo c b,eG c b)else lD n (b+1) (jo c b)
def nj(c:CV)(b:Int)(ids:Nat):List UInt8×Int:=df ⟨fC c b,List.replicate ids 0⟩ c.size
def Ds(c:CV)(b:Int)(ids:Nat)(g:Nat):VV:=⟨c,List.replicate ids 0,g,b⟩
def uM:Nat->Int->WV->Nat->WV×Int
 |0,_,x,_=>(x,9)
 |n+1,b,x,ids=>
  if(nj x.v.ai b ids).2≠0\/fU x.v.ai b=0 then uM n (b+1) x ids
  else if cm x.v.ai b (nj x.v.ai b ids).1=0 then(⟨Ds (dh x.v.ai b (nj x.v.ai b ids).1) b ids (fC x.v.ai b),x.beyond⟩,0)
  else if cm x.v.ai b (nj x.v.ai b ids).1≠9 then(x.on (dh x.v.ai b (nj x.v.ai b ids).1),cm x.v.ai b (nj x.v.ai b ids).1)
  else uM n (b+1) (x.on (dh x.v.ai b (nj x.v.ai b ids).1)) ids
def pB(x:WV)(ids:Nat):WV×Int:=
 if(lD x.v.ai.blocks.length 0 x.v.ai).2≠0 then(x.on (lD x.v.ai.blocks.length 0 x.v.ai).1,(lD x.v.ai.blocks.length 0 x.v.ai).2)
 else uM 2 0 (x.on (lD x.v.ai.blocks.length 0 x.v.ai).1) ids
def yt(s:Int×Int)(i:Nat)(x:aI):Int×Int:=
 if x.bad=true\/x.live=0\/dG<=x.bC then s else if s.2<x.used -x.live then((i:Int),x.used -x.live)else s
def jO(l:List aI):Nat->Int×Int
 |0=>(0,0)
 |k+1=>yt (jO l k) k (l.getD k hY)
def jP(l:List aI)(p:Int):Int×Bool:=if(wm l p).2=true then((wm l p).1,true)else((jO l l.length).1,decide (0<(jO l l.length).2))
theorem Hj(l:List aI): ∀k,0<=(jO l k).1/\0<=(jO l k).2/\(0<(jO l k).2->(jO l k).1<k)
 |0=>by simp[jO]
 |k+1=>by
  have:=Hj l k;rw[jO,yt];split
  ·
   exact⟨this.1,this.2.1,fun h=>by have:=this.2.2 h;omega⟩
  split
  ·
   exact⟨by simp only;omega,by simp only;omega,fun _=>by simp only;omega⟩
  exact⟨this.1,this.2.1,fun h=>by have:=this.2.2 h;omega⟩
theorem WT{l:List aI}{p:Int}(h:(jP l p).2=true):0<=(jP l p).1/\(jP l p).1<l.length:=by
 rw[jP]at h⊢;split
 ·
  rename_i hv;have:=Dh hv;exact⟨this.2.1,this.2.2.1⟩
 rename_i hv;rw[if_neg hv]at h;have:=Hj l l.length;exact⟨this.1,this.2.2 (by simpa using h)⟩
def wz(x:aI):Bool:=decide (x.used=0)
def wA(p:Int)(x:aI):Bool:=decide (x.used=p)
def wB(x:aI):Bool:=decide (x.bC<dG)
def rO(c:CV)(l:List aI):Int×Bool:=fM (cx wz l) c.ab
def nk(c:CV)(l:List aI):Int×Bool:=gx (cx (wA c.ab) l) c.ab
def nm(c:CV)(l:List aI):Int×Bool:=gx (cx wB l) c.ab
def cK(c:CV)(l:List aI):CV×Int×Int:=
 if(rO c l).2=true then(c,(rO c l).1+2,0)
 else if(nk c l).2=true then((dO c ((nk c l).1+2)).1,(nk c l).1+2,(dO c ((nk c l).1+2)).2)
 else if(nm c l).2=true then((dO c ((nm c l).1+2)).1,(nm c l).1+2,(dO c ((nm c l).1+2)).2)
 else(c,0,6)
def kx(c:CV)(l:List aI):Prop:=l.length=c.blocks.length -2/\ ∀(i:Nat) (x:aI),l[i]? =some x->x.bad=false->(aN c ((i:Int)+2)).bad=false
theorem Hk(c:CV)(fl:List Int):kx c (aT c fl):=⟨qp c fl,fun i x hx hb=>by rw[←Dl hx];exact hb⟩
theorem kx.set{c:CV}{l:List aI}(h:kx c l)(i:Nat):kx c (l.set i bV):=⟨by rw[anb];exact h.1,fun j x hx hb=>by
 rw[anD]at hx;split at hx
 ·
  split at hx
  ·
   obtain rfl:=amn hx;cases hb
  cases hx
 exact h.2 j x hx hb⟩
theorem uN{c:CV}{R:aI->Bool}{l:List aI}{dv:aI->Bool}{os:List (aI->aI->Int)}(ht:kx c l)(hr: ∀x,dv x=true->x.bad=false)(h:(gH (cx R l) c.ab dv os).2=true):
  0<=(gH (cx R l) c.ab dv os).1/\(gH (cx R l) c.ab dv os).1<((c.blocks.length -2:Nat):Int)/\(aN c ((gH (cx R l) c.ab dv os).1+2)).bad=false:=by
 obtain⟨x,hx,k1,_,_,k4,k5⟩:=Dq hr h;rw[ht.1]at k5;refine⟨k4,k5,?_⟩;have:=ht.2 _ x hx k1;rwa [show(((gH (cx R l) c.ab dv os).1.toNat:Nat):Int)=(gH (cx R l) c.ab dv os).1 by omega]at this
theorem Hl{c:CV}{l:List aI}(hk:bl c=true)(ht:kx c l):bl (cK c l).1=true/\eO c (cK c l).1/\c.ops<=(cK c l).1.ops/\
  ((cK c l).2.2=0->2<=(cK c l).2.1/\(cK c l).2.1<c.blocks.length/\(aN (cK c l).1 (cK c l).2.1).bad=false)/\((cK c l).2.2=9->c.ops<(cK c l).1.ops)/\((cK c l).2.2=6->(cK c l).1=c):=by
 rw[cK];have e6: ∀{b:Int},(dO c b).2≠6:=fun{b}=>by
  have: ∀n {c:CV},(iI n c b).2≠6:=by
   intro n
   induction n with
   |zero=>
    intro c;simp only[iI,eG];split
    ·
     split
     ·
      decide
     ·
      split
      ·
       decide
      ·
       split
       ·
        rw[nR];split<;>decide
       ·
        decide
    ·
     decide
   |succ n ih=>
    intro c;rw[iI];split
    ·
     simp only[cm,lA];split
     ·
      split
      ·
       decide
      ·
       split
       ·
        decide
       ·
        split
        ·
         rw[nR];split<;>decide
        ·
         decide
     ·
      decide
    ·
     exact ih
  exact this _
 by_cases h1:(rO c l).2=true
 ·
  rw[if_pos h1];have:=uN ht (fun x h=>(AI h).1) h1;change 0<=(rO c l).1/\(rO c l).1<_/\(aN c ((rO c l).1+2)).bad=false at this;exact⟨hk, .gy c,ann _,fun _=>⟨by simp only;omega,by simp only;omega,this.2.2⟩,fun h=>absurd (show(0:Int)=9 from h) (by decide),fun h=>absurd (show(0:Int)=6 from h) (by decide)⟩
 ·
  rw[if_neg h1]
  by_cases h2:(nk c l).2=true
  ·
   rw[if_pos h2];have:=uN ht (fun x h=>(wu h).1) h2;change 0<=(nk c l).1/\(nk c l).1<_/\(aN c ((nk c l).1+2)).bad=false at this;have hc:=AE ((nk c l).1+2) hk;exact⟨hc.1,hc.2,yo _ _ _,fun h=>⟨by simp only;omega,by simp only;omega,Dr _ h⟩,fun h=>Dj this.2.2 (.inl h),fun h=>absurd h e6⟩
  ·
   rw[if_neg h2]
   by_cases h3:(nm c l).2=true
   ·
    rw[if_pos h3];have:=uN ht (fun x h=>(wu h).1) h3;change 0<=(nm c l).1/\(nm c l).1<_/\(aN c ((nm c l).1+2)).bad=false at this;have hc:=AE ((nm c l).1+2) hk;exact⟨hc.1,hc.2,yo _ _ _,fun h=>⟨by simp only;omega,by simp only;omega,Dr _ h⟩,fun h=>Dj this.2.2 (.inl h),fun h=>absurd h e6⟩
   ·
    rw[if_neg h3];exact⟨hk, .gy c,ann _,fun h=>absurd (show(6:Int)=0 from h) (by decide),fun h=>absurd (show(6:Int)=9 from h) (by decide),fun _=>rfl⟩
def cy(c:CV)(a0 a:List Int)(src tgt:Int):Int×Bool:=
 if tgt<0 then(if(fM ((aT c (a0++a)).set (src -2).toNat bV) c.ab).2=true then((fM ((aT c (a0++a)).set (src -2).toNat bV) c.ab).1+2,true)else(0,false))else(tgt,true)
def fV(c:CV)(g id n:Int):List UInt8×Int:=dX ⟨1,id,g.toNat,kR c n⟩ c.size
structure MV where
 c:CV
 a:List Int
 e:Option Int
def dP(v:VV)(src tgt:Int):List Int->Nat->CV->List Int->MV
 |[],_,c,a=>⟨c,a,none⟩
 |n::r,id,c,a=>
  if n=0\/(n -1)/v.ai.ab≠src then dP v src tgt r (id+1) c a
  else if(cy c v.at_ a src tgt).2=false then⟨c,a,some 6⟩
  else if(fV c ((v.gen:Int)+1) id n).2≠0 then⟨c,a,some (fV c ((v.gen:Int)+1) id n).2⟩
  else if cm c (cy c v.at_ a src tgt).1 (fV c ((v.gen:Int)+1) id n).1≠0 then
   ⟨dh c (cy c v.at_ a src tgt).1 (fV c ((v.gen:Int)+1) id n).1,a,some (kT (cm c (cy c v.at_ a src tgt).1 (fV c ((v.gen:Int)+1) id n).1))⟩
  else dP v src tgt r (id+1) (dh c (cy c v.at_ a src tgt).1 (fV c ((v.gen:Int)+1) id n).1) (a.set id ((cy c v.at_ a src tgt).1*v.ai.ab+(aN c (cy c v.at_ a src tgt).1).used+1))
def di(x:WV)(src tgt:Int):WV×Bool×Int:=
 match(dP x.v src tgt x.v.at_ 0 x.v.ai x.v.at_).e with
 |some e=>(x.on (dP x.v src tgt x.v.at_ 0 x.v.ai x.v.at_).c,false,e)
 |none=>((ia (x.on (dP x.v src tgt x.v.at_ 0 x.v.ai x.v.at_).c) (dP x.v src tgt x.v.at_ 0 x.v.ai x.v.at_).a).1,decide ((ia (x.on (dP x.v src tgt x.v.at_ 0 x.v.ai x.v.at_).c) (dP x.v src tgt x.v.at_ 0 x.v.ai x.v.at_).a).2=0),(ia (x.on (dP x.v src tgt x.v.at_ 0 x.v.ai x.v.at_).c) (dP x.v src tgt x.v.at_ 0 x.v.ai x.v.at_).a).2)
theorem Hm{x:WV}{src tgt:Int}{c:CV}{a:List Int}{e:Int}(h:dP x.v src tgt x.v.at_ 0 x.v.ai x.v.at_=⟨c,a,some e⟩):di x src tgt=(x.on c,false,e):=by
 rw[di,h]
theorem WU{x:WV}{src tgt:Int}{c:CV}{a:List Int}(h:dP x.v src tgt x.v.at_ 0 x.v.ai x.v.at_=⟨c,a,none⟩):di x src tgt=((ia (x.on c) a).1,decide ((ia (x.on c) a).2=0),(ia (x.on c) a).2):=by
 rw[di,h]
theorem WW{c:CV}{a0 a:List Int}{src tgt:Int}(h:(cy c a0 a src tgt).2=true)(ht:0<=tgt->2<=tgt/\tgt<c.blocks.length/\(aN c tgt).bad=false):
  2<=(cy c a0 a src tgt).1/\(cy c a0 a src tgt).1<c.blocks.length/\(aN c (cy c a0 a src tgt).1).bad=false:=by
 rw[cy]at h⊢
 by_cases h1:tgt<0
 ·
  rw[if_pos h1]at h⊢
  by_cases h2:(fM ((aT c (a0++a)).set (src -2).toNat bV) c.ab).2=true
  ·
   rw[if_pos h2];have hT:=(Hk c (a0++a)).set (src -2).toNat;obtain⟨k1,k2,k3,k4⟩:=Dh h2;change 0<=(fM ((aT c (a0++a)).set (src -2).toNat bV) c.ab).1 at k2;change(fM ((aT c (a0++a)).set (src -2).toNat bV) c.ab).1<_ at k3;change rI _ (List.getD _ (fM ((aT c (a0++a)).set (src -2).toNat bV) c.ab).1.toNat _)=true at k4;rw[hT.1]at k3;have hi:((aT c (a0++a)).set (src -2).toNat bV)[(fM ((aT c (a0++a)).set (src -2).toNat bV) c.ab).1.toNat]? =some _:=jZ (d:=hY) (by rw[hT.1];omega);have:=hT.2 _ _ hi (AI k4).1;rw[show(((fM ((aT c (a0++a)).set (src -2).toNat bV) c.ab).1.toNat:Nat):Int)=(fM ((aT c (a0++a)).set (src -2).toNat bV) c.ab).1 by omega]at this;exact⟨by simp only;omega,by simp only;omega,this⟩
  ·
   rw[if_neg h2]at h;cases h
 ·
  rw[if_neg h1];exact ht (by omega)
theorem Dt(c:CV)(b g:Int)(p:List UInt8):lA c b g p=0\/lA c b g p=1\/lA c b g p=7\/lA c b g p=9:=by
 rw[lA];split
 ·
  split
  ·
   omega
  split
  ·
   omega
  split
  ·
   rw[nR];split<;>omega
  omega
 omega
theorem Hn(p:PV)(n:Int):(dX p n).2=0\/(dX p n).2=1:=by
 rw[dX];split<;>simp
theorem NR{c:CV}{b:Int}{p:List UInt8}(h:cm c b p=0)(b':Int):(aN (dh c b p) b').bad=(aN c b').bad:=by
 obtain⟨h1,h2,h3,h4,h5⟩:=yn h;have hh:=(qm.1 h1).1;obtain⟨_,g2,g3⟩:=mS.1 hh;rw[h5,rA];simp only[aN,List.getD,anD]
 by_cases e:b.toNat=b'.toNat
 ·
  rw[if_pos e,if_pos (by omega),e];simp
 rw[if_neg e]
theorem Ho{v:VV}{src tgt:Int}: ∀(l:List Int) (id:Nat) {c:CV} {a:List Int},bl c=true->eO v.ai c->v.ai.ops<=c.ops->gV v.ai a->(0<=tgt->2<=tgt/\tgt<c.blocks.length/\(aN c tgt).bad=false)->
  bl (dP v src tgt l id c a).c=true/\eO v.ai (dP v src tgt l id c a).c/\c.ops<=(dP v src tgt l id c a).c.ops/\gV v.ai (dP v src tgt l id c a).a/\(dP v src tgt l id c a).a.length=a.length/\
   ((dP v src tgt l id c a).e=some 0->c.ops<(dP v src tgt l id c a).c.ops)/\((dP v src tgt l id c a).e=some 6-> ∀b,(aN (dP v src tgt l id c a).c b).bad=(aN c b).bad)
 |[],id,c,a,hk,hl,ho,ha,ht=>⟨hk,hl,ann _,ha,rfl,fun h=>by simp[dP]at h,fun h=>by simp[dP]at h⟩
 |n::r,id,c,a,hk,hl,ho,ha,ht=>by
  rw[dP]
  by_cases h1:n=0\/(n -1)/v.ai.ab≠src
  ·
   rw[if_pos h1];exact Ho r (id+1) hk hl ho ha ht
  ·
   rw[if_neg h1]
   by_cases h2:(cy c v.at_ a src tgt).2=false
   ·
    rw[if_pos h2];exact⟨hk,hl,ann _,ha,rfl,fun h=>by simp at h,fun _ _=>rfl⟩
   ·
    rw[if_neg h2];obtain⟨m1,m2,m3⟩:=WW (by simpa using h2) ht
    by_cases h3:(fV c ((v.gen:Int)+1) id n).2≠0
    ·
     rw[if_pos h3];have Hp:(fV c ((v.gen:Int)+1) id n).2=1:=(Hn _ _).resolve_left h3;exact⟨hk,hl,ann _,ha,rfl,fun h=>absurd (amn h) h3,fun h=>absurd (Hp.symm.trans (amn h)) (by decide)⟩
    ·
     rw[if_neg h3]
     by_cases h4:cm c (cy c v.at_ a src tgt).1 (fV c ((v.gen:Int)+1) id n).1≠0
     ·
      rw[if_pos h4];have fH:cm c (cy c v.at_ a src tgt).1 (fV c ((v.gen:Int)+1) id n).1=1\/cm c (cy c v.at_ a src tgt).1 (fV c ((v.gen:Int)+1) id n).1=7\/cm c (cy c v.at_ a src tgt).1 (fV c ((v.gen:Int)+1) id n).1=9:=(Dt _ _ _ _).resolve_left h4;refine⟨l6 hk _ _,hl.trans (ng _ _ _),wo _ _ _,ha,rfl,fun h=>?_,fun h=>?_⟩
      ·
       have h:=amn h;rw[kT]at h;split at h
       ·
        rename_i h9;have:=uK m3 (.inl h9);simp only;omega
       ·
        exact absurd h h4
      ·
       have h:=amn h;rw[kT]at h;split at h
       ·
        cases h
       ·
        omega
     ·
      rw[if_neg h4];have Du:cm c (cy c v.at_ a src tgt).1 (fV c ((v.gen:Int)+1) id n).1=0:=by simpa using h4
      have j8:=qm.1 (yn Du).1;have hd:=kU hk;have mW:=hl.trans (ng c (cy c v.at_ a src tgt).1 (fV c ((v.gen:Int)+1) id n).1);have eC:=uK m3 (p:=(fV c ((v.gen:Int)+1) id n).1) (.inr Du);have WX:v.ai.ab=c.ab:=hl.ab.symm;have ih:=Ho r (id+1) (src:=src) (tgt:=tgt) (l6 hk (cy c v.at_ a src tgt).1 (fV c ((v.gen:Int)+1) id n).1) mW (by omega) (a:=a.set id ((cy c v.at_ a src tgt).1*v.ai.ab+(aN c (cy c v.at_ a src tgt).1).used+1)) (fun y hy=>by
       rcases ani hy with hy|rfl
       ·
        exact ha y hy
       ·
        have hq:((cy c v.at_ a src tgt).1*v.ai.ab+(aN c (cy c v.at_ a src tgt).1).used+1 -1)/v.ai.ab=(cy c v.at_ a src tgt).1:=by
         rw[WX,Int.add_sub_cancel,Int.add_comm,Int.add_mul_ediv_right _ _ (by omega),Int.ediv_eq_zero_of_lt j8.2.1 j8.2.2.1,Int.zero_add]
        have h0:0<=(cy c v.at_ a src tgt).1*v.ai.ab:=aoM (by omega) (by omega);have:=j8.2.1;exact .inr ⟨by omega,by rw[hq];exact m1,by rw[hq,←hl.len];exact m2⟩) (fun h=>by
       have:=ht h;rw[(ng c _ _).len,NR Du];exact this)
      obtain⟨i1,i2,i3,i4,i5,i6,i7⟩:=ih;refine⟨i1,i2,by omega,i4,by rw[i5,anb],fun h=>by have:=i6 h;omega,fun h b=>?_⟩;rw[i7 h b,NR Du]
theorem NT(c:CV)(b:Int):eG c b=0\/eG c b=1\/eG c b=7\/eG c b=9:=by
 rw[eG];split
 ·
  split
  ·
   omega
  split
  ·
   omega
  split
  ·
   rw[nR];split<;>omega
  omega
 omega
theorem WY(c:CV)(l:Int):(bN c l).2.2=0\/(bN c l).2.2=1\/(bN c l).2.2=7\/(bN c l).2.2=9:=by
 rw[bN];split
 ·
  exact .inl rfl
 split
 ·
  exact .inl rfl
 split
 ·
  exact .inr (.inr (.inr rfl))
 exact NT _ _
theorem NU: ∀(n:Nat) (y:WV) (a:List Int) (b:List UInt8),(ni n y a b).2≠6
 |0,y,a,b=>by simp[ni]
 |n+1,y,a,b=>by
  rw[ni];split
  ·
   have:=WY y.v.ai y.v.last;simp only;omega
  split
  ·
   simp
  split
  ·
   have:=Dt (bN y.v.ai y.v.last).1 (bN y.v.ai y.v.last).2.1 (aN (bN y.v.ai y.v.last).1 (bN y.v.ai y.v.last).2.1).used b;simp only[cm];omega
  exact NU n _ _ _
theorem NV(y:WV)(a:List Int):(ia y a).2≠6:=by
 rw[ia];split
 ·
  rw[df];split
  ·
   have:=Hn ⟨2,max 0 ((a.length:Int) -1),y.v.gen+1,jl a⟩ y.v.ai.size;simp only;omega
  simp
 exact NU _ _ _ _
theorem Hq{x:WV}{src tgt:Int}(hx:dn x)(ht:0<=tgt->2<=tgt/\tgt<x.v.ai.blocks.length/\(aN x.v.ai tgt).bad=false):
  iu x (di x src tgt).1/\((di x src tgt).2.2=0->x.v.ai.ops<(di x src tgt).1.v.ai.ops)/\((di x src tgt).2.1=true->(di x src tgt).2.2=0)/\((di x src tgt).2.1=false/\(di x src tgt).2.2=6-> ∀b,(aN (di x src tgt).1.v.ai b).bad=(aN x.v.ai b).bad):=by
 obtain⟨h1,h2,h3,h4,h5,h6,h7⟩:=Ho x.v.at_ 0 (src:=src) hx.ai (.gy _) (ann _) hx.tk ht;rw[di];split
 ·
  rename_i e he;refine⟨.on hx h1 h2 h3,fun h=>h6 (by rw[he];exact congrArg some h),fun h=>absurd (show false=true from h) (by simp),fun h b=>h7 (by rw[he];exact congrArg some h.2) b⟩
 ·
  rename_i he;have kf:=hx.on h1 h2;have hw:=NQ kf (a:=(dP x.v src tgt x.v.at_ 0 x.v.ai x.v.at_).a) (h4.jL h2) h5;refine⟨(iu.on hx h1 h2 h3).trans hw.1,fun h=>?_,fun h=>by simpa using h,fun h=>?_⟩
  ·
   have g:(dP x.v src tgt x.v.at_ 0 x.v.ai x.v.at_).c.ops<_:=hw.2 h;simp only;omega
  ·
   exact absurd h.2 (NV _ _)
theorem NW: ∀(n:Nat) (c:CV) (b:Int),(iI n c b).2≠6
 |0,c,b=>by have:=NT c b;simp only[iI];omega
 |n+1,c,b=>by
  rw[iI];split
  ·
   have:=Dt c b (aN c b).used (jq c);simp only[cm];omega
  exact NW n _ _
theorem WZ(c:CV)(b:Int):(dO c b).2≠6:=NW _ _ _
def wC(c:CV)(l:List aI)(i:Int):Bool:=decide ((cK c (l.set i.toNat bV)).2.2=6)&&decide ((l.getD i.toNat hY).live<=Dg (l.set i.toNat bV) c.ab)
def c1(c:CV)(l:List aI)(i:Int):Int×Int:=if wC c l i=true then(-1,0)else(cK c (l.set i.toNat bV)).2
def iv(x:WV)(l:List aI)(i:Int):WV×Int:=
 if(c1 x.v.ai l i).2≠0 then(x.on (cK x.v.ai (l.set i.toNat bV)).1,kT (c1 x.v.ai l i).2)
 else if(di (x.on (cK x.v.ai (l.set i.toNat bV)).1) (i+2) (c1 x.v.ai l i).1).2.1=false\/(l.getD i.toNat hY).used=x.v.ai.ab then
  ((di (x.on (cK x.v.ai (l.set i.toNat bV)).1) (i+2) (c1 x.v.ai l i).1).1,(di (x.on (cK x.v.ai (l.set i.toNat bV)).1) (i+2) (c1 x.v.ai l i).1).2.2)
 else((di (x.on (cK x.v.ai (l.set i.toNat bV)).1) (i+2) (c1 x.v.ai l i).1).1.on (dO (di (x.on (cK x.v.ai (l.set i.toNat bV)).1) (i+2) (c1 x.v.ai l i).1).1.v.ai (i+2)).1,
  kT (dO (di (x.on (cK x.v.ai (l.set i.toNat bV)).1) (i+2) (c1 x.v.ai l i).1).1.v.ai (i+2)).2)
theorem NX{e:Int}(h:kT e=0):e=0\/e=9:=by
 rw[kT]at h;split at h
 ·
  exact .inr (by assumption)
 exact .inl h
theorem Hr{e:Int}(h:kT e=6):e=6:=by
 rw[kT]at h;split at h
 ·
  cases h
 exact h
theorem Hs{c:CV}{l:List aI}{i:Int}(hk:bl c=true)(ht:kx c l):(c1 c l i).2=0->0<=(c1 c l i).1->2<=(c1 c l i).1/\(c1 c l i).1<c.blocks.length/\(aN (cK c (l.set i.toNat bV)).1 (c1 c l i).1).bad=false:=by
 intro h h0;rw[c1]at h h0⊢;split at h
 ·
  rename_i ha;rw[if_pos ha]at h0;exact absurd (show(0:Int)<= -1 from h0) (by decide)
 rename_i ha;rw[if_neg ha];exact(Hl hk (ht.set i.toNat)).2.2.2.1 h
theorem W0{x:WV}{src tgt:Int}(hx:dn x)(ht:0<=tgt->2<=tgt/\tgt<x.v.ai.blocks.length/\(aN x.v.ai tgt).bad=false):dn (di x src tgt).1/\eO x.v.ai (di x src tgt).1.v.ai:=
 ⟨(Hq hx ht).1.ok,(Hq hx ht).1.jL⟩
theorem NY{x:WV}{l:List aI}{i:Int}(hx:dn x)(ht:kx x.v.ai l):
  iu x (iv x l i).1/\((iv x l i).2=0->x.v.ai.ops<(iv x l i).1.v.ai.ops)/\((iv x l i).2=6-> ∀b,(aN (iv x l i).1.v.ai b).bad=(aN x.v.ai b).bad):=by
 obtain⟨t1,t2,t3,t4,t5,t6⟩:=Hl hx.ai (ht.set i.toNat);have hn:=iu.on hx t1 t2 t3;rw[iv]
 by_cases h0:(c1 x.v.ai l i).2≠0
 ·
  rw[if_pos h0];have he:(c1 x.v.ai l i).2=(cK x.v.ai (l.set i.toNat bV)).2.2:=by
   rw[c1]at h0⊢;split at h0
   ·
    exact absurd rfl h0
   ·
    rename_i ha;rw[if_neg ha]
  refine⟨hn,fun h=>?_,fun h b=>?_⟩
  ·
   rcases NX h with g|g
   ·
    exact absurd g h0
   ·
    exact t5 (he▸g)
  ·
   have:=t6 (he▸Hr h);simp only[WV.on];rw[this]
 ·
  rw[if_neg h0];have sZ:(c1 x.v.ai l i).2=0:=by simpa using h0
  have hr:=Hs (i:=i) hx.ai ht sZ;obtain⟨m1,m2,m3,m4⟩:=Hq (x:=x.on (cK x.v.ai (l.set i.toNat bV)).1) (src:=i+2) (tgt:=(c1 x.v.ai l i).1) hn.ok (fun h=>by
   have:=hr h;exact⟨this.1,by simp only[WV.on];rw[t2.len];exact this.2.1,this.2.2⟩)
  have hb:(c1 x.v.ai l i).2=0->(cK x.v.ai (l.set i.toNat bV)).2.2=6->(cK x.v.ai (l.set i.toNat bV)).1=x.v.ai:=fun _ h=>t6 h
  by_cases h1:(di (x.on (cK x.v.ai (l.set i.toNat bV)).1) (i+2) (c1 x.v.ai l i).1).2.1=false\/(l.getD i.toNat hY).used=x.v.ai.ab
  ·
   rw[if_pos h1];refine⟨hn.trans m1,fun h=>?_,fun h b=>?_⟩
   ·
    have g:(cK x.v.ai (l.set i.toNat bV)).1.ops<_:=m2 h;simp only;omega
   ·
    have hf:(di (x.on (cK x.v.ai (l.set i.toNat bV)).1) (i+2) (c1 x.v.ai l i).1).2.1=false:=by
     cases hq:(di (x.on (cK x.v.ai (l.set i.toNat bV)).1) (i+2) (c1 x.v.ai l i).1).2.1 with
     |false=>rfl
     |true=>have:=m3 hq;exact absurd (this.symm.trans h) (by decide)
    rw[m4 ⟨hf,h⟩ b]
    by_cases ha:wC x.v.ai l i=true
    ·
     simp only[wC,alM,decide_eq_true_eq]at ha;simp only[WV.on];rw[t6 ha.1]
    ·
     exact absurd h (W1 (by
      have:(c1 x.v.ai l i).1=(cK x.v.ai (l.set i.toNat bV)).2.1:=by rw[c1,if_neg ha]
      have g:(cK x.v.ai (l.set i.toNat bV)).2.2=0:=by
       rw[c1,if_neg ha]at sZ;exact sZ
      have:=(t4 g).1;omega))
  ·
   rw[if_neg h1];have hm:(di (x.on (cK x.v.ai (l.set i.toNat bV)).1) (i+2) (c1 x.v.ai l i).1).2.1=true:=by
    cases hq:(di (x.on (cK x.v.ai (l.set i.toNat bV)).1) (i+2) (c1 x.v.ai l i).1).2.1 with
    |true=>rfl
    |false=>exact absurd (.inl hq) h1
   have hz:=m2 (m3 hm);have hc:=AE (i+2) m1.ok.ai;have ho:=yo (fU (di (x.on (cK x.v.ai (l.set i.toNat bV)).1) (i+2) (c1 x.v.ai l i).1).1.v.ai (i+2)).toNat (di (x.on (cK x.v.ai (l.set i.toNat bV)).1) (i+2) (c1 x.v.ai l i).1).1.v.ai (i+2);refine⟨(hn.trans m1).trans (.on m1.ok hc.1 hc.2 ho),fun _=>?_,fun h=>absurd (Hr h) (WZ _ _)⟩;have g:(cK x.v.ai (l.set i.toNat bV)).1.ops<_:=hz;have g2:(di (x.on (cK x.v.ai (l.set i.toNat bV)).1) (i+2) (c1 x.v.ai l i).1).1.v.ai.ops<=(dO (di (x.on (cK x.v.ai (l.set i.toNat bV)).1) (i+2) (c1 x.v.ai l i).1).1.v.ai (i+2)).1.ops:=ho;simp only[WV.on]at*;omega
where
 W1 {x:WV} {src tgt:Int} (h:0<=tgt):(di x src tgt).2.2≠6:=by
  have key: ∀(l:List Int) (id:Nat) (c:CV) (a:List Int),(dP x.v src tgt l id c a).e≠some 6:=by
   intro l
   induction l with
   |nil=>intro id c a;simp[dP]
   |cons n r ih=>
    intro id c a;rw[dP];split
    ·
     exact ih _ _ _
    split
    ·
     rename_i h2;rw[cy,if_neg (by omega)]at h2;cases h2
    split
    ·
     rename_i h3;have:=(Hn ⟨1,id,((x.v.gen:Int)+1).toNat,kR c n⟩ c.size).resolve_left h3;intro h;have h:=amn h;rw[fV]at h;omega
    split
    ·
     intro h;have h:=Hr (amn h);have:=Dt c (cy c x.v.at_ a src tgt).1 (aN c (cy c x.v.at_ a src tgt).1).used (fV c ((x.v.gen:Int)+1) id n).1;rw[cm]at h;omega
    exact ih _ _ _
  rw[di];split
  ·
   rename_i e he;intro h;exact key _ _ _ _ (by rw[he];exact congrArg some h)
  exact NV _ _
def pC(p:Int)(x:aI):Bool:=decide (x.used<p)&&decide (x.bC<dG)
def uO(c:CV)(l:List aI):Int×Bool:=gx (cx (pC c.ab) l) c.ab
def nn(x:WV)(l:List aI):WV×Int:=
 if(uO x.v.ai l).2=false then(x,6)else(x.on (dO x.v.ai ((uO x.v.ai l).1+2)).1,kT (dO x.v.ai ((uO x.v.ai l).1+2)).2)
def tn(x:WV):List aI:=aT x.v.ai x.v.at_
def yu(x:WV):Int×Bool:=jP (tn x) x.v.ai.ab
def fD(x:WV):WV×Int:=
 if(yu x).2=true/\AG x.v.gen=false then
  (if(iv x (tn x) (yu x).1).2≠6 then iv x (tn x) (yu x).1 else nn (iv x (tn x) (yu x).1).1 (tn x))
 else nn x (tn x)
theorem kx.jL{c d:CV}{l:List aI}(h:kx c l)(hl:eO c d)(hb: ∀b,(aN d b).bad=(aN c b).bad):kx d l:=⟨by rw[h.1,hl.len],fun i x hx pz=>by rw[hb];exact h.2 i x hx pz⟩
theorem NZ{x:WV}{l:List aI}(hx:dn x)(ht:kx x.v.ai l):iu x (nn x l).1/\((nn x l).2=0->x.v.ai.ops<(nn x l).1.v.ai.ops):=by
 rw[nn];split
 ·
  exact⟨.gy hx,fun h=>absurd (show(6:Int)=0 from h) (by decide)⟩
 rename_i h;have hd:=uN ht (fun x h=>(wu h).1) (show(uO x.v.ai l).2=true by simpa using h);change 0<=(uO x.v.ai l).1/\(uO x.v.ai l).1<_/\(aN x.v.ai ((uO x.v.ai l).1+2)).bad=false at hd;have hc:=AE ((uO x.v.ai l).1+2) hx.ai;exact⟨.on hx hc.1 hc.2 (yo _ _ _),fun h=>Dj hd.2.2 (NX h).symm⟩
theorem N1{x:WV}(hx:dn x):iu x (fD x).1/\((fD x).2=0->x.v.ai.ops<(fD x).1.v.ai.ops):=by
 have ht:kx x.v.ai (tn x):=Hk _ _;rw[fD];split
 ·
  obtain⟨r1,r2,r3⟩:=NY (i:=(yu x).1) hx ht;split
  ·
   exact⟨r1,r2⟩
  rename_i h6;have W2:(iv x (tn x) (yu x).1).2=6:=by simpa using h6
  have:=NZ r1.ok (ht.jL r1.jL (r3 W2));exact⟨r1.trans this.1,fun h=>by have:=this.2 h;have:=r1.ops;omega⟩
 exact NZ hx ht
def tr:Nat->WV->Int->WV×Int
 |0,x,_=>(x,0)
 |n+1,x,need=>
  if need<=(oJ x.v.ai x.v.at_).1 then(x,0)
  else if need<=(oJ x.v.ai x.v.at_).2/\wq x.v.ai x.v.last<2 then({x with beyond:=true},0)
  else if(fD x).2=0 then tr n (fD x).1 need
  else if(fD x).2≠6 then fD x
  else if need<=(oJ x.v.ai x.v.at_).2 then({(fD x).1 with beyond:=true},0)
  else((fD x).1,5)
def oL(x:WV)(need:Int):WV×Int:=tr ((dG -x.v.ai.ops).toNat+1) x need
theorem dn.by{x:WV}(h:dn x)(b:Bool):dn {x with beyond:=b}:=⟨h.ai,h.len,h.ab,h.size,h.last,h.gen,h.tk,h.tl⟩
theorem iu.by{x y:WV}(h:iu x y)(b:Bool):iu x {y with beyond:=b}:=⟨h.ok.by b,h.jL,h.ops,h.yr⟩
theorem N2: ∀(n:Nat) {x:WV} {need:Int},dn x->iu x (tr n x need).1
 |0,x,need,hx=> .gy hx
 |n+1,x,need,hx=>by
  have hc:=N1 hx;rw[tr];split
  ·
   exact .gy hx
  split
  ·
   exact(iu.gy hx).by true
  split
  ·
   exact hc.1.trans (N2 n hc.1.ok)
  split
  ·
   exact hc.1
  split
  ·
   exact hc.1.by true
  exact hc.1
theorem W3{x:WV}{need:Int}(hx:dn x):iu x (oL x need).1:=N2 _ hx
def bu(x:It):Int×List UInt8:=(x.id,x.body.xs)
def yw(l:List (Int×List UInt8)):Nat:=(l.filter fun x=>decide (0<x.2.length)).length
theorem W4{l:List (Int×List UInt8)}{i:Nat}{x:Int×List UInt8}(h:l[i]? =some x):((l.take (i+1)).filter fun x=>decide (0<x.2.length)).length=((l.take i).filter fun x=>decide (0<x.2.length)).length+(if 0<x.2.length then 1 else 0):=by
 rw[amq,h,aom,adr];congr 1;simp only[aoH,aoa,aoE];split<;>simp_all
def jr(v:VV)(x:Int×List UInt8):PV:=⟨1,x.1,v.gen+1,x.2⟩
def ma(v:VV)(bt:Bool):List (Int×List UInt8)->CV->List Int->CV×List Int×Int
 |[],c,a=>(c,a,0)
 |x::r,c,a=>
  if x.2.length=0 then ma v bt r c (a.set x.1.toNat 0)
  else if(dw c (v.at_++a) bt (jr v x)).2.2≠0 then((dw c (v.at_++a) bt (jr v x)).1,a,(dw c (v.at_++a) bt (jr v x)).2.2)
  else ma v bt r (dw c (v.at_++a) bt (jr v x)).1 (a.set x.1.toNat (dw c (v.at_++a) bt (jr v x)).2.1)
def ky(x:WV)(l:List (Int×List UInt8)):WV×Int:=oL {x with beyond:=false} (yw l)
def tt(x:WV)(l:List (Int×List UInt8)):CV×List Int×Int:=ma (ky x l).1.v (ky x l).1.beyond l (ky x l).1.v.ai (ky x l).1.v.at_
def ja(x:WV)(l:List (Int×List UInt8)):WV×Int:=
 if(ky x l).2≠0 then ky x l
 else if(tt x l).2.2≠0 then((ky x l).1.on (tt x l).1,(tt x l).2.2)
 else ia ((ky x l).1.on (tt x l).1) (tt x l).2.1
theorem Ht{v:VV}{bt:Bool}: ∀(l:List (Int×List UInt8)) {c:CV} {a:List Int},bl c=true->3<=c.blocks.length->gV c a->
  bl (ma v bt l c a).1=true/\eO c (ma v bt l c a).1/\c.ops<=(ma v bt l c a).1.ops/\gV c (ma v bt l c a).2.1/\(ma v bt l c a).2.1.length=a.length
 |[],c,a,hk,h2,ha=>⟨hk, .gy c,ann _,ha,rfl⟩
 |x::r,c,a,hk,h2,ha=>by
  rw[ma];split
  ·
   have:=Ht r (v:=v) (bt:=bt) hk h2 (a:=a.set x.1.toNat 0) (fun y hy=>by
    rcases ani hy with hy|rfl
    ·
     exact ha y hy
    ·
     exact .inl rfl)
   rwa [anb]at this
  ·
   obtain⟨p1,p2,p3,p4⟩:=NK (fl:=v.at_++a) (bt:=bt) (p:=jr v x) hk h2;split
   ·
    exact⟨p1,p2,p3,ha,rfl⟩
   ·
    rename_i h0;have p5:=p4 (by simpa using h0);have:=Ht r (v:=v) (bt:=bt) p1 (by rw[p2.len];exact h2) (a:=a.set x.1.toNat (dw c (v.at_++a) bt (jr v x)).2.1) (fun y hy=>by
     rw[p2.ab,p2.len];rcases ani hy with hy|rfl
     ·
      exact ha y hy
     ·
      exact .inr p5)
    obtain⟨i1,i2,i3,i4,i5⟩:=this;refine⟨i1,p2.trans i2,by omega,fun y hy=>?_,by rw[i5,anb]⟩;have:=i4 y hy;rwa [p2.ab,p2.len]at this
theorem N3{x:WV}{l:List (Int×List UInt8)}(hx:dn x):iu x (ky x l).1:=by
 have:=W3 (need:=yw l) (hx.by false);exact⟨this.ok,this.jL,this.ops,this.yr⟩
theorem W5{x:WV}{l:List (Int×List UInt8)}(hx:dn x):iu x (ja x l).1:=by
 have hs:=N3 (l:=l) hx;rw[ja];split
 ·
  exact hs
 have hl:=hs.ok.tm;obtain⟨i1,i2,i3,i4,i5⟩:=Ht (v:=(ky x l).1.v) (bt:=(ky x l).1.beyond) l hs.ok.ai (by omega) hs.ok.tk;have kf:=hs.trans (.on hs.ok i1 i2 i3);split
 ·
  exact kf
 exact kf.trans (NQ kf.ok (i4.jL i2) i5).1
def pD:Nat->WV->List (Int×List UInt8)->WV×Int
 |0,x,_=>(x,0)
 |n+1,x,l=>if(ja x l).2=5/\l8 x.v.ai<l8 (ja x l).1.v.ai then pD n (ja x l).1 l else ja x l
theorem W6(c:CV):l8 c<=c.blocks.length:=aos _ _
def uP(v:VV)(x:Int×List UInt8):Bool:=decide (0<=x.1)&&decide (x.1<(v.at_.length:Int))&&decide ((x.2.length:Int)<=fj v.ai.size)
def uQ(v:VV)(l:List (Int×List UInt8))(i:Nat):Bool:=uP v (l.getD i (0,[]))&& !((l.take i).map Prod.fst).contains (l.getD i (0,[])).1
def rP(v:VV)(l:List (Int×List UInt8)):Bool:=(List.range l.length).all (uQ v l)
theorem Hu{v:VV}{l:List (Int×List UInt8)}:rP v l=true↔ ∀i,i<l.length->uQ v l i=true:=by simp only[rP,amt,anc]
def rQ(l:List Int)(i:Nat):Int->Option Unit:=fun x=>if x∈l.take i then some ()else none
theorem N4{l:List Int}{i:Nat}{x:Int}:(rQ l i x).isSome=decide (x∈l.take i):=by
 unfold rQ;split<;>simp_all
theorem W7{l:List Int}:(fun _=>none)=rQ l 0:=by
 funext x;simp[rQ]
theorem W8{l:List Int}{i:Nat}{y:Int}(h:l[i]? =some y):(fun z=>if z=y then some ()else rQ l i z)=rQ l (i+1):=by
 funext x
 unfold rQ;rw[amq,h]
 by_cases hx:x=y
 ·
  subst hx;simp
 simp[hx]
def gI(v:VV)(l:List (Int×List UInt8)):VV×Int:=
 if ¬(py v=true/\v.gen<281474976710655/\rP v l=true)then(v,1)
 else if v.ai.off=true then(v,7)
 else((pD (v.ai.blocks.length+1) ⟨v,false⟩ l).1.v,(pD (v.ai.blocks.length+1) ⟨v,false⟩ l).2)
def wD(b p:Int):Int:=if b<4\/32<b\/p<1\/16<p then 0 else(b -4)*p
def mb(c:CV)(ids:Int):WV×Int:=pB ⟨⟨c,[],0,0⟩,false⟩ ids.toNat
def np(c:CV)(ids:Int):VV×Int:=
 if ¬(rG c=true/\1<=ids/\ids<=lB c.size)then(⟨c,[],0,0⟩,1)
 else if c.off=true then(⟨c,[],0,0⟩,7)
 else if(mb c ids).2≠0 then(⟨(mb c ids).1.v.ai,[],0,0⟩,(mb c ids).2)
 else((mb c ids).1.v,0)
theorem W9{b:List UInt8}:(eN b).1.at_.length<=64/\(eN b).1.gen<281474976710656:=by
 rw[eN];split
 ·
  simp[gw]
 rename_i h1;split
 ·
  simp[gw]
 rename_i h2;split
 ·
  simp[gw]
 rename_i h3;have hf:uD (db b).1=true:=by simpa using h3
 simp only[uD,alM,decide_eq_true_eq]at hf;refine⟨?_,Nv b⟩;have hid:(db b).1.id<64:=by
  have iw:(db b).2=0:=by simpa using h1
  rw[db]at iw h2⊢
  by_cases g1:rE b.length=false
  ·
   rw[if_pos g1]at iw;cases iw
  rw[if_neg g1]at iw h2⊢
  by_cases g2:pw b=true
  ·
   rw[if_pos g2]at h2;exact absurd rfl h2
  rw[if_neg g2]at iw h2⊢
  by_cases g3:de (Db b)≠pv (nf b)
  ·
   rw[if_pos g3]at iw;cases iw
  rw[if_neg g3]at iw h2⊢
  by_cases g4:rF b=false
  ·
   rw[if_pos g4]at iw;cases iw
  rw[if_neg g4]at iw h2⊢;have g5:rF b=true:=by simpa using g4
  simp only[rF,alM]at g5;have:=(MU.1 g5.2).2.2.2.1;split
  ·
   simp[jK]
  exact this
 simp only[G1];omega
theorem N5(l:List (List UInt8)): ∀k,(dN l k).new.at_.length<=64/\(dN l k).new.gen<281474976710656
 |0=>by simp[dN,gw]
 |k+1=>by
  rw[dN,wi];split
  ·
   exact W9
  exact N5 l k
theorem Xa(l:List (List UInt8)):(fB l).2.1.at_.length<=64/\(fB l).2.1.gen<281474976710656:=by
 rw[fB];split
 ·
  exact N5 _ _
 split<;>simp[gw]
theorem Xb{v:VV}{b:Bool}(h:py v=true):dn ⟨v,b⟩:=by
 have hr:=Df h;have ha:= @Ng v h;simp only[py,alM,decide_eq_true_eq]at h;obtain⟨⟨⟨h1,h2⟩,h3⟩,h4⟩:=h;obtain⟨hb,hl,hf⟩:=G6 h1;obtain⟨b1,b2,b3,b4⟩:=Ay.1 hb;have yx:=Xa ((aN {v.ai with off:=false} 0).ab++(aN {v.ai with off:=false} 1).ab)
 rw[hf]at h2 h3 h4;simp only at h2 h3 h4;have hd:=kU hr.1;have pq:4<=(v.ai.blocks.length:Int):=b2;refine⟨hr.1,b2,b3,b4,?_,by rw[←h2];exact yx.2,fun n hn=>?_,by rw[←h4];exact yx.1⟩
 ·
  rw[←h3];have ho0:=gF.1 (AH hr.1 (b:=0) (by omega) (by omega));have Hv:=gF.1 (AH hr.1 (b:=1) (by omega) (by omega));have hlen:((aN v.ai 0).ab++(aN v.ai 1).ab).length=(aN v.ai 0).ab.length+(aN v.ai 1).ab.length:=adr;have oN:=M8 (l:=(aN v.ai 0).ab++(aN v.ai 1).ab) (by rw[hlen];omega);change 0<=(eT {v.ai with off:=false}).1/\(eT {v.ai with off:=false}).1<_ at oN
  rw[hlen]at oN;have g0:0<=(eT {v.ai with off:=false}).1/v.ai.ab:=aoF oN.1 (by omega)
  have g1:(eT {v.ai with off:=false}).1/v.ai.ab<2:=Int.ediv_lt_of_lt_mul (by omega) (by
   have h9:(eT {v.ai with off:=false}).1<(((aN v.ai 0).ab.length+(aN v.ai 1).ab.length:Nat):Int):=oN.2
   omega)
  change(eT {v.ai with off:=false}).1/v.ai.ab=0\/(eT {v.ai with off:=false}).1/v.ai.ab=1
  omega
 by_cases h0:n=0
 ·
  exact .inl h0
 obtain⟨i,hi⟩:=am9 hn;have:=ha hi h0;have hp:=Dd.1 this.2.2;exact .inr ⟨this.1,hp.1,hp.2.1⟩
theorem Xc{c:CV}(h:(bL c).2≠0):(bL c).1=lY:=by
 rw[bL]at h⊢
 repeat' split
 all_goals first|rfl|(exfalso;simp_all)
theorem Xd(c:CV):(if(bL c).2=0 then(bL c).1 else lY)=(bL c).1:=by
 by_cases h:(bL c).2=0
 ·
  rw[if_pos h]
 rw[if_neg h,Xc h]
def tu(t:List Rt)(n id:Nat):List UInt8:=((t.drop (id*n)).take n).flatMap gU
def oO(t:List Rt)(ids n:Nat):List (List UInt8):=(List.range ids).map (tu t n)
def mc(a b:Int):Int:=if a<1\/64<a\/b<20\/240<b then 0 else min (a*(b/20)) 256
def jt(t:List Rt)(ids room:Int):Int:=if iD t=false\/mc ids room=0 then 1 else if mc ids room<t.length then 5 else 0
def kX(t:List Rt)(ids room:Int):List (List UInt8):=if jt t ids room=0 then oO t ids.toNat (room/20).toNat else[]
theorem uR(t:List Rt)(ids n:Nat):(oO t ids n).length=ids:=by simp[oO]
theorem Xe(l:List Rt):(l.flatMap gU).length=20*l.length:=by
 induction l with
 |nil=>rfl
 |cons a l ih=>rw[aoJ,adr,ih,rD,ad2];omega
theorem Xf(t:List Rt)(n id:Nat):(tu t n id).length=20*min n (t.length -id*n):=by
 rw[tu,Xe,amo,amu]
theorem N6(t:List Rt)(n id:Nat):(tu t n id).length<=20*n:=by rw[Xf];omega
theorem Hw{a b:Int}(h: ¬mc a b=0):1<=a/\a<=64/\20<=b/\b<=240/\mc a b=min (a*(b/20)) 256/\1<=b/20/\b/20<=12:=by
 unfold mc at h⊢;split at h
 ·
  exact absurd rfl h
 rename_i hn;rw[if_neg hn];have:1<=b/20/\b/20<=12:=by omega
 exact⟨by omega,by omega,by omega,by omega,rfl,this.1,this.2⟩
theorem Xg{t:List Rt}{r:Rt}{i n id:Nat}(hn:0<n)(hr:t[i]? =some r):tu (t.take (i+1)) n id=tu (t.take i) n id++(if id=i/n then gU r else[]):=by
 have bx:i<t.length:=(zz.1 hr).1;have e1:t.take (i+1)=t.take i++[r]:=by rw[amq,hr];rfl
 have hd:=aop i n;have hm:=an1 i hn;have hc:n*(i/n)=i/n*n:=anv _ _;unfold tu;have l1:(t.take i).length=i:=by rw[amo];omega
 rw[e1]
 by_cases h1:id=i/n
 ·
  subst h1;have e2:(t.take i++[r]).drop (i/n*n)=(t.take i).drop (i/n*n)++[r]:=List.drop_append_of_le_length (by rw[l1];omega);have e3:((t.take i).drop (i/n*n)++[r]).take n=(t.take i).drop (i/n*n)++[r]:=amr (by rw[adr,amu,l1];simp only[ad2,af0];omega);have e4:((t.take i).drop (i/n*n)).take n=(t.take i).drop (i/n*n):=amr (by rw[amu,l1];omega);rw[if_pos rfl,e2,e3,e4];simp
 rw[if_neg h1,am4];rcases Nat.lt_or_gt_of_ne h1 with h2|h2
 ·
  have:(id+1)*n<=i/n*n:=amy _ h2;rw[amI]at this;rw[List.drop_append_of_le_length (by rw[l1];omega),List.take_append_of_le_length (by rw[amu,l1];omega)]
 have:(i/n+1)*n<=id*n:=amy _ h2;rw[amI]at this;rw[aoI (by rw[adr,l1];simp;omega),aoI (by rw[l1];omega)]
theorem Xh{t:List Rt}{r:Rt}{i n ids:Nat}{x:List UInt8}(hn:0<n)(hr:t[i]? =some r)(hx:(oO (t.take i) ids n)[i/n]? =some x):
  oO (t.take (i+1)) ids n=(oO (t.take i) ids n).set (i/n) (x++gU r):=by
 refine anq fun j=>?_;rw[anD];have hk:i/n<ids:=by have:=(zz.1 hx).1;rwa [uR]at this
 by_cases hj:j<ids
 ·
  have e: ∀t',(oO t' ids n)[j]? =some (tu t' n j):=fun t'=>by simp[oO,hj]
  rw[e,Xg hn hr]
  by_cases h:i/n=j
  ·
   subst h;rw[e]at hx;rw[if_pos rfl,if_pos rfl,if_pos (by rw[uR];exact hk)];rw[amn hx]
  ·
   rw[if_neg (fun e=>h e.symm),if_neg h,am4,e]
 ·
  rw[amD (by rw[uR];omega),if_neg (by omega),amD (by rw[uR];omega)]
theorem Xi(t:List Rt)(ids n:Nat):oO (t.take 0) ids n=List.replicate ids []:=by
 refine List.eq_replicate_iff.2 ⟨uR _ _ _,fun x hx=>?_⟩;obtain⟨j,_,rfl⟩:=anB.1 hx;simp[tu]
def oP(b:List UInt8):Rt:=⟨⟨if b.getD 0 0=1 then 128 else 32,(b.getD 1 0).toNat,nD fun i=>(b.getD (2+i) 0).toNat⟩,UInt16.ofNat ((b.getD 18 0).toNat*256+(b.getD 19 0).toNat)⟩
def rd(b:List UInt8):Option Rt:=if b.getD 0 0<=1 then some (oP b)else none
def lE(b:List UInt8):Option (List Rt):=
 if h:b.length<20 then(if b.length=0 then some []else none)
 else match rd (b.take 20),lE (b.drop 20)with
  |some r,some l=>some (r::l)
  |_,_=>none
termination_by b.length
decreasing_by rw[amu];omega
theorem Xj:lE []=some []:=by rw[lE];simp
theorem N7{b:List UInt8}(h:20<=b.length):lE b=(rd (b.take 20)).bind fun r=>(lE (b.drop 20)).map (r:: ·):=by
 rw[lE,dif_neg (by omega)]
 cases rd (b.take 20)<;>simp
 cases lE (b.drop 20)<;>simp
theorem N8: ∀(k:Nat) (b:List UInt8),b.length<=k-> ¬b.length%20=0->lE b=none
 |0,b,h,hm=>by have:b.length=0:=by omega
               rw[this]at hm;simp at hm
 |k+1,b,h,hm=>by
  by_cases h2:b.length<20
  ·
   rw[lE,dif_pos h2,if_neg (fun e=>by rw[e]at hm;simp at hm)]
  rw[N7 (by omega),N8 k (b.drop 20) (by rw[amu];omega) (by rw[amu];omega)]
  cases rd (b.take 20)<;>rfl
def iz:List (List UInt8)->Option (List Rt)
 |[]=>some []
 |b::r=>(lE b).bind fun l=>(iz r).map (l++ ·)
theorem Hx: ∀a b:List (List UInt8),iz (a++b)=(iz a).bind fun l=>(iz b).map (l++ ·)
 |[],b=>by simp[iz]
 |x::a,b=>by
  rw[anj,iz,iz,Hx a b]
  cases lE x<;>simp
  cases iz a<;>simp
  cases iz b<;>simp
theorem Hy{bs:List (List UInt8)}{i:Nat}{b:List UInt8}(h:bs[i]? =some b):iz (bs.take (i+1))=(iz (bs.take i)).bind fun l=>(lE b).map (l++ ·):=by
 rw[amq,h,aoH,Hx,iz,iz]
 cases iz (bs.take i)with
 |none=>rfl
 |some l=>cases lE b<;>simp
theorem N9{bs:List (List UInt8)}{i:Nat}(h:iz (bs.take i)=none):iz bs=none:=by
 rw[←amO i bs,Hx,h];rfl
def me(bs:List (List UInt8)):List Rt:=match iz bs with
 |some t=>if iD t=true then t else[]
 |none=>[]
def oQ(bs:List (List UInt8)):Int:=match iz bs with
 |some t=>if iD t=true then 0 else 2
 |none=>2
theorem Dv{bs:List (List UInt8)}(h:iz bs=none):me bs=[]/\oQ bs=2:=by simp[me,oQ,h]
theorem Oa{bs:List (List UInt8)}{t:List Rt}(h:iz bs=some t)(hr:iD t=false):me bs=[]/\oQ bs=2:=by simp[me,oQ,h,hr]
theorem Ob{bs:List (List UInt8)}{t:List Rt}(h:iz bs=some t)(hr:iD t=true):me bs=t/\oQ bs=0:=by simp[me,oQ,h,hr]
def yy(a b:List (List UInt8))(i:Nat):Option (Int×List UInt8):=if a.getD i []=b.getD i []then none else some ((i:Int),b.getD i [])
def rR(a b:List (List UInt8))(n:Nat):List (Int×List UInt8):=(List.range n).filterMap (yy a b)
def kz(a b:List (List UInt8)):List (Int×List UInt8):=rR a b (max a.length b.length)
theorem Xk{a b:List (List UInt8)}{n:Nat}(h:a.getD n []=b.getD n []):rR a b (n+1)=rR a b n:=by
 have e:yy a b n=none:=by rw[yy,if_pos h]
 simp[rR,aof,e]
theorem Xl{a b:List (List UInt8)}{n:Nat}(h: ¬a.getD n []=b.getD n []):rR a b (n+1)=rR a b n++[((n:Int),b.getD n [])]:=by
 have e:yy a b n=some ((n:Int),b.getD n []):=by rw[yy,if_neg h]
 simp[rR,aof,e]
theorem Hz(a b:List (List UInt8))(n:Nat):(rR a b n).length<=n:=by
 have:=List.length_filterMap_le (yy a b) (List.range n);simpa[rR]using this
def qu(b:List UInt8):Bool:=decide (b.getD 0 0<=1)
def rdv(b:List UInt8):Rt:=if qu b=true then oP b else bp
theorem Xm(b:List UInt8):rd b=if qu b=true then some (oP b)else none:=by simp[rd,qu]
theorem Xn(b:List UInt8):(oP b).eC=vC (b.getD 18 0) (b.getD 19 0):=rfl
theorem Xo{b:List UInt8}(hb:b.length=20)(v:Int)(hv:v=if b.getD 0 0=1 then 128 else 32):
  (over (((av bp).setIfInBounds 0 (.int .i64 v)).setIfInBounds 1 (.int .i64 (b.getD 1 0).toNat)) 2 (aH aL ((b.drop 2).take 16)).toArray).setIfInBounds 18 (.int .u16 (vC (b.getD 18 0) (b.getD 19 0)).toNat)=av (oP b):=by
 have hk:(aH aL ((b.drop 2).take 16)).toArray.size=16:=by rw[am2,gp,amo,amu,hb];rfl
 have h0:(av bp).size=19:=fw _;have hs:2+(aH aL ((b.drop 2).take 16)).toArray.size<=(((av bp).setIfInBounds 0 (.int .i64 v)).setIfInBounds 1 (.int .i64 (b.getD 1 0).toNat)).size:=by rw[hk];simp[h0]
 refine am7 fun j=>?_;rw[amQ,mE hs,qX hs,hk]
 by_cases Av:18=j
 ·
  subst Av;rw[if_pos rfl,rf,Xn];simp[h0]
 rw[if_neg Av]
 by_cases h2:2<=j/\j<2+16
 ·
  rw[if_pos h2,lu _ j (by omega),show j=2+(j -2) by omega,om,fK _ _ (by omega),show 2+(j -2) -2=j -2 by omega];have hg:((b.drop 2).take 16)[j -2]? =some (b.getD j 0):=by
   rw[anO,if_pos (by omega),ang,show 2+(j -2)=j by omega,List.getD,amG (by omega)];rfl
  have:=lM (enc:=aL) ((b.drop 2).take 16) (j -2) _ hg 0 (by decide);simp only[an0,anA]at this;rw[show(aH aL ((b.drop 2).take 16)).toArray[j -2]? =(aH aL ((b.drop 2).take 16))[j -2]?by simp,this];have e:aX (oP b).p.key (j -2)=(b.getD j 0).toNat:=by
   show aX (nD fun i=>(b.getD (2+i) 0).toNat) (j -2)=_;rw[rb _ _ (by omega),show 2+(j -2)=j by omega];have:=(b.getD j 0).toNat_lt;omega
  rw[e];rfl
 rw[if_neg h2,amQ]
 by_cases h1:1=j
 ·
  subst h1;rw[if_pos rfl,lu _ 1 (by decide),vK];simp[h0,oP]
 rw[if_neg h1,amQ]
 by_cases hj:0=j
 ·
  subst hj;rw[if_pos rfl,lu _ 0 (by decide),vJ];simp[h0,oP,hv]
 ·
  rw[if_neg hj,amE (by rw[h0];omega),amE (by rw[fw];omega)]
theorem Oc{t:List Rt}{ids room:Int}(h:mc ids room=0\/iD t=false):jt t ids room=1/\kX t ids room=[]:=by
 have e:jt t ids room=1:=if_pos h.symm;exact⟨e,by rw[kX,e];rfl⟩
theorem Od{t:List Rt}{ids room:Int}(h: ¬mc ids room=0)(h':iD t=true)(h2:mc ids room<t.length):jt t ids room=5/\kX t ids room=[]:=by
 have e:jt t ids room=5:=by
  rw[jt,if_neg (by simp[h,h']),if_pos h2]
 exact⟨e,by rw[kX,e];rfl⟩
theorem Oe{t:List Rt}{ids room:Int}(h: ¬mc ids room=0)(h':iD t=true)(h2: ¬mc ids room<t.length):jt t ids room=0/\kX t ids room=oO t ids.toNat (room/20).toNat:=by
 have e:jt t ids room=0:=by
  rw[jt,if_neg (by simp[h,h']),if_neg h2]
 exact⟨e,by rw[kX,if_pos e]⟩
theorem Xp{s:Sv}{xs:List (Sl UInt8)}{i:Nat}{y:Sl UInt8}:lx (⟨s,xs.set i y⟩:Sl (Sl UInt8))=(xs.map (·.xs)).set i y.xs:=by simp[lx,aoh]
section
variable {bits:Int} {ns:List Nd} {i:Nat} {a a2:List Int} {nd:Nd}
end
def par(v:Wy):Wy:=Uc v.key (v.steps -1)
section
variable {bits:Int} {W:List Wy} {R:List Rt}
def lab(W:List Wy)(i b:Nat)(v:Wy):Int:=
 if v.steps=0\/W.idxOf (par v)<i\/W.idxOf (par v)=i/\Uh v.key (v.steps -1)<b then(v.steps:Int)+1 else 0
end
section
variable {bits:Int} {t:List Rt}
end
def mf(p:Nat->Bool):Nat->Nat->Nat->Nat
 |0,i,_=>i
 |f+1,i,j=>if i<j then(if p ((i+j)/2)=true then mf p f i ((i+j)/2)else mf p f ((i+j)/2+1) j)else i
def bs(p:Nat->Bool)(n:Nat):Nat:=mf p (n+1) 0 n
theorem Dw(p:Nat->Bool): ∀(f g i j:Nat),j -i<f->j -i<g->mf p f i j=mf p g i j
 |0,_,_,_,h,_=>by omega
 |_+1,0,_,_,_,h=>by omega
 |f+1,g+1,i,j,h1,h2=>by
  rw[mf,mf];split
  ·
   split
   ·
    exact Dw p f g _ _ (by omega) (by omega)
   exact Dw p f g _ _ (by omega) (by omega)
  rfl
theorem Of{p:Nat->Bool}{f i j:Nat}(h:i<j)(hf:j -i<f):mf p f i j=if p ((i+j)/2)=true then mf p f i ((i+j)/2)else mf p f ((i+j)/2+1) j:=by
 match f,hf with
 |f+1,hf=>
  rw[mf,if_pos h];split
  ·
   exact Dw p f (f+1) _ _ (by omega) (by omega)
  exact Dw p f (f+1) _ _ (by omega) (by omega)
theorem Xq{p:Nat->Bool}{f i j:Nat}(h: ¬i<j)(hf:0<f):mf p f i j=i:=by
 match f,hf with
 |f+1,_=>rw[mf,if_neg h]
def behind(t:List Rt)(q:cz)(j:Nat):Bool:=match t[j]?with
 |some r=> !qc r.p q
 |none=>true
def fk(t:List Rt)(q:cz):Nat:=bs (behind t q) t.length
def oR(t:List Rt)(q:cz):Bool:=match t[fk t q]?with
 |some r=>decide (r.p=q)
 |none=>false
theorem HA{p:Nat->Bool}: ∀(f i j:Nat),i<=j->mf p f i j<=j
 |0,_,_,h=>h
 |f+1,i,j,h=>by
  rw[mf];split
  ·
   split
   ·
    exact Nat.le_trans (HA f _ _ (by omega)) (by omega)
   exact HA f _ _ (by omega)
  exact h
theorem Og(t:List Rt)(q:cz):fk t q<=t.length:=HA _ _ _ (amK _)
theorem Xr(t:List Rt)(q:cz):oR t q=(decide (((fk t q:Nat):Int)<(t.length:Int))&&decide ((t.getD (fk t q) bp).p=q)):=by
 rcases amv (fk t q) t.length with h|h
 ·
  have e:t[fk t q]? =some t[fk t q]:=by simp[h]
  rw[oR,e,aot,e];simp[h]
 rw[oR,amD h,decide_eq_false (by omega)];rfl
def yz(t:List Rt)(k:Key)(bits:Int)(n:Nat):Option Rt:=if oR t ⟨bits,n,dE k n⟩=true then t[fk t ⟨bits,n,dE k n⟩]?else none
def rS(t:List Rt)(k:Key)(bits:Int):Nat->Option Rt
 |0=>yz t k bits 0
 |n+1=>match yz t k bits (n+1)with
  |some r=>some r
  |none=>rS t k bits n
def yA(t:List Rt)(k:Key)(bits:Int):Bool:=iD t&&bO ⟨bits,bits,k⟩
def yB(t:List Rt)(k:Key)(bits:Int):Rt:=if yA t k bits=true then(rS t k bits bits.toNat).getD bp else bp
def uS(t:List Rt)(k:Key)(bits:Int):Int:=if yA t k bits=true then(if(rS t k bits bits.toNat).isSome=true then 0 else 6)else 1
theorem HB{t:List Rt}{q:cz}(h:oR t q=true): ∃r∈t,t[fk t q]? =some r/\r.p=q:=by
 rw[oR]at h
 cases e:t[fk t q]?with
 |none=>rw[e]at h;cases h
 |some r=>rw[e]at h;exact⟨r,amm e,rfl,by simpa using h⟩
section
variable {t:List Rt} {k:Key} {bits:Int}
end
def Xs(r:Rt)(p:cz):Bool:=decide (r.p≠p)&&SA r.p p
def Xt(t:List Rt)(p:cz):Option Rt:=t.reverse.find? fun r=>Xs r p
def ahV(t:List Rt)(r:Rt):Bool:=match Xt t r.p with
 |none=>true
 |some o=> !decide (o.eC=r.eC)
structure Ch where
 r:Rt
 gone:Bool
 deriving DecidableEq
def Oh:Ch:=⟨bp,false⟩
def dt(x:Ch):Array Value:=av x.r++ #[.bool x.gone]
theorem Oi(x:Ch):(dt x).size=20:=by unfold dt;rw[amT,fw];rfl
theorem Oj(x:Ch)(j:Nat)(h:j<19):(dt x)[j]? =(av x.r)[j]? :=by
 unfold dt;rw[amW (by rw[fw];exact h)]
theorem Xu(x:Ch):(dt x)[19]? =some (.bool x.gone):=by
 unfold dt;rw[an4 (by rw[fw];omega),fw];rfl
def ib(t:List Rt)(c:Ch):Int:=if bO c.r.p=true then(if oR t c.r.p=true then 0 else if c.gone=true then 6 else if 256<=t.length then 5 else 0)else 1
def mg(t:List Rt)(c:Ch):List Rt:=
 if ib t c=0 then(if c.gone=true then t.take (fk t c.r.p)++t.drop (fk t c.r.p+1)else if oR t c.r.p=true then t.set (fk t c.r.p) c.r else t.take (fk t c.r.p)++c.r::t.drop (fk t c.r.p))else t
theorem Xv{t:List Rt}(h:t.length<=256)(c:Ch):(mg t c).length<=256:=by
 unfold mg;split
 ·
  rename_i he;split
  ·
   simp only[adr,amo,amu];omega
  split
  ·
   simpa using h
  rename_i h1 h2;have:t.length<256:=by
   apply Classical.byContradiction;intro hn;unfold ib at he;rw[if_neg h2,if_neg h1,if_pos (show 256<=t.length by omega)]at he;split at he<;>omega
  have hp:=Og t c.r.p;simp only[adr,amo,ad2,amu];omega
 exact h
def pE:List Rt->List Ch->List Rt×Int
 |t,[]=>(t,0)
 |t,c::l=>if ib t c=0 then pE (mg t c) l else(t,ib t c)
theorem Ol{t:List Rt}{l:List Ch}{i:Nat}{c:Ch}(hc:l[i]? =some c):pE t (l.drop i)=if ib t c=0 then pE (mg t c) (l.drop (i+1))else(t,ib t c):=by
 obtain⟨hi,rfl⟩:=zz.1 hc;rw[anJ hi,pE]
def j9(t:List Rt)(l:List Ch):Int:=if iD t=true then(pE t l).2 else 1
def eU(t:List Rt)(l:List Ch):List Rt:=if j9 t l=0 then(pE t l).1 else t
end Go.Kb

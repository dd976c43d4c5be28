/- Laws and walks by which the law LabTells is proved, each with its own conditions. -/
import Derived.Test.YtkggjjnhnjjokaaGreatDoorH2
import Derived.Lib.AppendZerosOnto
import Derived.Lib.Overlaps
set_option maxRecDepth 20000
set_option linter.unusedSimpArgs false
set_option linter.unusedVariables false
namespace Go.ax
open Go.RowKit
theorem AM{A X V:List Value}{o:Nat}(h:o=A.length):over (A++X).toArray o V.toArray=(A++(V++X.drop V.length)).toArray:=by
 subst h;unfold over;simp only[au0,at4];rw[List.take_left,List.drop_append];simp
section
variable {α:Type} {enc:α->Array Value} {c:Nat} {s:Sv} {xs:List α}
theorem zf(xs ys:List α):aL enc (xs++ys)=aL enc xs++aL enc ys:=by simp[aL]
theorem acj[he:bp enc c](hc:0<c){cs:Array Value}{o:Nat}(eQ:o+xs.length*c<=cs.size)(hr: ∀i x,xs[i]? =some x-> ∀j,j<c->cs[o+i*c+j]? =(enc x)[j]?):
  cs=(cs.toList.take o++(aL enc xs++cs.toList.drop (o+xs.length*c))).toArray:=by
 have key:(cs.toList.drop o).take (xs.length*c)=aL enc xs:=by
  refine au6 fun k=>?_;rcases aud k (xs.length*c)with hk|hk
  ·
   rw[List.getElem?_take_of_lt hk,avd,Array.getElem?_toList];have hd:k/c<xs.length:=Nat.div_lt_of_lt_mul (by rwa [avs]);have hm:=avV k hc;have e:k/c*c+k%c=k:=by rw[avs];exact aww k c
   have h1:=hr (k/c) xs[k/c] (by simp[hd]) (k%c) hm;have h2:=ow (enc:=enc) xs (k/c) xs[k/c] (by simp[hd]) (k%c) hm;rw[e]at h2;rw[h2,←h1];congr 1;omega
  ·rw[aub (by simp;omega),aub (by rw[iG];omega)]
 apply awE;simp only;rw[←key,←at4,show o+xs.length*c=o+xs.length*c from rfl,←av0,at4,auO,auO]
theorem KK{a b:Nat}(h:a<=b):a=Nat.min a b:=(awl h).symm
theorem ack{a b:Nat}(h:b<=a):b=Nat.min a b:=(Nat.min_eq_right h).symm
theorem acm[he:bp enc c](hc:1<c){w0 w:World}{L:List ai}{i:Nat}(hw:Mem w0 L w)(hi:L[i]? =some (own enc c s xs))(hn:s.nil=false):
  ∃pre mid T,pre.length=s.o/\s.o+s.cap*c<=pre.length+(xs.length*c+mid.length)/\s.sp=none/\s.Ok/\s.len=xs.length/\Mem w0 (L.set i (aq s.b (pre++(aL enc xs++mid)).toArray T)) w:=by
 obtain⟨r,px⟩:=hw.get hi;obtain⟨eL,cs,T,fz,fm,eQ,nO,lV⟩:=px hn;obtain rfl:=lV hc;have hle:=r.ok.le;have hlen:=r.len;have hm:xs.length*c<=s.cap*c:=auj _ oM;have e:=acj (enc:=enc) (c:=c) (xs:=xs) (cs:=cs) (o:=s.o) oM oM fun i x hx j hj=>by
  rw[←r.row i x hx j hj];unfold nN;rw[fm]
 refine⟨cs.toList.take s.o,cs.toList.drop (s.o+xs.length*c),T,by simp;omega,by simp;omega,eL,r.ok,hlen,?_⟩;rw[←e];exact hw.change hi (fun k (hk:k=s.b)=>⟨hn,hk⟩) (fun _ _=>rfl) rfl ⟨rfl,rfl,rfl⟩ fm
theorem KL[he:bp enc c]{w0 w:World}{L:List ai}{i b:Nat}{pre mid:List Value}{T:TypeId}(hw:Mem w0 L w)(hi:L[i]? =some (aq b (pre++(aL enc xs++mid)).toArray T))(s':Sv)(bJ:s'.Ok)(hn:s'.nil=false)(hb:s'.b=b)(eL:s'.sp=none)(ho:s'.o=pre.length)(hl:s'.len=xs.length)
  (vG:s'.o+s'.cap*c<=pre.length+(xs.length*c+mid.length)):Mem w0 (L.set i (own enc c s' xs)) w:=by
 subst hb;have fm:hp w s'.b=some (.cells (pre++(aL enc xs++mid)).toArray T (0,0)):=hw.block hi;refine hw.change hi (fun k hk=>hk.2) (fun _ _=>rfl) rfl ⟨rfl,rfl,rfl⟩ ⟨w7 bJ hl fm fun k y hy j hj=>?_,fun _=>⟨eL,_,_,_,fm,by simp[iG];omega,Jw _,fun _=>rfl⟩⟩;have bq:k*c+j<(aL enc xs).length:=by
  rw[iG];have h1:=(zz.1 hy).1
  calc k*c+j<k*c+c:=by omega
   _=(k+1)*c:=by rw[auz];omega
   _<=_:=auj _ h1
 rw[avu,auf oM,aus oM,←ow (enc:=enc) xs k y hy j hj];congr 1;omega
theorem Sv.xu{lo hi:Nat}(h:lo<s.cap):(s.sub c lo hi).o=s.o+lo*c:=by simp only[Sv.sub];rw[if_neg oM]
theorem Sv.C6{hi:Nat}:(s.sub c 0 hi).o=s.o:=by simp only[Sv.sub];split<;>simp
theorem Sv.sub_eq{hi:Nat}(hn:s.nil=false)(eL:s.sp= .none):s.sub c 0 hi=⟨false,s.b,s.o,hi,s.cap, .none⟩:=by
 have h0:=Sv.C6 (s:=s) (c:=c) (hi:=hi);obtain⟨sn,sb,so,sl,sc,ss⟩:=s;simp only[Sv.sub]at h0 hn eL⊢;subst hn eL;rw[h0];rfl
end
section
variable {P:Program} {N:cA} {w0:World} {env:Env} {L:List ai} {Q:Exit->Act->World->Prop} {l rest:List Oper} {d:Option Tmp} {ty:TypeId} {ps:String} {af:Array Edge} {gd:Option (Nat×Bool)} {K:Value->List ai->Prop}
variable {α:Type} {enc:α->Array Value} {c:Nat} {s:Sv} {xs:List α}
theorem acn{w:World}{pre A mid:List Value}{T:TypeId}{b o:Nat}{L':List ai}(hw:Mem w0 (aq b (pre++(A++mid)).toArray T::L') w)(ho:pre.length=o){j:Nat}{u:Value}(hj:A[j]? =some u):w.cell? ⟨b,o+j,none⟩=some u:=by
 have km:=(zz.1 hj).1;have h0:(aq b (pre++(A++mid)).toArray T::L')[0]? =some (aq b (pre++(A++mid)).toArray T):=rfl;rw[hw.cell h0,avu,auf oM,aus oM,←hj];congr 1;omega
theorem Rp{code:Code}[he:bp enc c]{i:Nat}(q:gg L s enc c xs i)(hc:1<c)(hn:0<xs.length){L':List Value->List Value->TypeId->List ai}[hu: ∀pre mid T,fZ L i (aq s.b (pre++(aL enc xs++mid)).toArray T) (L' pre mid T)]
  (h: ∀pre mid T,pre.length=s.o->s.o+s.cap*c<=pre.length+(xs.length*c+mid.length)->s.nil=false->s.sp=none->s.Ok->s.len=xs.length->Cw P N w0 Q code env (L' pre mid T)):Cw P N w0 Q code env L:=fun a w ha hw=>by
 have pF:=(hw.get q.h).1.some hn;obtain⟨pre,mid,T,h1,h2,h3,h4,h5,h6⟩:=acm hc hw q.h pF;rw[(hu pre mid T).h]at h6;exact h pre mid T h1 h2 pF h3 h4 h5 a w ha h6
theorem GC{code:Code}{i:Nat}(q:gg L s enc c xs i)(hn:0<xs.length)(h:s.nil=false->s.sp=none->s.Ok->s.len=xs.length->Cw P N w0 Q code env L):Cw P N w0 Q code env L:=fun a w ha hw=>by
 obtain⟨r,px⟩:=hw.get q.h;have pF:=r.some hn;exact h pF (px pF).1 r.ok r.len a w ha hw
theorem Rq[he:bp enc c](hc:0<c){i:Nat}(q:gg L s enc c xs i){w:World}(hw:Mem w0 L w){j:Nat}{v:Value}(hj:(aL enc xs)[j]? =some v):w.cell? ⟨s.b,s.o+j,none⟩=some v:=by
 obtain⟨x,hx,hv⟩:=Fk hc hj;have r:=(hw.get q.h).1;rw[rU,←hv,←r.row _ x hx (j%c) (avV _ hc)];congr 1;have:=aww j c;rw[avs]at this;omega
theorem aco(w:World)(dT sT ty elem:TypeId)(b o Rr acp:Nat)(a:Addr)(Rs acq n:Nat)(cur:Array Value)(t:TypeId)(vs:List Value)
  (hu:P.underlying dT=some (.slice elem)) (hs:(P.info? elem).map (·.size)=some c) (hg:w.heap[b]? =some (.cells cur t (0,0))) (hn:n=Nat.min Rs Rr) (hv:vs.length=n*c)
  (nL: ∀j v,vs[j]? =some v->w.cell? (a.add j)=some v) (iR:o+vs.length<=cur.size) (h1: ∀v∈vs,v.oneCell'=true):
  (Builtin.copy_ #[dT,sT] ty #[.slice (some ⟨b,o,none⟩) Rr acp, .slice (some a) Rs acq]).run P w= .ok (goInt n) (w.setRow b (over cur o vs.toArray)):=by
 have hl:=run_loadCells_list (P:=P) w a vs nL;have bD:=run_storeCells_at P b o t vs 0 cur w hg (by simpa using iR) h1;rw[hv]at hl
 cases hq:P.info? elem with
 |none=>simp[hq]at hs
 |some i=>
  have hi:i.size=c:=by simpa[hq]using hs
  simp[Builtin.copy_,run_underlying hu,Builtin.lenOf,Builtin.firstCells,sizeOf,typeInfo,hq,hi,←hn,hl,bD,over]
theorem GD{D S:Sv}{x y:Operand}{tx gU e:TypeId}{i b o n:Nat}{cs:Array Value}{T:TypeId}{vs:List Value}(hx:ev env x=some D.val)(hy:ev env y=some S.val)
  (nX:D.nil=false) (pG:D.sp=none) (rj:D.b=b) (tk:D.o=o) (C7:S.nil=false) (C8:S.sp=none) [ht:fH P tx e c] [hh:Has L b cs T i] (hn:n=Nat.min S.len D.len) (hv:vs.length=n*c)
  (nL: ∀w,Mem w0 L w-> ∀j v,vs[j]? =some v->w.cell? ⟨S.b,S.o+j,none⟩=some v) (h1: ∀v∈vs,v.oneCell'=true) (ho:o+vs.length<=cs.size) {cs':Array Value} {L':List ai} (hU:over cs o vs.toArray=cs') [hu:fZ L i (aq b cs' T) L']
  (hk:Sq P N w0 l Q rest (cr env d (.int .i64 n)) L') (hd:dq N d=true:=by rfl):
  Sq P N w0 l Q (⟨d, .call {callee:= .builtin .copy,args:= #[x,y],argTypes:= #[tx,gU]},ty,ps,af,none⟩::rest) env L:=
 nK rfl hd fun aa w ha hw=>by
  rw[Sv.ik nX,pG,rj,tk]at hx;rw[Sv.ik C7,C8]at hy;have hb:=hw.block hh.h;have gS:=aco (P:=P) w tx gU ty e b o D.len D.cap ⟨S.b,S.o,none⟩ S.len S.cap n cs T vs ht.eK ht.size hb hn hv (fun j v hj=>by rw[Addr.hQ];exact nL w hw j v hj) ho h1;refine⟨_,_,_,?_,by rw[←hu.h,←hU];exact hw.setRow hh.h _,hk⟩;simp[execOp,ha.ev hx,ha.ev hy,resolve,invoke,builtin,gS,Result.andThen,goInt]
theorem acr{D S:Sv}{x y:Operand}{tx gU e e':TypeId}{bP i b o n:Nat}{cs:Array Value}{T:TypeId}{vs:List Value}(hx:ev env x=some D.val)(hy:ev env y=some S.val)
  (nX:D.nil=false) (pG:D.sp=none) (rj:D.b=b) (tk:D.o+D.len*c=o) (C7:S.nil=false) (C8:S.sp=none) [ht:dS P tx e c bP] (vX:P.underlying gU=some (.slice e')) [hh:Has L b cs T i] (hn:S.len=n) (hv:vs.length=n*c) (ql:D.len+n<=D.cap)
  (nL: ∀w,Mem w0 L w-> ∀j v,vs[j]? =some v->w.cell? ⟨S.b,S.o+j,none⟩=some v) (h1: ∀v∈vs,v.oneCell'=true) (ho:o+vs.length<=cs.size) {cs':Array Value} {L':List ai} (hU:over cs o vs.toArray=cs') [hu:fZ L i (aq b cs' T) L']
  {R:Sv} (hR:R=⟨false,b,D.o,D.len+n,D.cap,none⟩) (hk:Sq P N w0 l Q rest (cr env d R.val) L') (hd:dq N d=true:=by rfl):
  Sq P N w0 l Q (⟨d, .call {callee:= .builtin .append,args:= #[x,y],argTypes:= #[tx,gU]},ty,ps,af,none⟩::rest) env L:=
 nK rfl hd fun aa w ha hw=>by
  subst hR tk rj;rw[Sv.ik nX,pG]at hx;rw[Sv.ik C7,C8,hn]at hy;have hb:=hw.block hh.h;obtain⟨i',z,bg,aK,bx,di,nn⟩:=ht.info;have hs:=Src.ofSlice (P:=P) (size:=c) w vX ⟨S.b,S.o,none⟩ n S.cap vs hv (fun j v hj=>by rw[Addr.hQ];exact nL w hw j v hj) h1;have bD:=run_storeCells_at P D.b (D.o+D.len*c) T vs 0 cs w hb (by simpa using ho) h1;have gS:(Builtin.append_ #[tx,gU] ty #[.slice (some ⟨D.b,D.o,none⟩) D.len D.cap, .slice (some ⟨S.b,S.o,none⟩) n S.cap]).run P w= .ok (.slice (some ⟨D.b,D.o,none⟩) (D.len+n) D.cap) (w.setRow D.b (over cs (D.o+D.len*c) vs.toArray)):=by
   subst bx;rcases hs.kind with⟨e',hk⟩|hk<;>simp[Builtin.append_,run_underlying ht.eK,run_underlying hk,sizeOf,typeInfo,bg,hs.len,ql,hs.cells,Addr.hQ,bD,over]
  refine⟨_,_,_,?_,by rw[←hu.h,←hU];exact hw.setRow hh.h _,hk⟩;simp[execOp,ha.ev hx,ha.ev hy,resolve,invoke,builtin,gS,Result.andThen,Sv.val]
theorem acs{D:Sv}{x y:Operand}{tx gU e:TypeId}{bP k:Nat}{z:Value}{olds:List Value}{kn kq:IntKind}{iy:Int}{p m:Nat}(hp:D.len=p)(hm:p+k=m)(hx:ev env x=some D.val)(hy:ev env y=some (.int kq iy))(oN:iy=(k:Int))(h0:0<k)
  (nX:D.nil=false) (pG:D.sp=none) [ht:dS P tx e c bP] (hc:0<c) [hz:eY P e z] (KM:P.underlying gU=some (.int kn)) (holds:olds.length=D.len*c) (nL: ∀w,Mem w0 L w-> ∀j v,olds[j]? =some v->w.cell? ⟨D.b,D.o+j,none⟩=some v)
  (hg:D.cap<D.len+k) (hb:(D.len+k)*bP<=140737488355328) (fR:D.len+k<=140737488355328)
  (hk: ∀(b C:Nat) (Z:List Value),m<=C->p*c+Z.length=C*c->Sq P N w0 l Q rest (cr env d (Sv.val ⟨false,b,0,m,C,none⟩)) (aq b (olds++Z).toArray e::L)) (hd:dq N d=true:=by rfl):
  Sq P N w0 l Q (⟨d, .call {callee:= .builtin .append,args:= #[x,y],argTypes:= #[tx,gU]},ty,ps,af,none⟩::rest) env L:=
 nK rfl hd fun aa w ha hw=>by
  subst oN hp hm;rw[Sv.ik nX,pG]at hx;obtain⟨i',z',bg,aK,bx,di,nn⟩:=ht.info;subst bx di;have vG:=nextslicecap_le hg;have iR:Builtin.nextslicecap (D.len+k) D.cap*i'.bytes<=281474976710656:=by
   have h2:Builtin.nextslicecap (D.len+k) D.cap*i'.bytes<=2*(D.len+k)*i'.bytes:=auj _ vG;rw[Nat.mul_assoc]at h2;omega
  have KN:k*i'.bytes<=281474976710656:=by
   have:k*i'.bytes<=(D.len+k)*i'.bytes:=auj _ oM;omega
  have hold:=run_firstCells_some (P:=P) w.drew i'.size D.len ⟨D.b,D.o,none⟩ D.len D.cap olds holds (fun j v hj=>by rw[Addr.hQ];exact nL w hw j v hj);have gS:=Lib.run_append_grow_zeros (P:=P) w tx gU ty e i' z' kq kn ht.eK KM bg aK (some ⟨D.b,D.o,none⟩) D.len D.cap olds hold k h0 hc hg oM KN iR;have uk:=grownCap_ge w (D.len+k) D.cap e;generalize grownCap w (D.len+k) D.cap e=C at gS uk;have C9:=size_zeroCells z'.cells k;have GF:=size_zeroCells z'.cells (C -(D.len+k));rw[nn]at C9 GF;have hZ:D.len*i'.size+(Builtin.zeroCells z'.cells k++Builtin.zeroCells z'.cells (C -(D.len+k))).toList.length=C*i'.size:=by
   rw[av1,auP,C9,GF,←auz,←auz];congr 1;omega
  have e1:olds.toArray++Builtin.zeroCells z'.cells k++Builtin.zeroCells z'.cells (C -(D.len+k))=(olds++(Builtin.zeroCells z'.cells k++Builtin.zeroCells z'.cells (C -(D.len+k))).toList).toArray:=by apply awE;simp
  rw[e1]at gS;refine⟨_,_,_,?_,hw.drew.alloc _ e,hk w.heap.size C _ uk hZ⟩;simp[execOp,ha.ev hx,ha.ev hy,resolve,invoke,builtin,gS,Result.andThen,Sv.val]
theorem acu{D:Sv}{x:Operand}{tx e:TypeId}{bP i b o n:Nat}{z:Value}{cs:Array Value}{T:TypeId}(hx:ev env x=some D.val)(nX:D.nil=false)(pG:D.sp=none)(rj:D.b=b)(tk:D.o=o)(hn:D.len=n)(h0:0<n)[ht:dS P tx e c bP][hz:eY P e z](h1:z.cells.all (·.oneCell')=true)[hh:Has L b cs T i](ho:o+n*c<=cs.size)
  {L':List Value->List ai} [hu: ∀Z,fZ L i (aq b (over cs o Z.toArray) T) (L' Z)] (hk: ∀Z:List Value,Z.length=n*c->Sq P N w0 l Q rest env (L' Z)):
  Sq P N w0 l Q (⟨none, .call {callee:= .builtin .clear,args:= #[x],argTypes:= #[tx]},ty,ps,af,none⟩::rest) env L:=
 nK rfl rfl fun aa w ha hw=>by
  rw[Sv.ik nX,pG,rj,tk,hn]at hx;have hb:=hw.block hh.h;obtain⟨i',z',bg,aK,bx,di,nn⟩:=ht.info;obtain rfl:z'=z:=by
   have:=hz.zero;rw[bg,auI,aK]at this;exact at1 (at1 this)
  subst bx;have hZ:=size_zeroCells z'.cells n;rw[nn]at hZ;have uD: ∀v∈(Builtin.zeroCells z'.cells n).toList,v.oneCell'=true:=fun v hv=>by
   simp only[Builtin.zeroCells,Array.toList_map,ava]at hv;obtain⟨j,hj,rfl⟩:=hv;have r8:0<z'.cells.size:=by
    rcases av5 z'.cells.size with h|h
    ·rw[h]at hj;simp at hj
    ·exact h
   rw[getElem!_pos z'.cells _ (avV _ r8)];exact(auR.1 h1) _ (Array.getElem_mem _)
  have bD:=run_storeCells_at P b o T (Builtin.zeroCells z'.cells n).toList 0 cs w hb (by simp[hZ];omega) uD;have gS:(Builtin.clear_ #[tx] ty #[.slice (some ⟨b,o,none⟩) n D.cap]).run P w= .ok (.tuple #[]) (w.setRow b (over cs o (Builtin.zeroCells z'.cells n))):=by
   obtain⟨m,rfl⟩: ∃m,n=m+1:=⟨n -1,oM⟩;simp[Builtin.clear_,run_underlying ht.eK,zeroValue,typeInfo,bg,aK,bD,over]
  refine⟨.tuple #[],w.setRow b (over cs o (Builtin.zeroCells z'.cells n)),L' (Builtin.zeroCells z'.cells n).toList,?_,?_,hk _ (by rw[av1,hZ])⟩
  ·simp[execOp,ha.ev hx,resolve,invoke,builtin,gS,Result.andThen]
  ·have h9:=hw.setRow hh.h (over cs o (Builtin.zeroCells z'.cells n));rw[←(hu _).h];simpa using h9
def Sv.top(s:Sv)(m:Nat):Sv:=⟨s.nil,s.b,s.o,s.len,m,s.sp⟩
theorem Ru{t e:TypeId}{x lo hi mx:Operand}{l h m:Nat}{k k' Rv:IntKind}{il ih im:Int}[ht:fH P t e c](hx:ev env x=some s.val)[q:Hd w0 L s enc c xs](hl:ev env lo=some (.int k il))(hh:ev env hi=some (.int k' ih))(hm:ev env mx=some (.int Rv im))(el:il=(l:Int))(eh:ih=(h:Int))(em:im=(m:Int))(h1:l<=h)(h2:h<=m)(h3:m<=xs.length):
  Ry P N w0 env L ⟨d, .slice t x (some lo) (some hi) (some mx),ty,ps,af,gd⟩ ((s.top m).sub c l h).val:=fun a w ha hw=>by
 subst el eh em;have r:=q.h w hw;have hs:=r.ok;have hlen:=r.len;have hle:=hs.le;have ee:=Am ht.eK;have hu:P.underlying t=some (.slice (P.elem t)):=by rw[ee];exact ht.eK
 obtain⟨ad,len,cap,pv⟩:=s.ex;have e3:len=s.len/\cap=s.cap/\sliced ad l h m c=((s.top m).sub c l h).val:=by
  cases hn:s.nil with
  |true=>
   rw[Sv.sQ hn]at pv;obtain⟨rfl,rfl,rfl⟩:=by simpa using pv
   have:=hs.nil hn;have e2:((s.top m).sub c l h).nil=true:=hn;rw[Sv.sQ e2];have:l=0:=by omega
   have:h=0:=by omega
   have:m=0:=by omega
   subst l h m;exact⟨oM,oM,by simp[sliced]⟩
  |false=>
   rw[Sv.ik hn]at pv;obtain⟨rfl,rfl,rfl⟩:=by simpa using pv
   have e2:((s.top m).sub c l h).nil=false:=hn;rw[Sv.ik e2];refine⟨rfl,rfl,?_⟩;simp only[sliced,Sv.sub,Sv.top]
   by_cases hc:m=l
   ·simp[hc]
   ·have eL:=hs.sp oM;simp[hc,eL,Addr.hQ]
 obtain⟨e1,e2,e3⟩:=e3;have hr:=run_slice_lhm (P:=P) (w:=w) t ad len cap hu k k' Rv (l:Int) (h:Int) (m:Int) oM oM oM oM;rw[ee,lT w ht.size]at hr;simp only[Result.andThen,avb,e3]at hr;simp only[execOp,ha.ev hx,ha.ev hl,ha.ev hh,ha.ev hm,pv,auI,run_sliceAt_slice (h:=hu),hr,Sem.run_bind,Result.andThen,Sem.run_pure]
theorem acv{t e:TypeId}{x:Operand}{m n:Nat}[ht:fH P t e m](hx:ev env x=some s.val)(pF:s.nil=false)(hn:s.cap=n):
  Ry P N w0 env L ⟨d, .call {callee:= .builtin .cap,args:= #[x],argTypes:= #[t]},ty,ps,af,gd⟩ (.int .i64 n):=fun a w ha _=>by
 subst hn;rw[Sv.ik pF]at hx;have hu:P.underlying t=some (.slice (P.elem t)):=by rw[Am ht.eK];exact ht.eK
 have:=run_cap_slice (P:=P) (w:=w) t ty (some ⟨s.b,s.o,s.sp⟩) s.len s.cap hu;simp[execOp,ha.ev hx,resolve,invoke,builtin,this,Result.andThen,goInt]
class Rw(P:Program)(f:FuncId)(tS tR:outParam TypeId):Prop where
 fn: ∃fn,P.funcs[f]? =some fn∧(fn.name== "runtime.NumGoroutine")=false∧fn.body.isNone=true∧Extern.findNext fn=none∧Extern.find fn=some (Extern.SlicesOverlaps.overlaps #[tS,tS] #[tR])
theorem Mem.apart{w:World}{i j k:Nat}{e e':ai}(h:Mem w0 L w)(hi:L[i]? =some e)(hj:L[j]? =some e')(pj:i≠j)(hk:e.fp k): ¬e'.fp k:=by
 obtain⟨gi,rfl⟩:=zz.1 hi;obtain⟨gj,rfl⟩:=zz.1 hj;have hd:=avA.1 h.qi;rcases Nat.lt_or_gt_of_ne pj with h1|h1
 ·exact hd i j gi gj h1 k hk
 exact fun h2=>hd j i gj gi h1 k h2 hk
theorem acw{V D:Sv}{x y:Operand}{f:FuncId}{ts:Array TypeId}{tS tR e T:TypeId}{i j b:Nat}{cs:Array Value}(hx:ev env x=some V.val)(hy:ev env y=some D.val)[hf:Rw P f tS tR][ht:fH P tS e c](hc:1<c)[q:gg L V enc c xs i](hv:0<xs.length)[hh:Has L b cs T j](nX:D.nil=false)(pG:D.sp=none)(rj:D.b=b)(hU:0<cs.size)(pj:i≠j:=by decide):
  Ry P N w0 env L ⟨d, .call {callee:= .value (.func f),args:= #[x,y],argTypes:=ts},ty,ps,af,gd⟩ (.bool false):=fun a w ha hw=>by
 obtain⟨r,px⟩:=hw.get q.h;have KO:=r.some hv;obtain⟨hVs,cv,Tv,fz,fm,eQ,nO,lV⟩:=px KO;obtain rfl:=lV hc;have hb:=hw.block hh.h;have bN:V.b≠b:=fun e0=>hw.apart q.h hh.h pj (k:=V.b) ⟨KO,rfl⟩ e0;subst rj;rw[Sv.ik KO,hVs]at hx;rw[Sv.ik nX,pG]at hy;obtain⟨fn,h1,h2,h3,h4,h5⟩:=hf.fn;have gS:=Lib.run_overlaps_apart (P:=P) w tS tR e ht.eK c (fun w=>lT w ht.size) ⟨V.b,V.o,none⟩ ⟨D.b,D.o,none⟩ V.len V.cap D.len D.cap bN Tv T cv.size cs.size (by simp[World.shape?,fm]) (by simp[World.shape?,hb]) oM (by simp[World.frozen?,fm]) (by simp[World.frozen?,fm]);have Rx:=run_callFunc_extern (P:=P) h1 h2 h3 h4 h5 #[.slice (some ⟨V.b,V.o,none⟩) V.len V.cap, .slice (some ⟨D.b,D.o,none⟩) D.len D.cap] w;rw[gS]at Rx;have e1:a.eval (.func f)= .func (.func f) #[] #[]:=rfl;simp[execOp,ha.ev hx,ha.ev hy,resolve,e1,Deferred.ofValue,invoke,Rx,Result.andThen]
end
end Go.ax
namespace Go.Kb
def acx:Nat:=3988292384
def KP(n:Nat):Nat:=(n/2)^^^(if n%2=1 then acx else 0)
theorem acy{n:Nat}(h:n<2^32):KP n<2^32:=by
 refine awQ (by omega) ?_;split
 ·decide
 decide
def pH(n:Nat):Nat->Nat
 |0=>n
 |k+1=>KP (pH n k)
theorem KQ{n:Nat}(h:n<2^32): ∀k,pH n k<2^32
 |0=>h
 |k+1=>acy (KQ h k)
def KR(n:Nat)(b:UInt8):Nat:=pH (n^^^b.toNat) 8
theorem acz{n:Nat}{b:UInt8}(h:n<2^32):KR n b<2^32:=KQ (awQ h (by have:=b.toNat_lt;omega)) 8
def lr(n:Nat)(l:List UInt8):Nat:=l.foldl KR n
theorem GG{n:Nat}(h:n<2^32): ∀l,lr n l<2^32
 |[]=>h
 |b::l=>GG (acz h) l
theorem acA{n:Nat}{l:List UInt8}{i:Nat}{b:UInt8}(h:l[i]? =some b):lr n (l.take (i+1))=KR (lr n (l.take i)) b:=by
 rw[at6,h,lr,lr,avQ];rfl
def pI(l:List UInt8):Nat:=4294967295 -lr 4294967295 l
theorem KS(l:List UInt8):pI l<2^32:=by unfold pI;omega
end Go.Kb
namespace Go.ax
open Go.RowKit
section
variable {α:Type} {enc:α->Array Value} {c:Nat} {s:Sv} {xs:List α}
theorem Mem.Rz{w0 w:World}{L:List ai}{i k:Nat}(hw:Mem w0 L w)(hi:L[i]? =some (own enc c s xs))(hk:k<=xs.length):Mem w0 (L.set i (own enc c (s.sub c 0 k) (xs.take k))) w:=by
 obtain⟨r,px⟩:=hw.get hi;have r2:=r.sub (lo:=0) (hi:=k) (auo _) hk;rw[avg,Nat.sub_zero]at r2;refine hw.change hi (fun k hk=>hk) (fun _ _=>rfl) rfl ⟨rfl,rfl,rfl⟩ ⟨r2,fun hn=>?_⟩;obtain⟨h1,cs,T,fz,h2,h3,h4,h5⟩:=px hn;refine⟨h1,cs,T,fz,h2,?_,h4,h5⟩;rw[Sv.C6];exact h3
end
section
variable {P:Program} {N:cA} {w0:World} {env:Env} {L:List ai} {Q:Exit->Act->World->Prop} {l rest:List Oper} {d:Option Tmp} {ty:TypeId} {ps:String} {af:Array Edge} {gd:Option (Nat×Bool)}
variable {α:Type} {enc:α->Array Value} {c:Nat} {xs:List α}
theorem RA{x y:Operand}{tx gU e:TypeId}{bP k:Nat}{z:Value}{kn kq:IntKind}{iy:Int}(x0:α)(hx:ev env x=some (.slice none 0 0))(hy:ev env y=some (.int kq iy))(oN:iy=(k:Int))(h0:0<k)
  [ht:dS P tx e c bP] [he:bp enc c] (hc:0<c) [hz:eY P e z] (RB:enc x0=z.cells) (KM:P.underlying gU=some (.int kn)) (hb:k*bP<=140737488355328) (fR:k<=140737488355328)
  (hk: ∀b C:Nat,k<=C->Sq P N w0 l Q rest (cr env d (Sv.val ⟨false,b,0,k,C,none⟩)) (own enc c ⟨false,b,0,k,C,none⟩ (List.replicate k x0)::L)) (hd:dq N d=true:=by rfl):
  Sq P N w0 l Q (⟨d, .call {callee:= .builtin .append,args:= #[x,y],argTypes:= #[tx,gU]},ty,ps,af,none⟩::rest) env L:=
 nK rfl hd fun aa w ha hw=>by
  subst oN;obtain⟨i',z',bg,aK,bx,di,nn⟩:=ht.info;obtain rfl:z'=z:=by
   have:=hz.zero;rw[bg,auI,aK]at this;exact at1 (at1 this)
  subst bx di;have gS:=Lib.run_append_nil_zeros (P:=P) w tx gU ty e i' z' kq kn ht.eK KM bg aK k h0 hc oM oM;have uk:=grownCap_ge w k 0 e;generalize grownCap w k 0 e=C at gS uk;have C9:=size_zeroCells z'.cells k;have GF:=size_zeroCells z'.cells (C -k);have acB: ∀m i j,i<m->j<i'.size->(Builtin.zeroCells z'.cells m)[i*i'.size+j]? =z'.cells[j]? :=fun m i j hi hj=>by
   have bq:i*i'.size+j<m*z'.cells.size:=by
    rw[nn];have:(i+1)*i'.size<=m*i'.size:=auj _ hi;rw[auz]at this;omega
   have e1:(i*i'.size+j)%z'.cells.size=j:=by rw[nn,avs,Nat.mul_add_mod];exact auJ hj
   have hz3:j<z'.cells.size:=by omega
   simp[Builtin.zeroCells,bq,e1,hz3]
  refine⟨_,_,_,?_,hw.drew.call (vH (enc:=enc) (c:=i'.size) (xs:=List.replicate k x0) (cs:=Builtin.zeroCells z'.cells k++Builtin.zeroCells z'.cells (C -k)) (e:=e) rfl k C (by simp) uk fR ?_ fun i x hx j hj=>?_),hk _ C uk⟩
  ·simp[execOp,ha.ev hx,ha.ev hy,resolve,invoke,builtin,gS,Result.andThen,Sv.val]
  ·rw[auP,C9,GF,nn,←auz];exact auj _ oM
  ·
   have hi:i<k:=by
    have:=(zz.1 hx).1;simpa using this
   obtain rfl:x0=x:=by rw[awq,if_pos hi]at hx;exact at1 hx
   rw[RB,←acB k i j hi hj,auW];rw[C9,nn];have:(i+1)*i'.size<=k*i'.size:=auj _ hi;rw[auz]at this;omega
theorem GH{t e:TypeId}{x:Operand}{m:Nat}[ht:fH P t e m](hx:ev env x=some (.slice none 0 0)):
  Ry P N w0 env L ⟨d, .call {callee:= .builtin .cap,args:= #[x],argTypes:= #[t]},ty,ps,af,gd⟩ (.int .i64 (0:Nat)):=fun a w ha _=>by
 have hu:P.underlying t=some (.slice (P.elem t)):=by rw[Am ht.eK];exact ht.eK
 have:=run_cap_slice (P:=P) (w:=w) t ty none 0 0 hu;simp[execOp,ha.ev hx,resolve,invoke,builtin,this,Result.andThen,goInt]
class nq(w0:World)(L:List ai){τ:Type}[Deep τ](xs:List τ):Prop where
 h: ∀w,Mem w0 L w-> ∀x∈xs,Deep.cP (hp w) x
instance nq.nil{τ:Type}[Deep τ]:nq w0 L ([]:List τ):=⟨fun _ _ _ h=>by cases h⟩
instance nq.cons{τ:Type}[Deep τ]{x:τ}{xs:List τ}[a:aX w0 L x][b:nq w0 L xs]:nq w0 L (x::xs):=⟨fun w hw y hy=>by
 rcases auc.1 hy with rfl|hy
 ·exact a.h w hw
 exact b.h w hw y hy⟩
instance (priority:=low) aX.flat {τ:Type}[Deep τ][Plain τ]{enc:τ->Array Value}{c:Nat}[gL τ enc c]{s:Sv}{xs:List τ}[q:dG w0 L enc c s xs]:aX w0 L (⟨s,xs⟩:Sl τ):=⟨fun w hw=>by
 have hl:=q.h w hw;have e1:Deep.cells (τ:=τ)=enc:=funext (gL.h (c:=c));have e2:Deep.c τ=c:=gL.hc (enc:=enc);refine⟨?_,fun x _=>Deep.ku _ x (by rw[Plain.h x];exact trivial)⟩;subst e1 e2;exact hl⟩
instance (priority:=low) aX.rows {τ:Type}[Deep τ]{enc:τ->Array Value}{c:Nat}[gL τ enc c]{s:Sv}{xs:List τ}[q:dG w0 L enc c s xs][g:nq w0 L xs]:aX w0 L (⟨s,xs⟩:Sl τ):=⟨fun w hw=>by
 have hl:=q.h w hw;have e1:Deep.cells (τ:=τ)=enc:=funext (gL.h (c:=c));have e2:Deep.c τ=c:=gL.hc (enc:=enc);refine⟨?_,g.h w hw⟩;subst e1 e2;exact hl⟩
theorem acC{τ:Type}[Deep τ]{s:Sv}{xs:List τ}[g:aX w0 L (⟨s,xs⟩:Sl τ)](h: ∀a:Sl τ,a=⟨s,xs⟩->aX w0 L a->Sq P N w0 l Q rest (cr env d a.sv.val) L):Sq P N w0 l Q rest (cr env d s.val) L:=h _ rfl g
def lu(l:List (Sl UInt8)):List UInt8:=(l.map Sl.xs).flatten
theorem GI{l:List (Sl UInt8)}{i:Nat}{x:Sl UInt8}(h:l[i]? =some x):lu (l.take (i+1))=lu (l.take i)++x.xs:=by
 rw[lu,at6,h];simp[lu]
theorem acD(l:List (Sl UInt8))(i:Nat):(lu (l.take i)).length<=(lu l).length:=by
 have e:lu l=lu (l.take i)++lu (l.drop i):=by
  unfold lu;rw[←List.flatten_append,←auv,auO]
 rw[e,adr];omega
end
theorem acE(l:List UInt8): ∀n,l.foldl (fun a b=>a*256+b.toNat) n=n*256^l.length+de l:=by
 induction l with
 |nil=>intro n;simp[de]
 |cons x l ih=>
  intro n;rw[avq,ih,show de (x::l)=l.foldl (fun a b=>a*256+b.toNat) (0*256+x.toNat)from rfl,ih,ad2,Nat.pow_succ];simp only[Nat.zero_mul,auL,auz];rw[Nat.mul_assoc n,avs 256,avy]
theorem acF(x:UInt8)(l:List UInt8):de (x::l)=x.toNat*256^l.length+de l:=by
 rw[show de (x::l)=l.foldl (fun a b=>a*256+b.toNat) (0*256+x.toNat)from rfl,acE];simp
theorem RC(l:List UInt8):de l<256^l.length:=by
 have:=JE l l.length (at5 _);rwa [aup]at this
theorem GJ(n:Nat): ∀k,de (be n k)=n%256^k
 |0=>by simp[be,de,Nat.mod_one]
 |k+1=>by
  rw[be,acF,jV,GJ n k,vJ,Nat.pow_succ,Nat.mod_mul,avs,awH]
section
variable {w0:World} {L:List ai} {α:Type} {enc:α->Array Value} {c:Nat} {xs ys:List α} {s t:Sv} {g:Bool}
end
section
variable {P:Program} {N:cA} {w0:World} {env:Env} {L:List ai} {l:List Oper} {Q:Exit->Act->World->Prop} {rest:List Oper} {d:Option Tmp} {ty:TypeId} {ps:String} {af:Array Edge}
end
section
variable {w0:World} {L:List ai} {τ:Type} [Deep τ]
instance (priority:=low) nq.of {a:Sl τ}[q:aX w0 L a]:nq w0 L a.xs:=⟨fun w hw=>(q.h w hw).2⟩
instance nq.append{xs ys:List τ}[a:nq w0 L xs][b:nq w0 L ys]:nq w0 L (xs++ys):=⟨fun w hw x hx=>by
 rcases at7.1 hx with h|h
 ·exact a.h w hw x h
 exact b.h w hw x h⟩
end
section
variable {w0:World} {L:List ai} {τ:Type} [Deep τ]
instance nq.take{xs:List τ}{n:Nat}[q:nq w0 L xs]:nq w0 L (xs.take n):=⟨fun w hw x hx=>q.h w hw x (avU hx)⟩
instance nq.drop{xs:List τ}{n:Nat}[q:nq w0 L xs]:nq w0 L (xs.drop n):=⟨fun w hw x hx=>q.h w hw x (awD hx)⟩
class acG(a:Sl τ)(s:outParam Sv)(xs:outParam (List τ)):Prop where
 h:a=⟨s,xs⟩
instance (priority:=low) aX.named {a:Sl τ}{s:Sv}{xs:List τ}[n:acG a s xs][q:aX w0 L (⟨s,xs⟩:Sl τ)]:aX w0 L a:=⟨by rw[n.h];exact q.h⟩
end
class gG(τ:Type)[d:Deep τ] where
 reach:τ->Nat->Prop
 congr: ∀(h h':Nat->Option Obj) (x:τ),(∀k,reach x k->h' k=h k)->d.cP h x->d.cP h' x
theorem eZ.congr{α:Type}{enc:α->Array Value}{c:Nat}{h h':Nat->Option Obj}{s:Sv}{xs:List α}(e:xs≠[]->h' s.b=h s.b)(r:eZ enc c h s xs):eZ enc c h' s xs:=
 ⟨r.ok,r.len,fun i x hi j hj=>by
  have bN:xs≠[]:=fun he=>by rw[he]at hi;simp at hi
  rw[←r.row i x hi j hj];unfold nN;rw[e bN]⟩
@[reducible] def gG.flat {τ:Type}[d:Deep τ](hg: ∀h x,d.cP h x):gG τ:=⟨fun _ _=>False,fun _ h' x _ _=>hg h' x⟩
instance gG.slice{τ:Type}[d:Deep τ][r:gG τ]:gG (Sl τ) where
 reach a k:=(a.xs≠[]/\k=a.sv.b)\/ ∃x∈a.xs,r.reach x k
 congr h h' a e g:=⟨g.1.congr fun bN=>e _ (.inl ⟨bN,rfl⟩),fun x hx=>r.congr h h' x (fun k hk=>e k (.inr ⟨x,hx,hk⟩)) (g.2 x hx)⟩
instance:gG UInt8:=gG.flat fun _ _=>trivial
def fz{τ:Type}[d:Deep τ][r:gG τ](x:τ):ai:=⟨r.reach x,fun h=>d.cP h x,fun h h' e s=>r.congr h h' x e s⟩
section
variable {w0:World} {L:List ai} {τ:Type} [d:Deep τ] [r:gG τ]
instance (priority:=high) aX.frozen {a:τ}{i:Nat}[q:At L (fz a) i]:aX w0 L a:=⟨fun _ hw=>hw.get q.h⟩
theorem Mem.freeze{w:World}{es:List ai}(x:τ)(hg:d.cP (hp w) x)(hr: ∀k,r.reach x k-> ∃e∈es,e.fp k)(h:Mem w0 (es++L) w):Mem w0 (fz x::L) w:=by
 have hd:=awa.1 h.qi;refine⟨h.below,fun e he=>?_,fun e he k hk=>?_,auV.2 ⟨fun y hy k hk kJ=>?_,hd.2.1⟩⟩
 ·
  rcases auc.1 he with rfl|he
  ·exact hg
  exact h.sat e (at7.2 (.inr he))
 ·
  rcases auc.1 he with rfl|he
  ·obtain⟨e',sU,kJ⟩:=hr k hk;exact h.kl e' (at7.2 (.inl sU)) k kJ
  exact h.kl e (at7.2 (.inr he)) k hk
 obtain⟨e',sU,oy⟩:=hr k hk;exact hd.2.2 e' sU y hy k oy kJ
theorem Mem.acH{w:World}{e:ai}(x:τ)(hg:d.cP (hp w) x)(hr: ∀k,r.reach x k->e.fp k)(h:Mem w0 (e::L) w):Mem w0 (fz x::L) w:=
 Mem.freeze (es:=[e]) x hg (fun k hk=>⟨e,by simp,hr k hk⟩) h
end
open Go.Kb
section
variable {w0:World} {L:List ai} {τ:Type} [Deep τ] {xs:List τ} {es:List ai}
theorem Mem.zg{w:World}(h:Mem w0 L w):Mem w0 (ai.all []::L) w:=Mem.Cz.2 h
theorem Mem.acI{w:World}{e:ai}(h:Mem w0 (e::ai.all es::L) w):Mem w0 (ai.all (e::es)::L) w:=Mem.yS.2 h
theorem Mem.RD{w:World}{s:Sv}{enc:τ->Array Value}{c:Nat}[f:gL τ enc c][Plain τ](h:Mem w0 (own enc c s xs::L) w):Mem w0 (Deep.cE (⟨s,xs⟩:Sl τ)::L) w:=Tr.JI.mem h
end
end Go.ax
namespace Go.Kb
open Go.ax
theorem uH(k:IntKind)(n:Int):(Value.int k n).oneCell'=true:=rfl
theorem uI(b:Bool):(Value.bool b).oneCell'=true:=rfl
instance:gG Int:=gG.flat fun _ _=>trivial
structure Ft where
 op:Int
 fail:Bool
 cut:Bool
 mask:UInt8
 deriving DecidableEq
def cH(x:Ft):Array Value:= #[.int .i64 x.op, .bool x.fail, .bool x.cut, .int .u8 x.mask.toNat]
instance:bp cH 4:=⟨fun _=>rfl,fun x=>by
 simp only[cH,avN,avW,av7,Sv.one,uH,uI,avE]⟩
instance (x:Ft):gB (cH x) 4:=⟨rfl,bp.one x⟩
instance (x:Ft):bO (cH x) 0 (.int .i64 x.op):=⟨rfl⟩
instance (x:Ft):bO (cH x) 1 (.bool x.fail):=⟨rfl⟩
instance (x:Ft):bO (cH x) 2 (.bool x.cut):=⟨rfl⟩
instance (x:Ft):bO (cH x) 3 (.int .u8 x.mask.toNat):=⟨rfl⟩
instance:Deep Ft:=Deep.flat cH 4
instance:Plain Ft:=⟨fun _=>rfl⟩
instance:gG Ft:=gG.flat fun _ _=>trivial
instance:gL Ft cH 4:=⟨rfl,fun _=>rfl⟩
def AN:Ft:=⟨0,false,false,0⟩
structure Bk where
 pages:Sl (Sl UInt8)
 used:Int
 aU:Int
 bad:Bool
def cq(x:Bk):Array Value:= #[x.pages.sv.val, .int .i64 x.used, .int .i64 x.aU, .bool x.bad]
instance:bp cq 4:=⟨fun _=>rfl,fun x=>by
 simp only[cq,avN,avW,av7,Sv.one,uH,uI,avE]⟩
instance (x:Bk):gB (cq x) 4:=⟨rfl,bp.one x⟩
instance (x:Bk):bO (cq x) 0 (x.pages.sv.val):=⟨rfl⟩
instance (x:Bk):bO (cq x) 1 (.int .i64 x.used):=⟨rfl⟩
instance (x:Bk):bO (cq x) 2 (.int .i64 x.aU):=⟨rfl⟩
instance (x:Bk):bO (cq x) 3 (.bool x.bad):=⟨rfl⟩
instance:Deep Bk where
 c:=4
 cells:=cq
 size:=bp.size
 one:=bp.one
 cP h x:=Deep.cP h x.pages
 cE x:=Deep.cE x.pages
 ku h x hs:=Deep.ku h x.pages hs
 mono w w' x hg hb:=Deep.mono w w' x.pages hg hb
instance:gG Bk where
 reach x k:=gG.reach x.pages k
 congr h h' x e hg:=gG.congr h h' x.pages (fun k hk=>e k (hk)) hg
variable {w0:World}{L:List ai}
instance{x:Bk}[q:aX w0 L x]:aX w0 L x.pages:=⟨fun w hw=>(q.h w hw)⟩
instance:gL Bk cq 4:=⟨rfl,fun _=>rfl⟩
def rk:Bk:=⟨⟨Sv.none,[]⟩,0,0,false⟩
structure Cp where
 pages:Int
 size:Int
 blocks:Sl Bk
 ops:Int
 off:Bool
 aA:Sl Ft
def aV(x:Cp):Array Value:= #[.int .i64 x.pages, .int .i64 x.size,x.blocks.sv.val, .int .i64 x.ops, .bool x.off,x.aA.sv.val]
instance:bp aV 6:=⟨fun _=>rfl,fun x=>by
 simp only[aV,avN,avW,av7,Sv.one,uH,uI,avE]⟩
instance (x:Cp):gB (aV x) 6:=⟨rfl,bp.one x⟩
instance (x:Cp):bO (aV x) 0 (.int .i64 x.pages):=⟨rfl⟩
instance (x:Cp):bO (aV x) 1 (.int .i64 x.size):=⟨rfl⟩
instance (x:Cp):bO (aV x) 2 (x.blocks.sv.val):=⟨rfl⟩
instance (x:Cp):bO (aV x) 3 (.int .i64 x.ops):=⟨rfl⟩
instance (x:Cp):bO (aV x) 4 (.bool x.off):=⟨rfl⟩
instance (x:Cp):bO (aV x) 5 (x.aA.sv.val):=⟨rfl⟩
instance:Deep Cp where
 c:=6
 cells:=aV
 size:=bp.size
 one:=bp.one
 cP h x:=Deep.cP h x.blocks/\Deep.cP h x.aA
 cE x:= .two (Deep.cE x.blocks) (Deep.cE x.aA)
 ku h x hs:=⟨Deep.ku h x.blocks hs.1,Deep.ku h x.aA hs.2.1⟩
 mono w w' x hg hb:=⟨Deep.mono w w' x.blocks hg.1 hb,Deep.mono w w' x.aA hg.2 hb⟩
instance:gG Cp where
 reach x k:=gG.reach x.blocks k\/gG.reach x.aA k
 congr h h' x e hg:=⟨gG.congr h h' x.blocks (fun k hk=>e k (.inl hk)) hg.1,gG.congr h h' x.aA (fun k hk=>e k (.inr hk)) hg.2⟩
instance{x:Cp}[q:aX w0 L x]:aX w0 L x.blocks:=⟨fun w hw=>(q.h w hw).1⟩
instance{x:Cp}[q:aX w0 L x]:aX w0 L x.aA:=⟨fun w hw=>(q.h w hw).2⟩
instance{pages:Int}{size:Int}{blocks:Sl Bk}{ops:Int}{off:Bool}{aA:Sl Ft}[q0:aX w0 L blocks][q1:aX w0 L aA]:aX w0 L (Cp.mk pages size blocks ops off aA):=⟨fun w hw=>⟨q0.h w hw,q1.h w hw⟩⟩
def ib:Cp:=⟨0,0,⟨Sv.none,[]⟩,0,false,⟨Sv.none,[]⟩⟩
end Go.Kb
namespace Go.ax
theorem eZ.cut{α:Type}{enc:α->Array Value}{c:Nat}{h:Nat->Option Obj}{s:Sv}{xs:List α}(r:eZ enc c h s xs){lo hi:Nat}(h1:lo<=hi)(h2:hi<=xs.length):eZ enc c h ⟨s.nil,s.b,if hi=lo then s.o else s.o+lo*c,hi -lo,hi -lo,s.sp⟩ ((xs.drop lo).take (hi -lo)):=by
  have hl:=r.len;have hle:=r.ok.le;have kv:=r.ok.bd;refine⟨⟨fun hn=>?_,at5 _,?_,fun hc=>?_⟩,?_,fun i x qj j hj=>?_⟩
  ·have:=r.ok.nil hn
   simp only at this⊢;omega
  ·simp only;omega
  ·simp only at hc⊢;exact r.ok.sp oM
  ·simp;omega
  ·have fo:=(zz.1 qj).1
   rw[at3,auh]at fo;have hx:xs[lo+i]? =Option.some x:=by rw[avJ,if_pos oM,avd]at qj;exact qj
   have:=r.row (lo+i) x hx j hj;simp only;rw[if_neg oM,show s.o+lo*c+i*c+j=s.o+(lo+i)*c+j by rw[auz];omega];exact this
end Go.ax
namespace Go.Kb
open Go.ax
structure BV where
  pages:List (List UInt8)
  used:Int
  aU:Int
  bad:Bool
  deriving DecidableEq
structure CV where
  pages:Int
  size:Int
  blocks:List BV
  ops:Int
  off:Bool
  aA:List Ft
  deriving DecidableEq
def aR(l:List (Sl UInt8)):List (List UInt8):=l.map fun x=>x.xs
theorem pJ(l:List (Sl UInt8)):(aR l).length=l.length:=by simp[aR]
theorem rl{l:List (Sl UInt8)}{i:Nat}{x:Sl UInt8}(h:l[i]? =some x):(aR l)[i]? =some x.xs:=by simp[aR,h]
def bv(b:Bk):BV:=⟨aR b.pages.xs,b.used,b.aU,b.bad⟩
def jv(l:List Bk):List BV:=l.map bv
theorem iv(l:List Bk):(jv l).length=l.length:=by simp[jv]
theorem nY{l:List Bk}{i:Nat}{x:Bk}(h:l[i]? =some x):(jv l)[i]? =some (bv x):=by simp[jv,h]
def cv(c:Cp):CV:=⟨c.pages,c.size,jv c.blocks.xs,c.ops,c.off,c.aA.xs⟩
def win(rm:Sv)(lo hi:Nat):Sv:=⟨rm.nil,rm.b,if hi=lo then rm.o else rm.o+lo,hi -lo,hi -lo,rm.sp⟩
def dJ(rm:Sv):Nat->List (List UInt8)->List (Sl UInt8)
  |_,[]=>[]
  |o,p::r=>⟨win rm o (o+p.length),p⟩::dJ rm (o+p.length) r
theorem xv(rm:Sv): ∀(o:Nat) (l:List (List UInt8)),aR (dJ rm o l)=l
  |_,[]=>rfl
  |o,p::r=>by
   have:=xv rm (o+p.length) r;simp only[aR,dJ,aum]at this⊢;rw[this]
theorem KT(rm:Sv): ∀(o:Nat) (l:List (List UInt8)),(dJ rm o l).length=l.length
  |_,[]=>rfl
  |o,p::r=>by rw[dJ,ad2,ad2,KT]
theorem GK(rm:Sv): ∀(o:Nat) (l:List (List UInt8)) (x:Sl UInt8),x∈dJ rm o l->x.sv.b=rm.b
  |_,[],_,h=>by cases h
  |o,p::r,x,h=>by
   rcases auc.1 h with rfl|h
   ·rfl
   ·exact GK rm _ r x h
theorem RE(rm:Sv): ∀(o:Nat) (l:List (List UInt8)) (p:List UInt8),dJ rm o (l++[p])=dJ rm o l++[⟨win rm (o+l.flatten.length) (o+l.flatten.length+p.length),p⟩]
  |o,[],p=>by simp[dJ]
  |o,q::r,p=>by
   rw[avm,dJ,RE,dJ];simp only[avn,adr,avm,avy]
theorem RF{rm:Sv}{h:Nat->Option Obj}{all:List UInt8}(hl:eZ aQ 1 h rm all): ∀(o:Nat) (l:List (List UInt8)),o+l.flatten.length<=all.length->(all.drop o).take l.flatten.length=l.flatten-> ∀x∈dJ rm o l,eZ aQ 1 h x.sv x.xs
  |_,[],_,_,_,hx=>by cases hx
  |o,p::r,hb,he,x,hx=>by
   rw[avn,adr]at hb;rw[avn,adr]at he
   have e1:(all.drop o).take p.length=p:=by
      have:=congrArg (List.take p.length) he;rw[List.take_take,awl oM,List.take_left']at this
      ·exact this
      ·rfl
   have e2:(all.drop (o+p.length)).take r.flatten.length=r.flatten:=by
      have:=congrArg (List.drop p.length) he;rw[List.drop_take,av0,List.drop_left' rfl,show p.length+r.flatten.length -p.length=r.flatten.length by omega]at this;exact this
   rcases auc.1 hx with rfl|hx
   ·have:=hl.cut (lo:=o) (hi:=o+p.length) oM oM
    rw[av9,show o+p.length -o=p.length by omega,e1]at this;simpa[win]using this
   ·exact RF hl (o+p.length) r oM e2 x hx
def AO(a:Sl (Sl UInt8)):ai:=⟨fun k=> ∃x∈a.xs,k=x.sv.b,fun h=>a.xs=[]\/ ∃rm,rm.nil=false/\a.xs=dJ rm 0 (aR a.xs)/\(own aQ 1 rm (aR a.xs).flatten).sat h,fun h h' e s=>by
  rcases s with s|⟨rm,h1,h2,h3⟩
  ·exact .inl s
  ·rcases List.eq_nil_or_concat a.xs with hx|⟨l,x,hx⟩
   ·exact .inl hx
   ·have hm:x∈a.xs:=by rw[hx];simp
    have hb:x.sv.b=rm.b:=GK rm 0 _ x (h2▸hm);exact .inr ⟨rm,h1,h2,(own aQ 1 rm (aR a.xs).flatten).loc h h' (fun k hk=>e k ⟨x,hm,by rw[hb];exact hk.2⟩) h3⟩⟩
def fK(a:Sl (Sl UInt8)):ai:= .two (own (cw (τ:=UInt8)) 1 a.sv a.xs) (AO a)
theorem acJ{a:Sl (Sl UInt8)}{h:Nat->Option Obj}(s:(AO a).sat h): ∀x∈a.xs,eZ aQ 1 h x.sv x.xs:=fun x hx=>by
  rcases s with s|⟨rm,h1,h2,h3⟩
  ·rw[s]at hx;cases hx
  ·refine RF h3.1 0 (aR a.xs) oM (by rw[avg,aup]) x (h2▸hx)
theorem Da{α:Type}{enc:α->Array Value}{c:Nat}{s:Sv}{xs:List α}{h:Nat->Option Obj}(hl:eZ enc c h s xs)(hx:xs≠[]):(own enc c s xs).fp s.b:=
  ⟨hl.ok.some (by have:=hl.len;have:=avx.2 hx;omega),rfl⟩
theorem ai.GL{k:Nat}: ∀{es:List ai} {e:ai},e∈es->e.fp k->(ai.all es).fp k
  |_::_,_,he,hk=>(auc.1 he).elim (fun h=> .inl (h▸hk)) fun h=> .inr (ai.GL h hk)
theorem RG{α:Type}{e:α}: ∀{L:List α} {i:Nat},L[i]? =Option.some e->L.Perm (e::L.eraseIdx i)
  |[],i,h=>by simp at h
  |x::L,0,h=>by obtain rfl:x=e:=by simpa using h
                simp
  |x::L,i+1,h=>by
   have:=RG (L:=L) (i:=i) (by simpa using h);rw[awO];exact(this.cons x).trans (.swap _ _ _)
theorem Mem.pick{τ:Type}{f:τ->ai}{w0 w:World}{L:List ai}{xs:List τ}{i:Nat}{x:τ}(hx:xs[i]? =some x):Mem w0 (ai.all (xs.map f)::L) w↔Mem w0 (f x::ai.all ((xs.eraseIdx i).map f)::L) w:=by
  have hp:(xs.map f).Perm (f x::(xs.eraseIdx i).map f):=by
    have:=RG hx;simpa using this.map f
  rw[Mem.CA];have e:Mem w0 (f x::ai.all ((xs.eraseIdx i).map f)::L) w↔Mem w0 (f x::((xs.eraseIdx i).map f++L)) w:=by
    have sw: ∀(a b:ai) (K:List ai),Mem w0 (a::b::K) w↔Mem w0 (b::a::K) w:=fun a b K=>⟨fun h=>h.perm (List.Perm.swap _ _ _),fun h=>h.perm (List.Perm.swap _ _ _)⟩;rw[sw,Mem.CA];exact⟨fun h=>h.perm av6,fun h=>h.perm av6.symm⟩
  rw[e];exact⟨fun h=>h.perm (hp.append_right L),fun h=>h.perm (hp.append_right L).symm⟩
theorem acK{w0 w:World}{L:List ai}{a:Sl Bk}(h:Mem w0 (own cq 4 a.sv a.xs::ai.all (a.xs.map fun b:Bk=>fK b.pages)::L) w):Mem w0 (fz a::L) w:=by
  have hs:=h.sat (own cq 4 a.sv a.xs) (by simp);have ha:=h.sat (ai.all (a.xs.map fun b:Bk=>fK b.pages)) (by simp);have hb: ∀x∈a.xs,(fK x.pages).sat fun k=>w.heap[k]? :=fun x hx=>ai.CB ha _ (auq hx);refine Mem.freeze (es:=[own cq 4 a.sv a.xs,ai.all (a.xs.map fun b:Bk=>fK b.pages)]) a ⟨hs.1,fun x hx=>⟨(hb x hx).1.1,fun y hy=>⟨acJ (hb x hx).2.1 y hy,fun _ _=>trivial⟩⟩⟩ (fun k hk=>?_) h;rcases hk with⟨bN,rfl⟩|⟨x,hx,hk⟩
  ·exact⟨_,by simp,Da hs.1 bN⟩
  ·refine⟨ai.all (a.xs.map fun b:Bk=>fK b.pages),by simp,ai.GL (auq hx) ?_⟩
   rcases hk with⟨bN,rfl⟩|⟨y,hy,⟨_,rfl⟩|⟨_,_,hf⟩⟩
   ·exact .inl (Da (hb x hx).1.1 bN)
   ·exact .inr ⟨y,hy,rfl⟩
   ·exact hf.elim
theorem GM{τ:Type}[Deep τ][r:gG τ][Plain τ]{enc:τ->Array Value}{c:Nat}[f:gL τ enc c](hr: ∀(x:τ) k,¬r.reach x k)(hg: ∀h (x:τ),Deep.cP h x){w0 w:World}{L:List ai}{a:Sl τ}(h:Mem w0 (own enc c a.sv a.xs::L) w):Mem w0 (fz a::L) w:=by
  have hs:=h.sat (own enc c a.sv a.xs) (by simp);have e1:Deep.cells (τ:=τ)=enc:=funext (gL.h (c:=c));have e2:Deep.c τ=c:=gL.hc (enc:=enc);refine Mem.acH a ⟨by rw[e1,e2];exact hs.1,fun x _=>hg _ x⟩ (fun k hk=>?_) h;rcases hk with⟨bN,rfl⟩|⟨x,_,hk⟩
  ·exact Da hs.1 bN
  ·exact(hr x k hk).elim
theorem GN{w0 w:World}{L:List ai}{d:Cp}(h:Mem w0 (fz d.blocks::fz d.aA::L) w):Mem w0 (fz d::L) w:=by
  refine Mem.freeze (es:=[fz d.blocks,fz d.aA]) d ⟨h.sat (fz d.blocks) (by simp),h.sat (fz d.aA) (by simp)⟩ (fun k hk=>?_) h;rcases hk with hk|hk
  ·exact⟨fz d.blocks,by simp,hk⟩
  ·exact⟨fz d.aA,by simp,hk⟩
theorem KU{w0 w:World}{L:List ai}{a:Sl Ft}(h:Mem w0 (own cH 4 a.sv a.xs::L) w):Mem w0 (fz a::L) w:=GM (fun _ _ h=>h) (fun _ _=>trivial) h
theorem zh{w0 w:World}{L:List ai}{a:Sl Int}(h:Mem w0 (own ck 1 a.sv a.xs::L) w):Mem w0 (fz a::L) w:=GM (fun _ _ h=>h) (fun _ _=>trivial) h
theorem KV{w0 w:World}{L:List ai}{a:Sl UInt8}(h:Mem w0 (own aQ 1 a.sv a.xs::L) w):Mem w0 (fz a::L) w:=GM (fun _ _ h=>h) (fun _ _=>trivial) h
def cT:Int:=1099511627776
def vY(b p s:Int):Bool:=decide (1<=b)&&decide (b<=32)&&decide (1<=p)&&decide (p<=16)&&decide (1<=s)&&decide (s<=256)
theorem mK{b p s:Int}:vY b p s=true↔1<=b/\b<=32/\1<=p/\p<=16/\1<=s/\s<=256:=by
 simp only[vY,af0,decide_eq_true_eq,and_assoc]
def RH(s:Int)(x:List UInt8):Bool:=decide ((x.length:Int)=s)
def rn(p s:Int)(b:BV):Bool:=decide ((b.pages.length:Int)=p)&&decide (0<=b.used)&&decide (b.used<=p)&&decide (0<=b.aU)&&decide (b.aU<=cT)&&b.pages.all (RH s)
theorem fy{p s:Int}{b:BV}:rn p s b=true↔(b.pages.length:Int)=p/\0<=b.used/\b.used<=p/\0<=b.aU/\b.aU<=cT/\ ∀x∈b.pages,(x.length:Int)=s:=by
 simp only[rn,RH,af0,decide_eq_true_eq,and_assoc,aue]
def aW(c:CV):Bool:=vY c.blocks.length c.pages c.size&&decide (0<=c.ops)&&decide (c.ops<=cT)&&decide (c.aA.length<=64)&&c.blocks.all (rn c.pages c.size)
theorem eN{c:CV}:aW c=true↔vY c.blocks.length c.pages c.size=true/\0<=c.ops/\c.ops<=cT/\c.aA.length<=64/\ ∀b∈c.blocks,rn c.pages c.size b=true:=by
 simp only[aW,af0,decide_eq_true_eq,and_assoc,aue]
def iw(c:CV)(block:Int):Bool:=aW c&&decide (0<=block)&&decide (block<c.blocks.length)
theorem iz{c:CV}{block:Int}:iw c block=true↔aW c=true/\0<=block/\block<c.blocks.length:=by
 simp only[iw,af0,decide_eq_true_eq,and_assoc]
def zBV:BV:=⟨[],0,0,false⟩
def ak(c:CV)(block:Int):BV:=c.blocks.getD block.toNat zBV
def iA(n:Int):List UInt8:=List.replicate n.toNat 255
def eH(b p s:Int):CV×Int:=if vY b p s=true then(⟨p,s,List.replicate b.toNat ⟨List.replicate p.toNat (iA s),0,0,false⟩,0,false,[]⟩,0)else(⟨0,0,[],0,false,[]⟩,1)
def bt(c:CV):Ft×Bool:=match c.aA.find? fun f=>decide (f.op=c.ops)with
 |some f=>(f,f.cut||f.fail)
 |none=>(AN,false)
def mc(f:Ft):Int:=if f.cut=true then 7 else 9
def oO(c:CV)(block pK:Int)(p:List UInt8):Bool:=iw c block&&decide (0<=pK)&&decide (pK<c.pages)&&decide ((p.length:Int)=c.size)&&decide (c.ops<cT)
theorem j7{c:CV}{block pK:Int}{p:List UInt8}:oO c block pK p=true↔iw c block=true/\0<=pK/\pK<c.pages/\(p.length:Int)=c.size/\c.ops<cT:=by
 simp only[oO,af0,decide_eq_true_eq,and_assoc]
def dn(m:UInt8)(p:List UInt8):List UInt8:=p.map fun x=>x|||m
def pL(c:CV)(p:List UInt8):List UInt8:=if(bt c).2=true then dn (~~~(bt c).1.mask) p else p
def iU(c:CV)(block pK:Int)(p:List UInt8):CV:=
 {c with ops:=c.ops+1,off:=(bt c).2&&(bt c).1.cut,blocks:=c.blocks.set block.toNat {ak c block with used:=(ak c block).used+1,pages:=(ak c block).pages.set pK.toNat (pL c p)}}
def kA(c:CV)(block pK:Int)(p:List UInt8):Int:=
 if oO c block pK p=true then(if c.off=true then 7 else if(ak c block).bad=true\/pK≠(ak c block).used then 9 else if(bt c).2=true then mc (bt c).1 else 0)else 1
def gN(c:CV)(block pK:Int)(p:List UInt8):CV:=
 if oO c block pK p=true/\c.off=false/\(ak c block).bad=false/\pK=(ak c block).used then iU c block pK p else c
def pM(c:CV)(block:Int):Bool:=iw c block&&decide (c.ops<cT)&&decide ((ak c block).aU<cT)
theorem qz{c:CV}{block:Int}:pM c block=true↔iw c block=true/\c.ops<cT/\(ak c block).aU<cT:=by
 simp only[pM,af0,decide_eq_true_eq,and_assoc]
def tm(c:CV)(ps:List (List UInt8)):List (List UInt8):=if(bt c).2=true then ps.map (dn (bt c).1.mask)else ps.map fun _=>iA c.size
def ly(c:CV)(block:Int):CV:=
 {c with ops:=c.ops+1,off:=(bt c).2&&(bt c).1.cut,blocks:=c.blocks.set block.toNat {ak c block with used:=if(bt c).2=true then c.pages else 0,aU:=(ak c block).aU+1,pages:=tm c (ak c block).pages}}
def ei(c:CV)(block:Int):Int:=
 if pM c block=true then(if c.off=true then 7 else if(ak c block).bad=true then 9 else if(bt c).2=true then mc (bt c).1 else 0)else 1
def gv(c:CV)(block:Int):CV:=if pM c block=true/\c.off=false/\(ak c block).bad=false then ly c block else c
def qA(c:CV)(block:Int):Int:=if iw c block=true then(if c.off=true then 7 else 0)else 1
def me(c:CV)(block:Int):CV:=if qA c block=0 then{c with blocks:=c.blocks.set block.toNat {ak c block with bad:=true}}else c
def kN(c:CV)(fs:List Ft):Int:=if aW c=true/\fs.length<=64 then 0 else 1
def iI(c:CV)(fs:List Ft):CV:=if kN c fs=0 then{c with off:=false,aA:=fs}else c
theorem GO{c:CV}{block:Int}(h:iw c block=true):c.blocks[block.toNat]? =some (ak c block):=by
 obtain⟨_,h2,h3⟩:=iz.1 h;exact pz oM
theorem rp{c:CV}{block:Int}(h:iw c block=true):rn c.pages c.size (ak c block)=true:=
 (eN.1 (iz.1 h).1).2.2.2.2 _ (atl (GO h))
end Go.Kb
namespace Go.ax
open Go.RowKit
section
variable {α:Type} {enc:α->Array Value} {c:Nat}
theorem acL{P:Program}{t tx ty e:TypeId}{bP:Nat}(ht:dS P t e c bP)[he:bp enc c]{w0 w:World}{L:List ai}{i:Nat}{s:Sv}{xs ys:List α}{x:Value}
  (hw:Mem w0 L w) (hi:L[i]? =some (own enc c s xs)) (hs:Src P c tx x ys.length (aL enc ys) w) (hn:s.nil=false) (ql:s.len+ys.length<=s.cap) (kv:s.len+ys.length<=140737488355328):
  ∃w',(Builtin.append_ #[t,tx] ty #[s.val,x]).run P w= .ok (Sv.val {s with len:=s.len+ys.length}) w'/\Mem w0 (L.set i (own enc c {s with len:=s.len+ys.length} (xs++ys))) w':=by
 obtain⟨r,px⟩:=hw.get hi;obtain⟨i',z,bg,aK,bx,di,nn⟩:=ht.info;subst bx di;have hlen:=r.len;have hle:=r.ok.le;obtain⟨eL,cs,T,fz,fm,eQ,nO,lV⟩:=px hn;have hmul:(s.len+ys.length)*i'.size<=s.cap*i'.size:=auj _ ql;have eS:(aL enc ys).length=ys.length*i'.size:=iG ys;have iR:s.o+s.len*i'.size+(aL enc ys).toArray.size<=cs.size:=by
  rw[au0,eS];rw[auz]at hmul;omega
 have bD:=Ct (P:=P) s.b (s.o+s.len*i'.size) T fz (aL enc ys) 0 cs w fm nO (by simpa using iR) hs.one;have Cu:(storeCells ⟨s.b,s.o+s.len*i'.size,none⟩ (aL enc ys)).run P w= .ok () (w.setRow s.b (over cs (s.o+s.len*i'.size) (aL enc ys).toArray)):=by
  simpa[over]using bD
 refine⟨w.setRow s.b (over cs (s.o+s.len*i'.size) (aL enc ys).toArray),?_,?_⟩
 ·
  have my:({s with len:=s.len+ys.length}:Sv).val= .slice (some ⟨s.b,s.o,s.sp⟩) (s.len+ys.length) s.cap:=Sv.ik (s:={s with len:=s.len+ys.length}) hn
  rw[Sv.ik hn,my,eL];rcases hs.kind with⟨e',hk⟩|hk<;>simp[Builtin.append_,run_underlying ht.eK,run_underlying hk,sizeOf,typeInfo,bg,hs.len,ql,hs.cells,Addr.hQ,Cu]
 ·
  have mA:hp (w.setRow s.b (over cs (s.o+s.len*i'.size) (aL enc ys).toArray)) s.b=some (.cells (over cs (s.o+s.len*i'.size) (aL enc ys).toArray) T fz):=setRow_heap w s.b cs _ T fz fm;refine hw.change hi (fun k hk=>hk) (fun k hk=>?_) (by simp[World.setRow]) ⟨rfl,rfl,rfl⟩ ⟨w7 ⟨(fun h=>by rw[hn]at h;cases h),ql,by simp only;omega,r.ok.sp⟩ (by simp[hlen]) mA fun k y hy j hj=>?_,fun _=>⟨eL,_,_,_,mA,?_,by rw[pw iR];exact nO,lV⟩⟩
  ·exact setRow_other w s.b k _ (fun e=>hk ⟨hn,e⟩)
  ·
   rw[uj iR]
   by_cases hk:k<xs.length
   ·
    rw[if_neg,←r.row k y (by rw[aus hk]at hy;exact hy) j hj]
    ·unfold nN;rw[fm]
    ·have:(k+1)*i'.size<=s.len*i'.size:=auj _ oM;rw[auz]at this;intro h;have:=h.1;simp only at this;omega
   ·
    rw[auf oM]at hy;have sR:=ow (enc:=enc) ys (k -xs.length) y hy j hj;have oy:s.len*i'.size+(k -xs.length)*i'.size=k*i'.size:=by rw[←auz];congr 1;omega
    have bq:(k -xs.length+1)*i'.size<=ys.length*i'.size:=auj _ (by have:=(zz.1 hy).1;omega);rw[auz]at bq;rw[if_pos ⟨by simp only;omega,by rw[au0,eS];simp only;omega⟩,←sR];simp only[avu];congr 1;omega
  ·rw[pw iR];exact eQ
theorem acM{P:Program}{w0 w:World}{L:List ai}{i:Nat}{s:Sv}{xs ys:List α}[he:bp enc c]{k:Nat}(hw:Mem w0 L w)(hi:L[i]? =some (own enc c s xs))(hn:s.nil=false)(hk:k+ys.length<=xs.length):
  ∃w',(storeCells ⟨s.b,s.o+k*c,none⟩ (aL enc ys)).run P w= .ok () w'/\Mem w0 (L.set i (own enc c s (xs.take k++(ys++xs.drop (k+ys.length))))) w':=by
 obtain⟨r,px⟩:=hw.get hi;have hlen:=r.len;have hle:=r.ok.le;obtain⟨eL,cs,T,fz,fm,eQ,nO,lV⟩:=px hn;have hmul:(k+ys.length)*c<=s.cap*c:=auj _ oM;have eS:(aL enc ys).length=ys.length*c:=iG ys;have iR:s.o+k*c+(aL enc ys).toArray.size<=cs.size:=by
  rw[au0,eS];rw[auz]at hmul;omega
 have uD: ∀v∈aL enc ys,v.oneCell'=true:=wZ ys;have bD:=Ct (P:=P) s.b (s.o+k*c) T fz (aL enc ys) 0 cs w fm nO (by simpa using iR) uD;have Cu:(storeCells ⟨s.b,s.o+k*c,none⟩ (aL enc ys)).run P w= .ok () (w.setRow s.b (over cs (s.o+k*c) (aL enc ys).toArray)):=by
  simpa[over]using bD
 refine⟨_,Cu,?_⟩;have mA:hp (w.setRow s.b (over cs (s.o+k*c) (aL enc ys).toArray)) s.b=some (.cells (over cs (s.o+k*c) (aL enc ys).toArray) T fz):=setRow_heap w s.b cs _ T fz fm;have mL:(xs.take k++(ys++xs.drop (k+ys.length))).length=xs.length:=by simp only[adr,at3,auh];omega
 refine hw.change hi (fun k hk=>hk) (fun k hk=>?_) (by simp[World.setRow]) ⟨rfl,rfl,rfl⟩ ⟨w7 r.ok (by rw[mL];exact hlen) mA fun m y hy j hj=>?_,fun _=>⟨eL,_,_,_,mA,?_,by rw[pw iR];exact nO,lV⟩⟩
 ·exact setRow_other w s.b k _ (fun e=>hk ⟨hn,e⟩)
 ·
  rw[uj iR];rcases aud m k with h1|h1
  ·
   have xr:xs[m]? =some y:=by
    rw[aus (by rw[at3];omega),avJ,if_pos h1]at hy;exact hy
   rw[if_neg,←r.row m y xr j hj]
   ·unfold nN;rw[fm]
   ·have:(m+1)*c<=k*c:=auj _ oM;rw[auz]at this;intro h;have:=h.1;omega
  ·
   rcases aud m (k+ys.length)with h2|h2
   ·
    have xr:ys[m -k]? =some y:=by
     rw[auf (by rw[at3];omega),at3,awl oM,aus oM]at hy;exact hy
    have sR:=ow (enc:=enc) ys (m -k) y xr j hj;have oy:k*c+(m -k)*c=m*c:=by rw[←auz];congr 1;omega
    have bq:(m -k+1)*c<=ys.length*c:=auj _ oM;rw[auz]at bq;rw[if_pos ⟨oM,by rw[au0,eS];omega⟩,←sR];simp only[avu];congr 1;omega
   ·
    have xr:xs[m]? =some y:=by
     rw[auf (by rw[at3];omega),at3,awl oM,auf oM,avd]at hy;rw[←hy];congr 1;omega
    rw[if_neg,←r.row m y xr j hj]
    ·unfold nN;rw[fm]
    ·have:(k+ys.length)*c<=m*c:=auj _ h2;rw[auz]at this;intro h;have:=h.2;rw[au0,eS]at this;omega
 ·rw[pw iR];exact eQ
end
section
variable {P:Program} {N:cA} {w0:World} {env:Env} {L:List ai} {l:List Oper} {Q:Exit->Act->World->Prop} {rest:List Oper} {d:Option Tmp} {ty:TypeId} {ps:String} {af:Array Edge} {gd:Option (Nat×Bool)} {K:Value->List ai->Prop}
variable {α:Type} {enc:α->Array Value} {c:Nat} {s:Sv} {xs ys:List α}
theorem acN{t tx e:TypeId}{x y:Operand}{yv:Value}{bP i:Nat}[ht:dS P t e c bP][he:bp enc c](hx:ev env x=some s.val)(hy:ev env y=some yv)[q:gg L s enc c xs i]
  (hs: ∀w,Mem w0 L w->Src P c tx yv ys.length (aL enc ys) w) (hn:s.nil=false) (ql:s.len+ys.length<=s.cap) (kv:s.len+ys.length<=140737488355328) {L':List ai} [hu:fZ L i (own enc c {s with len:=s.len+ys.length} (xs++ys)) L']
  (hk:K (Sv.val {s with len:=s.len+ys.length}) L'):
  aO P N w0 env L ⟨d, .call {callee:= .builtin .append,args:= #[x,y],argTypes:= #[t,tx]},ty,ps,af,gd⟩ K:=
 rf fun a w ha hw=>by
  obtain⟨w',h1,h4⟩:=acL (ty:=ty) ht hw q.h (hs w hw) hn ql kv;refine⟨_,w',L',?_,by rw[←hu.h];exact h4,hk⟩;simp[execOp,ha.ev hx,ha.ev hy,resolve,invoke,builtin,h1,Result.andThen]
theorem acO{t tx e:TypeId}{x y:Operand}{yv:Value}{bP i:Nat}[ht:dS P t e c bP][he:bp enc c](hx:ev env x=some s.val)(hy:ev env y=some yv)[q:gg L s enc c xs i]
  (hs: ∀w,Mem w0 L w->Src P c tx yv ys.length (aL enc ys) w) (hn:s.nil=false) (ql:s.len+ys.length<=s.cap) (kv:s.len+ys.length<=140737488355328) {L':List ai} [hu:fZ L i (own enc c {s with len:=s.len+ys.length} (xs++ys)) L']
  (hk:Sq P N w0 l Q rest (cr env d (Sv.val {s with len:=s.len+ys.length})) L') (hd:dq N d=true:=by rfl):
  Sq P N w0 l Q (⟨d, .call {callee:= .builtin .append,args:= #[x,y],argTypes:= #[t,tx]},ty,ps,af,none⟩::rest) env L:=
 QC rfl hd (acN hx hy hs hn ql kv hk)
theorem RI{D S rm:Sv}{x y:Operand}{tx gU e:TypeId}{i k:Nat}{ys:List α}[he:bp enc c](hx:ev env x=some D.val)(nX:D.nil=false)(pG:D.sp=none)(rj:D.b=rm.b)(tk:D.o=rm.o+k*c)(hy:ev env y=some S.val)[ht:fH P tx e c][q:gg L rm enc c xs i][hS:Hd w0 L S enc c ys](hc:0<c)(hn:rm.nil=false)(h0:0<ys.length)(hl:ys.length<=D.len)(kJ:k+ys.length<=xs.length)
  {L':List ai} [hu:fZ L i (own enc c rm (xs.take k++(ys++xs.drop (k+ys.length)))) L'] (hk:K (.int .i64 ys.length) L'):
  aO P N w0 env L ⟨d, .call {callee:= .builtin .copy,args:= #[x,y],argTypes:= #[tx,gU]},ty,ps,af,gd⟩ K:=
 rf fun a w ha hw=>by
  have hs:=hS.h w hw;have C7:=hs.some h0;have qu:=hs.len;have C8:=hs.ok.sp (by have:=hs.ok.le;omega);rw[Sv.ik nX,pG,rj,tk]at hx;rw[Sv.ik C7,C8]at hy;obtain⟨w',h1,h2⟩:=acM (P:=P) hw q.h hn kJ;rw[hu.h]at h2;refine⟨_,w',L',?_,h2,hk⟩;have GP:=run_loadCells_list (P:=P) w ⟨S.b,S.o,none⟩ (aL enc ys) (fun j v hj=>by
   obtain⟨z,hz,hv⟩:=Fk hc hj;rw[Addr.hQ,rU,←hv,←hs.row _ z hz (j%c) (avV _ hc)];congr 1;have:=aww j c;rw[avs]at this;omega)
  rw[iG]at GP
  cases hq:P.info? e with
  |none=>have:=ht.size;simp[hq]at this
  |some i'=>
   have hi:i'.size=c:=by have:=ht.size;simpa[hq]using this
   have Ce:Nat.min S.len D.len=ys.length:=by rw[qu];exact awl hl
   have gS:(Builtin.copy_ #[tx,gU] ty #[.slice (some ⟨rm.b,rm.o+k*c,none⟩) D.len D.cap, .slice (some ⟨S.b,S.o,none⟩) S.len S.cap]).run P w= .ok (goInt ys.length) w':=by
    simp[Builtin.copy_,run_underlying ht.eK,Builtin.lenOf,Builtin.firstCells,sizeOf,typeInfo,hq,hi,Ce,GP,h1]
   simp[execOp,ha.ev hx,ha.ev hy,resolve,invoke,builtin,gS,Result.andThen,goInt]
theorem acP{D S rm:Sv}{x y:Operand}{tx gU e:TypeId}{i k:Nat}{ys:List α}[he:bp enc c](hx:ev env x=some D.val)(nX:D.nil=false)(pG:D.sp=none)(rj:D.b=rm.b)(tk:D.o=rm.o+k*c)(hy:ev env y=some S.val)[ht:fH P tx e c][q:gg L rm enc c xs i][hS:Hd w0 L S enc c ys](hc:0<c)(hn:rm.nil=false)(h0:0<ys.length)(hl:ys.length<=D.len)(kJ:k+ys.length<=xs.length)
  {L':List ai} [hu:fZ L i (own enc c rm (xs.take k++(ys++xs.drop (k+ys.length)))) L'] (hk:Sq P N w0 l Q rest (cr env d (.int .i64 ys.length)) L') (hd:dq N d=true:=by rfl):
  Sq P N w0 l Q (⟨d, .call {callee:= .builtin .copy,args:= #[x,y],argTypes:= #[tx,gU]},ty,ps,af,none⟩::rest) env L:=
 QC rfl hd (RI hx nX pG rj tk hy hc hn h0 hl kJ hk)
end
theorem Mem.AP{w0 w:World}{L:List ai}{e:ai}{es:List ai}(h:Mem w0 (e::ai.all es::L) w):Mem w0 (ai.all (es++[e])::L) w:=by
 have h1:Mem w0 (ai.all (e::es)::L) w:=Mem.acI h;rw[Mem.CA]at h1⊢;exact h1.perm ((List.perm_append_singleton e es).symm.append_right L)
theorem Mem.GQ{w0 w:World}{L:List ai}{e e':ai}(hf: ∀k,e'.fp k->e.fp k)(hs:(e.sat fun k=>w.heap[k]?)->e'.sat fun k=>w.heap[k]?)(h:Mem w0 (e::L) w):Mem w0 (e'::L) w:=by
 have hd:=auV.1 h.qi;refine⟨h.below,fun x he=>?_,fun x he k hk=>?_,auV.2 ⟨fun y hy k hk=>hd.1 y hy k (hf k hk),hd.2⟩⟩
 ·
  rcases auc.1 he with rfl|he
  ·exact hs (h.sat e (by simp))
  exact h.sat x (by simp[he])
 rcases auc.1 he with rfl|he
 ·exact h.kl e (by simp) k (hf k hk)
 exact h.kl x (by simp[he]) k hk
end Go.ax
namespace Go.Kb
open Go.ax
theorem RJ{w0 w:World}{L:List ai}{s rm:Sv}{l:List (List UInt8)}{xs:List (Sl UInt8)}(hx:xs=dJ rm 0 l)(hn:rm.nil=false)(h:Mem w0 (own (cw (τ:=UInt8)) 1 s xs::own aQ 1 rm l.flatten::L) w):Mem w0 (fK ⟨s,xs⟩::L) w:=by
 have ht:aR xs=l:=by rw[hx,xv]
 have h1:=h.perm (List.Perm.swap _ _ _);have h2:Mem w0 (AO ⟨s,xs⟩::own (cw (τ:=UInt8)) 1 s xs::L) w:=Mem.GQ (fun k hk=>by
  obtain⟨x,xm,rfl⟩:=hk;exact⟨hn,GK rm 0 l x (hx▸xm)⟩) (fun hs=> .inr ⟨rm,hn,by simp only[ht];exact hx,by simp only[ht];exact hs⟩) h1
 exact Mem.yS.2 (h2.perm (List.Perm.swap _ _ _))
theorem acQ{w0 w:World}{L:List ai}{s:Sv}(h:Mem w0 (own (cw (τ:=UInt8)) 1 s []::L) w):Mem w0 (fK ⟨s,[]⟩::L) w:=by
 refine Mem.yS.2 (Mem.perm (Mem.GQ (e:= .emp) (e':=AO ⟨s,[]⟩) (fun k hk=>?_) (fun _=> .inl rfl) (Mem.Cz.2 h)) (List.Perm.swap _ _ _));obtain⟨x,hx,_⟩:=hk
 cases hx
theorem acR{w0 w:World}{L:List ai}{a:Sl (Sl UInt8)}(bN:a.xs≠[])(h:Mem w0 (fK a::L) w): ∃rm:Sv,(rm.nil=false/\rm.sp=none/\a.xs=dJ rm 0 (aR a.xs))/\Mem w0 (own (cw (τ:=UInt8)) 1 a.sv a.xs::own aQ 1 rm (aR a.xs).flatten::L) w:=by
 have h1:=Mem.yS.1 h;have hr:=h1.sat (AO a) (by simp);rcases hr with hr|⟨rm,g1,g2,g3⟩
 ·exact absurd hr bN
 refine⟨rm,⟨g1,(g3.2 g1).1,g2⟩,?_⟩;have h2:=h1.perm (List.Perm.swap _ _ _);obtain⟨x,l,AQ⟩:=List.exists_cons_of_ne_nil bN;have hm:x∈a.xs:=by rw[AQ];simp
 have hb:x.sv.b=rm.b:=GK rm 0 _ x (g2▸hm);exact(Mem.GQ (e:=AO a) (e':=own aQ 1 rm (aR a.xs).flatten) (fun k hk=>⟨x,hm,by rw[hb];exact hk.2⟩) (fun _=>g3) h2).perm (List.Perm.swap _ _ _)
theorem GR: ∀{l:List (List UInt8)} {i:Nat} {q r:List UInt8},l[i]? =some q->r.length=q.length->(l.set i r).flatten=l.flatten.take (l.take i).flatten.length++(r++l.flatten.drop ((l.take i).flatten.length+r.length))
 |y::l,0,q,r,h,hr=>by
  obtain rfl:y=q:=by simpa using h
  simp[hr]
 |y::l,i+1,q,r,h,hr=>by
  have:=GR (l:=l) (i:=i) (q:=q) (r:=r) (by simpa using h) hr;simp only[awg,avn,this,ave,adr];rw[List.take_length_add_append,avy,List.drop_length_add_append,at4]
theorem GS{rm:Sv}: ∀{o:Nat} {l:List (List UInt8)} {i:Nat} {q:List UInt8},l[i]? =some q->(dJ rm o l)[i]? =some ⟨win rm (o+(l.take i).flatten.length) (o+(l.take i).flatten.length+q.length),q⟩
 |o,y::l,0,q,h=>by
  obtain rfl:y=q:=by simpa using h
  simp[dJ]
 |o,y::l,i+1,q,h=>by
  have:=GS (rm:=rm) (o:=o+y.length) (l:=l) (i:=i) (q:=q) (by simpa using h);simp only[dJ,List.getElem?_cons_succ,this,ave,avn,adr,avy]
def RL(l:List (List UInt8)):Prop:=l.length<=1000000/\l.flatten.length<=1000000
theorem Db{l:List (List UInt8)}{i:Nat}{q:List UInt8}(h:l[i]? =some q):(l.take (i+1)).flatten.length=(l.take i).flatten.length+q.length:=by
 rw[at6,h];simp
theorem Dc(l:List (List UInt8))(i:Nat):(l.take i).flatten.length<=l.flatten.length:=by
 have:l.flatten=(l.take i).flatten++(l.drop i).flatten:=by rw[←List.flatten_append,auO]
 rw[this,adr];omega
theorem acS{rm:Sv}{l:List (List UInt8)}{n i:Nat}{r q:List UInt8}(hn:n=l.length)(hr:r=(l.take i).flatten)(h:l[i]? =some q):(dJ rm 0 (l.take i)++List.replicate (n -i) (⟨Sv.none,[]⟩:Sl UInt8)).set i ⟨win rm r.length (r.length+q.length),q⟩=dJ rm 0 (l.take (i+1))++List.replicate (n -(i+1)) (⟨Sv.none,[]⟩:Sl UInt8):=by
 have hi:=(zz.1 h).1;have hl:(dJ rm 0 (l.take i)).length=i:=by rw[KT,at3];omega
 rw[avS _ _ oM,hl,avX,at6,h,show n -i=n -(i+1)+1 by omega,awM,avo];simp only[awR];rw[RE,hr,auL,at4,List.singleton_append]
theorem pN{w0 w:World}{L:List ai}(d:Cp)(h:Mem w0 (own cq 4 d.blocks.sv d.blocks.xs::ai.all (d.blocks.xs.map fun b:Bk=>fK b.pages)::own cH 4 d.aA.sv d.aA.xs::L) w):Mem w0 (fz d::L) w:=
 GN ((KU (a:=d.aA) ((acK h).perm (List.Perm.swap _ _ _))).perm (List.Perm.swap _ _ _))
theorem KW{α:Type}{enc:α->Array Value}{c:Nat}{s:Sv}{xs ys:List α}{w0 w:World}{L:List ai}(e:xs.map enc=ys.map enc)(h:Mem w0 (own enc c s xs::L) w):Mem w0 (own enc c s ys::L) w:=
 Mem.GQ (e:=own enc c s xs) (fun _ hk=>hk) (fun hs=>⟨⟨hs.1.ok,by have:=congrArg List.length e;simp only[aur]at this;rw[←this];exact hs.1.len,fun i y hy j hj=>by
  have h1:(xs.map enc)[i]? =(ys.map enc)[i]? :=by rw[e]
  rw[aua,aua,hy]at h1
  cases hx:xs[i]?with
  |none=>rw[hx]at h1;cases h1
  |some x=>
   rw[hx]at h1;have h2:enc x=enc y:=by simpa using h1
   have:=hs.1.row i x hx j hj;rw[h2]at this;exact this⟩,hs.2⟩) h
theorem GU{w0 w:World}{L:List ai}{s sp rm:Sv}{xs:List Bk}{i:Nat}{B B':Bk}{ps:List (Sl UInt8)}{l:List (List UInt8)}(hi:i<xs.length)(hp:ps.map (fun x=>x.sv)=(dJ rm 0 l).map (fun x=>x.sv))(hn:rm.nil=false)(hc:cq B=cq B')(hB:B'.pages=⟨sp,dJ rm 0 l⟩)
  (h:Mem w0 (own (cw (τ:=UInt8)) 1 sp ps::own aQ 1 rm l.flatten::own cq 4 s (xs.set i B)::ai.all ((xs.eraseIdx i).map fun b:Bk=>fK b.pages)::L) w):Mem w0 (own cq 4 s (xs.set i B')::ai.all ((xs.set i B').map fun b:Bk=>fK b.pages)::L) w:=by
 have h1:Mem w0 (own (cw (τ:=UInt8)) 1 sp (dJ rm 0 l)::own aQ 1 rm l.flatten::own cq 4 s (xs.set i B)::ai.all ((xs.eraseIdx i).map fun b:Bk=>fK b.pages)::L) w:=KW (by
  have:=congrArg (List.map fun v:Sv=>(#[v.val]:Array Value)) hp;rw[awJ,awJ]at this;exact this) h
 have h2:=RJ (xs:=dJ rm 0 l) rfl hn h1;rw[←hB]at h2;have h3:=KW (ys:=xs.set i B') (by rw[awe,awe,hc]) (h2.perm (List.Perm.swap _ _ _));have h4:Mem w0 (fK B'.pages::ai.all (((xs.set i B').eraseIdx i).map fun b:Bk=>fK b.pages)::own cq 4 s (xs.set i B')::L) w:=by
  rw[List.eraseIdx_set_eq];exact h3.perm ((List.Perm.swap _ _ _).trans (List.Perm.cons _ (List.Perm.swap _ _ _)))
 have h5:=(Mem.pick (f:=fun b:Bk=>fK b.pages) (xs:=xs.set i B') (i:=i) (x:=B') (by rw[auk hi])).2 h4;exact h5.perm (List.Perm.swap _ _ _)
theorem RM{w0 w:World}{L:List ai}{s:Sv}{xs:List Bk}{i:Nat}{B:Bk}(hB:xs[i]? =some B)(bN:B.pages.xs≠[])(h:Mem w0 (own cq 4 s xs::ai.all (xs.map fun b:Bk=>fK b.pages)::L) w):
  ∃rm:Sv,(rm.nil=false/\rm.sp=none/\B.pages.xs=dJ rm 0 (aR B.pages.xs))/\Mem w0 (own (cw (τ:=UInt8)) 1 B.pages.sv B.pages.xs::own aQ 1 rm (aR B.pages.xs).flatten::own cq 4 s xs::ai.all ((xs.eraseIdx i).map fun b:Bk=>fK b.pages)::L) w:=by
 have h1:=(Mem.pick (f:=fun b:Bk=>fK b.pages) hB).1 (h.perm (List.Perm.swap _ _ _));obtain⟨rm,hr,h2⟩:=acR bN h1;refine⟨rm,hr,h2.perm (List.Perm.cons _ (List.Perm.cons _ (List.Perm.swap _ _ _)))⟩
end Go.Kb
namespace Go.ax
section
variable {P:Program} {N:cA} {w0:World} {env:Env} {L:List ai} {d:Option Tmp} {ty:TypeId} {ps:String} {af:Array Edge} {gd:Option (Nat×Bool)} {x y:Operand} {t u:TypeId}
theorem RN{a b:UInt8}(hx:ev env x=some (.int .u8 a.toNat))(hy:ev env y=some (.int .u8 b.toNat)):
  Ry P N w0 env L ⟨d, .binOp .or t x y u,ty,ps,af,gd⟩ (.int .u8 (a|||b).toNat):=by
 have ha:=a.toNat_lt;have hb:=b.toNat_lt;rw[UInt8.toNat_or];exact Cn hx hy rfl rfl (by simp only[nb];omega) (by simp only[nb];omega)
theorem acT: ∀n,n<256->(255^^^n:Nat)=255 -n:=by decide+kernel
theorem acU{p q:Nat}(hp:p<2^nb .u8)(hq:q<2^nb .u8):Op.intBits .xor .u8 (p:Int) (q:Int)=(pure (.int .u8 ((p^^^q:Nat):Int)):Sem Value):=by
 simp only[Op.intBits,Ah,BitVec.toNat_xor,avH,auJ (rS hp),auJ (rS hq)];rw[qW (awQ hp hq)]
theorem acV{a:UInt8}(hx:ev env x=some (.int .u8 a.toNat)):
  Ry P N w0 env L ⟨d, .unOp .xor t x,ty,ps,af,gd⟩ (.int .u8 (~~~a).toNat):=fun aa w ha _=>by
 have e:(Op.intBits .xor .u8 255 (a.toNat:Int))=(pure (.int .u8 ((~~~a).toNat:Int)):Sem Value):=by
  have h3:=a.toNat_lt;have h4:(~~~a).toNat=255 -a.toNat:=UInt8.toNat_not a;have h5:(255^^^a.toNat:Nat)=255 -a.toNat:=acT a.toNat h3;have hp:(255:Nat)<2^nb .u8:=by decide
  have hq:a.toNat<2^nb .u8:=h3;have hx:=acU hp hq;rw[h5]at hx;rw[h4];exact hx
 simp only[execOp,ha.ev hx,Op.unary,Sem.run_bind,Result.andThen];rw[show(if IntKind.u8.signed=true then(-1:Int)else IntKind.u8.max)=255 by decide,e];rfl
end
open Go.RowKit
section
variable {P:Program} {N:cA} {w0:World} {env:Env} {L:List ai} {l:List Oper} {Q:Exit->Act->World->Prop} {rest:List Oper} {d:Option Tmp} {ty:TypeId} {ps:String} {af:Array Edge} {gd:Option (Nat×Bool)} {K:Value->List ai->Prop}
variable {α:Type} {enc:α->Array Value} {c:Nat}
theorem acW{β:Type}{l:List β}{i:Nat}{z:β}(h:l[i]? =some z):l.set i z=l:=by
 obtain⟨hi,rfl⟩:=zz.1 h;exact List.set_getElem_self hi
theorem acX{D S:Sv}{x y:Operand}{tx gU e:TypeId}(hx:ev env x=some D.val)(hy:ev env y=some S.val)[ht:fH P tx e c][hS:Hd w0 L S enc c []](hk:K (.int .i64 0) L):
  aO P N w0 env L ⟨d, .call {callee:= .builtin .copy,args:= #[x,y],argTypes:= #[tx,gU]},ty,ps,af,gd⟩ K:=
 rf fun a w ha hw=>by
  have hs:=hS.h w hw;have qu:S.len=0:=hs.len;obtain⟨ad,len,cap,e1⟩:=S.ex;have el:len=S.len:=by
   cases hn:S.nil with
   |true=>rw[Sv.sQ hn]at e1;have:=hs.ok.nil hn;cases e1;omega
   |false=>rw[Sv.ik hn]at e1;cases e1;rfl
  obtain⟨RO,Q2,acY,e2⟩:=D.ex;refine⟨_,w,L,?_,hw,hk⟩
  cases hq:P.info? e with
  |none=>have:=ht.size;simp[hq]at this
  |some i'=>
   rw[e1]at hy;rw[e2]at hx;have kO:len=0:=by omega
   have gS:(Builtin.copy_ #[tx,gU] ty #[.slice RO Q2 acY, .slice ad len cap]).run P w= .ok (goInt 0) w:=by
    have GP: ∀v:Addr,(loadCells v 0).run P w= .ok #[] w:=fun v=>by
     have:=run_loadCells_list (P:=P) w v [] (fun j v hj=>by simp at hj);simpa using this
    have bD: ∀v:Addr,(storeCells v []).run P w= .ok () w:=fun v=>rfl
    cases RO<;>cases ad<;>simp[Builtin.copy_,run_underlying ht.eK,Builtin.lenOf,Builtin.firstCells,sizeOf,typeInfo,hq,kO,GP,bD]
   simp[execOp,ha.ev hx,ha.ev hy,resolve,invoke,builtin,gS,Result.andThen,goInt]
theorem KX{D S rm:Sv}{x y:Operand}{tx gU e:TypeId}{i k:Nat}{xs ys:List α}[he:bp enc c](hx:ev env x=some D.val)(nX:D.nil=false)(pG:D.sp=none)(rj:D.b=rm.b)(tk:D.o=rm.o+k*c)(hy:ev env y=some S.val)[ht:fH P tx e c][q:gg L rm enc c xs i][hS:Hd w0 L S enc c ys](hc:0<c)(hn:rm.nil=false)(hl:ys.length<=D.len)(kJ:k+ys.length<=xs.length)
  {L':List ai} [hu:fZ L i (own enc c rm (xs.take k++(ys++xs.drop (k+ys.length)))) L'] (hk:K (.int .i64 ys.length) L'):
  aO P N w0 env L ⟨d, .call {callee:= .builtin .copy,args:= #[x,y],argTypes:= #[tx,gU]},ty,ps,af,gd⟩ K:=by
 by_cases h0:ys=[]
 ·
  subst h0;have e1:xs.take k++([]++xs.drop (k+([]:List α).length))=xs:=by simp
  have e2:L'=L:=by
   rw[←hu.h,e1];exact acW q.h
  exact acX (c:=c) (enc:=enc) hx hy (by rw[e2]at hk;exact hk)
 ·exact RI hx nX pG rj tk hy hc hn (avx.2 h0) hl kJ hk
end
end Go.ax
namespace Go.Kb
open Go.ax
def gk(c:Cp):Prop:=c.blocks.xs.length<=1000000/\c.aA.xs.length<=1000000/\ ∀b∈c.blocks.xs,RL (aR b.pages.xs)
theorem xw{α:Type}{l:List α}{i:Nat}{z:α}(h:l[i]? =some z):l.set i z=l:=by
 obtain⟨hi,rfl⟩:=zz.1 h;exact List.set_getElem_self hi
theorem zj(l:List Bk)(i:Nat)(b:Bk):jv (l.set i b)=(jv l).set i (bv b):=by simp[jv,awe]
theorem acZ{zs:List Bk}{i:Nat}{z z':Bk}(h:zs[i]? =some z):((zs.take i).map fun b:Bk=>fK b.pages)++[fK z'.pages]=((zs.set i z').take (i+1)).map fun b:Bk=>fK b.pages:=by
 have hi:=(zz.1 h).1;rw[at6,auk hi,awr (at5 _),auv];rfl
theorem ac0{c:CV}(h: ∀f∈c.aA,f.op≠c.ops):bt c=(AN,false):=by
 have:c.aA.find? (fun f=>decide (f.op=c.ops))=none:=List.find?_eq_none.2 fun f hf=>by simpa using h f hf
 rw[bt,this]
theorem ac1{c:CV}{i:Nat}{f:Ft}(hf:c.aA[i]? =some f)(h: ∀j g,j<i->c.aA[j]? =some g->g.op≠c.ops)(he:f.op=c.ops):bt c=(f,f.cut||f.fail):=by
 have:c.aA.find? (fun f=>decide (f.op=c.ops))=some f:=by
  rw[List.find?_eq_some_iff_getElem];obtain⟨hi,rfl⟩:=zz.1 hf;exact⟨by simpa using he,i,hi,rfl,fun j hj=>by
   simpa using h j (c.aA[j]'(by omega)) hj (at2 oM)⟩
 rw[bt,this]
theorem RP: ∀l:List (List UInt8),(∀x∈l,x.length<=256)->(l.map List.length).sum<=l.length*256
 |[],_=>by simp
 |x::l,hl=>by
  have h1:=RP l fun y hy=>hl y (aui _ hy);have h2:=hl x auD;simp only[aum,awz,ad2];omega
theorem r9{c:Cp}(h:aW (cv c)=true):gk c:=by
 obtain⟨h1,h2,h3,h4,h5⟩:=eN.1 h;obtain⟨s1,s2,s3,s4,s5,s6⟩:=mK.1 h1;simp only[cv,iv]at*;refine⟨oM,oM,fun b hb=>?_⟩;have g:=fy.1 (h5 (bv b) (auq hb));simp only[bv]at g;have hf:(aR b.pages.xs).flatten.length<=(aR b.pages.xs).length*256:=by
  rw[List.length_flatten];exact RP _ fun x hx=>by have:=g.2.2.2.2.2 x hx;omega
 exact⟨oM,oM⟩
theorem KY{rm:Sv}: ∀{o:Nat} {l l':List (List UInt8)},l.map List.length=l'.map List.length->(dJ rm o l).map (fun x=>x.sv)=(dJ rm o l').map (fun x=>x.sv)
 |_,[],[],_=>rfl
 |_,[],_::_,h=>by simp at h
 |_,_::_,[],h=>by simp at h
 |o,p::l,p'::l',h=>by
  simp only[aum,awx]at h;have:=KY (rm:=rm) (o:=o+p'.length) h.2;simp only[dJ,aum,h.1,this]
theorem ac2{rm:Sv}{l:List (List UInt8)}{i:Nat}{q r:List UInt8}(h:l[i]? =some q)(hr:r.length=q.length):(dJ rm 0 l).map (fun x=>x.sv)=(dJ rm 0 (l.set i r)).map (fun x=>x.sv):=KY (by
 rw[awe,hr,xw];rw[aua,h];rfl)
theorem AR: ∀{l:List (List UInt8)} {i j:Nat} {q:List UInt8},l[i]? =some q->j<q.length->l.flatten[(l.take i).flatten.length+j]? =q[j]?
 |y::l,0,j,q,h,hj=>by
  obtain rfl:y=q:=by simpa using h
  simp only[auw,awZ,alM,auL,avn];rw[aus hj]
 |y::l,i+1,j,q,h,hj=>by
  have:=AR (l:=l) (i:=i) (j:=j) (q:=q) (by simpa using h) hj;simp only[ave,avn,adr];rw[avy,auf oM,auM,this]
theorem RQ: ∀{l:List (List UInt8)} {i j:Nat} {q:List UInt8} {v:UInt8},l[i]? =some q->j<q.length->l.flatten.set ((l.take i).flatten.length+j) v=(l.set i (q.set j v)).flatten
 |y::l,0,j,q,v,h,hj=>by
  obtain rfl:y=q:=by simpa using h
  simp only[auw,awZ,alM,auL,avn,avo];rw[List.set_append_left _ _ hj]
 |y::l,i+1,j,q,v,h,hj=>by
  have:=RQ (l:=l) (i:=i) (j:=j) (q:=q) (v:=v) (by simpa using h) hj;simp only[ave,avn,adr,awg];rw[avy,avS _ _ oM,auM,this]
theorem KZ{l:List (List UInt8)}{i:Nat}{r:List UInt8}:(l.set i r).take i=l.take i:=awr (at5 _)
theorem AS{rm:Sv}{lo n:Nat}(h:0<n):(win rm lo (lo+n)).o=rm.o+lo:=by
 simp only[win];rw[if_neg oM]
theorem GV{rm:Sv}{lo n:Nat}(hn:rm.nil=false)(hs:rm.sp=none)(hb:n<=1000000):(win rm lo (lo+n)).Ok:=
 ⟨fun h=>absurd (hn.symm.trans h) dDq,at5 _,by simp only[win];omega,fun _=>hs⟩
theorem RR{c:CV}{x:Cp}{B:Bk}{b g:Int}{q:List UInt8}{rm:Sv}{off:Bool}(hx:cv x=c)(hB:bv B=ak c b):
  cv ⟨x.pages,x.size,⟨x.blocks.sv,x.blocks.xs.set b.toNat ⟨⟨B.pages.sv,dJ rm 0 ((aR B.pages.xs).set g.toNat q)⟩,B.used+1,B.aU,B.bad⟩⟩,x.ops+1,off,x.aA⟩={c with ops:=c.ops+1,off:=off,blocks:=c.blocks.set b.toNat {ak c b with used:=(ak c b).used+1,pages:=(ak c b).pages.set g.toNat q}}:=by
 subst hx;rw[←hB];simp only[cv,zj,bv,xv]
theorem ac3{m:UInt8}{xs:List UInt8}{i:Nat}{z:UInt8}(h:xs[i]? =some z):(dn m (xs.take i)++xs.drop i).set i (z|||m)=dn m (xs.take (i+1))++xs.drop (i+1):=by
 have hi:=(zz.1 h).1;have hl:(dn m (xs.take i)).length=i:=by rw[dn,aur,at3];omega
 rw[avS _ _ oM,hl,avX,av2 hi,avo,at6,h,dn,dn,auv,at4];rfl
theorem RS{m:UInt8}{xs:List UInt8}{i:Nat}(h:i<xs.length):(dn m (xs.take i)++xs.drop i)[i]? =xs[i]? :=by
 have hl:(dn m (xs.take i)).length=i:=by rw[dn,aur,at3];omega
 rw[auf oM,hl,avX,avd,avk]
theorem K0{m:UInt8}{xs:List UInt8}{i:Nat}(h:i<=xs.length):(dn m (xs.take i)++xs.drop i).length=xs.length:=by
 rw[dn,adr,aur,at3,auh];omega
theorem RT{T:List (List UInt8)}{g i:Nat}{q xs:List UInt8}{m z:UInt8}(hq:T[g]? =some q)(hz:xs[i]? =some z):(T.set g (dn m (xs.take (i+1))++xs.drop (i+1))).flatten=(T.set g (dn m (xs.take i)++xs.drop i)).flatten.set ((T.take g).flatten.length+i) (z|||m):=by
 have hg:=(zz.1 hq).1;have hi:=(zz.1 hz).1;have h1:=RQ (l:=T.set g (dn m (xs.take i)++xs.drop i)) (i:=g) (j:=i) (v:=z|||m) (auk hg) (by rw[K0 oM];exact hi);rw[KZ]at h1;rw[h1,awo,ac3 hz]
def mixed(f:List UInt8->List UInt8)(T:List (List UInt8))(k:Nat):List (List UInt8):=(T.take k).map f++T.drop k
theorem RU{f:List UInt8->List UInt8}{T:List (List UInt8)}:mixed f T 0=T:=by simp[mixed]
theorem RW{f:List UInt8->List UInt8}{T:List (List UInt8)}{k:Nat}(h:T.length<=k):mixed f T k=T.map f:=by
 rw[mixed,aug h,awT h,auT]
theorem Dd{f:List UInt8->List UInt8}{T:List (List UInt8)}{k:Nat}{q:List UInt8}(h:T[k]? =some q):(mixed f T k)[k]? =some q:=by
 have hk:=(zz.1 h).1;have hl:((T.take k).map f).length=k:=by rw[aur,at3];omega
 rw[mixed,auf oM,hl,avX,avd,avk,h]
theorem K1{f:List UInt8->List UInt8}{T:List (List UInt8)}{k:Nat}{q:List UInt8}(h:T[k]? =some q):(mixed f T k).set k (f q)=mixed f T (k+1):=by
 have hk:=(zz.1 h).1;have hl:((T.take k).map f).length=k:=by rw[aur,at3];omega
 obtain⟨_,rfl⟩:=zz.1 h;rw[mixed,avS _ _ oM,hl,avX,av2 hk,avo,mixed,at6,at2 hk,auv,at4];rfl
theorem GW{f:List UInt8->List UInt8}{T:List (List UInt8)}{k:Nat}(hf: ∀x∈T,(f x).length=x.length)(hk:k<=T.length):((mixed f T k).take k).flatten.length=(T.take k).flatten.length:=by
 have hl:((T.take k).map f).length=k:=by rw[aur,at3];omega
 rw[mixed,List.take_append_of_le_length oM,aug oM,List.length_flatten,List.length_flatten,awJ];congr 1;exact avf fun x hx=>hf x (avU hx)
theorem ac4{f:List UInt8->List UInt8}{T:List (List UInt8)}{k n:Nat}{q:List UInt8}(hq:T[k]? =some q)(hf: ∀x∈T,(f x).length=x.length)(he:f q=List.replicate n 255)(hn:n=q.length):(mixed f T (k+1)).flatten=(mixed f T k).flatten.take (T.take k).flatten.length++(List.replicate n 255++(mixed f T k).flatten.drop ((T.take k).flatten.length+n)):=by
 have hk:=(zz.1 hq).1;rw[←K1 hq,GR (Dd hq) (by rw[he,auQ,hn]),GW hf oM,he,auQ]
theorem ac5{rm:Sv}{f:List UInt8->List UInt8}{T:List (List UInt8)}(hf: ∀x∈T,(f x).length=x.length):(dJ rm 0 T).map (fun x=>x.sv)=(dJ rm 0 (T.map f)).map (fun x=>x.sv):=KY (by
 rw[awJ];exact(avf fun x hx=>(hf x hx)).symm)
theorem ac6{rm:Sv}{lo n:Nat}(hn:rm.nil=false)(hs:rm.sp=none)(h:0<n):(win rm lo (lo+n)).val= .slice (some ⟨rm.b,rm.o+lo,none⟩) n n:=by
 rw[Sv.ik (s:=win rm lo (lo+n)) hn,show(win rm lo (lo+n)).sp=rm.sp from rfl,hs,AS h,show(win rm lo (lo+n)).len=n from auM ..,show(win rm lo (lo+n)).cap=n from auM ..];rfl
theorem zk{c:Cp}{b:Int}:bv (c.blocks.xs.getD b.toNat rk)=ak (cv c) b:=by
 simp only[ak,cv,jv,awy,aua]
 cases c.blocks.xs[b.toNat]? <;>rfl
theorem K2{c:Cp}{b:Int}(h:iw (cv c) b=true):0<=b/\b.toNat<c.blocks.xs.length:=by
 obtain⟨_,h2,h3⟩:=iz.1 h;simp only[cv,iv]at h3;exact⟨h2,oM⟩
theorem RX{c:CV}{x:Cp}{B:Bk}{b u:Int}{l:List (List UInt8)}{rm:Sv}{off:Bool}(hx:cv x=c)(hB:bv B=ak c b):
  cv ⟨x.pages,x.size,⟨x.blocks.sv,x.blocks.xs.set b.toNat ⟨⟨B.pages.sv,dJ rm 0 l⟩,u,B.aU+1,B.bad⟩⟩,x.ops+1,off,x.aA⟩={c with ops:=c.ops+1,off:=off,blocks:=c.blocks.set b.toNat {ak c b with used:=u,aU:=(ak c b).aU+1,pages:=l}}:=by
 subst hx;rw[←hB];simp only[cv,zj,bv,xv]
theorem ac7{xs:List Bk}{i:Nat}{B B':Bk}(h:xs[i]? =some B)(hp:B'.pages=B.pages):((xs.set i B').map fun b:Bk=>fK b.pages)=xs.map fun b:Bk=>fK b.pages:=by
 rw[awe,hp];refine xw ?_;rw[aua,h];rfl
theorem ac8{c:CV}{x:Cp}{B:Bk}{b:Int}(hx:cv x=c)(hB:bv B=ak c b):
  cv ⟨x.pages,x.size,⟨x.blocks.sv,x.blocks.xs.set b.toNat ⟨B.pages,B.used,B.aU,true⟩⟩,x.ops,x.off,x.aA⟩={c with blocks:=c.blocks.set b.toNat {ak c b with bad:=true}}:=by
 subst hx;rw[←hB];simp only[cv,zj,bv]
theorem K3{w0 w:World}{L:List ai}{s:Sv}{xs:List (Sl UInt8)}(h:Mem w0 (own (cw (τ:=UInt8)) 1 s xs::ai.all (xs.map fun p:Sl UInt8=>fz p)::L) w):Mem w0 (fz (⟨s,xs⟩:Sl (Sl UInt8))::L) w:=by
 have hs:=h.sat (own (cw (τ:=UInt8)) 1 s xs) (by simp);have ha:=h.sat (ai.all (xs.map fun p:Sl UInt8=>fz p)) (by simp);refine Mem.freeze (es:=[own (cw (τ:=UInt8)) 1 s xs,ai.all (xs.map fun p:Sl UInt8=>fz p)]) _ ⟨hs.1,fun x hx=>ai.CB ha (fz x) (auq hx)⟩ (fun k hk=>?_) h;rcases hk with⟨bN,rfl⟩|⟨x,hx,hk⟩
 ·exact⟨_,by simp,Da hs.1 bN⟩
 exact⟨ai.all (xs.map fun p:Sl UInt8=>fz p),by simp,ai.GL (auq (f:=fun p:Sl UInt8=>fz p) hx) hk⟩
theorem RY{w0 w:World}{L:List ai}{s:Sv}{xs:List Bk}(h:Mem w0 (own cq 4 s xs::ai.all (xs.map fun b:Bk=>fz b.pages)::L) w):Mem w0 (fz (⟨s,xs⟩:Sl Bk)::L) w:=by
 have hs:=h.sat (own cq 4 s xs) (by simp);have ha:=h.sat (ai.all (xs.map fun b:Bk=>fz b.pages)) (by simp);refine Mem.freeze (es:=[own cq 4 s xs,ai.all (xs.map fun b:Bk=>fz b.pages)]) _ ⟨hs.1,fun x hx=>ai.CB ha (fz x.pages) (auq (f:=fun b:Bk=>fz b.pages) hx)⟩ (fun k hk=>?_) h;rcases hk with⟨bN,rfl⟩|⟨x,hx,hk⟩
 ·exact⟨_,by simp,Da hs.1 bN⟩
 exact⟨ai.all (xs.map fun b:Bk=>fz b.pages),by simp,ai.GL (auq (f:=fun b:Bk=>fz b.pages) hx) hk⟩
theorem RZ{w0 w:World}{L:List ai}{s:Sv}(hs:s.Ok)(hl:s.len=0)(h:Mem w0 L w):Mem w0 (fz (⟨s,[]⟩:Sl Ft)::L) w:=
 Mem.freeze (es:=[]) _ ⟨⟨hs,hl,fun i x hx=>by cases hx⟩,fun x hx=>by cases hx⟩ (fun k hk=>by
  rcases hk with⟨bN,_⟩|⟨x,hx,_⟩
  ·exact absurd rfl bN
  cases hx) h
theorem R0{w0 w:World}{L:List ai}{d:Cp}(hf:d.aA=⟨Sv.none,[]⟩)(h:Mem w0 (own cq 4 d.blocks.sv d.blocks.xs::ai.all (d.blocks.xs.map fun b:Bk=>fz b.pages)::L) w):Mem w0 (fz d::L) w:=by
 have h1:=RZ (s:=Sv.none) Sv.Cr rfl (RY h);rw[←hf]at h1;exact GN (h1.perm (List.Perm.swap _ _ _))
theorem R5{zs:List Bk}{i:Nat}{z z':Bk}(h:zs[i]? =some z):((zs.take i).map fun b:Bk=>fz b.pages)++[fz z'.pages]=((zs.set i z').take (i+1)).map fun b:Bk=>fz b.pages:=by
 have hi:=(zz.1 h).1;rw[at6,auk hi,awr (at5 _),auv];rfl
theorem K4{zs:List (Sl UInt8)}{i:Nat}{z z':Sl UInt8}(h:zs[i]? =some z):((zs.take i).map fun b:Sl UInt8=>fz b)++[fz z']=((zs.set i z').take (i+1)).map fun b:Sl UInt8=>fz b:=by
 have hi:=(zz.1 h).1;rw[at6,auk hi,awr (at5 _),auv];rfl
theorem GX{α β:Type}{f:α->β}{zs:List α}{i:Nat}{z z':α}(h:zs[i]? =some z):((zs.set i z').take (i+1)).map f=(zs.take i).map f++[f z']:=by
 have hi:=(zz.1 h).1;rw[at6,auk hi,awr (at5 _),auv];rfl
theorem GY{b n:Nat}(h:n<=1000000):(⟨false,b,0,n,n,none⟩:Sv).Ok:=⟨fun h=>(by cases h),at5 _,by simp only;omega,fun _=>rfl⟩
end Go.Kb
namespace Go.ax
theorem R6{P:Program}{N:cA}{w0:World}{env:Env}{L:List ai}{Q:Exit->Act->World->Prop}{c:Code}{X:Type}{pr:X->Prop}(Lx:X->List ai)(h: ∀w,Mem w0 L w-> ∃x,pr x/\Mem w0 (Lx x) w)(hk: ∀x,pr x->Cw P N w0 Q c env (Lx x)):Cw P N w0 Q c env L:=fun a w ha hw=>by
 obtain⟨x,h1,h2⟩:=h w hw;exact hk x h1 a w ha h2
end Go.ax
namespace Go.Kb
open Go.ax
structure fA where
 kind:Int
 id:Int
 gen:UInt64
 body:Sl UInt8
def dt(x:fA):Array Value:= #[.int .i64 x.kind, .int .i64 x.id, .int .u64 x.gen.toNat,x.body.sv.val]
instance:bp dt 4:=⟨fun _=>rfl,fun x=>by
 simp only[dt,avN,avW,av7,Sv.one,uH,uI,avE]⟩
instance (x:fA):gB (dt x) 4:=⟨rfl,bp.one x⟩
instance (x:fA):bO (dt x) 0 (.int .i64 x.kind):=⟨rfl⟩
instance (x:fA):bO (dt x) 1 (.int .i64 x.id):=⟨rfl⟩
instance (x:fA):bO (dt x) 2 (.int .u64 x.gen.toNat):=⟨rfl⟩
instance (x:fA):bO (dt x) 3 (x.body.sv.val):=⟨rfl⟩
instance:Deep fA where
 c:=4
 cells:=dt
 size:=bp.size
 one:=bp.one
 cP h x:=Deep.cP h x.body
 cE x:=Deep.cE x.body
 ku h x hs:=Deep.ku h x.body hs
 mono w w' x hg hb:=Deep.mono w w' x.body hg hb
variable {w0:World}{L:List ai}
instance{x:fA}[q:aX w0 L x]:aX w0 L x.body:=⟨fun w hw=>(q.h w hw)⟩
instance{kind:Int}{id:Int}{gen:UInt64}{body:Sl UInt8}[q0:aX w0 L body]:aX w0 L (fA.mk kind id gen body):=⟨fun w hw=>q0.h w hw⟩
def pO:fA:=⟨0,0,0,⟨Sv.none,[]⟩⟩
structure dK where
 gen:UInt64
 at_:Sl Int
def fa(x:dK):Array Value:= #[.int .u64 x.gen.toNat,x.at_.sv.val]
instance:bp fa 2:=⟨fun _=>rfl,fun x=>by
 simp only[fa,avN,avW,av7,Sv.one,uH,uI,avE]⟩
instance (x:dK):gB (fa x) 2:=⟨rfl,bp.one x⟩
instance (x:dK):bO (fa x) 0 (.int .u64 x.gen.toNat):=⟨rfl⟩
instance (x:dK):bO (fa x) 1 (x.at_.sv.val):=⟨rfl⟩
instance:Deep dK where
 c:=2
 cells:=fa
 size:=bp.size
 one:=bp.one
 cP h x:=Deep.cP h x.at_
 cE x:=Deep.cE x.at_
 ku h x hs:=Deep.ku h x.at_ hs
 mono w w' x hg hb:=Deep.mono w w' x.at_ hg hb
instance{x:dK}[q:aX w0 L x]:aX w0 L x.at_:=⟨fun w hw=>(q.h w hw)⟩
instance{gen:UInt64}{at_:Sl Int}[q0:aX w0 L at_]:aX w0 L (dK.mk gen at_):=⟨fun w hw=>q0.h w hw⟩
def mM:dK:=⟨0,⟨Sv.none,[]⟩⟩
structure az where
 live:Int
 used:Int
 aU:Int
 bad:Bool
 deriving DecidableEq
def bM(x:az):Array Value:= #[.int .i64 x.live, .int .i64 x.used, .int .i64 x.aU, .bool x.bad]
instance:bp bM 4:=⟨fun _=>rfl,fun x=>by
 simp only[bM,avN,avW,av7,Sv.one,uH,uI,avE]⟩
instance (x:az):gB (bM x) 4:=⟨rfl,bp.one x⟩
instance (x:az):bO (bM x) 0 (.int .i64 x.live):=⟨rfl⟩
instance (x:az):bO (bM x) 1 (.int .i64 x.used):=⟨rfl⟩
instance (x:az):bO (bM x) 2 (.int .i64 x.aU):=⟨rfl⟩
instance (x:az):bO (bM x) 3 (.bool x.bad):=⟨rfl⟩
def eu:az:=⟨0,0,0,false⟩
structure cB where
 ae:Cp
 at_:Sl Int
 gen:UInt64
 last:Int
def cF(x:cB):Array Value:= #[.int .i64 x.ae.pages, .int .i64 x.ae.size,x.ae.blocks.sv.val, .int .i64 x.ae.ops, .bool x.ae.off,x.ae.aA.sv.val,x.at_.sv.val, .int .u64 x.gen.toNat, .int .i64 x.last]
instance:bp cF 9:=⟨fun _=>rfl,fun x=>by
 simp only[cF,avN,avW,av7,Sv.one,uH,uI,avE]⟩
instance (x:cB):gB (cF x) 9:=⟨rfl,bp.one x⟩
instance (x:cB):bO (cF x) 0 (.int .i64 x.ae.pages):=⟨rfl⟩
instance (x:cB):bO (cF x) 1 (.int .i64 x.ae.size):=⟨rfl⟩
instance (x:cB):bO (cF x) 2 (x.ae.blocks.sv.val):=⟨rfl⟩
instance (x:cB):bO (cF x) 4 (.bool x.ae.off):=⟨rfl⟩
instance (x:cB):bO (cF x) 6 (x.at_.sv.val):=⟨rfl⟩
instance (x:cB):bO (cF x) 7 (.int .u64 x.gen.toNat):=⟨rfl⟩
instance (x:cB):bO (cF x) 8 (.int .i64 x.last):=⟨rfl⟩
instance (x:cB):nk (cF x) 0 6 (aV x.ae):=⟨rfl,fun j hj=>by
 match j,hj with
 |0,_=>rfl
 |1,_=>rfl
 |2,_=>rfl
 |3,_=>rfl
 |4,_=>rfl
 |5,_=>rfl⟩
instance:Deep cB where
 c:=9
 cells:=cF
 size:=bp.size
 one:=bp.one
 cP h x:=Deep.cP h x.ae/\Deep.cP h x.at_
 cE x:= .two (Deep.cE x.ae) (Deep.cE x.at_)
 ku h x hs:=⟨Deep.ku h x.ae hs.1,Deep.ku h x.at_ hs.2.1⟩
 mono w w' x hg hb:=⟨Deep.mono w w' x.ae hg.1 hb,Deep.mono w w' x.at_ hg.2 hb⟩
instance:gG cB where
 reach x k:=gG.reach x.ae k\/gG.reach x.at_ k
 congr h h' x e hg:=⟨gG.congr h h' x.ae (fun k hk=>e k (.inl hk)) hg.1,gG.congr h h' x.at_ (fun k hk=>e k (.inr hk)) hg.2⟩
instance{x:cB}[q:aX w0 L x]:aX w0 L x.ae:=⟨fun w hw=>(q.h w hw).1⟩
instance{x:cB}[q:aX w0 L x]:aX w0 L x.at_:=⟨fun w hw=>(q.h w hw).2⟩
instance{ae:Cp}{at_:Sl Int}{gen:UInt64}{last:Int}[q0:aX w0 L ae][q1:aX w0 L at_]:aX w0 L (cB.mk ae at_ gen last):=⟨fun w hw=>⟨q0.h w hw,q1.h w hw⟩⟩
def mN:cB:=⟨ib,⟨Sv.none,[]⟩,0,0⟩
structure aT where
 aj:cB
 beyond:Bool
def aS(x:aT):Array Value:= #[.int .i64 x.aj.ae.pages, .int .i64 x.aj.ae.size,x.aj.ae.blocks.sv.val, .int .i64 x.aj.ae.ops, .bool x.aj.ae.off,x.aj.ae.aA.sv.val,x.aj.at_.sv.val, .int .u64 x.aj.gen.toNat, .int .i64 x.aj.last, .bool x.beyond]
instance (x:aT):bO (aS x) 0 (.int .i64 x.aj.ae.pages):=⟨rfl⟩
instance (x:aT):bO (aS x) 1 (.int .i64 x.aj.ae.size):=⟨rfl⟩
instance (x:aT):bO (aS x) 2 (x.aj.ae.blocks.sv.val):=⟨rfl⟩
instance (x:aT):bO (aS x) 6 (x.aj.at_.sv.val):=⟨rfl⟩
instance (x:aT):bO (aS x) 7 (.int .u64 x.aj.gen.toNat):=⟨rfl⟩
instance (x:aT):bO (aS x) 8 (.int .i64 x.aj.last):=⟨rfl⟩
instance (x:aT):bO (aS x) 9 (.bool x.beyond):=⟨rfl⟩
instance (x:aT):nk (aS x) 0 9 (cF x.aj):=⟨rfl,fun j hj=>by
 match j,hj with
 |0,_=>rfl
 |1,_=>rfl
 |2,_=>rfl
 |3,_=>rfl
 |4,_=>rfl
 |5,_=>rfl
 |6,_=>rfl
 |7,_=>rfl
 |8,_=>rfl⟩
instance (x:aT):nk (aS x) 0 6 (aV x.aj.ae):=⟨rfl,fun j hj=>by
 match j,hj with
 |0,_=>rfl
 |1,_=>rfl
 |2,_=>rfl
 |3,_=>rfl
 |4,_=>rfl
 |5,_=>rfl⟩
structure jL where
 w:az
 pages:Int
 deriving DecidableEq
def fT(x:jL):Array Value:= #[.int .i64 x.w.live, .int .i64 x.w.used, .int .i64 x.w.aU, .bool x.w.bad, .int .i64 x.pages]
instance:bp fT 5:=⟨fun _=>rfl,fun x=>by
 simp only[fT,avN,avW,av7,Sv.one,uH,uI,avE]⟩
instance (x:jL):gB (fT x) 5:=⟨rfl,bp.one x⟩
instance (x:jL):bO (fT x) 0 (.int .i64 x.w.live):=⟨rfl⟩
instance (x:jL):bO (fT x) 1 (.int .i64 x.w.used):=⟨rfl⟩
instance (x:jL):bO (fT x) 2 (.int .i64 x.w.aU):=⟨rfl⟩
instance (x:jL):bO (fT x) 3 (.bool x.w.bad):=⟨rfl⟩
instance (x:jL):bO (fT x) 4 (.int .i64 x.pages):=⟨rfl⟩
def ac9:jL:=⟨eu,0⟩
end Go.Kb
namespace Go.ax
open Go.Kb
section
variable {P:Program} {N:cA} {w0:World} {env:Env} {L:List ai} {d:Option Tmp} {ty:TypeId} {ps:String} {af:Array Edge} {gd:Option (Nat×Bool)}
theorem ada{p:Nat}(h:p<2^32):4294967295^^^p=4294967295 -p:=by
 have e:(BitVec.allOnes 32^^^BitVec.ofNat 32 p).toNat=(~~~(BitVec.ofNat 32 p)).toNat:=by rw[BitVec.allOnes_xor]
 rw[BitVec.toNat_xor,BitVec.toNat_not,BitVec.toNat_allOnes,avH,auJ h]at e;simpa using e
theorem R7{x:Operand}{a:Int}{p:Nat}{t:TypeId}(hx:ev env x=some (.int .u32 a))(ea:a=(p:Int))(hp:p<2^32):
  Ry P N w0 env L ⟨d, .unOp .xor t x,ty,ps,af,gd⟩ (.int .u32 ((4294967295 -p:Nat):Int)):=fun a w ha _=>by
 subst ea;have h1:(Op.intBits .xor .u32 4294967295 (p:Int)).run P w= .ok (.int .u32 ((4294967295 -p:Nat):Int)) w:=by
  have e2:(BitVec.ofInt 32 4294967295^^^BitVec.ofInt 32 (p:Int)).toNat=4294967295 -p:=by
   rw[Ah,BitVec.toNat_xor,avH,auJ hp,←ada hp];rfl
  show Sem.run P (pure (Value.int .u32 (IntKind.u32.wrap ((BitVec.ofInt 32 4294967295^^^BitVec.ofInt 32 (p:Int)).toNat:Int)))) w=_;rw[e2,qW (k:= .u32) (by show 4294967295 -p<4294967296;omega)];rfl
 have h2:Op.unary .xor (.int .u32 (p:Int))=Op.intBits .xor .u32 4294967295 (p:Int):=rfl;simp only[execOp,ha.ev hx,h2,Sem.run_bind,h1,Sem.run_pure,Result.andThen]
theorem adb{x y:Operand}{p:Nat}{a:Int}{k':IntKind}{t u:TypeId}(hx:ev env x=some (.int .u64 a))(hy:ev env y=some (.int k' 8))(ea:a=(p:Int))(hp:p*256<2^64):
  Ry P N w0 env L ⟨d, .binOp .shl t x y u,ty,ps,af,gd⟩ (.int .u64 ((p*256:Nat):Int)):=by
 subst ea;have h:=Jo (P:=P) (N:=N) (w0:=w0) (L:=L) (d:=d) (ty:=ty) (ps:=ps) (af:=af) (gd:=gd) (t:=t) (u:=u) hx hy dDq;have e:IntKind.u64.wrap ((p:Int)*2^min (Int.toNat 8) IntKind.u64.bits)=((p*256:Nat):Int):=by
  have e1:(p:Int)*2^min (Int.toNat 8) IntKind.u64.bits=((p*256:Nat):Int):=by
   rw[show(2:Int)^min (Int.toNat 8) IntKind.u64.bits=256 from by decide];omega
  rw[e1];exact qW hp
 rw[e]at h;exact h
theorem ade{n many i:Nat}(h:i<many):(List.replicate (many -i) (0:UInt8)++be n i).set (many -1 -i) (b8 (n/256^i))=List.replicate (many -(i+1)) 0++be n (i+1):=by
 rw[List.set_append_left _ _ (by simp;omega)];have e:List.replicate (many -i) (0:UInt8)=List.replicate (many -(i+1)) 0++[0]:=by
  rw[show many -i=many -(i+1)+1 by omega,List.replicate_succ',]
 rw[e,avS _ _ (by simp;omega)];simp only[auQ,show many -1 -i -(many -(i+1))=0 by omega,avo,at4];rfl
end
end Go.ax
namespace Go.Kb
open Go.ax
def dk(n:Int):UInt8:=b8 (n%256).toNat
theorem adf(n:Nat):dk (n:Int)=b8 n:=by
 unfold dk;rw[show((n:Int)%256).toNat=n%256 by omega,Za]
theorem AT(n:Int):IntKind.u8.wrap n=((dk n).toNat:Int):=by
 unfold dk;rw[vJ];simp[IntKind.wrap,IntKind.bits,IntKind.signed];omega
def fB(r:Rt):List UInt8:=
 [if r.p.bits=128 then 1 else 0,dk r.p.len]++(List.range 16).map (fun i=>b8 (bl r.p.key i))++[b8 (r.dN.toNat/256),b8 r.dN.toNat]
theorem rr(r:Rt):(fB r).length=20:=by simp[fB]
theorem R8(r:Rt):(fB r)[0]? =some (if r.p.bits=128 then 1 else 0):=by simp[fB]
theorem R9(r:Rt):(fB r)[1]? =some (dk r.p.len):=by simp[fB]
theorem Sa(r:Rt)(i:Nat)(h:i<16):(fB r)[2+i]? =some (b8 (bl r.p.key i)):=by
 unfold fB;rw[at4,auf (by simp),aus (by simp;omega)];simp[h]
theorem Sb(r:Rt):(fB r)[18]? =some (b8 (r.dN.toNat/256)):=by simp[fB]
theorem Sc(r:Rt):(fB r)[19]? =some (b8 r.dN.toNat):=by simp[fB]
theorem Sd(r:Rt){AU:Array Value}(h0:AU.size=20)(hz:AU[0]? =some (.int .u8 (if r.p.bits=128 then 1 else 0:Nat))):
  (((over (AU.setIfInBounds 1 (.int .u8 (dk r.p.len).toNat)) 2 (bR r.p.key)).setIfInBounds 18 (.int .u8 (b8 (r.dN.toNat/256)).toNat)).setIfInBounds 19 (.int .u8 (b8 r.dN.toNat).toNat))=(aL aQ (fB r)).toArray:=by
 have hs:(over (AU.setIfInBounds 1 (.int .u8 (dk r.p.len).toNat)) 2 (bR r.p.key)).size=20:=by rw[pw (by simp[eU,h0])];simpa using h0
 refine au8 fun j=>?_;have hf: ∀b,(fB r)[j]? =some b->(aL aQ (fB r)).toArray[j]? =some (.int .u8 b.toNat):=fun b hb=>by
  have:=ow (enc:=aQ) (fB r) j b hb 0 dDq;simp only[av9,avk]at this;simpa[aQ]using this
 have hk:2+(bR r.p.key).size<=(AU.setIfInBounds 1 (.int .u8 (dk r.p.len).toNat)).size:=by simp[eU,h0]
 rw[auN,auN]
 by_cases Se:19=j
 ·subst Se;rw[hf _ (Sc r)];simp[hs]
 by_cases De:18=j
 ·subst De;rw[hf _ (Sb r)];simp[hs]
 rw[if_neg Se,if_neg De,uj hk,eU]
 by_cases h2:2<=j/\j<2+16
 ·rw[if_pos h2,jr _ _ oM];have:=Sa r (j -2) oM;rw[show 2+(j -2)=j by omega]at this;rw[hf _ this,vJ];have:=jJ r.p.key (j -2);rw[auJ this]
 rw[if_neg h2,auN]
 by_cases h1:1=j
 ·subst h1;rw[hf _ (R9 r)];simp[h0]
 rw[if_neg h1]
 by_cases hj:j=0
 ·subst hj;rw[hz,hf _ (R8 r)];split<;>rfl
 ·
  have e1:AU[j]? =none:=by simp;omega
  rw[e1];have:(aL aQ (fB r)).length=20:=by rw[iG,rr]
  simp;omega
structure PV where
 kind:Int
 id:Int
 gen:Nat
 body:List UInt8
 deriving DecidableEq
def kB:PV:=⟨0,0,0,[]⟩
def c8(p:fA):PV:=⟨p.kind,p.id,p.gen.toNat,p.body.xs⟩
def oP(n:Int):Bool:=decide (24<=n)&&decide (n<=256)
theorem tn{n:Int}:oP n=true↔24<=n/\n<=256:=by simp only[oP,af0,decide_eq_true_eq]
def dY(n:Int):Int:=if oP n=true then n -16 else 0
def mO(p:PV)(n:Int):Bool:=oP n&&(decide (p.kind=1)||decide (p.kind=2))&&decide (0<=p.id)&&decide (p.id<64)&&decide (p.gen<281474976710656)&&decide ((p.body.length:Int)<=dY n)
theorem sa{p:PV}{n:Int}:mO p n=true↔oP n=true/\(p.kind=1\/p.kind=2)/\0<=p.id/\p.id<64/\p.gen<281474976710656/\(p.body.length:Int)<=dY n:=by
 simp only[mO,af0,avc,decide_eq_true_eq,and_assoc]
def kC(b:List UInt8):Bool:=b.all fun x=>decide (x=255)
theorem Df{b:List UInt8}:kC b=true↔ ∀x∈b,x=255:=by simp only[kC,aue,decide_eq_true_eq]
def j8(p:PV)(n:Nat):List UInt8:=[dk p.kind,dk p.id]++be p.gen 6++be p.body.length 2++p.body++List.replicate (n -4 -10 -p.body.length) 0
def dy(p:PV)(n:Int):List UInt8×Int:=if mO p n=true then(j8 p n.toNat++be (pI (j8 p n.toNat)) 4,0)else([],1)
def vZ(b:List UInt8):PV:=⟨(b.getD 0 0).toNat,(b.getD 1 0).toNat,de ((b.drop 2).take (8 -2)),[]⟩
def iJ(b:List UInt8):Nat:=de ((b.drop 8).take (10 -8))
def mP(b:List UInt8):List UInt8:=(b.drop 0).take (b.length -4 -0)
def zl(b:List UInt8):List UInt8:=(b.drop (b.length -4)).take (b.length -(b.length -4))
def oQ(b:List UInt8):List UInt8:=((mP b).drop (10+iJ b)).take ((mP b).length -(10+iJ b))
def xx(b:List UInt8):Bool:=b.all fun x=>decide (x=0)
theorem K5{b:List UInt8}:xx b=true↔ ∀x∈b,x=0:=by simp only[xx,aue,decide_eq_true_eq]
def pP(b:List UInt8):Bool:=decide ((iJ b:Int)<=dY b.length)&&mO (vZ b) b.length
def cM(b:List UInt8):PV×Int:=
 if oP b.length=false then(kB,3)
 else if kC b=true then(kB,0)
 else if de (zl b)≠pI (mP b)then(kB,4)
 else if pP b=false then(kB,2)
 else if xx (oQ b)=false then(kB,2)
 else({vZ b with body:=(b.drop 10).take (10+iJ b -10)},0)
theorem Sg(b:List UInt8):iJ b<65536:=by
 have h:=RC ((b.drop 8).take (10 -8));have h2:((b.drop 8).take (10 -8)).length<=2:=by rw[at3];omega
 have h3:=avr (show 0<256 by decide) h2;rw[iJ];omega
theorem K6(b:List UInt8):de ((b.drop 2).take (8 -2))<281474976710656:=by
 have h:=RC ((b.drop 2).take (8 -2));have h2:((b.drop 2).take (8 -2)).length<=6:=by rw[at3];omega
 have h3:=avr (show 0<256 by decide) h2;omega
def v7(b:List UInt8):fA:=⟨(b.getD 0 0).toNat,(b.getD 1 0).toNat,UInt64.ofNat (de ((b.drop 2).take (8 -2))),⟨Sv.none,[]⟩⟩
theorem Sh(b:List UInt8):(UInt64.ofNat (de ((b.drop 2).take (8 -2)))).toNat=de ((b.drop 2).take (8 -2)):=by
 have:=K6 b;rw[UInt64.toNat_ofNat'];omega
theorem Si(b:List UInt8)(s:Sv)(l:List UInt8):c8 {v7 b with body:=⟨s,l⟩}={vZ b with body:=l}:=by
 simp only[c8,v7,Sh];rfl
theorem K7(b:List UInt8):c8 (v7 b)=vZ b:=Si b Sv.none []
theorem adg(b:List UInt8):(mP b).length=b.length -4:=by rw[mP,at3,auh];omega
theorem adh{M:Nat}{k d:UInt8}(h:2<=M):((List.replicate M (0:UInt8)).set 0 k).set 1 d=[k,d]++List.replicate (M -2) 0:=by
 obtain⟨m,rfl⟩: ∃m,M=m+2:=⟨M -2,oM⟩;simp[awM]
theorem K8{A Y:List UInt8}{k N:Nat}(hk:k=A.length):(A++List.replicate N 0).take k++(Y++(A++List.replicate N 0).drop (k+Y.length))=A++Y++List.replicate (N -Y.length) 0:=by
 subst hk;rw[List.take_left',List.drop_append,awT oM,auM,List.drop_replicate,auS,at4];rfl
theorem adi{p:PV}{n:Nat}(h:p.body.length+14<=n):(j8 p n).length=n -4:=by
 simp only[j8,adr,jV,auQ,ad2,alM];omega
theorem K9(b:List UInt8):(cM b).1.body.length<=65536:=by
 have h:=Sg b;rw[cM];split
 ·simp[kB]
 split
 ·simp[kB]
 split
 ·simp[kB]
 split
 ·simp[kB]
 split
 ·simp[kB]
 simp only[at3];omega
structure RV where
 gen:Nat
 at_:List Int
 deriving DecidableEq
def iB:RV:=⟨0,[]⟩
def dM(r:dK):RV:=⟨r.gen.toNat,r.at_.xs⟩
def kP(n:Int):Int:=min 64 (dY n/2)
def zm(x:Int):Bool:=decide (0<=x)&&decide (x<=65535)
theorem Dg{x:Int}:zm x=true↔0<=x/\x<=65535:=by simp only[zm,af0,decide_eq_true_eq]
def pQ(r:RV)(n:Int):Bool:= !decide (dY n=0)&&decide (r.gen<281474976710656)&&decide ((r.at_.length:Int)<=kP n)&&r.at_.all zm
theorem xz{r:RV}{n:Int}:pQ r n=true↔dY n≠0/\r.gen<281474976710656/\(r.at_.length:Int)<=kP n/\ ∀x∈r.at_,zm x=true:=by
 simp only[pQ,af0,au5,decide_eq_true_eq,decide_eq_false_iff_not,and_assoc,aue,ne_eq]
def sd(b:List UInt8)(i:Nat):Int:=((uo (b.getD (2*i) 0) (b.getD (2*i+1) 0)).toNat:Int)
def qB(b:List UInt8):List Int:=(List.range (b.length/2)).map (sd b)
def v8(p:PV):Bool:=decide (p.kind=2)&&decide (p.body.length%2=0)&&decide (p.id=max 0 ((p.body.length/2:Nat) -1:Int))
def bH(b:List UInt8):RV×Int:=
 if(cM b).2≠0 then(iB,(cM b).2)
 else if(cM b).1.kind=0 then(iB,6)
 else if v8 (cM b).1=false then(iB,2)
 else(⟨(cM b).1.gen,qB (cM b).1.body⟩,0)
def GZ(x:Int):List UInt8:=[dk (x/256),dk x]
def ic(l:List Int):List UInt8:=(l.map GZ).flatten
def da(r:RV)(n:Int):List UInt8×Int:=if pQ r n=true then dy ⟨2,max 0 ((r.at_.length:Int) -1),r.gen,ic r.at_⟩ n else([],1)
theorem adj{b:List UInt8}{i:Nat}(h:i<b.length/2):(qB b).take (i+1)=(qB b).take i++[sd b i]:=by
 rw[at6,qB,aua,avw h];rfl
theorem G0(b:List UInt8):(qB b).length=b.length/2:=by simp[qB]
theorem adk{l:List Int}{i:Nat}{x:Int}(h:l[i]? =some x):ic (l.take (i+1))=ic (l.take i)++GZ x:=by
 simp[ic,at6,h]
theorem AV(l:List Int):(ic l).length=2*l.length:=by
 induction l with
 |nil=>rfl
 |cons x l ih=>
  have:ic (x::l)=GZ x++ic l:=by simp[ic]
  rw[this,adr,ih];simp only[GZ,ad2,alM];omega
structure NS where
 at_:Int
 new:RV
 found:Bool
 blank:Bool
 deriving DecidableEq
def zn(s:NS)(i:Nat)(b:List UInt8):NS:=
 if(bH b).2=0/\(s.found=false\/s.new.gen<=(bH b).1.gen)then⟨i,(bH b).1,true,s.blank&&kC b⟩else{s with blank:=s.blank&&kC b}
def dH(l:List (List UInt8)):Nat->NS
 |0=>⟨0,iB,false,true⟩
 |k+1=>zn (dH l k) k (l.getD k [])
def gm(l:List (List UInt8)):Int×RV×Int:=
 if(dH l l.length).found=true then((dH l l.length).at_,(dH l l.length).new,0)else if(dH l l.length).blank=true then(0,iB,6)else(0,iB,2)
theorem Sj{l:List (List UInt8)}{i:Nat}{b:List UInt8}(hb:l[i]? =some b)(h:(bH b).2=0/\((dH l i).found=false\/(dH l i).new.gen<=(bH b).1.gen)):dH l (i+1)=⟨i,(bH b).1,true,(dH l i).blank&&kC b⟩:=by
 rw[dH,show l.getD i []=b by simp[List.getD,hb],zn,if_pos h]
theorem Sk{l:List (List UInt8)}{i:Nat}{b:List UInt8}(hb:l[i]? =some b)(h: ¬((bH b).2=0/\((dH l i).found=false\/(dH l i).new.gen<=(bH b).1.gen))):dH l (i+1)={dH l i with blank:=(dH l i).blank&&kC b}:=by
 rw[dH,show l.getD i []=b by simp[List.getD,hb],zn,if_neg h]
structure VV where
 ae:CV
 at_:List Int
 gen:Nat
 last:Int
 deriving DecidableEq
def zCV:CV:=⟨0,0,[],0,false,[]⟩
def mf:VV:=⟨zCV,[],0,0⟩
def vv(v:cB):VV:=⟨cv v.ae,v.at_.xs,v.gen.toNat,v.last⟩
def gH(c:CV):Bool:=aW c&&decide (4<=(c.blocks.length:Int))&&decide (2<=c.pages)&&decide (24<=c.size)
theorem fN{c:CV}:gH c=true↔aW c=true/\4<=(c.blocks.length:Int)/\2<=c.pages/\24<=c.size:=by simp only[gH,af0,decide_eq_true_eq,and_assoc]
def bS(c:CV)(k:Int):List UInt8:=(ak c (k/c.pages)).pages.getD (k%c.pages).toNat []
def lz(c:CV)(k:Int):Bool:=decide (2<=k/c.pages)&&decide (k/c.pages<(c.blocks.length:Int))&&decide (k%c.pages<(ak c (k/c.pages)).used)
theorem nr{c:CV}{k:Int}:lz c k=true↔2<=k/c.pages/\k/c.pages<(c.blocks.length:Int)/\k%c.pages<(ak c (k/c.pages)).used:=by simp only[lz,af0,decide_eq_true_eq,and_assoc]
def G1(p:PV×Int)(id:Int):Bool:=decide (p.2=0)&&decide (p.1.kind=1)&&decide (p.1.id=id)
def oR(c:CV)(id n:Int):Bool:=lz c (n -1)&&G1 (cM (bS c (n -1))) id
theorem adl(c:CV):{iI c c.aA with off:=c.off}=c:=by
 rw[iI];split<;>rfl
def se(c:CV)(l:List Int)(i:Nat):Bool:=decide (l.getD i 0=0)||(!(l.take i).contains (l.getD i 0)&&oR c (i:Int) (l.getD i 0))
def wa(c:CV)(l:List Int):Bool:=(List.range l.length).all (se c l)
theorem Dh{c:CV}{l:List Int}:wa c l=true↔ ∀i,i<l.length->se c l i=true:=by simp only[wa,aue,auB]
def kQ(l:List Int)(i:Nat):Int->Option Unit:=fun x=>if x≠0/\x∈l.take i then some ()else none
theorem Di{l:List Int}{i:Nat}{x:Int}:(kQ l i x).isSome=decide (x≠0/\x∈l.take i):=by
 unfold kQ;split<;>simp_all
theorem Sm{l:List Int}:(fun _=>none)=kQ l 0:=by
 funext x;simp[kQ]
theorem Sn{l:List Int}{i:Nat}(h:l[i]? =some 0):kQ l (i+1)=kQ l i:=by
 funext x
 unfold kQ;rw[at6,h]
 by_cases hx:x=0
 ·simp[hx]
 simp[hx]
theorem So{l:List Int}{i:Nat}{y:Int}(h:l[i]? =some y)(hy:y≠0):(fun z=>if z=y then some ()else kQ l i z)=kQ l (i+1):=by
 funext x
 unfold kQ;rw[at6,h]
 by_cases hx:x=y
 ·subst hx;simp[hy]
 simp[hx]
theorem qC{l:List Int}{i:Nat}{y:Int}(h:l[i]? =some y):l.getD i 0=y:=by simp[List.getD,h]
def fU(l:List (Sl (Sl UInt8))):List (Sl UInt8):=(l.map Sl.xs).flatten
theorem G2{l:List (Sl (Sl UInt8))}{i:Nat}{x:Sl (Sl UInt8)}(h:l[i]? =some x):fU (l.take (i+1))=fU (l.take i)++x.xs:=by
 rw[fU,at6,h];simp[fU]
theorem adm(l:List (Sl (Sl UInt8)))(i:Nat):(fU (l.take i)).length<=(fU l).length:=by
 have e:fU l=fU (l.take i)++fU (l.drop i):=by
  unfold fU;rw[←List.flatten_append,←auv,auO]
 rw[e,adr];omega
class Sp(w0:World)(l:List (Sl UInt8)):Prop where
 h: ∀y∈l,Deep.cP (hp w0) y
variable {w0:World}{L:List ai}
instance aX.row{x:Sv}{l:List (Sl UInt8)}{i:Nat}[q:gg L x (cw (τ:=UInt8)) 1 l i][m:Sp w0 l]:aX w0 L (⟨x,l⟩:Sl (Sl UInt8)):=
 ⟨fun w hw=>⟨(hw.get q.h).1,fun y hy=>Deep.mono w0 w y (m.h y hy) hw.below⟩⟩
def bZ(c:CV):Int×RV×Int:=gm ((ak c 0).pages++(ak c 1).pages)
def nt(c:CV):Bool:=decide ((bZ c).1%c.pages<(ak c ((bZ c).1/c.pages)).used)&&wa c (bZ c).2.1.at_
def bG(c:CV):VV×Int:=
 if gH c=false then(mf,1)
 else if c.off=true then(mf,7)
 else if(bZ c).2.2≠0 then(mf,(bZ c).2.2)
 else if nt c=false then(mf,2)
 else(⟨c,(bZ c).2.1.at_,(bZ c).2.1.gen,(bZ c).1/c.pages⟩,0)
theorem Sr(l:List (List UInt8)): ∀k,k<=l.length->(dH l k).at_=0\/(0<=(dH l k).at_/\(dH l k).at_<k)
 |0,_=> .inl rfl
 |k+1,h=>by
  have:=Sr l k oM;rw[dH,zn];split
  ·exact .inr ⟨by simp only;omega,by simp only;omega⟩
  simp only;omega
theorem La{l:List (List UInt8)}(h:0<l.length):0<=(gm l).1/\(gm l).1<l.length:=by
 have:=Sr l l.length (at5 _);rw[gm];split
 ·simp only;omega
 split<;>(simp only;omega)
theorem adn(b:List UInt8): ∀x∈qB b,0<=x/\x<=65535:=by
 intro x hx;obtain⟨i,_,rfl⟩:=ava.1 hx;have:=(uo (b.getD (2*i) 0) (b.getD (2*i+1) 0)).toNat_lt;simp only[sd];omega
theorem ado(b:List UInt8): ∀x∈(bH b).1.at_,0<=x/\x<=65535:=by
 rw[bH];split
 ·simp[iB]
 split
 ·simp[iB]
 split
 ·simp[iB]
 exact adn _
theorem Ss(l:List (List UInt8)): ∀k,∀x∈(dH l k).new.at_,0<=x/\x<=65535
 |0=>by simp[dH,iB]
 |k+1=>by
  have:=Ss l k;rw[dH,zn];split
  ·exact ado _
  exact this
theorem St(l:List (List UInt8)): ∀x∈(gm l).2.1.at_,0<=x/\x<=65535:=by
 rw[gm];split
 ·exact Ss _ _
 split<;>simp[iB]
theorem Lc(a b:Sl (Sl UInt8)):aR (fU [a,b])=aR a.xs++aR b.xs:=by simp[aR,fU]
theorem Ld{c:Cp}{i:Nat}{B:Bk}(h:c.blocks.xs[i]? =some B):ak (cv c) (i:Int)=bv B:=by
 rw[←zk];simp[List.getD,h]
theorem adp(b:List UInt8):(bH b).1.at_.length<=65536:=by
 have h:=K9 b;rw[bH];split
 ·simp[iB]
 split
 ·simp[iB]
 split
 ·simp[iB]
 simp only[G0];omega
theorem Su(l:List (List UInt8)): ∀k,(dH l k).new.at_.length<=65536
 |0=>by simp[dH,iB]
 |k+1=>by
  have:=Su l k;rw[dH,zn];split
  ·exact adp _
  exact this
theorem adq(l:List (List UInt8)):(gm l).2.1.at_.length<=65536:=by
 rw[gm];split
 ·exact Su _ _
 split<;>simp[iB]
theorem Sw(c:CV):(bG c).1.at_.length<=65536:=by
 have h:=adq ((ak c 0).pages++(ak c 1).pages);rw[bG];split
 ·simp[mf]
 split
 ·simp[mf]
 split
 ·simp[mf]
 split
 ·simp[mf]
 exact h
theorem Le{c:CV}(h:(bG c).2=0):gH c=true:=by
 cases hb:gH c with
 |true=>rfl
 |false=>rw[bG,if_pos hb]at h;cases h
def mQ(x:VV):Bool:=decide ((bG {x.ae with off:=false}).2=0)&&decide ((bG {x.ae with off:=false}).1.gen=x.gen)&&decide ((bG {x.ae with off:=false}).1.last=x.last)&&decide ((bG {x.ae with off:=false}).1.at_=x.at_)
theorem ads{w0 w:World}{L:List ai}(h:Mem w0 L w):Mem w0 (fz ib::L) w:=
 GN (d:=ib) (Mem.freeze (es:=[]) _ ⟨eZ.nil _ _ _,fun x hx=>by cases hx⟩ (fun k hk=>by
  rcases hk with⟨bN,_⟩|⟨x,hx,_⟩
  ·exact absurd rfl bN
  cases hx) (RZ (s:=Sv.none) Sv.Cr rfl h))
class Sx(a:Cp)(b:outParam Cp):Prop where
 h:a=b
instance aX.apE{v:cB}{c:Cp}[e:Sx v.ae c][q1:aX w0 L c][q2:aX w0 L v.at_]:aX w0 L v:=
 ⟨fun w hw=>⟨by rw[e.h];exact q1.h w hw,q2.h w hw⟩⟩
def jw(c:CV)(n:Int):List UInt8:=if(cM (bS c (n -1))).2=0 then(cM (bS c (n -1))).1.body else[]
theorem Lf{c:CV}(h:(bG c).2=0):gH c=true/\nt c=true/\bG c=(⟨c,(bZ c).2.1.at_,(bZ c).2.1.gen,(bZ c).1/c.pages⟩,0):=by
 have hb:=Le h
 by_cases h1:c.off=true
 ·rw[bG,if_neg (by rw[hb];simp),if_pos h1]at h;cases h
 by_cases h2:(bZ c).2.2≠0
 ·rw[bG,if_neg (by rw[hb];simp),if_neg h1,if_pos h2]at h;exact absurd h h2
 cases h3:nt c with
 |false=>rw[bG,if_neg (by rw[hb];simp),if_neg h1,if_neg h2,if_pos h3]at h;cases h
 |true=>exact⟨hb,rfl,by rw[bG,if_neg (by rw[hb];simp),if_neg h1,if_neg h2,if_neg (by rw[h3];simp)]⟩
theorem Dj{x:VV}(h:mQ x=true):aW x.ae=true/\wa x.ae x.at_=true/\ ∀y∈x.at_,0<=y/\y<=65535:=by
 simp only[mQ,af0,decide_eq_true_eq]at h;obtain⟨⟨⟨h1,h2⟩,h3⟩,h4⟩:=h;obtain⟨hb,hl,hf⟩:=Lf h1;rw[hf]at h4;simp only at h4;simp only[nt,af0,decide_eq_true_eq]at hl;rw[h4]at hl;refine⟨(fN.1 hb).1,hl.2,?_⟩;rw[←h4];exact St _
theorem Sy{x:VV}(h:mQ x=true){i:Nat}{y:Int}(hy:x.at_[i]? =some y)(h0:y≠0):1<=y/\y<=1000000/\lz x.ae (y -1)=true:=by
 obtain⟨h1,h2,h3⟩:=Dj h;have hr:=h3 y (atl hy);have hp:=Dh.1 h2 i (zz.1 hy).1;rw[se,qC hy]at hp;simp only[avc,decide_eq_true_eq,af0]at hp;rcases hp with hp|hp
 ·exact absurd hp h0
 have hn:=hp.2;rw[oR,af0]at hn;exact⟨oM,oM,hn.1⟩
def nZ(l:List Int)(j:Nat):Bool:=decide (l.getD j 0≠0)&& !(l.take j).contains (l.getD j 0)
def kD(pages:Int)(l:List Int)(k i:Nat):Nat:=((List.range k).filter fun j=>nZ l j&&decide ((l.getD j 0 -1)/pages=(i:Int)+2)).length
def uJ(b:BV)(live:Nat):az:=⟨live,b.used,b.aU,b.bad⟩
def kE(c:CV)(l:List Int)(k:Nat):List az:=(List.range (c.blocks.length -2)).map fun i:Nat=>uJ (ak c ((i:Int)+2)) (kD c.pages l k i)
def jx(c:CV)(l:List Int):List az:=kE c l l.length
theorem AW(c:CV)(l:List Int)(k:Nat):(kE c l k).length=c.blocks.length -2:=by simp[kE]
theorem Dk(pages:Int)(l:List Int)(k i:Nat):kD pages l (k+1) i=kD pages l k i+(if nZ l k&&decide ((l.getD k 0 -1)/pages=(i:Int)+2)then 1 else 0):=by
 rw[kD,avi,avj,adr,kD];congr 1;simp only[au9,awc];split<;>rfl
theorem adt{c:CV}{l:List Int}{k:Nat}(h:nZ l k=false):kE c l (k+1)=kE c l k:=by
 refine avf fun i _=>?_;rw[Dk,h];simp
theorem adu{l:List Int}{i:Nat}{y:Int}(h:l[i]? =some y)(hy:y≠0/\y∈l.take i):kQ l (i+1)=kQ l i:=by
 funext x
 unfold kQ;rw[at6,h]
 by_cases hx:x=y
 ·subst hx;simp[hy.1,hy.2]
 simp[hx]
theorem adv{c:CV}{l:List Int}{k i:Nat}{x:az}(h:nZ l k=true)(hi:(l.getD k 0 -1)/c.pages=(i:Int)+2)(hx:(kE c l k)[i]? =some x):kE c l (k+1)=(kE c l k).set i {x with live:=x.live+1}:=by
 have fo:i<c.blocks.length -2:=by have:=(zz.1 hx).1;rwa [AW]at this
 have kR:x=uJ (ak c ((i:Int)+2)) (kD c.pages l k i):=by
  rw[kE,aua,avw fo]at hx;exact(at1 hx).symm
 refine au6 fun j=>?_;rw[au1]
 by_cases hj:i=j
 ·subst hj;rw[if_pos rfl,if_pos (by rw[AW];exact fo),kE,aua,avw fo,auI,Dk,h,hi,kR];simp[uJ]
 rw[if_neg hj,kE,kE,aua,aua];rcases aud j (c.blocks.length -2)with km|km
 ·rw[avw km,auI,auI,Dk,h,hi];simp only[au2];rw[decide_eq_false oM];simp
 rw[aub (by simpa using km)];rfl
def aw(l:List (Sl Int)):List Int:=(l.map Sl.xs).flatten
theorem Sz{l:List (Sl Int)}{i:Nat}{x:Sl Int}(h:l[i]? =some x):aw (l.take (i+1))=aw (l.take i)++x.xs:=by
 rw[aw,at6,h];simp[aw]
theorem adw{l:List (Sl Int)}{i j:Nat}{x:Sl Int}{y:Int}(h:l[i]? =some x)(hy:x.xs[j]? =some y):(aw l)[(aw (l.take i)).length+j]? =some y:=by
 have hj:=(zz.1 hy).1;have e:aw l=aw (l.take (i+1))++aw (l.drop (i+1)):=by
  unfold aw;rw[←List.flatten_append,←auv,auO]
 rw[e,Sz h,aus (by rw[adr];omega),auf oM,auM,hy]
def xA(c:CV)(l:List Int):Prop:=(aW c=true/\l.length<=1000000)/\2<=c.blocks.length/\ ∀n∈l,n=0\/(1<=n/\n<=1000000/\2<=(n -1)/c.pages/\(n -1)/c.pages<(c.blocks.length:Int))
theorem adx(c:CV)(l:List Int):kE c l 0=(List.range (c.blocks.length -2)).map fun i:Nat=>uJ (ak c ((i:Int)+2)) 0:=by
 refine avf fun i _=>?_;simp[kD]
theorem SA(pages:Int)(l:List Int)(k i:Nat):kD pages l k i<=k:=by
 rw[kD];exact awu (awi _ _) (by simp)
theorem ady{c:CV}{l:List Int}{k i:Nat}{z:az}(h:(kE c l k)[i]? =some z):0<=z.live/\z.live<=k:=by
 rw[kE,aua,avC]at h;obtain⟨j,_,rfl⟩:=h;have:=SA c.pages l k j;simp only[uJ];omega
def zo(a b:Int):Int:=if a<b then -1 else if b<a then 1 else 0
def nu(p:Int)(x:az):Bool:= !x.bad&&decide (x.used<p)
def mR(x:az):Bool:= !x.bad&&decide (x.live=0)&&decide (0<x.used)
def zp(p:Int)(x:az):Bool:=if x.bad=true then decide (0<x.live)else decide (x.used=p)&&decide (0<x.live)&&decide (x.live<p)
def AX(a b:az):Int:=zo b.used a.used
def tr(a b:az):Int:=zo a.aU b.aU
def Lg(a b:az):Int:=zo a.live b.live
def AY(a b:az):Int:=if a.bad=b.bad then 0 else if a.bad=true then -1 else 1
def xB(p:Int)(x:az):Bool:=decide (0<=x.live)&&decide (x.live<=x.used)&&decide (x.used<=p)&&decide (0<=x.aU)&&decide (x.aU<=cT)
theorem sh{p:Int}{x:az}:xB p x=true↔0<=x.live/\x.live<=x.used/\x.used<=p/\0<=x.aU/\x.aU<=cT:=by
 simp only[xB,af0,decide_eq_true_eq,and_assoc]
def mS(l:List az)(p:Int):Bool:=decide (1<=(l.length:Int))&&decide ((l.length:Int)<=32)&&decide (1<=p)&&decide (p<=16)&&l.all (xB p)
theorem tt{l:List az}{p:Int}:mS l p=true↔1<=(l.length:Int)/\(l.length:Int)<=32/\1<=p/\p<=16/\ ∀x∈l,xB p x=true:=by
 simp only[mS,af0,decide_eq_true_eq,and_assoc,aue]
def uK(a b:az):List (az->az->Int)->Bool
 |[]=>false
 |o::r=>if o a b≠0 then decide (o a b<0)else uK a b r
def AZ(l:List az)(eI:az->Bool)(os:List (az->az->Int))(i:Nat)(s:Int×Bool):Int×Bool:=
 if eI (l.getD i eu)=true/\(s.2=false\/uK (l.getD i eu) (l.getD s.1.toNat eu) os=true)then((i:Int),true)else s
def iV(l:List az)(eI:az->Bool)(os:List (az->az->Int)):Nat->Int×Bool
 |0=>(0,false)
 |k+1=>AZ l eI os k (iV l eI os k)
def gw(l:List az)(p:Int)(eI:az->Bool)(os:List (az->az->Int)):Int×Bool:=
 if mS l p=true then iV l eI os l.length else(0,false)
def fL(l:List az)(p:Int):Int×Bool:=gw l p (nu p) [AX,tr]
def fO(l:List az)(p:Int):Int×Bool:=gw l p mR [tr]
def wb(l:List az)(p:Int):Int×Bool:=gw l p (zp p) [AY,Lg,tr]
def oS(p:Int)(x:az):Int:=if mR x=true then p else if nu p x=true then p -x.used else 0
def fV:List Int->Int
 |[]=>0
 |x::r=>x+fV r
def G3(l:List az)(p:Int):Int:=if mS l p=true then fV (l.map (oS p))else 0
theorem SB(a b:List Int):fV (a++b)=fV a+fV b:=by
 induction a with
 |nil=>simp[fV]
 |cons x r ih=>simp only[avm,fV,ih];omega
theorem Lh(l:List az)(eI:az->Bool)(os:List (az->az->Int)): ∀k,0<=(iV l eI os k).1/\(iV l eI os k).1<=k/\((iV l eI os k).2=true->(iV l eI os k).1<k/\eI (l.getD (iV l eI os k).1.toNat eu)=true)
 |0=>⟨by simp[iV],by simp[iV],fun h=>by simp[iV]at h⟩
 |k+1=>by
  obtain⟨h1,h2,h3⟩:=Lh l eI os k;rw[iV,AZ];split
  ·rename_i h;exact⟨by simp only;omega,by simp only;omega,fun _=>⟨by simp only;omega,by simpa using h.1⟩⟩
  exact⟨h1,oM,fun h=>⟨by have:=(h3 h).1;omega,(h3 h).2⟩⟩
theorem SC{l:List az}{eI:az->Bool}{os:List (az->az->Int)}: ∀{k},(iV l eI os k).2=false-> ∀i,i<k->eI (l.getD i eu)=false
 |0,_,i,hi=>by omega
 |k+1,h,i,hi=>by
  rw[iV,AZ]at h;split at h
  ·cases h
  rename_i hn
  by_cases e:i=k
  ·
   subst e
   cases hr:eI (l.getD i eu)with
   |false=>rfl
   |true=>exact absurd ⟨hr, .inl h⟩ hn
  exact SC h i oM
theorem A0{l:List az}{p:Int}{eI:az->Bool}{os:List (az->az->Int)}(h:(gw l p eI os).2=true):mS l p=true/\0<=(gw l p eI os).1/\(gw l p eI os).1<l.length/\eI (l.getD (gw l p eI os).1.toNat eu)=true:=by
 unfold gw at h⊢;split at h
 ·rename_i hw;rw[if_pos hw];obtain⟨h1,h2,h3⟩:=Lh l eI os l.length;exact⟨hw,h1,(h3 h).1,(h3 h).2⟩
 cases h
theorem uL{l:List az}{p:Int}{eI:az->Bool}{os:List (az->az->Int)}(hw:mS l p=true)(h:(gw l p eI os).2=false): ∀x∈l,eI x=false:=fun x hx=>by
 unfold gw at h;rw[if_pos hw]at h;obtain⟨i,hi⟩:=aul hx;have fo:=(zz.1 hi).1;have:=SC h i fo;rwa [show l.getD i eu=x by simp[List.getD,hi]]at this
theorem drop_at{α:Type}{l:List α}{i:Nat}{e:α}(he:l[i]? =some e):l.drop i=e::l.drop (i+1):=by
 obtain⟨hi,rfl⟩:=zz.1 he;rw[List.getElem_cons_drop]
theorem adz{p:Int}{x:az}(h:xB p x=true)(hp:1<=p):0<=oS p x/\oS p x<=p:=by
 obtain⟨h1,h2,h3,_⟩:=sh.1 h;rw[oS];split
 ·omega
 split<;>omega
theorem SD(p:Int): ∀l:List az,(∀x∈l,xB p x=true)->1<=p->0<=fV (l.map (oS p))/\fV (l.map (oS p))<=(l.length:Int)*p
 |[],_,_=>by simp[fV]
 |x::r,h,hp=>by
  have h1:=SD p r (fun y hy=>h y (aui _ hy)) hp;have h2:=adz (h x auD) hp;rw[aum,fV,ad2,Int.natCast_add,Int.add_mul];omega
theorem room_le{n:Nat}{p:Int}(h:n<=32)(h1:1<=p)(h2:p<=16):(n:Int)*p<=512:=by
 have:(n:Int)*p<=32*16:=awX oM h2 oM oM;omega
structure dV(c d:CV):Prop where
 pages:d.pages=c.pages
 size:d.size=c.size
 len:d.blocks.length=c.blocks.length
theorem dV.du(c:CV):dV c c:=⟨rfl,rfl,rfl⟩
theorem dV.trans{c d e:CV}(h:dV c d)(g:dV d e):dV c e:=⟨g.pages.trans h.pages,g.size.trans h.size,g.len.trans h.len⟩
theorem adA(c:CV)(b g:Int)(p:List UInt8):dV c (gN c b g p):=by
 rw[gN];split
 ·exact⟨rfl,rfl,by simp[iU]⟩
 exact .du c
theorem adB(c:CV)(b:Int):dV c (gv c b):=by
 rw[gv];split
 ·exact⟨rfl,rfl,by simp[ly]⟩
 exact .du c
theorem adC(c:CV)(b:Int):dV c (me c b):=by
 rw[me];split
 ·exact⟨rfl,rfl,by simp⟩
 exact .du c
theorem Li{c:CV}(h:aW c=true){o:Int}{f:Bool}(h0:0<=o)(h1:o<=cT){i:Nat}{B:BV}(hB:rn c.pages c.size B=true):aW {c with ops:=o,off:=f,blocks:=c.blocks.set i B}=true:=by
 obtain⟨k1,k2,k3,k4,k5⟩:=eN.1 h;refine eN.2 ⟨by simpa using k1,h0,h1,k4,fun b hb=>?_⟩;rcases auG hb with hb|rfl
 ·exact k5 b hb
 exact hB
theorem Lj{c:CV}(h:aW c=true)(b g:Int)(p:List UInt8):aW (gN c b g p)=true:=by
 rw[gN];split
 ·
  rename_i hk;obtain⟨k1,k2,k3,k4⟩:=hk;obtain⟨j1,j2,j3,j4,j5⟩:=j7.1 k1;obtain⟨o1,o2,o3,o4,o5,o6⟩:=fy.1 (rp j1);have:=(eN.1 h).2.1;refine Li h oM oM (fy.2 ⟨by simpa using o1,by simp only;omega,by simp only;omega,o4,o5,fun x hx=>?_⟩);rcases auG hx with hx|rfl
  ·exact o6 x hx
  rw[pL];split
  ·simpa[dn]using j4
  exact j4
 exact h
theorem Lk{c:CV}(h:aW c=true)(b:Int):aW (gv c b)=true:=by
 rw[gv];split
 ·
  rename_i hk;obtain⟨k1,k2,k3⟩:=hk;obtain⟨j1,j2,j3⟩:=qz.1 k1;obtain⟨o1,o2,o3,o4,o5,o6⟩:=fy.1 (rp j1);have:=(eN.1 h).2.1;have hs:=mK.1 (eN.1 h).1;have hl:(tm c (ak c b).pages).length=(ak c b).pages.length:=by rw[tm];split<;>simp
  refine Li h oM oM (fy.2 ⟨by rw[hl];exact o1,?_,?_,by simp only;omega,by simp only;omega,fun x hx=>?_⟩)
  ·simp only;split<;>omega
  ·simp only;split<;>omega
  rw[tm]at hx;split at hx
  ·obtain⟨y,hy,rfl⟩:=ava.1 hx;simpa[dn]using o6 y hy
  obtain⟨y,hy,rfl⟩:=ava.1 hx;simp only[iA,auQ];omega
 exact h
theorem SE{c:CV}(h:aW c=true)(b:Int):aW (me c b)=true:=by
 rw[me];split
 ·
  rename_i hk;have hh:iw c b=true:=by
   rw[qA]at hk;split at hk
   ·assumption
   cases hk
  obtain⟨o1,o2,o3,o4,o5,o6⟩:=fy.1 (rp hh);have k:=eN.1 h;exact Li (o:=c.ops) (f:=c.off) h k.2.1 k.2.2.1 (fy.2 ⟨o1,o2,o3,o4,o5,o6⟩)
 exact h
def ez(c:CV)(b:Int):Int:=if(ak c b).bad=true then 0 else c.pages -(ak c b).used
def iW(c:CV)(b e:Int):CV:=if e=9 then me c b else c
def bC(c:CV)(b:Int)(p:List UInt8):Int:=kA c b (ak c b).used p
def bB(c:CV)(b:Int)(p:List UInt8):CV:=iW (gN c b (ak c b).used p) b (bC c b p)
def dz(c:CV)(b:Int):CV:=iW (gv c b) b (ei c b)
def iX(c:CV):List UInt8:=(dy ⟨1,0,0,[]⟩ c.size).1
def fc:Nat->CV->Int->CV×Int
 |0,c,b=>(dz c b,ei c b)
 |n+1,c,b=>if bC c b (iX c)≠0 then(bB c b (iX c),bC c b (iX c))else fc n (bB c b (iX c)) b
def cJ(c:CV)(b:Int):CV×Int:=fc (ez c b).toNat c b
theorem SF{c:CV}(h:aW c=true)(b e:Int):aW (iW c b e)=true:=by
 rw[iW];split
 ·exact SE h b
 exact h
theorem G4(c:CV)(b e:Int):dV c (iW c b e):=by
 rw[iW];split
 ·exact adC c b
 exact .du c
theorem mg{c:CV}(h:aW c=true)(b:Int)(p:List UInt8):aW (bB c b p)=true:=SF (Lj h _ _ _) _ _
theorem iY(c:CV)(b:Int)(p:List UInt8):dV c (bB c b p):=(adA _ _ _ _).trans (G4 _ _ _)
theorem Dl{c:CV}(h:aW c=true)(b:Int):aW (dz c b)=true:=SF (Lk h _) _ _
theorem xC(c:CV)(b:Int):dV c (dz c b):=(adB _ _).trans (G4 _ _ _)
theorem SG: ∀(n:Nat) {c:CV} (b:Int),aW c=true->aW (fc n c b).1=true/\dV c (fc n c b).1
 |0,c,b,h=>⟨Dl h b,xC c b⟩
 |n+1,c,b,h=>by
  rw[fc];split
  ·exact⟨mg h _ _,iY _ _ _⟩
  have:=SG n b (mg h b (iX c));exact⟨this.1,(iY _ _ _).trans this.2⟩
theorem xD{c:CV}(b:Int)(h:aW c=true):aW (cJ c b).1=true/\dV c (cJ c b).1:=SG _ b h
theorem qD{c:CV}{b:Int}{p:List UInt8}(h:bC c b p=0):oO c b (ak c b).used p=true/\c.off=false/\(ak c b).bad=false/\(bt c).2=false/\bB c b p=iU c b (ak c b).used p:=by
 have h0:=h;rw[bC,kA]at h
 by_cases h1:oO c b (ak c b).used p=true
 ·
  rw[if_pos h1]at h
  by_cases h2:c.off=true
  ·rw[if_pos h2]at h;cases h
  rw[if_neg h2]at h
  by_cases h3:(ak c b).bad=true\/(ak c b).used≠(ak c b).used
  ·rw[if_pos h3]at h;cases h
  rw[if_neg h3]at h;have Ad:(ak c b).bad=false:=by
   cases hb:(ak c b).bad with
   |false=>rfl
   |true=>exact absurd (.inl hb) h3
  by_cases h4:(bt c).2=true
  ·rw[if_pos h4,mc]at h;split at h<;>cases h
  refine⟨h1,by simpa using h2,Ad,by simpa using h4,?_⟩;rw[bB,iW,h0,if_neg dDq,gN,if_pos ⟨h1,by simpa using h2,Ad,rfl⟩]
 rw[if_neg h1]at h;cases h
theorem ru{c:CV}{b:Int}(h:iw c b=true){o:Int}{f:Bool}{B:BV}:ak {c with ops:=o,off:=f,blocks:=c.blocks.set b.toNat B} b=B:=by
 obtain⟨_,h2,h3⟩:=iz.1 h;simp only[ak,List.getD,auk (show b.toNat<c.blocks.length by omega),avM]
theorem SH{c:CV}{b:Int}{p:List UInt8}(h:bC c b p=0):ez (bB c b p) b=ez c b -1:=by
 obtain⟨h1,h2,h3,h4,h5⟩:=qD h;have hh:=(j7.1 h1).1;rw[h5,ez,ez,iU,ru hh];simp only[h3];simp only[auH,if_false];omega
theorem adD{c:CV}{b:Int}(h:0<ez c b):cJ c b=if bC c b (iX c)≠0 then(bB c b (iX c),bC c b (iX c))else cJ (bB c b (iX c)) b:=by
 obtain⟨n,hn⟩: ∃n,(ez c b).toNat=n+1:=⟨(ez c b).toNat -1,oM⟩;rw[cJ,hn,fc];split
 ·rfl
 rename_i h0;have r8:bC c b (iX c)=0:=by simpa using h0
 rw[cJ,SH r8,show(ez c b -1).toNat=n by omega]
theorem adE{c:CV}{b:Int}(h: ¬0<ez c b):cJ c b=(dz c b,ei c b):=by
 rw[cJ,show(ez c b).toNat=0 by omega];rfl
theorem Dm(c:CV)(b e:Int):(iW c b e).ops=c.ops:=by
 rw[iW];split
 ·rw[me];split<;>rfl
 rfl
theorem adF(c:CV)(b g:Int)(p:List UInt8):c.ops<=(gN c b g p).ops:=by
 rw[gN];split
 ·simp only[iU];omega
 omega
theorem adG(c:CV)(b:Int):c.ops<=(gv c b).ops:=by
 rw[gv];split
 ·simp only[ly];omega
 omega
theorem uM{c:CV}{b:Int}{p:List UInt8}(hb:(ak c b).bad=false)(he:bC c b p=9\/bC c b p=0):(bB c b p).ops=c.ops+1:=by
 rw[bB,Dm,gN];rw[bC,kA]at he
 by_cases h1:oO c b (ak c b).used p=true
 ·
  rw[if_pos h1]at he
  by_cases h2:c.off=true
  ·rw[if_pos h2]at he;omega
  rw[if_pos ⟨h1,by simpa using h2,hb,rfl⟩];rfl
 rw[if_neg h1]at he;omega
theorem adH{c:CV}{b:Int}(hb:(ak c b).bad=false)(he:ei c b=9\/ei c b=0):(dz c b).ops=c.ops+1:=by
 rw[dz,Dm,gv];rw[ei]at he
 by_cases h1:pM c b=true
 ·
  rw[if_pos h1]at he
  by_cases h2:c.off=true
  ·rw[if_pos h2]at he;omega
  rw[if_pos ⟨h1,by simpa using h2,hb⟩];rfl
 rw[if_neg h1]at he;omega
theorem adI{c:CV}{b:Int}{p:List UInt8}(h:bC c b p=0):(ak (bB c b p) b).bad=false:=by
 obtain⟨h1,h2,h3,h4,h5⟩:=qD h;rw[h5,iU,ru (j7.1 h1).1];exact h3
theorem zq(c:CV)(b:Int)(p:List UInt8):c.ops<=(bB c b p).ops:=by rw[bB,Dm];exact adF _ _ _ _
theorem SI(c:CV)(b:Int):c.ops<=(dz c b).ops:=by rw[dz,Dm];exact adG _ _
theorem A1: ∀(n:Nat) (c:CV) (b:Int),c.ops<=(fc n c b).1.ops
 |0,c,b=>SI c b
 |n+1,c,b=>by
  rw[fc];split
  ·exact zq _ _ _
  have:=A1 n (bB c b (iX c)) b;have:=zq c b (iX c);omega
theorem SJ: ∀(n:Nat) {c:CV} {b:Int},(ak c b).bad=false->(fc n c b).2=9\/(fc n c b).2=0->c.ops<(fc n c b).1.ops
 |0,c,b,hb,he=>by have:=adH hb he;simp only[fc];omega
 |n+1,c,b,hb,he=>by
  rw[fc]at he⊢
  by_cases h0:bC c b (iX c)≠0
  ·rw[if_pos h0]at he⊢;have:=uM hb (p:=iX c) (he.imp id fun h=>h);simp only;omega
  rw[if_neg h0]at he⊢;have r8:bC c b (iX c)=0:=by simpa using h0
  have:=SJ n (adI r8) he;have:=zq c b (iX c);omega
theorem G5{c:CV}{b:Int}(hb:(ak c b).bad=false)(he:(cJ c b).2=9\/(cJ c b).2=0):c.ops<(cJ c b).1.ops:=SJ _ hb he
def bc:az:=⟨0,0,0,true⟩
def pR(x:az):az:=if x.bad=true then bc else x
def av(c:CV)(fl:List Int):List az:=(jx c fl).map pR
def iK(R:az->Bool)(x:az):az:=if x.bad=true\/R x=false then bc else x
def cl(R:az->Bool)(l:List az):List az:=l.map (iK R)
theorem mh(c:CV)(fl:List Int):(av c fl).length=c.blocks.length -2:=by rw[av,aur,jx,AW]
theorem xE(R:az->Bool)(l:List az):(cl R l).length=l.length:=by simp[cl]
structure WV where
 v:VV
 beyond:Bool
 deriving DecidableEq
def WV.on(x:WV)(c:CV):WV:={x with v:={x.v with ae:=c}}
theorem uN{c:Cp}{b:Int}{B:Bk}(h:c.blocks.xs[b.toNat]? =some B):ak (cv c) b=bv B:=by
 rw[←zk];simp[List.getD,h]
def n7(c:CV):Nat:=(c.blocks.filter fun b=>b.bad).length
def lA(p:List UInt8):Nat:=if(bH p).2=0 then(bH p).1.gen else 0
def uO(l:List (List UInt8)):Nat:=l.foldl (fun m p=>max m (lA p)) 0
def mi(c:CV)(b:Int):Nat:=uO (ak c b).pages
theorem adJ{l:List (List UInt8)}{i:Nat}{p:List UInt8}(h:l[i]? =some p):uO (l.take (i+1))=max (uO (l.take i)) (lA p):=by
 rw[uO,at6,h];simp[uO]
theorem SK(b:List UInt8):(cM b).1.gen<281474976710656:=by
 have:=K6 b;rw[cM];split
 ·simp[kB]
 split
 ·simp[kB]
 split
 ·simp[kB]
 split
 ·simp[kB]
 split
 ·simp[kB]
 exact this
theorem SL(p:List UInt8):lA p<281474976710656:=by
 rw[lA];split
 ·
  rw[bH];split
  ·simp[iB]
  split
  ·simp[iB]
  split
  ·simp[iB]
  exact SK p
 omega
theorem Ll(l:List (List UInt8)):uO l<281474976710656:=by
 have: ∀(l:List (List UInt8)) (m:Nat),m<281474976710656->l.foldl (fun m p=>max m (lA p)) m<281474976710656:=by
  intro l
  induction l with
  |nil=>intro m h;exact h
  |cons p r ih=>
   intro m h;have:=SL p;exact ih _ (Nat.max_lt.2 ⟨h,this⟩)
 exact this l 0 oM
def Dn(c:CV)(b:Int):Bool:= !(ak c b).bad&&(decide (0<(ak c b).used)||(decide (b<2)&&decide (0<mi c b)))
def gY(c:CV)(b:Int):Nat:=max 1 (mi c (1 -b)+(1 -b).toNat)
def wc(c:CV)(last:Int):Int:=if(ak c (1 -last)).bad=true then ez c last else if(ak c last).bad=true/\0<ez c (1 -last)then ez c (1 -last)else c.pages
def A2(g:Nat):Bool:=decide (281474976710656<=g+2)
def j9(e:Int):Int:=if e=9 then 0 else e
theorem SM{f:az->az}{l:List az}{i:Nat}{x:az}(h:l[i]? =some x):((l.take i).map f++l.drop i).set i (f x)=(l.take (i+1)).map f++l.drop (i+1):=by
 have hi:=(zz.1 h).1;have hl:((l.take i).map f).length=i:=by rw[aur,at3];omega
 rw[avS _ _ oM,hl,avX,drop_at h,avo,at6,h];simp
theorem SN{f:az->az}{l:List az}{i:Nat}{x:az}(h:l[i]? =some x)(hf:f x=x):(l.take i).map f++l.drop i=(l.take (i+1)).map f++l.drop (i+1):=by
 rw[drop_at h,at6,h];simp[hf]
theorem SO{f:az->az}{l:List az}{i:Nat}{x:az}(h:l[i]? =some x):((l.take i).map f++l.drop i)[i]? =some x:=by
 have hi:=(zz.1 h).1;have hl:((l.take i).map f).length=i:=by rw[aur,at3];omega
 rw[auf oM,hl,avX,avd,avk,h]
theorem adK{l:List BV}{i:Nat}{x:BV}(h:l[i]? =some x):((l.take (i+1)).filter fun b=>b.bad).length=((l.take i).filter fun b=>b.bad).length+(if x.bad=true then 1 else 0):=by
 rw[at6,h,avj,adr];congr 1;simp only[awR,au9,awc];split<;>simp_all
def iZ(c:CV)(l:List Int):Prop:= ∀n∈l,n=0\/(1<=n/\2<=(n -1)/c.pages/\(n -1)/c.pages<(c.blocks.length:Int))
theorem iZ.cm{c d:CV}{l:List Int}(h:iZ c l)(g:dV c d):iZ d l:=fun n hn=>by
  rcases h n hn with h|h
  ·exact .inl h
  ·exact .inr (by rw[g.pages,g.len];exact h)
theorem iZ.append{c:CV}{a b:List Int}(h:iZ c a)(g:iZ c b):iZ c (a++b):=fun n hn=>(at7.1 hn).elim (h n) (g n)
theorem fe{c:CV}(h:aW c=true):1<=(c.blocks.length:Int)/\(c.blocks.length:Int)<=32/\1<=c.pages/\c.pages<=16/\1<=c.size/\c.size<=256:=mK.1 (eN.1 h).1
theorem Lm{n p b:Int}(hp:1<=p)(jM:p<=16)(hb:b<=32)(h:(n -1)/p<b):n<=512:=by
  have h1:n -1=p*((n -1)/p)+(n -1)%p:=(Int.mul_ediv_add_emod (n -1) p).symm;have h2:=av8 (n -1) (show 0<p by omega);have h3:(n -1)/p<=31:=by omega
  have h4:p*((n -1)/p)<=p*31:=Int.mul_le_mul_of_nonneg_left h3 oM;omega
theorem iZ.kn{c:CV}{l:List Int}(h:iZ c l)(hk:aW c=true)(h2:2<=c.blocks.length)(hl:l.length<=1000000):xA c l:=
  ⟨⟨hk,hl⟩,h2,fun n hn=>by
    rcases h n hn with h|h
    ·exact .inl h
    ·have hd:=fe hk
     have:=Lm (n:=n) hd.2.2.1 hd.2.2.2.1 hd.2.1 h.2.2;exact .inr ⟨h.1,oM,h.2.1,h.2.2⟩⟩
theorem Lo{c:CV}{fl:List Int}{i:Nat}(hi:i<c.blocks.length -2):(av c fl)[i]? =some (pR (uJ (ak c ((i:Int)+2)) (kD c.pages fl fl.length i))):=by
  rw[av,jx,kE,aua,aua,avw hi];rfl
theorem G6{c:CV}{fl:List Int}{i:Nat}{x:az}(h:(av c fl)[i]? =some x):x.bad=(ak c ((i:Int)+2)).bad:=by
  have hi:=(zz.1 h).1;rw[mh]at hi;rw[Lo hi]at h;obtain rfl:=at1 h;rw[pR];split
  ·rename_i hb;exact hb.symm
  ·rfl
theorem tu{c:CV}(hk:aW c=true){b:Int}(h0:0<=b)(h1:b<c.blocks.length):rn c.pages c.size (ak c b)=true:=rp (iz.2 ⟨hk,h0,h1⟩)
structure A3(c:CV)(n:Nat)(x:az):Prop where
  SP:0<=x.live
  adL:x.live<=n
  Dp:0<=x.used
  A4:x.used<=c.pages
  SQ:0<=x.aU
  SR:x.aU<=cT
theorem uP{c:CV}{fl:List Int}(hk:aW c=true){x:az}(h:x∈av c fl):A3 c fl.length x:=by
  obtain⟨i,hi⟩:=aul h;have fo:=(zz.1 hi).1;rw[mh]at fo;rw[Lo fo]at hi;obtain rfl:=at1 hi;have hd:=fe hk;have pS:cT=1099511627776:=rfl;rw[pR];split
  ·exact⟨by simp[bc],by simp[bc],by simp[bc],by simp only[bc];omega,by simp[bc],by simp only[bc];omega⟩
  ·have ho:=fy.1 (tu hk (b:=(i:Int)+2) oM oM)
   have:=SA c.pages fl fl.length i;exact⟨by simp only[uJ];omega,by simp only[uJ];omega,ho.2.1,ho.2.2.1,ho.2.2.2.1,ho.2.2.2.2.1⟩
theorem A3.bad(c:CV)(hk:aW c=true)(n:Nat):A3 c n bc:=by
  have hd:=fe hk;have pS:cT=1099511627776:=rfl;exact⟨by simp[bc],by simp[bc],by simp[bc],by simp only[bc];omega,by simp[bc],by simp only[bc];omega⟩
theorem Lp{R:az->Bool}{l:List az}{i:Nat}{x:az}(h:(cl R l)[i]? =some x): ∃y,l[i]? =some y/\x=iK R y:=by
  rw[cl,aua,avC]at h;obtain⟨y,hy,rfl⟩:=h;exact⟨y,hy,rfl⟩
theorem adM{R:az->Bool}{y:az}(h:(iK R y).bad=false):iK R y=y/\y.bad=false/\R y=true:=by
  unfold iK at h⊢;split at h
  ·cases h
  ·rename_i hn
   rw[if_neg hn];refine⟨rfl,h,?_⟩
   cases hR:R y with
   |true=>rfl
   |false=>exact absurd (.inr hR) hn
theorem tv{p:Int}{x:az}(h:nu p x=true):x.bad=false/\x.used<p:=by
  simpa[nu]using h
theorem mj{x:az}(h:mR x=true):x.bad=false/\x.live=0/\0<x.used:=by
  simpa[mR,and_assoc]using h
theorem pT{R:az→Bool}{l:List az}{p:Int}{eI:az→Bool}{os:List (az→az→Int)}(hr: ∀x,eI x=true→x.bad=false)(h:(gw (cl R l) p eI os).2=true):
    ∃x,l[(gw (cl R l) p eI os).1.toNat]? =some x/\x.bad=false/\R x=true/\eI x=true/\0<=(gw (cl R l) p eI os).1/\(gw (cl R l) p eI os).1<l.length:=by
  obtain⟨h1,h2,h3,h4⟩:=A0 h;rw[xE]at h3;have hi:(cl R l)[(gw (cl R l) p eI os).1.toNat]? =some ((cl R l).getD (gw (cl R l) p eI os).1.toNat eu):=pz (by rw[xE];omega);obtain⟨y,hy,he⟩:=Lp hi;rw[he]at h4;obtain⟨k1,k2,k3⟩:=adM (hr _ h4);rw[k1]at h4;exact⟨y,hy,k2,k3,h4,h2,h3⟩
def si(x:az):Bool:=decide (0<x.live)
def gO(x:az):Bool:=decide (x.live=0)
def dW(l:List az):Nat:=(l.filter fun x=> !x.bad&&decide (x.live=0)).length
def mT(c:CV)(fl:List Int):Int×Bool:=fL (cl si (av c fl)) c.pages
def kF(c:CV)(fl:List Int):Int×Bool:=fL (cl gO (av c fl)) c.pages
def jN(c:CV)(fl:List Int):Int:=(fO (cl gO (av c fl)) c.pages).1
def bj(c:CV)(fl:List Int)(aF:Bool):CV×Int×Int:=
  if(mT c fl).2=true then(c,(mT c fl).1+2,0)
  else if dW (av c fl)=0\/(dW (av c fl)=1/\aF=false)then(c,0,5)
  else if(kF c fl).2=true then(c,(kF c fl).1+2,0)
  else((cJ c (jN c fl+2)).1,jN c fl+2,(cJ c (jN c fl+2)).2)
theorem adN{l:List az}{i:Nat}{x:az}(h:l[i]? =some x):((l.take (i+1)).filter fun z=> !z.bad&&decide (z.live=0)).length=((l.take i).filter fun z=> !z.bad&&decide (z.live=0)).length+(if x.bad=false/\x.live=0 then 1 else 0):=by
  rw[at6,h,avj,adr];congr 1;simp only[awR,au9,awc];split<;>simp_all
theorem adO(l:List az):(l.filter fun z=> !z.bad&&decide (z.live=0)).length<=l.length:=awi _ _
theorem SS{c:CV}{fl:List Int}(hk:aW c=true)(h2:3<=c.blocks.length)(hi:dW (av c fl)≠0)(hb: ¬(kF c fl).2=true):0<=jN c fl/\jN c fl<(c.blocks.length:Int) -2/\(ak c (jN c fl+2)).bad=false:=by
  have hd:=fe hk;have dI:=mh c fl;have hw:mS (cl gO (av c fl)) c.pages=true:=tt.2 ⟨by rw[xE];omega,by rw[xE];omega,oM,oM,fun x hx=>by
    obtain⟨i,hi⟩:=aul hx;obtain⟨y,hy,rfl⟩:=Lp hi;have t:=uP hk (atl hy);have pS:cT=1099511627776:=rfl;unfold iK;split
    ·exact sh.2 (by simp only[bc];omega)
    ·rename_i hn
     have hl:y.live=0:=by
        cases hR:gO y with
        |true=>simpa[gO]using hR
        |false=>exact absurd (.inr hR) hn
     exact sh.2 ⟨oM,by have:=t.Dp;omega,t.A4,t.SQ,t.SR⟩⟩
  have sj:(kF c fl).2=false:=by simpa using hb
  have Lr:=uL hw (show(gw _ _ _ _).2=false from sj);have xF:0<((av c fl).filter fun x=> !x.bad&&decide (x.live=0)).length:=by rw[dW]at hi;omega
  obtain⟨x,hx⟩:=List.exists_mem_of_length_pos xF;obtain⟨pU,kR⟩:=auC.1 hx;simp only[af0,au5,decide_eq_true_eq]at kR;have xG:iK gO x=x:=by
    unfold iK;rw[if_neg];rintro(g|g)
    ·rw[kR.1]at g;cases g
    ·rw[show gO x=true by simp[gO,kR.2]]at g;cases g
  have we:x∈cl gO (av c fl):=by
    rw[←xG];exact auq pU
  have Dq:=Lr x we;have t:=uP hk pU;have nv:mR x=true:=by
    have: ¬x.used<c.pages:=fun h=>by
      rw[nu,kR.1,decide_eq_true h]at Dq;cases Dq
    simp only[mR,kR.1,avZ,au2,af0,decide_eq_true_eq];omega
  have hf:(fO (cl gO (av c fl)) c.pages).2=true:=by
    cases hq:(fO (cl gO (av c fl)) c.pages).2 with
    |true=>rfl
    |false=>have:=uL hw hq x we;rw[nv]at this;cases this
  obtain⟨y,hy,k1,_,_,k4,k5⟩:=pT (fun x h=>(mj h).1) hf;have ri:=G6 hy;change 0<=jN c fl at k4;change jN c fl<_ at k5;refine⟨k4,oM,?_⟩;rw[←k1,ri];congr 2;change _=((jN c fl).toNat:Int)+2;omega
theorem SU{c:CV}{fl:List Int}(h:(mT c fl).2=true):0<=(mT c fl).1/\(mT c fl).1<((c.blocks.length -2:Nat):Int)/\(ak c ((mT c fl).1+2)).bad=false:=by
  obtain⟨y,hy,k1,_,_,k4,k5⟩:=pT (fun x h=>(tv h).1) h;have ri:=G6 hy;rw[mh]at k5;refine⟨k4,k5,?_⟩;rw[←k1,ri];congr 2;change _=((mT c fl).1.toNat:Int)+2;change 0<=(mT c fl).1 at k4;omega
theorem SV{c:CV}{fl:List Int}(h:(kF c fl).2=true):0<=(kF c fl).1/\(kF c fl).1<((c.blocks.length -2:Nat):Int)/\(ak c ((kF c fl).1+2)).bad=false:=by
  obtain⟨y,hy,k1,_,_,k4,k5⟩:=pT (fun x h=>(tv h).1) h;have ri:=G6 hy;rw[mh]at k5;refine⟨k4,k5,?_⟩;rw[←k1,ri];congr 2;change _=((kF c fl).1.toNat:Int)+2;change 0<=(kF c fl).1 at k4;omega
theorem Dr{c:CV}{b:Int}(h:ei c b=0):pM c b=true/\c.off=false/\(ak c b).bad=false/\(bt c).2=false/\dz c b=ly c b:=by
  have h0:=h;rw[ei]at h
  by_cases h1:pM c b=true
  ·rw[if_pos h1]at h
   by_cases h2:c.off=true
   ·rw[if_pos h2]at h;cases h
   ·rw[if_neg h2]at h
    by_cases h3:(ak c b).bad=true
    ·rw[if_pos h3]at h;cases h
    ·rw[if_neg h3]at h
     by_cases h4:(bt c).2=true
     ·rw[if_pos h4,mc]at h
      split at h<;>cases h
     ·refine⟨h1,by simpa using h2,by simpa using h3,by simpa using h4,?_⟩
      rw[dz,iW,h0,if_neg dDq,gv,if_pos ⟨h1,by simpa using h2,by simpa using h3⟩]
  ·rw[if_neg h1]at h;cases h
theorem SW{c:CV}{b:Int}(h:ei c b=0):(ak (dz c b) b).bad=false:=by
  obtain⟨h1,h2,h3,h4,h5⟩:=Dr h;rw[h5,ly,ru (qz.1 h1).1];exact h3
theorem G7: ∀(n:Nat) {c:CV} {b:Int},(fc n c b).2=0->(ak (fc n c b).1 b).bad=false
  |0,c,b,h=>SW h
  |n+1,c,b,h=>by
   rw[fc]at h⊢
   by_cases h0:bC c b (iX c)≠0
   ·rw[if_pos h0]at h;exact absurd h h0
   ·rw[if_neg h0]at h⊢;exact G7 n h
theorem Ls{c:CV}{fl:List Int}{aF:Bool}(hk:aW c=true)(h2:3≤c.blocks.length):aW (bj c fl aF).1=true∧dV c (bj c fl aF).1∧c.ops≤(bj c fl aF).1.ops∧
    ((bj c fl aF).2.2=0->2<=(bj c fl aF).2.1/\(bj c fl aF).2.1<c.blocks.length/\(ak (bj c fl aF).1 (bj c fl aF).2.1).bad=false)/\((bj c fl aF).2.2=9->c.ops<(bj c fl aF).1.ops):=by
  rw[bj]
  by_cases h1:(mT c fl).2=true
  ·rw[if_pos h1]
   have:=SU h1;exact⟨hk, .du c,auY _,fun _=>⟨by simp only;omega,by simp only;omega,this.2.2⟩,fun h=>absurd (show(0:Int)=9 from h) dDq⟩
  ·rw[if_neg h1]
   by_cases h3:dW (av c fl)=0\/(dW (av c fl)=1/\aF=false)
   ·rw[if_pos h3]
    exact⟨hk, .du c,auY _,fun h=>absurd (show(5:Int)=0 from h) dDq,fun h=>absurd (show(5:Int)=9 from h) dDq⟩
   ·rw[if_neg h3]
    by_cases h4:(kF c fl).2=true
    ·rw[if_pos h4]
     have:=SV h4;exact⟨hk, .du c,auY _,fun _=>⟨by simp only;omega,by simp only;omega,this.2.2⟩,fun h=>absurd (show(0:Int)=9 from h) dDq⟩
    ·rw[if_neg h4]
     obtain⟨d1,d2,d3⟩:=SS hk h2 (fun e=>h3 (.inl e)) h4;have hc:=xD (jN c fl+2) hk;exact⟨hc.1,hc.2,A1 _ _ _,fun h=>⟨by simp only;omega,by simp only;omega,G7 _ h⟩,fun h=>G5 d3 (.inl h)⟩
def ie:Nat->CV->List Int->Bool->List UInt8->CV×Int×Int
  |0,c,_,_,_=>(c,0,0)
  |n+1,c,fl,aF,b=>
   if(bj c fl aF).2.2=0 then
      (if bC (bj c fl aF).1 (bj c fl aF).2.1 b=0 then(bB (bj c fl aF).1 (bj c fl aF).2.1 b,(bj c fl aF).2.1*c.pages+(ak (bj c fl aF).1 (bj c fl aF).2.1).used+1,0)
       else if bC (bj c fl aF).1 (bj c fl aF).2.1 b≠9 then(bB (bj c fl aF).1 (bj c fl aF).2.1 b,0,bC (bj c fl aF).1 (bj c fl aF).2.1 b)
       else ie n (bB (bj c fl aF).1 (bj c fl aF).2.1 b) fl aF b)
   else if(bj c fl aF).2.2≠9 then((bj c fl aF).1,0,(bj c fl aF).2.2)
   else ie n (bj c fl aF).1 fl aF b
def cY(c:CV)(fl:List Int)(aF:Bool)(p:PV):CV×Int×Int:=
  if(dy p c.size).2≠0 then(c,0,(dy p c.size).2)else ie ((cT -c.ops).toNat+1) c fl aF (dy p c.size).1
theorem tw{c:CV}(h:aW c=true):c.ops<=cT:=(eN.1 h).2.2.1
theorem Lt: ∀(n:Nat) {c:CV} {fl:List Int} {aF:Bool} {b:List UInt8},aW c=true→3≤c.blocks.length→(cT -c.ops).toNat<n→
    aW (ie n c fl aF b).1=true/\dV c (ie n c fl aF b).1/\c.ops<=(ie n c fl aF b).1.ops/\((ie n c fl aF b).2.2=0->1<=(ie n c fl aF b).2.1/\2<=((ie n c fl aF b).2.1 -1)/c.pages/\((ie n c fl aF b).2.1 -1)/c.pages<c.blocks.length)
  |0,c,fl,aF,b,_,_,hn=>by omega
  |n+1,c,fl,aF,b,hk,h2,hn=>by
   obtain⟨f1,f2,f3,f4,f5⟩:=Ls (fl:=fl) (aF:=aF) hk h2;have hd:=fe hk;rw[ie]
   by_cases h0:(bj c fl aF).2.2=0
   ·rw[if_pos h0]
    obtain⟨g1,g2,g3⟩:=f4 h0
    by_cases h1:bC (bj c fl aF).1 (bj c fl aF).2.1 b=0
    ·rw[if_pos h1]
     have hl:=f2.trans (iY (bj c fl aF).1 (bj c fl aF).2.1 b);have hp:=j7.1 (qD h1).1;rw[f2.pages]at hp;have hu:0<=(ak (bj c fl aF).1 (bj c fl aF).2.1).used:=hp.2.1;have Lu:=hp.2.2.1
     have hq:((bj c fl aF).2.1*c.pages+(ak (bj c fl aF).1 (bj c fl aF).2.1).used+1 -1)/c.pages=(bj c fl aF).2.1:=by
          rw[avt,avT,avh _ _ oM,auZ hu Lu,avY]
     refine⟨mg f1 _ _,hl,?_,fun _=>⟨?_,by simp only;rw[hq];exact g1,by simp only;rw[hq];exact g2⟩⟩
     ·have:=zq (bj c fl aF).1 (bj c fl aF).2.1 b;simp only;omega
     ·have:0<=(bj c fl aF).2.1*c.pages:=avG oM oM
      simp only;omega
    ·rw[if_neg h1]
     by_cases h9:bC (bj c fl aF).1 (bj c fl aF).2.1 b≠9
     ·rw[if_pos h9]
      exact⟨mg f1 _ _,f2.trans (iY _ _ _),by have:=zq (bj c fl aF).1 (bj c fl aF).2.1 b;simp only;omega,fun h=>absurd h h1⟩
     ·rw[if_neg h9]
      have ho:=uM g3 (p:=b) (.inl (by simpa using h9));have bJ:=mg f1 (bj c fl aF).2.1 b;have hl:=f2.trans (iY (bj c fl aF).1 (bj c fl aF).2.1 b);have hle:=tw bJ;have:=Lt n (fl:=fl) (aF:=aF) (b:=b) bJ (by rw[hl.len];exact h2) oM;refine⟨this.1,hl.trans this.2.1,oM,fun h=>?_⟩;have g:=this.2.2.2 h;rw[hl.pages,hl.len]at g;exact g
   ·rw[if_neg h0]
    by_cases h9:(bj c fl aF).2.2≠9
    ·rw[if_pos h9]
     exact⟨f1,f2,f3,fun h=>absurd h h0⟩
    ·rw[if_neg h9]
     have ho:=f5 (by simpa using h9);have hle:=tw f1;have:=Lt n (fl:=fl) (aF:=aF) (b:=b) f1 (by rw[f2.len];exact h2) oM;refine⟨this.1,f2.trans this.2.1,oM,fun h=>?_⟩;have g:=this.2.2.2 h;rw[f2.pages,f2.len]at g;exact g
theorem SX{c:CV}{fl:List Int}{aF:Bool}{p:PV}(hk:aW c=true)(h2:3≤c.blocks.length):
    aW (cY c fl aF p).1=true/\dV c (cY c fl aF p).1/\c.ops<=(cY c fl aF p).1.ops/\((cY c fl aF p).2.2=0->1<=(cY c fl aF p).2.1/\2<=((cY c fl aF p).2.1 -1)/c.pages/\((cY c fl aF p).2.1 -1)/c.pages<c.blocks.length):=by
  rw[cY];split
  ·rename_i h;exact⟨hk, .du c,auY _,fun h'=>absurd h' h⟩
  ·exact Lt _ hk h2 oM
def lB(p:Int)(x:az):Int:=if x.live=0/\p -x.used=0 then p else p -x.used
def tA(p:Int)(s:Int×Int)(x:az):Int×Int:=if x.bad=true then s else(s.1+lB p x,if x.live=0 then max s.2 (lB p x)else s.2)
def fW(p:Int)(l:List az):Int×Int:=l.foldl (tA p) (0,0)
def lC(c:CV)(fl:List Int):Int×Int:=((fW c.pages (av c fl)).1 -(fW c.pages (av c fl)).2,(fW c.pages (av c fl)).1)
theorem SY{p:Int}{l:List az}{i:Nat}{x:az}(h:l[i]? =some x):fW p (l.take (i+1))=tA p (fW p (l.take i)) x:=by
  rw[fW,at6,h];simp[fW]
theorem G8{c:CV}{n:Nat}{x:az}(h:A3 c n x)(hk:aW c=true):0<=lB c.pages x/\lB c.pages x<=c.pages:=by
  have hd:=fe hk;have:=h.Dp;have:=h.A4;rw[lB];split<;>omega
theorem SZ{c:CV}{n:Nat}(hk:aW c=true)(l:List az)(h: ∀x∈l,A3 c n x): ∀i,i<=l.length->0<=(fW c.pages (l.take i)).1/\(fW c.pages (l.take i)).1<=16*(i:Int)/\0<=(fW c.pages (l.take i)).2/\(fW c.pages (l.take i)).2<=16
  |0,_=>by simp[fW]
  |i+1,hi=>by
   obtain⟨x,hx⟩:=get_some (xs:=l) (i:=i) oM;have ih:=SZ hk l h i oM;have hr:=G8 (h x (atl hx)) hk;have hd:=fe hk;rw[SY hx,tA];split
   ·omega
   ·refine⟨by simp only;omega,by simp only;omega,?_,?_⟩
    ·simp only;split<;>omega
    ·simp only;split<;>omega
structure db(x:WV):Prop where
 ae:aW x.v.ae=true
 len:4<=(x.v.ae.blocks.length:Int)
 pages:2<=x.v.ae.pages
 size:24<=x.v.ae.size
 last:x.v.last=0\/x.v.last=1
 gen:x.v.gen<281474976710656
 wg:iZ x.v.ae x.v.at_
 kT:x.v.at_.length<=64
theorem db.on{x:WV}(h:db x){c:CV}(hk:aW c=true)(hl:dV x.v.ae c):db (x.on c):=
 ⟨hk,by simp only[WV.on];rw[hl.len];exact h.len,by simp only[WV.on];rw[hl.pages];exact h.pages,by simp only[WV.on];rw[hl.size];exact h.size,h.last,h.gen,h.wg.cm hl,h.kT⟩
theorem db.tB{x:WV}(h:db x):4<=x.v.ae.blocks.length:=by have:=h.len;omega
theorem S0(x:WV):x.on x.v.ae=x:=rfl
theorem S1(x:WV)(c d:CV):(x.on c).on d=x.on d:=rfl
def aZ(c:CV)(last:Int):CV×Int×Int:=
 if 0<ez c last then(c,last,0)
 else if 0<ez c (1 -last)then(c,1 -last,0)
 else if(ak c (1 -last)).bad=true then(c,0,9)
 else(dz c (1 -last),1 -last,ei c (1 -last))
theorem G9{c:CV}{b:Int}(h:0<ez c b):(ak c b).bad=false:=by
 rw[ez]at h;split at h
 ·omega
 rename_i hn;simpa using hn
theorem Ha{c:CV}{last:Int}(hk:aW c=true)(hl:last=0\/last=1):aW (aZ c last).1=true/\dV c (aZ c last).1/\c.ops<=(aZ c last).1.ops/\
  ((aZ c last).2.2=0->((aZ c last).2.1=0\/(aZ c last).2.1=1)/\(ak (aZ c last).1 (aZ c last).2.1).bad=false):=by
 rw[aZ]
 by_cases h1:0<ez c last
 ·rw[if_pos h1];exact⟨hk, .du c,auY _,fun _=>⟨hl,G9 h1⟩⟩
 ·
  rw[if_neg h1]
  by_cases h2:0<ez c (1 -last)
  ·rw[if_pos h2];exact⟨hk, .du c,auY _,fun _=>⟨by simp only;omega,G9 h2⟩⟩
  ·
   rw[if_neg h2]
   by_cases h3:(ak c (1 -last)).bad=true
   ·rw[if_pos h3];exact⟨hk, .du c,auY _,fun h=>absurd (show(9:Int)=0 from h) dDq⟩
   ·rw[if_neg h3];exact⟨Dl hk _,xC _ _,SI _ _,fun h=>⟨by simp only;omega,SW h⟩⟩
def gx:Nat->WV->List Int->List UInt8->WV×Int
 |0,x,_,_=>(x,0)
 |n+1,x,a,b=>
  if(aZ x.v.ae x.v.last).2.2≠0 then(x.on (aZ x.v.ae x.v.last).1,(aZ x.v.ae x.v.last).2.2)
  else if bC (aZ x.v.ae x.v.last).1 (aZ x.v.ae x.v.last).2.1 b=0 then
   (⟨⟨bB (aZ x.v.ae x.v.last).1 (aZ x.v.ae x.v.last).2.1 b,a,x.v.gen+1,if mi (bB (aZ x.v.ae x.v.last).1 (aZ x.v.ae x.v.last).2.1 b) 1=x.v.gen+1 then 1 else(aZ x.v.ae x.v.last).2.1⟩,x.beyond⟩,0)
  else if bC (aZ x.v.ae x.v.last).1 (aZ x.v.ae x.v.last).2.1 b≠9 then
   (x.on (bB (aZ x.v.ae x.v.last).1 (aZ x.v.ae x.v.last).2.1 b),bC (aZ x.v.ae x.v.last).1 (aZ x.v.ae x.v.last).2.1 b)
  else gx n (x.on (bB (aZ x.v.ae x.v.last).1 (aZ x.v.ae x.v.last).2.1 b)) a b
def dQ(x:WV)(a:List Int):WV×Int:=
 if(da ⟨x.v.gen+1,a⟩ x.v.ae.size).2≠0 then(x,(da ⟨x.v.gen+1,a⟩ x.v.ae.size).2)
 else gx ((cT -x.v.ae.ops).toNat+1) x a (da ⟨x.v.gen+1,a⟩ x.v.ae.size).1
structure jy(x y:WV):Prop where
 ok:db y
 cm:dV x.v.ae y.v.ae
 ops:x.v.ae.ops<=y.v.ae.ops
 xH:y.v.at_.length=x.v.at_.length
theorem jy.du{x:WV}(h:db x):jy x x:=⟨h, .du _,auY _,rfl⟩
theorem jy.trans{x y z:WV}(h:jy x y)(g:jy y z):jy x z:=⟨g.ok,h.cm.trans g.cm,Int.le_trans h.ops g.ops,g.xH.trans h.xH⟩
theorem jy.on{x:WV}(h:db x){c:CV}(hk:aW c=true)(hl:dV x.v.ae c)(ho:x.v.ae.ops<=c.ops):jy x (x.on c):=⟨h.on hk hl,hl,ho,rfl⟩
theorem adP{r:RV}{n:Int}(h:(da r n).2=0):r.gen<281474976710656/\(r.at_.length:Int)<=kP n:=by
 rw[da]at h;split at h
 ·rename_i hm;have:=xz.1 hm;exact⟨this.2.1,this.2.2.1⟩
 cases h
theorem adQ(n:Int):kP n<=64:=by rw[kP];omega
theorem S2: ∀(n:Nat) {x:WV} {a:List Int} {b:List UInt8},db x->iZ x.v.ae a->a.length=x.v.at_.length->x.v.gen+1<281474976710656->(cT -x.v.ae.ops).toNat<n->jy x (gx n x a b).1/\((gx n x a b).2=0->x.v.ae.ops<(gx n x a b).1.v.ae.ops)
 |0,x,a,b,_,_,_,_,hn=>by omega
 |n+1,x,a,b,hx,ha,dj,hg,hn=>by
  obtain⟨r1,r2,r3,r4⟩:=Ha (c:=x.v.ae) (last:=x.v.last) hx.ae hx.last;rw[gx]
  by_cases h0:(aZ x.v.ae x.v.last).2.2≠0
  ·rw[if_pos h0];exact⟨.on hx r1 r2 r3,fun h=>absurd h h0⟩
  rw[if_neg h0];obtain⟨r5,r6⟩:=r4 (by simpa using h0);have gn:=mg r1 (aZ x.v.ae x.v.last).2.1 b;have cf:=r2.trans (iY (aZ x.v.ae x.v.last).1 (aZ x.v.ae x.v.last).2.1 b);have nw:=zq (aZ x.v.ae x.v.last).1 (aZ x.v.ae x.v.last).2.1 b
  by_cases h1:bC (aZ x.v.ae x.v.last).1 (aZ x.v.ae x.v.last).2.1 b=0
  ·
   rw[if_pos h1];have ho:=uM r6 (p:=b) (.inr h1);have fY:=hx.on gn cf;refine⟨⟨⟨gn,fY.len,fY.pages,fY.size,?_,hg,ha.cm cf,by simp only;rw[dj];exact hx.kT⟩,cf,by simp only;omega,dj⟩,fun _=>by simp only;omega⟩;simp only;split
   ·exact .inr rfl
   exact r5
  rw[if_neg h1]
  by_cases h9:bC (aZ x.v.ae x.v.last).1 (aZ x.v.ae x.v.last).2.1 b≠9
  ·rw[if_pos h9];exact⟨.on hx gn cf oM,fun h=>absurd h h1⟩
  rw[if_neg h9];have ho:=uM r6 (p:=b) (.inl (by simpa using h9));have hle:=tw gn;have fY:=hx.on gn cf;have:=S2 n (x:=x.on (bB (aZ x.v.ae x.v.last).1 (aZ x.v.ae x.v.last).2.1 b)) (a:=a) (b:=b) fY (ha.cm cf) dj hg (by simp only[WV.on];omega);exact⟨(jy.on hx gn cf oM).trans this.1,fun h=>by
   have h2:(bB (aZ x.v.ae x.v.last).1 (aZ x.v.ae x.v.last).2.1 b).ops<_:=this.2 h;omega⟩
theorem Lw{x:WV}{a:List Int}(hx:db x)(ha:iZ x.v.ae a)(dj:a.length=x.v.at_.length):jy x (dQ x a).1/\((dQ x a).2=0->x.v.ae.ops<(dQ x a).1.v.ae.ops):=by
 rw[dQ];split
 ·rename_i h;exact⟨.du hx,fun h'=>absurd h' h⟩
 rename_i h;have:=adP (r:=⟨x.v.gen+1,a⟩) (n:=x.v.ae.size) (by simpa using h);exact S2 _ hx ha dj this.1 oM
def n8:Nat->Int->CV->CV×Int
 |0,_,c=>(c,0)
 |n+1,b,c=>if Dn c b=false then n8 n (b+1) c
  else if ei c b≠0/\ei c b≠9 then(dz c b,ei c b)else n8 n (b+1) (dz c b)
def pV(c:CV)(b:Int)(ids:Nat):List UInt8×Int:=da ⟨gY c b,List.replicate ids 0⟩ c.size
def Hb(c:CV)(b:Int)(ids:Nat)(g:Nat):VV:=⟨c,List.replicate ids 0,g,b⟩
def xI:Nat->Int->WV->Nat->WV×Int
 |0,_,x,_=>(x,9)
 |n+1,b,x,ids=>
  if(pV x.v.ae b ids).2≠0\/ez x.v.ae b=0 then xI n (b+1) x ids
  else if bC x.v.ae b (pV x.v.ae b ids).1=0 then(⟨Hb (bB x.v.ae b (pV x.v.ae b ids).1) b ids (gY x.v.ae b),x.beyond⟩,0)
  else if bC x.v.ae b (pV x.v.ae b ids).1≠9 then(x.on (bB x.v.ae b (pV x.v.ae b ids).1),bC x.v.ae b (pV x.v.ae b ids).1)
  else xI n (b+1) (x.on (bB x.v.ae b (pV x.v.ae b ids).1)) ids
def sk(x:WV)(ids:Nat):WV×Int:=
 if(n8 x.v.ae.blocks.length 0 x.v.ae).2≠0 then(x.on (n8 x.v.ae.blocks.length 0 x.v.ae).1,(n8 x.v.ae.blocks.length 0 x.v.ae).2)
 else xI 2 0 (x.on (n8 x.v.ae.blocks.length 0 x.v.ae).1) ids
def xJ(s:Int×Int)(i:Nat)(x:az):Int×Int:=
 if x.bad=true\/x.live=0\/cT<=x.aU then s else if s.2<x.used -x.live then((i:Int),x.used -x.live)else s
def gP(l:List az):Nat->Int×Int
 |0=>(0,0)
 |k+1=>xJ (gP l k) k (l.getD k eu)
def ja(l:List az)(p:Int):Int×Bool:=if(wb l p).2=true then((wb l p).1,true)else((gP l l.length).1,decide (0<(gP l l.length).2))
theorem Ly(l:List az): ∀k,0<=(gP l k).1/\0<=(gP l k).2/\(0<(gP l k).2->(gP l k).1<k)
 |0=>by simp[gP]
 |k+1=>by
  have:=Ly l k;rw[gP,xJ];split
  ·exact⟨this.1,this.2.1,fun h=>by have:=this.2.2 h;omega⟩
  split
  ·exact⟨by simp only;omega,by simp only;omega,fun _=>by simp only;omega⟩
  exact⟨this.1,this.2.1,fun h=>by have:=this.2.2 h;omega⟩
theorem Lz{l:List az}{p:Int}(h:(ja l p).2=true):0<=(ja l p).1/\(ja l p).1<l.length:=by
 rw[ja]at h⊢;split
 ·rename_i hv;have:=A0 hv;exact⟨this.2.1,this.2.2.1⟩
 rename_i hv;rw[if_neg hv]at h;have:=Ly l l.length;exact⟨this.1,this.2.2 (by simpa using h)⟩
def sq(x:az):Bool:=decide (x.used=0)
def tC(p:Int)(x:az):Bool:=decide (x.used=p)
def tD(x:az):Bool:=decide (x.aU<cT)
def mU(c:CV)(l:List az):Int×Bool:=fL (cl sq l) c.pages
def ka(c:CV)(l:List az):Int×Bool:=fO (cl (tC c.pages) l) c.pages
def kb(c:CV)(l:List az):Int×Bool:=fO (cl tD l) c.pages
def cc(c:CV)(l:List az):CV×Int×Int:=
 if(mU c l).2=true then(c,(mU c l).1+2,0)
 else if(ka c l).2=true then((cJ c ((ka c l).1+2)).1,(ka c l).1+2,(cJ c ((ka c l).1+2)).2)
 else if(kb c l).2=true then((cJ c ((kb c l).1+2)).1,(kb c l).1+2,(cJ c ((kb c l).1+2)).2)
 else(c,0,6)
def lD(c:CV)(l:List az):Prop:=l.length=c.blocks.length -2/\ ∀(i:Nat) (x:az),l[i]? =some x->x.bad=false->(ak c ((i:Int)+2)).bad=false
theorem zr(c:CV)(fl:List Int):lD c (av c fl):=⟨mh c fl,fun i x hx hb=>by rw[←G6 hx];exact hb⟩
theorem lD.set{c:CV}{l:List az}(h:lD c l)(i:Nat):lD c (l.set i bc):=⟨by rw[auA];exact h.1,fun j x hx hb=>by
 rw[au1]at hx;split at hx
 ·
  split at hx
  ·obtain rfl:=at1 hx;cases hb
  cases hx
 exact h.2 j x hx hb⟩
theorem xK{c:CV}{R:az->Bool}{l:List az}{eI:az->Bool}{os:List (az->az->Int)}(ht:lD c l)(hr: ∀x,eI x=true->x.bad=false)(h:(gw (cl R l) c.pages eI os).2=true):
  0<=(gw (cl R l) c.pages eI os).1/\(gw (cl R l) c.pages eI os).1<((c.blocks.length -2:Nat):Int)/\(ak c ((gw (cl R l) c.pages eI os).1+2)).bad=false:=by
 obtain⟨x,hx,k1,_,_,k4,k5⟩:=pT hr h;rw[ht.1]at k5;refine⟨k4,k5,?_⟩;have:=ht.2 _ x hx k1;rwa [show(((gw (cl R l) c.pages eI os).1.toNat:Nat):Int)=(gw (cl R l) c.pages eI os).1 by omega]at this
theorem LA{c:CV}{l:List az}(hk:aW c=true)(ht:lD c l):aW (cc c l).1=true/\dV c (cc c l).1/\c.ops<=(cc c l).1.ops/\
  ((cc c l).2.2=0->2<=(cc c l).2.1/\(cc c l).2.1<c.blocks.length/\(ak (cc c l).1 (cc c l).2.1).bad=false)/\((cc c l).2.2=9->c.ops<(cc c l).1.ops)/\((cc c l).2.2=6->(cc c l).1=c):=by
 rw[cc];have e6: ∀{b:Int},(cJ c b).2≠6:=fun{b}=>by
  have: ∀n {c:CV},(fc n c b).2≠6:=by
   intro n
   induction n with
   |zero=>
    intro c;simp only[fc,ei];split
    ·
     split
     ·decide
     ·
      split
      ·decide
      ·
       split
       ·rw[mc];split<;>decide
       ·decide
    ·decide
   |succ n ih=>
    intro c;rw[fc];split
    ·
     simp only[bC,kA];split
     ·
      split
      ·decide
      ·
       split
       ·decide
       ·
        split
        ·rw[mc];split<;>decide
        ·decide
     ·decide
    ·exact ih
  exact this _
 by_cases h1:(mU c l).2=true
 ·rw[if_pos h1];have:=xK ht (fun x h=>(tv h).1) h1;change 0<=(mU c l).1/\(mU c l).1<_/\(ak c ((mU c l).1+2)).bad=false at this;exact⟨hk, .du c,auY _,fun _=>⟨by simp only;omega,by simp only;omega,this.2.2⟩,fun h=>absurd (show(0:Int)=9 from h) dDq,fun h=>absurd (show(0:Int)=6 from h) dDq⟩
 ·
  rw[if_neg h1]
  by_cases h2:(ka c l).2=true
  ·rw[if_pos h2];have:=xK ht (fun x h=>(mj h).1) h2;change 0<=(ka c l).1/\(ka c l).1<_/\(ak c ((ka c l).1+2)).bad=false at this;have hc:=xD ((ka c l).1+2) hk;exact⟨hc.1,hc.2,A1 _ _ _,fun h=>⟨by simp only;omega,by simp only;omega,G7 _ h⟩,fun h=>G5 this.2.2 (.inl h),fun h=>absurd h e6⟩
  ·
   rw[if_neg h2]
   by_cases h3:(kb c l).2=true
   ·rw[if_pos h3];have:=xK ht (fun x h=>(mj h).1) h3;change 0<=(kb c l).1/\(kb c l).1<_/\(ak c ((kb c l).1+2)).bad=false at this;have hc:=xD ((kb c l).1+2) hk;exact⟨hc.1,hc.2,A1 _ _ _,fun h=>⟨by simp only;omega,by simp only;omega,G7 _ h⟩,fun h=>G5 this.2.2 (.inl h),fun h=>absurd h e6⟩
   ·rw[if_neg h3];exact⟨hk, .du c,auY _,fun h=>absurd (show(6:Int)=0 from h) dDq,fun h=>absurd (show(6:Int)=9 from h) dDq,fun _=>rfl⟩
def cC(c:CV)(a0 a:List Int)(src tgt:Int):Int×Bool:=
 if tgt<0 then(if(fL ((av c (a0++a)).set (src -2).toNat bc) c.pages).2=true then((fL ((av c (a0++a)).set (src -2).toNat bc) c.pages).1+2,true)else(0,false))else(tgt,true)
def eA(c:CV)(g id n:Int):List UInt8×Int:=dy ⟨1,id,g.toNat,jw c n⟩ c.size
structure MV where
 c:CV
 a:List Int
 e:Option Int
def cj(v:VV)(src tgt:Int):List Int->Nat->CV->List Int->MV
 |[],_,c,a=>⟨c,a,none⟩
 |n::r,id,c,a=>
  if n=0\/(n -1)/v.ae.pages≠src then cj v src tgt r (id+1) c a
  else if(cC c v.at_ a src tgt).2=false then⟨c,a,some 6⟩
  else if(eA c ((v.gen:Int)+1) id n).2≠0 then⟨c,a,some (eA c ((v.gen:Int)+1) id n).2⟩
  else if bC c (cC c v.at_ a src tgt).1 (eA c ((v.gen:Int)+1) id n).1≠0 then
   ⟨bB c (cC c v.at_ a src tgt).1 (eA c ((v.gen:Int)+1) id n).1,a,some (j9 (bC c (cC c v.at_ a src tgt).1 (eA c ((v.gen:Int)+1) id n).1))⟩
  else cj v src tgt r (id+1) (bB c (cC c v.at_ a src tgt).1 (eA c ((v.gen:Int)+1) id n).1) (a.set id ((cC c v.at_ a src tgt).1*v.ae.pages+(ak c (cC c v.at_ a src tgt).1).used+1))
def cZ(x:WV)(src tgt:Int):WV×Bool×Int:=
 match(cj x.v src tgt x.v.at_ 0 x.v.ae x.v.at_).e with
 |some e=>(x.on (cj x.v src tgt x.v.at_ 0 x.v.ae x.v.at_).c,false,e)
 |none=>((dQ (x.on (cj x.v src tgt x.v.at_ 0 x.v.ae x.v.at_).c) (cj x.v src tgt x.v.at_ 0 x.v.ae x.v.at_).a).1,decide ((dQ (x.on (cj x.v src tgt x.v.at_ 0 x.v.ae x.v.at_).c) (cj x.v src tgt x.v.at_ 0 x.v.ae x.v.at_).a).2=0),(dQ (x.on (cj x.v src tgt x.v.at_ 0 x.v.ae x.v.at_).c) (cj x.v src tgt x.v.at_ 0 x.v.ae x.v.at_).a).2)
theorem LB{x:WV}{src tgt:Int}{c:CV}{a:List Int}{e:Int}(h:cj x.v src tgt x.v.at_ 0 x.v.ae x.v.at_=⟨c,a,some e⟩):cZ x src tgt=(x.on c,false,e):=by
 rw[cZ,h]
theorem adR{x:WV}{src tgt:Int}{c:CV}{a:List Int}(h:cj x.v src tgt x.v.at_ 0 x.v.ae x.v.at_=⟨c,a,none⟩):cZ x src tgt=((dQ (x.on c) a).1,decide ((dQ (x.on c) a).2=0),(dQ (x.on c) a).2):=by
 rw[cZ,h]
theorem S3{c:CV}{a0 a:List Int}{src tgt:Int}(h:(cC c a0 a src tgt).2=true)(ht:0<=tgt->2<=tgt/\tgt<c.blocks.length/\(ak c tgt).bad=false):
  2<=(cC c a0 a src tgt).1/\(cC c a0 a src tgt).1<c.blocks.length/\(ak c (cC c a0 a src tgt).1).bad=false:=by
 rw[cC]at h⊢
 by_cases h1:tgt<0
 ·
  rw[if_pos h1]at h⊢
  by_cases h2:(fL ((av c (a0++a)).set (src -2).toNat bc) c.pages).2=true
  ·rw[if_pos h2];have hT:=(zr c (a0++a)).set (src -2).toNat;obtain⟨k1,k2,k3,k4⟩:=A0 h2;change 0<=(fL ((av c (a0++a)).set (src -2).toNat bc) c.pages).1 at k2;change(fL ((av c (a0++a)).set (src -2).toNat bc) c.pages).1<_ at k3;change nu _ (List.getD _ (fL ((av c (a0++a)).set (src -2).toNat bc) c.pages).1.toNat _)=true at k4;rw[hT.1]at k3;have hi:((av c (a0++a)).set (src -2).toNat bc)[(fL ((av c (a0++a)).set (src -2).toNat bc) c.pages).1.toNat]? =some _:=pz (d:=eu) (by rw[hT.1];omega);have:=hT.2 _ _ hi (tv k4).1;rw[show(((fL ((av c (a0++a)).set (src -2).toNat bc) c.pages).1.toNat:Nat):Int)=(fL ((av c (a0++a)).set (src -2).toNat bc) c.pages).1 by omega]at this;exact⟨by simp only;omega,by simp only;omega,this⟩
  ·rw[if_neg h2]at h;cases h
 ·rw[if_neg h1];exact ht oM
theorem Ds(c:CV)(b g:Int)(p:List UInt8):kA c b g p=0\/kA c b g p=1\/kA c b g p=7\/kA c b g p=9:=by
 rw[kA];split
 ·
  split
  ·omega
  split
  ·omega
  split
  ·rw[mc];split<;>omega
  omega
 omega
theorem A5(p:PV)(n:Int):(dy p n).2=0\/(dy p n).2=1:=by
 rw[dy];split<;>simp
theorem LC{c:CV}{b:Int}{p:List UInt8}(h:bC c b p=0)(b':Int):(ak (bB c b p) b').bad=(ak c b').bad:=by
 obtain⟨h1,h2,h3,h4,h5⟩:=qD h;have hh:=(j7.1 h1).1;obtain⟨_,g2,g3⟩:=iz.1 hh;rw[h5,iU];simp only[ak,List.getD,au1]
 by_cases e:b.toNat=b'.toNat
 ·rw[if_pos e,if_pos oM,e];simp
 rw[if_neg e]
theorem LD{v:VV}{src tgt:Int}: ∀(l:List Int) (id:Nat) {c:CV} {a:List Int},aW c=true->dV v.ae c->v.ae.ops<=c.ops->iZ v.ae a->(0<=tgt->2<=tgt/\tgt<c.blocks.length/\(ak c tgt).bad=false)->
  aW (cj v src tgt l id c a).c=true/\dV v.ae (cj v src tgt l id c a).c/\c.ops<=(cj v src tgt l id c a).c.ops/\iZ v.ae (cj v src tgt l id c a).a/\(cj v src tgt l id c a).a.length=a.length/\
   ((cj v src tgt l id c a).e=some 0->c.ops<(cj v src tgt l id c a).c.ops)/\((cj v src tgt l id c a).e=some 6-> ∀b,(ak (cj v src tgt l id c a).c b).bad=(ak c b).bad)
 |[],id,c,a,hk,hl,ho,ha,ht=>⟨hk,hl,auY _,ha,rfl,fun h=>by simp[cj]at h,fun h=>by simp[cj]at h⟩
 |n::r,id,c,a,hk,hl,ho,ha,ht=>by
  rw[cj]
  by_cases h1:n=0\/(n -1)/v.ae.pages≠src
  ·rw[if_pos h1];exact LD r (id+1) hk hl ho ha ht
  ·
   rw[if_neg h1]
   by_cases h2:(cC c v.at_ a src tgt).2=false
   ·rw[if_pos h2];exact⟨hk,hl,auY _,ha,rfl,fun h=>by simp at h,fun _ _=>rfl⟩
   ·
    rw[if_neg h2];obtain⟨m1,m2,m3⟩:=S3 (by simpa using h2) ht
    by_cases h3:(eA c ((v.gen:Int)+1) id n).2≠0
    ·rw[if_pos h3];have A6:(eA c ((v.gen:Int)+1) id n).2=1:=(A5 _ _).resolve_left h3;exact⟨hk,hl,auY _,ha,rfl,fun h=>absurd (at1 h) h3,fun h=>absurd (A6.symm.trans (at1 h)) dDq⟩
    ·
     rw[if_neg h3]
     by_cases h4:bC c (cC c v.at_ a src tgt).1 (eA c ((v.gen:Int)+1) id n).1≠0
     ·
      rw[if_pos h4];have hU:bC c (cC c v.at_ a src tgt).1 (eA c ((v.gen:Int)+1) id n).1=1\/bC c (cC c v.at_ a src tgt).1 (eA c ((v.gen:Int)+1) id n).1=7\/bC c (cC c v.at_ a src tgt).1 (eA c ((v.gen:Int)+1) id n).1=9:=(Ds _ _ _ _).resolve_left h4;refine⟨mg hk _ _,hl.trans (iY _ _ _),zq _ _ _,ha,rfl,fun h=>?_,fun h=>?_⟩
      ·
       have h:=at1 h;rw[j9]at h;split at h
       ·rename_i h9;have:=uM m3 (.inl h9);simp only;omega
       ·exact absurd h h4
      ·
       have h:=at1 h;rw[j9]at h;split at h
       ·cases h
       ·omega
     ·
      rw[if_neg h4];have xL:bC c (cC c v.at_ a src tgt).1 (eA c ((v.gen:Int)+1) id n).1=0:=by simpa using h4
      have gn:=j7.1 (qD xL).1;have hd:=fe hk;have mL:=hl.trans (iY c (cC c v.at_ a src tgt).1 (eA c ((v.gen:Int)+1) id n).1);have dN:=uM m3 (p:=(eA c ((v.gen:Int)+1) id n).1) (.inr xL);have Hc:v.ae.pages=c.pages:=hl.pages.symm;have ih:=LD r (id+1) (src:=src) (tgt:=tgt) (mg hk (cC c v.at_ a src tgt).1 (eA c ((v.gen:Int)+1) id n).1) mL oM (a:=a.set id ((cC c v.at_ a src tgt).1*v.ae.pages+(ak c (cC c v.at_ a src tgt).1).used+1)) (fun y hy=>by
       rcases auG hy with hy|rfl
       ·exact ha y hy
       ·
        have hq:((cC c v.at_ a src tgt).1*v.ae.pages+(ak c (cC c v.at_ a src tgt).1).used+1 -1)/v.ae.pages=(cC c v.at_ a src tgt).1:=by
         rw[Hc,avt,avT,avh _ _ oM,auZ gn.2.1 gn.2.2.1,avY]
        have h0:0<=(cC c v.at_ a src tgt).1*v.ae.pages:=avG oM oM;have:=gn.2.1;exact .inr ⟨oM,by rw[hq];exact m1,by rw[hq,←hl.len];exact m2⟩) (fun h=>by
       have:=ht h;rw[(iY c _ _).len,LC xL];exact this)
      obtain⟨i1,i2,i3,i4,i5,i6,i7⟩:=ih;refine⟨i1,i2,oM,i4,by rw[i5,auA],fun h=>by have:=i6 h;omega,fun h b=>?_⟩;rw[i7 h b,LC xL]
theorem LF(c:CV)(b:Int):ei c b=0\/ei c b=1\/ei c b=7\/ei c b=9:=by
 rw[ei];split
 ·
  split
  ·omega
  split
  ·omega
  split
  ·rw[mc];split<;>omega
  omega
 omega
theorem adS(c:CV)(l:Int):(aZ c l).2.2=0\/(aZ c l).2.2=1\/(aZ c l).2.2=7\/(aZ c l).2.2=9:=by
 rw[aZ];split
 ·exact .inl rfl
 split
 ·exact .inl rfl
 split
 ·exact .inr (.inr (.inr rfl))
 exact LF _ _
theorem S4: ∀(n:Nat) (y:WV) (a:List Int) (b:List UInt8),(gx n y a b).2≠6
 |0,y,a,b=>by simp[gx]
 |n+1,y,a,b=>by
  rw[gx];split
  ·have:=adS y.v.ae y.v.last;simp only;omega
  split
  ·simp
  split
  ·have:=Ds (aZ y.v.ae y.v.last).1 (aZ y.v.ae y.v.last).2.1 (ak (aZ y.v.ae y.v.last).1 (aZ y.v.ae y.v.last).2.1).used b;simp only[bC];omega
  exact S4 n _ _ _
theorem LG(y:WV)(a:List Int):(dQ y a).2≠6:=by
 rw[dQ];split
 ·
  rw[da];split
  ·have:=A5 ⟨2,max 0 ((a.length:Int) -1),y.v.gen+1,ic a⟩ y.v.ae.size;simp only;omega
  simp
 exact S4 _ _ _ _
theorem He{x:WV}{src tgt:Int}(hx:db x)(ht:0<=tgt->2<=tgt/\tgt<x.v.ae.blocks.length/\(ak x.v.ae tgt).bad=false):
  jy x (cZ x src tgt).1/\((cZ x src tgt).2.2=0->x.v.ae.ops<(cZ x src tgt).1.v.ae.ops)/\((cZ x src tgt).2.1=true->(cZ x src tgt).2.2=0)/\((cZ x src tgt).2.1=false/\(cZ x src tgt).2.2=6-> ∀b,(ak (cZ x src tgt).1.v.ae b).bad=(ak x.v.ae b).bad):=by
 obtain⟨h1,h2,h3,h4,h5,h6,h7⟩:=LD x.v.at_ 0 (src:=src) hx.ae (.du _) (auY _) hx.wg ht;rw[cZ];split
 ·rename_i e he;refine⟨.on hx h1 h2 h3,fun h=>h6 (by rw[he];exact congrArg some h),fun h=>absurd (show false=true from h) (by simp),fun h b=>h7 (by rw[he];exact congrArg some h.2) b⟩
 ·
  rename_i he;have fY:=hx.on h1 h2;have hw:=Lw fY (a:=(cj x.v src tgt x.v.at_ 0 x.v.ae x.v.at_).a) (h4.cm h2) h5;refine⟨(jy.on hx h1 h2 h3).trans hw.1,fun h=>?_,fun h=>by simpa using h,fun h=>?_⟩
  ·have g:(cj x.v src tgt x.v.at_ 0 x.v.ae x.v.at_).c.ops<_:=hw.2 h;simp only;omega
  ·exact absurd h.2 (LG _ _)
theorem S5: ∀(n:Nat) (c:CV) (b:Int),(fc n c b).2≠6
 |0,c,b=>by have:=LF c b;simp only[fc];omega
 |n+1,c,b=>by
  rw[fc];split
  ·have:=Ds c b (ak c b).used (iX c);simp only[bC];omega
  exact S5 n _ _
theorem S6(c:CV)(b:Int):(cJ c b).2≠6:=S5 _ _ _
def rv(c:CV)(l:List az)(i:Int):Bool:=decide ((cc c (l.set i.toNat bc)).2.2=6)&&decide ((l.getD i.toNat eu).live<=G3 (l.set i.toNat bc) c.pages)
def cU(c:CV)(l:List az)(i:Int):Int×Int:=if rv c l i=true then(-1,0)else(cc c (l.set i.toNat bc)).2
def ff(x:WV)(l:List az)(i:Int):WV×Int:=
 if(cU x.v.ae l i).2≠0 then(x.on (cc x.v.ae (l.set i.toNat bc)).1,j9 (cU x.v.ae l i).2)
 else if(cZ (x.on (cc x.v.ae (l.set i.toNat bc)).1) (i+2) (cU x.v.ae l i).1).2.1=false\/(l.getD i.toNat eu).used=x.v.ae.pages then
  ((cZ (x.on (cc x.v.ae (l.set i.toNat bc)).1) (i+2) (cU x.v.ae l i).1).1,(cZ (x.on (cc x.v.ae (l.set i.toNat bc)).1) (i+2) (cU x.v.ae l i).1).2.2)
 else((cZ (x.on (cc x.v.ae (l.set i.toNat bc)).1) (i+2) (cU x.v.ae l i).1).1.on (cJ (cZ (x.on (cc x.v.ae (l.set i.toNat bc)).1) (i+2) (cU x.v.ae l i).1).1.v.ae (i+2)).1,
  j9 (cJ (cZ (x.on (cc x.v.ae (l.set i.toNat bc)).1) (i+2) (cU x.v.ae l i).1).1.v.ae (i+2)).2)
theorem S7{e:Int}(h:j9 e=0):e=0\/e=9:=by
 rw[j9]at h;split at h
 ·exact .inr (by assumption)
 exact .inl h
theorem Hf{e:Int}(h:j9 e=6):e=6:=by
 rw[j9]at h;split at h
 ·cases h
 exact h
theorem Hg{c:CV}{l:List az}{i:Int}(hk:aW c=true)(ht:lD c l):(cU c l i).2=0->0<=(cU c l i).1->2<=(cU c l i).1/\(cU c l i).1<c.blocks.length/\(ak (cc c (l.set i.toNat bc)).1 (cU c l i).1).bad=false:=by
 intro h h0;rw[cU]at h h0⊢;split at h
 ·rename_i ha;rw[if_pos ha]at h0;exact absurd (show(0:Int)<= -1 from h0) dDq
 rename_i ha;rw[if_neg ha];exact(LA hk (ht.set i.toNat)).2.2.2.1 h
theorem adT{x:WV}{src tgt:Int}(hx:db x)(ht:0<=tgt->2<=tgt/\tgt<x.v.ae.blocks.length/\(ak x.v.ae tgt).bad=false):db (cZ x src tgt).1/\dV x.v.ae (cZ x src tgt).1.v.ae:=
 ⟨(He hx ht).1.ok,(He hx ht).1.cm⟩
theorem LH{x:WV}{l:List az}{i:Int}(hx:db x)(ht:lD x.v.ae l):
  jy x (ff x l i).1/\((ff x l i).2=0->x.v.ae.ops<(ff x l i).1.v.ae.ops)/\((ff x l i).2=6-> ∀b,(ak (ff x l i).1.v.ae b).bad=(ak x.v.ae b).bad):=by
 obtain⟨t1,t2,t3,t4,t5,t6⟩:=LA hx.ae (ht.set i.toNat);have hn:=jy.on hx t1 t2 t3;rw[ff]
 by_cases h0:(cU x.v.ae l i).2≠0
 ·
  rw[if_pos h0];have he:(cU x.v.ae l i).2=(cc x.v.ae (l.set i.toNat bc)).2.2:=by
   rw[cU]at h0⊢;split at h0
   ·exact absurd rfl h0
   ·rename_i ha;rw[if_neg ha]
  refine⟨hn,fun h=>?_,fun h b=>?_⟩
  ·
   rcases S7 h with g|g
   ·exact absurd g h0
   ·exact t5 (he▸g)
  ·have:=t6 (he▸Hf h);simp only[WV.on];rw[this]
 ·
  rw[if_neg h0];have r8:(cU x.v.ae l i).2=0:=by simpa using h0
  have hr:=Hg (i:=i) hx.ae ht r8;obtain⟨m1,m2,m3,m4⟩:=He (x:=x.on (cc x.v.ae (l.set i.toNat bc)).1) (src:=i+2) (tgt:=(cU x.v.ae l i).1) hn.ok (fun h=>by
   have:=hr h;exact⟨this.1,by simp only[WV.on];rw[t2.len];exact this.2.1,this.2.2⟩)
  have hb:(cU x.v.ae l i).2=0->(cc x.v.ae (l.set i.toNat bc)).2.2=6->(cc x.v.ae (l.set i.toNat bc)).1=x.v.ae:=fun _ h=>t6 h
  by_cases h1:(cZ (x.on (cc x.v.ae (l.set i.toNat bc)).1) (i+2) (cU x.v.ae l i).1).2.1=false\/(l.getD i.toNat eu).used=x.v.ae.pages
  ·
   rw[if_pos h1];refine⟨hn.trans m1,fun h=>?_,fun h b=>?_⟩
   ·have g:(cc x.v.ae (l.set i.toNat bc)).1.ops<_:=m2 h;simp only;omega
   ·
    have hf:(cZ (x.on (cc x.v.ae (l.set i.toNat bc)).1) (i+2) (cU x.v.ae l i).1).2.1=false:=by
     cases hq:(cZ (x.on (cc x.v.ae (l.set i.toNat bc)).1) (i+2) (cU x.v.ae l i).1).2.1 with
     |false=>rfl
     |true=>have:=m3 hq;exact absurd (this.symm.trans h) dDq
    rw[m4 ⟨hf,h⟩ b]
    by_cases ha:rv x.v.ae l i=true
    ·simp only[rv,af0,decide_eq_true_eq]at ha;simp only[WV.on];rw[t6 ha.1]
    ·
     exact absurd h (adU (by
      have:(cU x.v.ae l i).1=(cc x.v.ae (l.set i.toNat bc)).2.1:=by rw[cU,if_neg ha]
      have g:(cc x.v.ae (l.set i.toNat bc)).2.2=0:=by
       rw[cU,if_neg ha]at r8;exact r8
      have:=(t4 g).1;omega))
  ·
   rw[if_neg h1];have hm:(cZ (x.on (cc x.v.ae (l.set i.toNat bc)).1) (i+2) (cU x.v.ae l i).1).2.1=true:=by
    cases hq:(cZ (x.on (cc x.v.ae (l.set i.toNat bc)).1) (i+2) (cU x.v.ae l i).1).2.1 with
    |true=>rfl
    |false=>exact absurd (.inl hq) h1
   have hz:=m2 (m3 hm);have hc:=xD (i+2) m1.ok.ae;have ho:=A1 (ez (cZ (x.on (cc x.v.ae (l.set i.toNat bc)).1) (i+2) (cU x.v.ae l i).1).1.v.ae (i+2)).toNat (cZ (x.on (cc x.v.ae (l.set i.toNat bc)).1) (i+2) (cU x.v.ae l i).1).1.v.ae (i+2);refine⟨(hn.trans m1).trans (.on m1.ok hc.1 hc.2 ho),fun _=>?_,fun h=>absurd (Hf h) (S6 _ _)⟩;have g:(cc x.v.ae (l.set i.toNat bc)).1.ops<_:=hz;have g2:(cZ (x.on (cc x.v.ae (l.set i.toNat bc)).1) (i+2) (cU x.v.ae l i).1).1.v.ae.ops<=(cJ (cZ (x.on (cc x.v.ae (l.set i.toNat bc)).1) (i+2) (cU x.v.ae l i).1).1.v.ae (i+2)).1.ops:=ho;simp only[WV.on]at*;omega
where
 adU {x:WV} {src tgt:Int} (h:0<=tgt):(cZ x src tgt).2.2≠6:=by
  have key: ∀(l:List Int) (id:Nat) (c:CV) (a:List Int),(cj x.v src tgt l id c a).e≠some 6:=by
   intro l
   induction l with
   |nil=>intro id c a;simp[cj]
   |cons n r ih=>
    intro id c a;rw[cj];split
    ·exact ih _ _ _
    split
    ·rename_i h2;rw[cC,if_neg oM]at h2;cases h2
    split
    ·rename_i h3;have:=(A5 ⟨1,id,((x.v.gen:Int)+1).toNat,jw c n⟩ c.size).resolve_left h3;intro h;have h:=at1 h;rw[eA]at h;omega
    split
    ·intro h;have h:=Hf (at1 h);have:=Ds c (cC c x.v.at_ a src tgt).1 (ak c (cC c x.v.at_ a src tgt).1).used (eA c ((x.v.gen:Int)+1) id n).1;rw[bC]at h;omega
    exact ih _ _ _
  rw[cZ];split
  ·rename_i e he;intro h;exact key _ _ _ _ (by rw[he];exact congrArg some h)
  exact LG _ _
def n9(p:Int)(x:az):Bool:=decide (x.used<p)&&decide (x.aU<cT)
def oT(c:CV)(l:List az):Int×Bool:=fO (cl (n9 c.pages) l) c.pages
def jz(x:WV)(l:List az):WV×Int:=
 if(oT x.v.ae l).2=false then(x,6)else(x.on (cJ x.v.ae ((oT x.v.ae l).1+2)).1,j9 (cJ x.v.ae ((oT x.v.ae l).1+2)).2)
def dv(x:WV):List az:=av x.v.ae x.v.at_
def tE(x:WV):Int×Bool:=ja (dv x) x.v.ae.pages
def eC(x:WV):WV×Int:=
 if(tE x).2=true/\A2 x.v.gen=false then
  (if(ff x (dv x) (tE x).1).2≠6 then ff x (dv x) (tE x).1 else jz (ff x (dv x) (tE x).1).1 (dv x))
 else jz x (dv x)
theorem lD.cm{c d:CV}{l:List az}(h:lD c l)(hl:dV c d)(hb: ∀b,(ak d b).bad=(ak c b).bad):lD d l:=⟨by rw[h.1,hl.len],fun i x hx kR=>by rw[hb];exact h.2 i x hx kR⟩
theorem LK{x:WV}{l:List az}(hx:db x)(ht:lD x.v.ae l):jy x (jz x l).1/\((jz x l).2=0->x.v.ae.ops<(jz x l).1.v.ae.ops):=by
 rw[jz];split
 ·exact⟨.du hx,fun h=>absurd (show(6:Int)=0 from h) dDq⟩
 rename_i h;have hd:=xK ht (fun x h=>(mj h).1) (show(oT x.v.ae l).2=true by simpa using h);change 0<=(oT x.v.ae l).1/\(oT x.v.ae l).1<_/\(ak x.v.ae ((oT x.v.ae l).1+2)).bad=false at hd;have hc:=xD ((oT x.v.ae l).1+2) hx.ae;exact⟨.on hx hc.1 hc.2 (A1 _ _ _),fun h=>G5 hd.2.2 (S7 h).symm⟩
theorem Hh{x:WV}(hx:db x):jy x (eC x).1/\((eC x).2=0->x.v.ae.ops<(eC x).1.v.ae.ops):=by
 have ht:lD x.v.ae (dv x):=zr _ _;rw[eC];split
 ·
  obtain⟨r1,r2,r3⟩:=LH (i:=(tE x).1) hx ht;split
  ·exact⟨r1,r2⟩
  rename_i h6;have A7:(ff x (dv x) (tE x).1).2=6:=by simpa using h6
  have:=LK r1.ok (ht.cm r1.cm (r3 A7));exact⟨r1.trans this.1,fun h=>by have:=this.2 h;have:=r1.ops;omega⟩
 exact LK hx ht
def lE:Nat->WV->Int->WV×Int
 |0,x,_=>(x,0)
 |n+1,x,need=>
  if need<=(lC x.v.ae x.v.at_).1 then(x,0)
  else if need<=(lC x.v.ae x.v.at_).2/\wc x.v.ae x.v.last<2 then({x with beyond:=true},0)
  else if(eC x).2=0 then lE n (eC x).1 need
  else if(eC x).2≠6 then eC x
  else if need<=(lC x.v.ae x.v.at_).2 then({(eC x).1 with beyond:=true},0)
  else((eC x).1,5)
def kU(x:WV)(need:Int):WV×Int:=lE ((cT -x.v.ae.ops).toNat+1) x need
theorem db.by{x:WV}(h:db x)(b:Bool):db {x with beyond:=b}:=⟨h.ae,h.len,h.pages,h.size,h.last,h.gen,h.wg,h.kT⟩
theorem jy.by{x y:WV}(h:jy x y)(b:Bool):jy x {y with beyond:=b}:=⟨h.ok.by b,h.cm,h.ops,h.xH⟩
theorem S8: ∀(n:Nat) {x:WV} {need:Int},db x->jy x (lE n x need).1
 |0,x,need,hx=> .du hx
 |n+1,x,need,hx=>by
  have hc:=Hh hx;rw[lE];split
  ·exact .du hx
  split
  ·exact(jy.du hx).by true
  split
  ·exact hc.1.trans (S8 n hc.1.ok)
  split
  ·exact hc.1
  split
  ·exact hc.1.by true
  exact hc.1
theorem adV{x:WV}{need:Int}(hx:db x):jy x (kU x need).1:=S8 _ hx
def bw(x:It):Int×List UInt8:=(x.id,x.body.xs)
def mV(l:List (Int×List UInt8)):Nat:=(l.filter fun x=>decide (0<x.2.length)).length
theorem adW{l:List (Int×List UInt8)}{i:Nat}{x:Int×List UInt8}(h:l[i]? =some x):((l.take (i+1)).filter fun x=>decide (0<x.2.length)).length=((l.take i).filter fun x=>decide (0<x.2.length)).length+(if 0<x.2.length then 1 else 0):=by
 rw[at6,h,avj,adr];congr 1;simp only[awR,au9,awc];split<;>simp_all
def jb(v:VV)(x:Int×List UInt8):PV:=⟨1,x.1,v.gen+1,x.2⟩
def gp(v:VV)(aF:Bool):List (Int×List UInt8)->CV->List Int->CV×List Int×Int
 |[],c,a=>(c,a,0)
 |x::r,c,a=>
  if x.2.length=0 then gp v aF r c (a.set x.1.toNat 0)
  else if(cY c (v.at_++a) aF (jb v x)).2.2≠0 then((cY c (v.at_++a) aF (jb v x)).1,a,(cY c (v.at_++a) aF (jb v x)).2.2)
  else gp v aF r (cY c (v.at_++a) aF (jb v x)).1 (a.set x.1.toNat (cY c (v.at_++a) aF (jb v x)).2.1)
def cN(x:WV)(l:List (Int×List UInt8)):WV×Int:=kU {x with beyond:=false} (mV l)
def gy(x:WV)(l:List (Int×List UInt8)):CV×List Int×Int:=gp (cN x l).1.v (cN x l).1.beyond l (cN x l).1.v.ae (cN x l).1.v.at_
def gI(x:WV)(l:List (Int×List UInt8)):WV×Int:=
 if(cN x l).2≠0 then cN x l
 else if(gy x l).2.2≠0 then((cN x l).1.on (gy x l).1,(gy x l).2.2)
 else dQ ((cN x l).1.on (gy x l).1) (gy x l).2.1
theorem LL{v:VV}{aF:Bool}: ∀(l:List (Int×List UInt8)) {c:CV} {a:List Int},aW c=true->3<=c.blocks.length->iZ c a->
  aW (gp v aF l c a).1=true/\dV c (gp v aF l c a).1/\c.ops<=(gp v aF l c a).1.ops/\iZ c (gp v aF l c a).2.1/\(gp v aF l c a).2.1.length=a.length
 |[],c,a,hk,h2,ha=>⟨hk, .du c,auY _,ha,rfl⟩
 |x::r,c,a,hk,h2,ha=>by
  rw[gp];split
  ·
   have:=LL r (v:=v) (aF:=aF) hk h2 (a:=a.set x.1.toNat 0) (fun y hy=>by
    rcases auG hy with hy|rfl
    ·exact ha y hy
    ·exact .inl rfl)
   rwa [auA]at this
  ·
   obtain⟨p1,p2,p3,p4⟩:=SX (fl:=v.at_++a) (aF:=aF) (p:=jb v x) hk h2;split
   ·exact⟨p1,p2,p3,ha,rfl⟩
   ·
    rename_i h0;have p5:=p4 (by simpa using h0);have:=LL r (v:=v) (aF:=aF) p1 (by rw[p2.len];exact h2) (a:=a.set x.1.toNat (cY c (v.at_++a) aF (jb v x)).2.1) (fun y hy=>by
     rw[p2.pages,p2.len];rcases auG hy with hy|rfl
     ·exact ha y hy
     ·exact .inr p5)
    obtain⟨i1,i2,i3,i4,i5⟩:=this;refine⟨i1,p2.trans i2,oM,fun y hy=>?_,by rw[i5,auA]⟩;have:=i4 y hy;rwa [p2.pages,p2.len]at this
theorem Hi{x:WV}{l:List (Int×List UInt8)}(hx:db x):jy x (cN x l).1:=by
 have:=adV (need:=mV l) (hx.by false);exact⟨this.ok,this.cm,this.ops,this.xH⟩
theorem Hj{x:WV}{l:List (Int×List UInt8)}(hx:db x):jy x (gI x l).1:=by
 have hs:=Hi (l:=l) hx;rw[gI];split
 ·exact hs
 have hl:=hs.ok.tB;obtain⟨i1,i2,i3,i4,i5⟩:=LL (v:=(cN x l).1.v) (aF:=(cN x l).1.beyond) l hs.ok.ae oM hs.ok.wg;have fY:=hs.trans (.on hs.ok i1 i2 i3);split
 ·exact fY
 exact fY.trans (Lw fY.ok (i4.cm i2) i5).1
def lF:Nat->WV->List (Int×List UInt8)->WV×Int
 |0,x,_=>(x,0)
 |n+1,x,l=>if(gI x l).2=5/\n7 x.v.ae<n7 (gI x l).1.v.ae then lF n (gI x l).1 l else gI x l
theorem S9(c:CV):n7 c<=c.blocks.length:=awi _ _
def uQ(v:VV)(x:Int×List UInt8):Bool:=decide (0<=x.1)&&decide (x.1<(v.at_.length:Int))&&decide ((x.2.length:Int)<=dY v.ae.size)
def uR(v:VV)(l:List (Int×List UInt8))(i:Nat):Bool:=uQ v (l.getD i (0,[]))&& !((l.take i).map Prod.fst).contains (l.getD i (0,[])).1
def tF(v:VV)(l:List (Int×List UInt8)):Bool:=(List.range l.length).all (uR v l)
theorem Dt{v:VV}{l:List (Int×List UInt8)}:tF v l=true↔ ∀i,i<l.length->uR v l i=true:=by simp only[tF,aue,auB]
def uS(l:List Int)(i:Nat):Int->Option Unit:=fun x=>if x∈l.take i then some ()else none
theorem Ta{l:List Int}{i:Nat}{x:Int}:(uS l i x).isSome=decide (x∈l.take i):=by
 unfold uS;split<;>simp_all
theorem adX{l:List Int}:(fun _=>none)=uS l 0:=by
 funext x;simp[uS]
theorem adY{l:List Int}{i:Nat}{y:Int}(h:l[i]? =some y):(fun z=>if z=y then some ()else uS l i z)=uS l (i+1):=by
 funext x
 unfold uS;rw[at6,h]
 by_cases hx:x=y
 ·subst hx;simp
 simp[hx]
def fg(v:VV)(l:List (Int×List UInt8)):VV×Int:=
 if ¬(mQ v=true/\v.gen<281474976710655/\tF v l=true)then(v,1)
 else if v.ae.off=true then(v,7)
 else((lF (v.ae.blocks.length+1) ⟨v,false⟩ l).1.v,(lF (v.ae.blocks.length+1) ⟨v,false⟩ l).2)
def uT(b p:Int):Int:=if b<4\/32<b\/p<1\/16<p then 0 else(b -4)*p
def oU(c:CV)(ids:Int):WV×Int:=sk ⟨⟨c,[],0,0⟩,false⟩ ids.toNat
def pW(c:CV)(ids:Int):VV×Int:=
 if ¬(gH c=true/\1<=ids/\ids<=kP c.size)then(⟨c,[],0,0⟩,1)
 else if c.off=true then(⟨c,[],0,0⟩,7)
 else if(oU c ids).2≠0 then(⟨(oU c ids).1.v.ae,[],0,0⟩,(oU c ids).2)
 else((oU c ids).1.v,0)
theorem adZ{b:List UInt8}:(bH b).1.at_.length<=64/\(bH b).1.gen<281474976710656:=by
 rw[bH];split
 ·simp[iB]
 rename_i h1;split
 ·simp[iB]
 rename_i h2;split
 ·simp[iB]
 rename_i h3;have hf:v8 (cM b).1=true:=by simpa using h3
 simp only[v8,af0,decide_eq_true_eq]at hf;refine⟨?_,SK b⟩;have hid:(cM b).1.id<64:=by
  have lG:(cM b).2=0:=by simpa using h1
  rw[cM]at lG h2⊢
  by_cases g1:oP b.length=false
  ·rw[if_pos g1]at lG;cases lG
  rw[if_neg g1]at lG h2⊢
  by_cases g2:kC b=true
  ·rw[if_pos g2]at h2;exact absurd rfl h2
  rw[if_neg g2]at lG h2⊢
  by_cases g3:de (zl b)≠pI (mP b)
  ·rw[if_pos g3]at lG;cases lG
  rw[if_neg g3]at lG h2⊢
  by_cases g4:pP b=false
  ·rw[if_pos g4]at lG;cases lG
  rw[if_neg g4]at lG h2⊢;have g5:pP b=true:=by simpa using g4
  simp only[pP,af0]at g5;have:=(sa.1 g5.2).2.2.2.1;split
  ·simp[kB]
  exact this
 simp only[G0];omega
theorem Tb(l:List (List UInt8)): ∀k,(dH l k).new.at_.length<=64/\(dH l k).new.gen<281474976710656
 |0=>by simp[dH,iB]
 |k+1=>by
  rw[dH,zn];split
  ·exact adZ
  exact Tb l k
theorem ad0(l:List (List UInt8)):(gm l).2.1.at_.length<=64/\(gm l).2.1.gen<281474976710656:=by
 rw[gm];split
 ·exact Tb _ _
 split<;>simp[iB]
theorem Du{v:VV}{b:Bool}(h:mQ v=true):db ⟨v,b⟩:=by
 have hr:=Dj h;have ha:= @Sy v h;simp only[mQ,af0,decide_eq_true_eq]at h;obtain⟨⟨⟨h1,h2⟩,h3⟩,h4⟩:=h;obtain⟨hb,hl,hf⟩:=Lf h1;obtain⟨b1,b2,b3,b4⟩:=fN.1 hb;have A8:=ad0 ((ak {v.ae with off:=false} 0).pages++(ak {v.ae with off:=false} 1).pages)
 rw[hf]at h2 h3 h4;simp only at h2 h3 h4;have hd:=fe hr.1;have ri:4<=(v.ae.blocks.length:Int):=b2;refine⟨hr.1,b2,b3,b4,?_,by rw[←h2];exact A8.2,fun n hn=>?_,by rw[←h4];exact A8.1⟩
 ·
  rw[←h3];have ho0:=fy.1 (tu hr.1 (b:=0) oM oM);have ho1:=fy.1 (tu hr.1 (b:=1) oM oM);have hlen:((ak v.ae 0).pages++(ak v.ae 1).pages).length=(ak v.ae 0).pages.length+(ak v.ae 1).pages.length:=adr;have ke:=La (l:=(ak v.ae 0).pages++(ak v.ae 1).pages) (by rw[hlen];omega);change 0<=(bZ {v.ae with off:=false}).1/\(bZ {v.ae with off:=false}).1<_ at ke
  rw[hlen]at ke;have g0:0<=(bZ {v.ae with off:=false}).1/v.ae.pages:=av3 ke.1 oM
  have g1:(bZ {v.ae with off:=false}).1/v.ae.pages<2:=Int.ediv_lt_of_lt_mul oM (by
   have h9:(bZ {v.ae with off:=false}).1<(((ak v.ae 0).pages.length+(ak v.ae 1).pages.length:Nat):Int):=ke.2
   omega)
  change(bZ {v.ae with off:=false}).1/v.ae.pages=0\/(bZ {v.ae with off:=false}).1/v.ae.pages=1
  omega
 by_cases h0:n=0
 ·exact .inl h0
 obtain⟨i,hi⟩:=aul hn;have:=ha hi h0;have hp:=nr.1 this.2.2;exact .inr ⟨this.1,hp.1,hp.2.1⟩
def zt(l:List (List UInt8))(i:Nat):Bool:=decide ((bH (l.getD i [])).2=0)&&(List.range l.length).all fun k=> !(decide ((bH (l.getD k [])).2=0)&&(decide ((bH (l.getD i [])).1.gen<(bH (l.getD k [])).1.gen)||(decide ((bH (l.getD k [])).1.gen=(bH (l.getD i [])).1.gen)&&decide (i<k))))
theorem LM(l:List (List UInt8)): ∀k,k<=l.length->
  ((dH l k).found=true-> ∃i,i<k/\(dH l k).at_=(i:Int)/\(bH (l.getD i [])).2=0/\(dH l k).new=(bH (l.getD i [])).1/\ ∀j,j<k->(bH (l.getD j [])).2=0->(bH (l.getD j [])).1.gen<(bH (l.getD i [])).1.gen\/((bH (l.getD j [])).1.gen=(bH (l.getD i [])).1.gen/\j<=i))/\
  ((dH l k).found=false-> ∀j,j<k->(bH (l.getD j [])).2≠0)/\(dH l k).blank=(l.take k).all kC
 |0,_=>⟨fun h=>by simp[dH]at h,fun _ j hj=>by omega,by simp[dH]⟩
 |k+1,hk=>by
  obtain⟨h1,h2,h3⟩:=LM l k oM;obtain⟨b,hb⟩:=get_some (xs:=l) (i:=k) oM;have hg:l.getD k []=b:=by simp[List.getD,hb]
  have dI:(l.take (k+1)).all kC=((l.take k).all kC&&kC b):=by rw[at6,hb];simp
  by_cases hq:(bH b).2=0/\((dH l k).found=false\/(dH l k).new.gen<=(bH b).1.gen)
  ·
   rw[Sj hb hq,h3,dI];refine⟨fun _=>⟨k,oM,rfl,by rw[hg];exact hq.1,by rw[hg],fun j hj hv=>?_⟩,fun h=>by simp at h,rfl⟩;rw[hg]
   by_cases e:j=k
   ·subst e;rw[hg];exact .inr ⟨rfl,at5 _⟩
   ·
    have EW:j<k:=by omega
    rcases hq.2 with hf|hf
    ·exact absurd hv (h2 hf j EW)
    ·
     cases lH:(dH l k).found with
     |false=>exact absurd hv (h2 lH j EW)
     |true=>
      obtain⟨i,hi,ha,F2,hn,jh⟩:=h1 lH;rw[hn]at hf;rcases jh j EW hv with g|g
      ·exact .inl oM
      ·
       by_cases bq:(bH (l.getD j [])).1.gen<(bH b).1.gen
       ·exact .inl bq
       ·exact .inr ⟨oM,oM⟩
  ·
   rw[Sk hb hq];refine⟨fun lH=>?_,fun lH j hj=>?_,by simp only[h3,dI]⟩
   ·
    obtain⟨i,hi,ha,F2,hn,jh⟩:=h1 lH;refine⟨i,oM,ha,F2,hn,fun j hj hv=>?_⟩
    by_cases e:j=k
    ·subst e;rw[hg]at hv⊢;have: ¬(dH l j).new.gen<=(bH b).1.gen:=fun h=>hq ⟨hv, .inr h⟩;rw[hn]at this;exact .inl oM
    ·exact jh j oM hv
   ·
    by_cases e:j=k
    ·subst e;rw[hg];exact fun hv=>hq ⟨hv, .inl lH⟩
    ·exact h2 lH j oM
theorem Hk{l:List (List UInt8)}{i:Nat}:zt l i=true↔(bH (l.getD i [])).2=0/\ ∀k,k<l.length->(bH (l.getD k [])).2=0-> ¬((bH (l.getD i [])).1.gen<(bH (l.getD k [])).1.gen\/((bH (l.getD k [])).1.gen=(bH (l.getD i [])).1.gen/\i<k)):=by
 simp only[zt,af0,decide_eq_true_eq,aue,auB,au5,Bool.and_eq_false_iff,Bool.or_eq_false_iff,decide_eq_false_iff_not];constructor
 ·
  rintro⟨h1,h2⟩;refine⟨h1,fun k hk hv hc=>?_⟩;rcases h2 k hk with g|g
  ·exact g hv
  rcases hc with c|c
  ·exact g.1 c
  rcases g.2 with g|g
  ·exact g c.1
  exact g c.2
 rintro⟨h1,h2⟩;refine⟨h1,fun k hk=>?_⟩
 by_cases hv:(bH (l.getD k [])).2=0
 ·
  have:=h2 k hk hv;refine .inr ⟨fun c=>this (.inl c),?_⟩
  by_cases e:(bH (l.getD k [])).1.gen=(bH (l.getD i [])).1.gen
  ·exact .inr fun c=>this (.inr ⟨e,c⟩)
  exact .inl e
 exact .inl hv
theorem Tc{l:List (List UInt8)}{i:Nat}(hi:i<l.length)(h:zt l i=true):gm l=((i:Int),(bH (l.getD i [])).1,0):=by
 obtain⟨h1,h2⟩:=Hk.1 h;obtain⟨s1,s2,s3⟩:=LM l l.length (at5 _)
 cases hf:(dH l l.length).found with
 |false=>exact absurd h1 (s2 hf i hi)
 |true=>
  obtain⟨j,hj,ha,hv,hn,jh⟩:=s1 hf;have e:j=i:=by
   have g1:=jh i hi h1;have g2:=h2 j hj hv;omega
  subst e;rw[gm,if_pos hf,ha,hn]
theorem ad1{l:List (List UInt8)}(h: ∀i,i<l.length->zt l i=false):gm l=(0,iB,if l.all kC=true then 6 else 2):=by
 obtain⟨s1,s2,s3⟩:=LM l l.length (at5 _);rw[aup]at s3
 cases hf:(dH l l.length).found with
 |false=>
  rw[gm,if_neg (by rw[hf];simp),s3];split<;>rfl
 |true=>
  obtain⟨j,hj,ha,hv,hn,jh⟩:=s1 hf;have:zt l j=true:=Hk.2 ⟨hv,fun k hk hvk hc=>by have:=jh k hk hvk;omega⟩;rw[h j hj]at this;cases this
def wh(c:CV):VV×Int:=
 if(bZ c).2.2≠0 then(mf,(bZ c).2.2)else if nt c=false then(mf,2)else(⟨c,(bZ c).2.1.at_,(bZ c).2.1.gen,(bZ c).1/c.pages⟩,0)
theorem Td{c:CV}{l:List Int}{i:Nat}{y:Int}(h:l.getD i 0=y):se c l i=(decide (y=0)||(!(l.take i).contains y&&oR c (i:Int) y)):=by rw[se,h]
theorem ad3(c:CV):bG c=if gH c=false then(mf,1)else if c.off=true then(mf,7)else wh c:=rfl
theorem ad4(x:VV):mQ x=(gH x.ae&&(decide ((wh x.ae).2=0)&&decide (x.at_=(wh x.ae).1.at_)&&decide (x.gen=(wh x.ae).1.gen)&&decide (x.last=(wh x.ae).1.last))):=by
 have hb:gH {x.ae with off:=false}=gH x.ae:=rfl
 have fI:nt {x.ae with off:=false}=nt x.ae:=rfl
 have A9:bZ {x.ae with off:=false}=bZ x.ae:=rfl
 rw[mQ,ad3,hb]
 cases h:gH x.ae with
 |false=>rw[if_pos rfl];rfl
 |true=>
  rw[if_neg (by simp),if_neg (by simp),wh,wh,A9,fI]
  by_cases h1:(bZ x.ae).2.2≠0
  ·rw[if_pos h1,if_pos h1,decide_eq_false h1];rfl
  rw[if_neg h1,if_neg h1]
  by_cases h2:nt x.ae=false
  ·rw[if_pos h2,if_pos h2];rfl
  rw[if_neg h2,if_neg h2];rw[awn];simp only[af0,decide_eq_true_eq,true_and,au2];constructor
  ·rintro⟨⟨g1,g2⟩,g3⟩;exact⟨⟨g3.symm,g1.symm⟩,g2.symm⟩
  rintro⟨⟨g1,g2⟩,g3⟩;exact⟨⟨g2.symm,g3.symm⟩,g1.symm⟩
theorem ad5{c:CV}(h:(bG c).2≠0):(bG c).1=mf:=by
 rw[bG]at h⊢
 repeat' split
 all_goals first|rfl|(exfalso;simp_all)
theorem ad6(c:CV):(if(bG c).2=0 then(bG c).1 else mf)=(bG c).1:=by
 by_cases h:(bG c).2=0
 ·rw[if_pos h]
 rw[if_neg h,ad5 h]
def LN(pages:Int)(l:List Int)(i:Nat)(n:Nat):Nat:=((List.range n).filter fun j=>decide (0<l.getD j 0)&&decide ((l.getD j 0 -1)/pages=(i:Int)+2)).length
theorem ad7{v:VV}(h:mQ v=true)(i:Nat):kD v.ae.pages v.at_ v.at_.length i=LN v.ae.pages v.at_ i v.at_.length:=by
 obtain⟨-,h2,h3⟩:=Dj h;rw[kD,LN];congr 1;refine List.filter_congr fun j hj=>?_;have jn:j<v.at_.length:=auB.1 hj;have hp:=Dh.1 h2 j jn;have hr:=h3 (v.at_.getD j 0) (by rw[show v.at_.getD j 0=v.at_[j] by simp[List.getD,jn]];exact avL _);congr 1;rw[se]at hp;rw[nZ]
 by_cases h0:v.at_.getD j 0=0
 ·rw[h0];simp
 rw[decide_eq_true h0,decide_eq_true (show 0<v.at_.getD j 0 by omega)];rw[decide_eq_false h0,awP,af0]at hp;rw[hp.1];rfl
def sr(t:List Rt)(n id:Nat):List UInt8:=((t.drop (id*n)).take n).flatMap fB
def mn(t:List Rt)(ids n:Nat):List (List UInt8):=(List.range ids).map (sr t n)
def jA(a b:Int):Int:=if a<1\/64<a\/b<20\/240<b then 0 else min (a*(b/20)) 256
def jO(t:List Rt)(ids room:Int):Int:=if cS t=false\/jA ids room=0 then 1 else if jA ids room<t.length then 5 else 0
def lI(t:List Rt)(ids room:Int):List (List UInt8):=if jO t ids room=0 then mn t ids.toNat (room/20).toNat else[]
theorem xM(t:List Rt)(ids n:Nat):(mn t ids n).length=ids:=by simp[mn]
theorem ad8(l:List Rt):(l.flatMap fB).length=20*l.length:=by
 induction l with
 |nil=>rfl
 |cons a l ih=>rw[awB,adr,ih,rr,ad2];omega
theorem ad9(t:List Rt)(n id:Nat):(sr t n id).length=20*min n (t.length -id*n):=by
 rw[sr,ad8,at3,auh]
theorem LO(t:List Rt)(n id:Nat):(sr t n id).length<=20*n:=by rw[ad9];omega
theorem Hl{a b:Int}(h: ¬jA a b=0):1<=a/\a<=64/\20<=b/\b<=240/\jA a b=min (a*(b/20)) 256/\1<=b/20/\b/20<=12:=by
 unfold jA at h⊢;split at h
 ·exact absurd rfl h
 rename_i hn;rw[if_neg hn];have:1<=b/20/\b/20<=12:=by omega
 exact⟨oM,oM,oM,oM,rfl,this.1,this.2⟩
theorem aea{t:List Rt}{r:Rt}{i n id:Nat}(hn:0<n)(hr:t[i]? =some r):sr (t.take (i+1)) n id=sr (t.take i) n id++(if id=i/n then fB r else[]):=by
 have bq:i<t.length:=(zz.1 hr).1;have e1:t.take (i+1)=t.take i++[r]:=by rw[at6,hr];rfl
 have hd:=aww i n;have hm:=avV i hn;have hc:n*(i/n)=i/n*n:=avs _ _;unfold sr;have l1:(t.take i).length=i:=by rw[at3];omega
 rw[e1]
 by_cases h1:id=i/n
 ·subst h1;have e2:(t.take i++[r]).drop (i/n*n)=(t.take i).drop (i/n*n)++[r]:=List.drop_append_of_le_length (by rw[l1];omega);have e3:((t.take i).drop (i/n*n)++[r]).take n=(t.take i).drop (i/n*n)++[r]:=aug (by rw[adr,auh,l1];simp only[ad2,alM];omega);have e4:((t.take i).drop (i/n*n)).take n=(t.take i).drop (i/n*n):=aug (by rw[auh,l1];omega);rw[if_pos rfl,e2,e3,e4];simp
 rw[if_neg h1,auT];rcases Nat.lt_or_gt_of_ne h1 with h2|h2
 ·have:(id+1)*n<=i/n*n:=auj _ h2;rw[auz]at this;rw[List.drop_append_of_le_length (by rw[l1];omega),List.take_append_of_le_length (by rw[auh,l1];omega)]
 have:(i/n+1)*n<=id*n:=auj _ h2;rw[auz]at this;rw[awT (by rw[adr,l1];simp;omega),awT (by rw[l1];omega)]
theorem aeb{t:List Rt}{r:Rt}{i n ids:Nat}{x:List UInt8}(hn:0<n)(hr:t[i]? =some r)(hx:(mn (t.take i) ids n)[i/n]? =some x):
  mn (t.take (i+1)) ids n=(mn (t.take i) ids n).set (i/n) (x++fB r):=by
 refine au6 fun j=>?_;rw[au1];have hk:i/n<ids:=by have:=(zz.1 hx).1;rwa [xM]at this
 by_cases hj:j<ids
 ·
  have e: ∀t',(mn t' ids n)[j]? =some (sr t' n j):=fun t'=>by simp[mn,hj]
  rw[e,aea hn hr]
  by_cases h:i/n=j
  ·subst h;rw[e]at hx;rw[if_pos rfl,if_pos rfl,if_pos (by rw[xM];exact hk)];rw[at1 hx]
  ·rw[if_neg (fun e=>h e.symm),if_neg h,auT,e]
 ·rw[aub (by rw[xM];omega),if_neg oM,aub (by rw[xM];omega)]
theorem aec(t:List Rt)(ids n:Nat):mn (t.take 0) ids n=List.replicate ids []:=by
 refine List.eq_replicate_iff.2 ⟨xM _ _ _,fun x hx=>?_⟩;obtain⟨j,_,rfl⟩:=ava.1 hx;simp[sr]
theorem aed(t:List Rt)(id n:Nat):mn t (id+1) n=mn t id n++[sr t n id]:=by simp[mn,avi]
def ry(b:List UInt8):Rt:=⟨⟨if b.getD 0 0=1 then 128 else 32,(b.getD 1 0).toNat,oz fun i=>(b.getD (2+i) 0).toNat⟩,UInt16.ofNat ((b.getD 18 0).toNat*256+(b.getD 19 0).toNat)⟩
def rd(b:List UInt8):Option Rt:=if b.getD 0 0<=1 then some (ry b)else none
def ny(b:List UInt8):Option (List Rt):=
 if h:b.length<20 then(if b.length=0 then some []else none)
 else match rd (b.take 20),ny (b.drop 20)with
  |some r,some l=>some (r::l)
  |_,_=>none
termination_by b.length
decreasing_by rw[auh];omega
theorem Te:ny []=some []:=by rw[ny];simp
theorem LP{b:List UInt8}(h:20<=b.length):ny b=(rd (b.take 20)).bind fun r=>(ny (b.drop 20)).map (r:: ·):=by
 rw[ny,dif_neg oM]
 cases rd (b.take 20)<;>simp
 cases ny (b.drop 20)<;>simp
theorem Tf: ∀(k:Nat) (b:List UInt8),b.length<=k-> ¬b.length%20=0->ny b=none
 |0,b,h,hm=>by have:b.length=0:=by omega
               rw[this]at hm;simp at hm
 |k+1,b,h,hm=>by
  by_cases h2:b.length<20
  ·rw[ny,dif_pos h2,if_neg (fun e=>by rw[e]at hm;simp at hm)]
  rw[LP oM,Tf k (b.drop 20) (by rw[auh];omega) (by rw[auh];omega)]
  cases rd (b.take 20)<;>rfl
def ig:List (List UInt8)->Option (List Rt)
 |[]=>some []
 |b::r=>(ny b).bind fun l=>(ig r).map (l++ ·)
theorem Hm: ∀a b:List (List UInt8),ig (a++b)=(ig a).bind fun l=>(ig b).map (l++ ·)
 |[],b=>by simp[ig]
 |x::a,b=>by
  rw[avm,ig,ig,Hm a b]
  cases ny x<;>simp
  cases ig a<;>simp
  cases ig b<;>simp
theorem LQ{bs:List (List UInt8)}{i:Nat}{b:List UInt8}(h:bs[i]? =some b):ig (bs.take (i+1))=(ig (bs.take i)).bind fun l=>(ny b).map (l++ ·):=by
 rw[at6,h,awR,Hm,ig,ig]
 cases ig (bs.take i)with
 |none=>rfl
 |some l=>cases ny b<;>simp
theorem Tg{bs:List (List UInt8)}{i:Nat}(h:ig (bs.take i)=none):ig bs=none:=by
 rw[←auO i bs,Hm,h];rfl
def kf(bs:List (List UInt8)):List Rt:=match ig bs with
 |some t=>if cS t=true then t else[]
 |none=>[]
def lJ(bs:List (List UInt8)):Int:=match ig bs with
 |some t=>if cS t=true then 0 else 2
 |none=>2
theorem Hn{bs:List (List UInt8)}(h:ig bs=none):kf bs=[]/\lJ bs=2:=by simp[kf,lJ,h]
theorem Th{bs:List (List UInt8)}{t:List Rt}(h:ig bs=some t)(hr:cS t=false):kf bs=[]/\lJ bs=2:=by simp[kf,lJ,h,hr]
theorem LR{bs:List (List UInt8)}{t:List Rt}(h:ig bs=some t)(hr:cS t=true):kf bs=t/\lJ bs=0:=by simp[kf,lJ,h,hr]
def uU(a b:List (List UInt8))(i:Nat):Option (Int×List UInt8):=if a.getD i []=b.getD i []then none else some ((i:Int),b.getD i [])
def oV(a b:List (List UInt8))(n:Nat):List (Int×List UInt8):=(List.range n).filterMap (uU a b)
def fq(a b:List (List UInt8)):List (Int×List UInt8):=oV a b (max a.length b.length)
theorem Ti{a b:List (List UInt8)}{n:Nat}(h:a.getD n []=b.getD n []):oV a b (n+1)=oV a b n:=by
 have e:uU a b n=none:=by rw[uU,if_pos h]
 simp[oV,avi,e]
theorem Tj{a b:List (List UInt8)}{n:Nat}(h: ¬a.getD n []=b.getD n []):oV a b (n+1)=oV a b n++[((n:Int),b.getD n [])]:=by
 have e:uU a b n=some ((n:Int),b.getD n []):=by rw[uU,if_neg h]
 simp[oV,avi,e]
theorem Ho(a b:List (List UInt8))(n:Nat):(oV a b n).length<=n:=by
 have:=List.length_filterMap_le (uU a b) (List.range n);simpa[oV]using this
def rz(b:List UInt8):Bool:=decide (b.getD 0 0<=1)
def rdv(b:List UInt8):Rt:=if rz b=true then ry b else bQ
theorem Tk(b:List UInt8):rd b=if rz b=true then some (ry b)else none:=by simp[rd,rz]
theorem aee(b:List UInt8):(ry b).dN=uo (b.getD 18 0) (b.getD 19 0):=rfl
theorem aef{b:List UInt8}(hb:b.length=20)(v:Int)(hv:v=if b.getD 0 0=1 then 128 else 32):
  (over (((ay bQ).setIfInBounds 0 (.int .i64 v)).setIfInBounds 1 (.int .i64 (b.getD 1 0).toNat)) 2 (aL aQ ((b.drop 2).take 16)).toArray).setIfInBounds 18 (.int .u16 (uo (b.getD 18 0) (b.getD 19 0)).toNat)=ay (ry b):=by
 have hk:(aL aQ ((b.drop 2).take 16)).toArray.size=16:=by rw[au0,iG,at3,auh,hb];rfl
 have h0:(ay bQ).size=19:=gW _;have hs:2+(aL aQ ((b.drop 2).take 16)).toArray.size<=(((ay bQ).setIfInBounds 0 (.int .i64 v)).setIfInBounds 1 (.int .i64 (b.getD 1 0).toNat)).size:=by rw[hk];simp[h0]
 refine au8 fun j=>?_;rw[auN,pw hs,uj hs,hk]
 by_cases De:18=j
 ·subst De;rw[if_pos rfl,uz,aee];simp[h0]
 rw[if_neg De]
 by_cases h2:2<=j/\j<2+16
 ·
  rw[if_pos h2,nR _ j oM,show j=2+(j -2) by omega,q8,jr _ _ oM,show 2+(j -2) -2=j -2 by omega];have hg:((b.drop 2).take 16)[j -2]? =some (b.getD j 0):=by
   rw[avJ,if_pos oM,avd,show 2+(j -2)=j by omega,List.getD,at2 oM];rfl
  have:=ow (enc:=aQ) ((b.drop 2).take 16) (j -2) _ hg 0 dDq;simp only[av9,avk]at this;rw[show(aL aQ ((b.drop 2).take 16)).toArray[j -2]? =(aL aQ ((b.drop 2).take 16))[j -2]?by simp,this];have e:bl (ry b).p.key (j -2)=(b.getD j 0).toNat:=by
   show bl (oz fun i=>(b.getD (2+i) 0).toNat) (j -2)=_;rw[ux _ _ oM,show 2+(j -2)=j by omega];have:=(b.getD j 0).toNat_lt;omega
  rw[e];rfl
 rw[if_neg h2,auN]
 by_cases h1:1=j
 ·subst h1;rw[if_pos rfl,nR _ 1 dDq,yX];simp[h0,ry]
 rw[if_neg h1,auN]
 by_cases hj:0=j
 ·subst hj;rw[if_pos rfl,nR _ 0 dDq,yW];simp[h0,ry,hv]
 ·rw[if_neg hj,auu (by rw[h0];omega),auu (by rw[gW];omega)]
theorem Tl{t:List Rt}{ids room:Int}(h:jA ids room=0\/cS t=false):jO t ids room=1/\lI t ids room=[]:=by
 have e:jO t ids room=1:=if_pos h.symm;exact⟨e,by rw[lI,e];rfl⟩
theorem Tm{t:List Rt}{ids room:Int}(h: ¬jA ids room=0)(h':cS t=true)(h2:jA ids room<t.length):jO t ids room=5/\lI t ids room=[]:=by
 have e:jO t ids room=5:=by
  rw[jO,if_neg (by simp[h,h']),if_pos h2]
 exact⟨e,by rw[lI,e];rfl⟩
theorem LS{t:List Rt}{ids room:Int}(h: ¬jA ids room=0)(h':cS t=true)(h2: ¬jA ids room<t.length):jO t ids room=0/\lI t ids room=mn t ids.toNat (room/20).toNat:=by
 have e:jO t ids room=0:=by
  rw[jO,if_neg (by simp[h,h']),if_neg h2]
 exact⟨e,by rw[lI,if_pos e]⟩
theorem aeg{s:Sv}{xs:List (Sl UInt8)}{i:Nat}{y:Sl UInt8}:lx (⟨s,xs.set i y⟩:Sl (Sl UInt8))=(xs.map (·.xs)).set i y.xs:=by simp[lx,awe]
section
variable {bits:Int} {ns:List Nd} {i:Nat} {a a2:List Int} {nd:Nd}
end
def par(v:Wy):Wy:=aaU v.key (v.steps -1)
section
variable {bits:Int} {W:List Wy} {R:List Rt}
def lab(W:List Wy)(i b:Nat)(v:Wy):Int:=
 if v.steps=0\/W.idxOf (par v)<i\/W.idxOf (par v)=i/\kst v.key (v.steps -1)<b then(v.steps:Int)+1 else 0
end
section
variable {bits:Int} {t:List Rt}
end
end Go.Kb

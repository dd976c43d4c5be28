/- Laws and walks by which the law LabWhole is proved, each with its own conditions. -/
import Derived.Test.YtkggjjnhnjjokaaGreatDoorG2
import Derived.Lib.AppendZerosOnto
import Derived.Lib.Overlaps
set_option maxRecDepth 20000
set_option linter.unusedSimpArgs false
set_option linter.unusedVariables false
namespace Go.ax
open Go.RowKit
theorem Az{A X V:List Value}{o:Nat}(h:o=A.length):over (A++X).toArray o V.toArray=(A++(V++X.drop V.length)).toArray:=by
 subst h;unfold over;simp only[auj,atw];rw[List.take_left,List.drop_append];simp
section
variable {α:Type} {enc:α->Array Value} {c:Nat} {s:Sv} {xs:List α}
theorem yS(xs ys:List α):aJ enc (xs++ys)=aJ enc xs++aJ enc ys:=by simp[aJ]
theorem abS[he:bp enc c](hc:0<c){cs:Array Value}{o:Nat}(eI:o+xs.length*c<=cs.size)(hr: ∀i x,xs[i]? =some x-> ∀j,j<c->cs[o+i*c+j]? =(enc x)[j]?):
  cs=(cs.toList.take o++(aJ enc xs++cs.toList.drop (o+xs.length*c))).toArray:=by
 have key:(cs.toList.drop o).take (xs.length*c)=aJ enc xs:=by
  refine auz fun k=>?_;rcases atA k (xs.length*c)with hk|hk
  ·
   rw[List.getElem?_take_of_lt hk,auC,Array.getElem?_toList];have hd:k/c<xs.length:=Nat.div_lt_of_lt_mul (by rwa [auP]);have hm:=ave k hc;have e:k/c*c+k%c=k:=by rw[auP];exact avY k c
   have h1:=hr (k/c) xs[k/c] (by simp[hd]) (k%c) hm;have h2:=oc (enc:=enc) xs (k/c) xs[k/c] (by simp[hd]) (k%c) hm;rw[e]at h2;rw[h2,←h1];congr 1;omega
  ·
   rw[atB (by simp;omega),atB (by rw[ia];omega)]
 apply av6;simp only;rw[←key,←atw,show o+xs.length*c=o+xs.length*c from rfl,←avp,atw,auc,auc]
theorem Kj{a b:Nat}(h:a<=b):a=Nat.min a b:=(avX h).symm
theorem abT{a b:Nat}(h:b<=a):b=Nat.min a b:=(Nat.min_eq_right h).symm
theorem abU[he:bp enc c](hc:1<c){w0 w:World}{L:List ai}{i:Nat}(hw:Mem w0 L w)(hi:L[i]? =some (own enc c s xs))(hn:s.nil=false):
  ∃pre mid T,pre.length=s.o/\s.o+s.cap*c<=pre.length+(xs.length*c+mid.length)/\s.sp=none/\s.Ok/\s.len=xs.length/\Mem w0 (L.set i (aq s.b (pre++(aJ enc xs++mid)).toArray T)) w:=by
 obtain⟨r,pj⟩:=hw.get hi;obtain⟨ft,cs,T,fz,fe,eI,nH,mZ⟩:=pj hn;obtain rfl:=mZ hc;have hle:=r.ok.le;have hlen:=r.len;have hm:xs.length*c<=s.cap*c:=atG _ (by omega);have e:=abS (enc:=enc) (c:=c) (xs:=xs) (cs:=cs) (o:=s.o) (by omega) (by omega) fun i x hx j hj=>by
  rw[←r.row i x hx j hj];unfold nG;rw[fe]
 refine⟨cs.toList.take s.o,cs.toList.drop (s.o+xs.length*c),T,by simp;omega,by simp;omega,ft,r.ok,hlen,?_⟩;rw[←e];exact hw.change hi (fun k (hk:k=s.b)=>⟨hn,hk⟩) (fun _ _=>rfl) rfl ⟨rfl,rfl,rfl⟩ fe
theorem Kk[he:bp enc c]{w0 w:World}{L:List ai}{i b:Nat}{pre mid:List Value}{T:TypeId}(hw:Mem w0 L w)(hi:L[i]? =some (aq b (pre++(aJ enc xs++mid)).toArray T))(s':Sv)(bN:s'.Ok)(hn:s'.nil=false)(hb:s'.b=b)(ft:s'.sp=none)(ho:s'.o=pre.length)(hl:s'.len=xs.length)
  (vr:s'.o+s'.cap*c<=pre.length+(xs.length*c+mid.length)):Mem w0 (L.set i (own enc c s' xs)) w:=by
 subst hb;have fe:hp w s'.b=some (.cells (pre++(aJ enc xs++mid)).toArray T (0,0)):=hw.block hi;refine hw.change hi (fun k hk=>hk.2) (fun _ _=>rfl) rfl ⟨rfl,rfl,rfl⟩ ⟨wS bN hl fe fun k y hy j hj=>?_,fun _=>⟨ft,_,_,_,fe,by simp[ia];omega,I5 _,fun _=>rfl⟩⟩;have bn:k*c+j<(aJ enc xs).length:=by
  rw[ia];have h1:=(zz.1 hy).1
  calc k*c+j<k*c+c:=by omega
   _=(k+1)*c:=by rw[atU];omega
   _<=_:=atG _ h1
 rw[auT,atz (by omega),atN (by omega),←oc (enc:=enc) xs k y hy j hj];congr 1;omega
theorem Sv.xm{lo hi:Nat}(h:lo<s.cap):(s.sub c lo hi).o=s.o+lo*c:=by simp only[Sv.sub];rw[if_neg (by omega)]
theorem Sv.CQ{hi:Nat}:(s.sub c 0 hi).o=s.o:=by simp only[Sv.sub];split<;>simp
theorem Sv.sub_eq{hi:Nat}(hn:s.nil=false)(ft:s.sp= .none):s.sub c 0 hi=⟨false,s.b,s.o,hi,s.cap, .none⟩:=by
 have h0:=Sv.CQ (s:=s) (c:=c) (hi:=hi);obtain⟨sn,sb,so,sl,sc,ss⟩:=s;simp only[Sv.sub]at h0 hn ft⊢;subst hn ft;rw[h0];rfl
end
section
variable {P:Program} {N:cC} {w0:World} {env:Env} {L:List ai} {Q:Exit->Act->World->Prop} {l rest:List Oper} {d:Option Tmp} {ty:TypeId} {ps:String} {af:Array Edge} {gd:Option (Nat×Bool)} {K:Value->List ai->Prop}
variable {α:Type} {enc:α->Array Value} {c:Nat} {s:Sv} {xs:List α}
theorem abV{w:World}{pre A mid:List Value}{T:TypeId}{b o:Nat}{L':List ai}(hw:Mem w0 (aq b (pre++(A++mid)).toArray T::L') w)(ho:pre.length=o){j:Nat}{u:Value}(hj:A[j]? =some u):w.cell? ⟨b,o+j,none⟩=some u:=by
 have j9:=(zz.1 hj).1;have h0:(aq b (pre++(A++mid)).toArray T::L')[0]? =some (aq b (pre++(A++mid)).toArray T):=rfl;rw[hw.cell h0,auT,atz (by omega),atN (by omega),←hj];congr 1;omega
theorem QK{code:Code}[he:bp enc c]{i:Nat}(q:fX L s enc c xs i)(hc:1<c)(hn:0<xs.length){L':List Value->List Value->TypeId->List ai}[hu: ∀pre mid T,fO L i (aq s.b (pre++(aJ enc xs++mid)).toArray T) (L' pre mid T)]
  (h: ∀pre mid T,pre.length=s.o->s.o+s.cap*c<=pre.length+(xs.length*c+mid.length)->s.nil=false->s.sp=none->s.Ok->s.len=xs.length->Cw P N w0 Q code env (L' pre mid T)):Cw P N w0 Q code env L:=fun a w ha hw=>by
 have pz:=(hw.get q.h).1.some hn;obtain⟨pre,mid,T,h1,h2,h3,h4,h5,h6⟩:=abU hc hw q.h pz;rw[(hu pre mid T).h]at h6;exact h pre mid T h1 h2 pz h3 h4 h5 a w ha h6
theorem F5{code:Code}{i:Nat}(q:fX L s enc c xs i)(hn:0<xs.length)(h:s.nil=false->s.sp=none->s.Ok->s.len=xs.length->Cw P N w0 Q code env L):Cw P N w0 Q code env L:=fun a w ha hw=>by
 obtain⟨r,pj⟩:=hw.get q.h;have pz:=r.some hn;exact h pz (pj pz).1 r.ok r.len a w ha hw
theorem QL[he:bp enc c](hc:0<c){i:Nat}(q:fX L s enc c xs i){w:World}(hw:Mem w0 L w){j:Nat}{v:Value}(hj:(aJ enc xs)[j]? =some v):w.cell? ⟨s.b,s.o+j,none⟩=some v:=by
 obtain⟨x,hx,hv⟩:=E3 hc hj;have r:=(hw.get q.h).1;rw[rH,←hv,←r.row _ x hx (j%c) (ave _ hc)];congr 1;have:=avY j c;rw[auP]at this;omega
theorem abW(w:World)(dT sT ty elem:TypeId)(b o QM abX:Nat)(a:Addr)(QN abY n:Nat)(cur:Array Value)(t:TypeId)(vs:List Value)
  (hu:P.underlying dT=some (.slice elem)) (hs:(P.info? elem).map (·.size)=some c) (hg:w.heap[b]? =some (.cells cur t (0,0))) (hn:n=Nat.min QN QM) (hv:vs.length=n*c)
  (nE: ∀j v,vs[j]? =some v->w.cell? (a.add j)=some v) (jz:o+vs.length<=cur.size) (h1: ∀v∈vs,v.oneCell'=true):
  (Builtin.copy_ #[dT,sT] ty #[.slice (some ⟨b,o,none⟩) QM abX, .slice (some a) QN abY]).run P w= .ok (goInt n) (w.setRow b (over cur o vs.toArray)):=by
 have hl:=run_loadCells_list (P:=P) w a vs nE;have bB:=run_storeCells_at P b o t vs 0 cur w hg (by simpa using jz) h1;rw[hv]at hl
 cases hq:P.info? elem with
 |none=>simp[hq]at hs
 |some i=>
  have hi:i.size=c:=by simpa[hq]using hs
  simp[Builtin.copy_,run_underlying hu,Builtin.lenOf,Builtin.firstCells,sizeOf,typeInfo,hq,hi,←hn,hl,bB,over]
theorem F6{D S:Sv}{x y:Operand}{tx gM e:TypeId}{i b o n:Nat}{cs:Array Value}{T:TypeId}{vs:List Value}(hx:ev env x=some D.val)(hy:ev env y=some S.val)
  (nO:D.nil=false) (pA:D.sp=none) (qZ:D.b=b) (sX:D.o=o) (CR:S.nil=false) (CS:S.sp=none) [ht:fA P tx e c] [hh:Has L b cs T i] (hn:n=Nat.min S.len D.len) (hv:vs.length=n*c)
  (nE: ∀w,Mem w0 L w-> ∀j v,vs[j]? =some v->w.cell? ⟨S.b,S.o+j,none⟩=some v) (h1: ∀v∈vs,v.oneCell'=true) (ho:o+vs.length<=cs.size) {cs':Array Value} {L':List ai} (gU:over cs o vs.toArray=cs') [hu:fO L i (aq b cs' T) L']
  (hk:Sq P N w0 l Q rest (cy env d (.int .i64 n)) L') (hd:dx N d=true:=by rfl):
  Sq P N w0 l Q (⟨d, .call {callee:= .builtin .copy,args:= #[x,y],argTypes:= #[tx,gM]},ty,ps,af,none⟩::rest) env L:=
 nD rfl hd fun aa w ha hw=>by
  rw[Sv.iA nO,pA,qZ,sX]at hx;rw[Sv.iA CR,CS]at hy;have hb:=hw.block hh.h;have gK:=abW (P:=P) w tx gM ty e b o D.len D.cap ⟨S.b,S.o,none⟩ S.len S.cap n cs T vs ht.fc ht.size hb hn hv (fun j v hj=>by rw[Addr.gT];exact nE w hw j v hj) ho h1;refine⟨_,_,_,?_,by rw[←hu.h,←gU];exact hw.setRow hh.h _,hk⟩;simp[execOp,ha.ev hx,ha.ev hy,resolve,invoke,builtin,gK,Result.andThen,goInt]
theorem abZ{D S:Sv}{x y:Operand}{tx gM e e':TypeId}{cw i b o n:Nat}{cs:Array Value}{T:TypeId}{vs:List Value}(hx:ev env x=some D.val)(hy:ev env y=some S.val)
  (nO:D.nil=false) (pA:D.sp=none) (qZ:D.b=b) (sX:D.o+D.len*c=o) (CR:S.nil=false) (CS:S.sp=none) [ht:eK P tx e c cw] (AA:P.underlying gM=some (.slice e')) [hh:Has L b cs T i] (hn:S.len=n) (hv:vs.length=n*c) (qd:D.len+n<=D.cap)
  (nE: ∀w,Mem w0 L w-> ∀j v,vs[j]? =some v->w.cell? ⟨S.b,S.o+j,none⟩=some v) (h1: ∀v∈vs,v.oneCell'=true) (ho:o+vs.length<=cs.size) {cs':Array Value} {L':List ai} (gU:over cs o vs.toArray=cs') [hu:fO L i (aq b cs' T) L']
  {R:Sv} (hR:R=⟨false,b,D.o,D.len+n,D.cap,none⟩) (hk:Sq P N w0 l Q rest (cy env d R.val) L') (hd:dx N d=true:=by rfl):
  Sq P N w0 l Q (⟨d, .call {callee:= .builtin .append,args:= #[x,y],argTypes:= #[tx,gM]},ty,ps,af,none⟩::rest) env L:=
 nD rfl hd fun aa w ha hw=>by
  subst hR sX qZ;rw[Sv.iA nO,pA]at hx;rw[Sv.iA CR,CS,hn]at hy;have hb:=hw.block hh.h;obtain⟨i',z,bl,aL,bC,dq,od⟩:=ht.info;have hs:=Src.ofSlice (P:=P) (size:=c) w AA ⟨S.b,S.o,none⟩ n S.cap vs hv (fun j v hj=>by rw[Addr.gT];exact nE w hw j v hj) h1;have bB:=run_storeCells_at P D.b (D.o+D.len*c) T vs 0 cs w hb (by simpa using ho) h1;have gK:(Builtin.append_ #[tx,gM] ty #[.slice (some ⟨D.b,D.o,none⟩) D.len D.cap, .slice (some ⟨S.b,S.o,none⟩) n S.cap]).run P w= .ok (.slice (some ⟨D.b,D.o,none⟩) (D.len+n) D.cap) (w.setRow D.b (over cs (D.o+D.len*c) vs.toArray)):=by
   subst bC;rcases hs.kind with⟨e',hk⟩|hk<;>simp[Builtin.append_,run_underlying ht.fc,run_underlying hk,sizeOf,typeInfo,bl,hs.len,qd,hs.cells,Addr.gT,bB,over]
  refine⟨_,_,_,?_,by rw[←hu.h,←gU];exact hw.setRow hh.h _,hk⟩;simp[execOp,ha.ev hx,ha.ev hy,resolve,invoke,builtin,gK,Result.andThen,Sv.val]
theorem ab0{D:Sv}{x y:Operand}{tx gM e:TypeId}{cw k:Nat}{z:Value}{olds:List Value}{kn kq:IntKind}{iy:Int}{p m:Nat}(hp:D.len=p)(hm:p+k=m)(hx:ev env x=some D.val)(hy:ev env y=some (.int kq iy))(oA:iy=(k:Int))(h0:0<k)
  (nO:D.nil=false) (pA:D.sp=none) [ht:eK P tx e c cw] (hc:0<c) [hz:eP P e z] (Kl:P.underlying gM=some (.int kn)) (holds:olds.length=D.len*c) (nE: ∀w,Mem w0 L w-> ∀j v,olds[j]? =some v->w.cell? ⟨D.b,D.o+j,none⟩=some v)
  (hg:D.cap<D.len+k) (hb:(D.len+k)*cw<=140737488355328) (ib:D.len+k<=140737488355328)
  (hk: ∀(b C:Nat) (Z:List Value),m<=C->p*c+Z.length=C*c->Sq P N w0 l Q rest (cy env d (Sv.val ⟨false,b,0,m,C,none⟩)) (aq b (olds++Z).toArray e::L)) (hd:dx N d=true:=by rfl):
  Sq P N w0 l Q (⟨d, .call {callee:= .builtin .append,args:= #[x,y],argTypes:= #[tx,gM]},ty,ps,af,none⟩::rest) env L:=
 nD rfl hd fun aa w ha hw=>by
  subst oA hp hm;rw[Sv.iA nO,pA]at hx;obtain⟨i',z',bl,aL,bC,dq,od⟩:=ht.info;subst bC dq;have vr:=nextslicecap_le hg;have jz:Builtin.nextslicecap (D.len+k) D.cap*i'.bytes<=281474976710656:=by
   have h2:Builtin.nextslicecap (D.len+k) D.cap*i'.bytes<=2*(D.len+k)*i'.bytes:=atG _ vr;rw[Nat.mul_assoc]at h2;omega
  have Km:k*i'.bytes<=281474976710656:=by
   have:k*i'.bytes<=(D.len+k)*i'.bytes:=atG _ (by omega);omega
  have hold:=run_firstCells_some (P:=P) w.drew i'.size D.len ⟨D.b,D.o,none⟩ D.len D.cap olds holds (fun j v hj=>by rw[Addr.gT];exact nE w hw j v hj);have gK:=Lib.run_append_grow_zeros (P:=P) w tx gM ty e i' z' kq kn ht.fc Kl bl aL (some ⟨D.b,D.o,none⟩) D.len D.cap olds hold k h0 hc hg (by omega) Km jz;have tV:=grownCap_ge w (D.len+k) D.cap e;generalize grownCap w (D.len+k) D.cap e=C at gK tV;have CT:=size_zeroCells z'.cells k;have F7:=size_zeroCells z'.cells (C -(D.len+k));rw[od]at CT F7;have hZ:D.len*i'.size+(Builtin.zeroCells z'.cells k++Builtin.zeroCells z'.cells (C -(D.len+k))).toList.length=C*i'.size:=by
   rw[avq,aud,CT,F7,←atU,←atU];congr 1;omega
  have e1:olds.toArray++Builtin.zeroCells z'.cells k++Builtin.zeroCells z'.cells (C -(D.len+k))=(olds++(Builtin.zeroCells z'.cells k++Builtin.zeroCells z'.cells (C -(D.len+k))).toList).toArray:=by apply av6;simp
  rw[e1]at gK;refine⟨_,_,_,?_,hw.drew.alloc _ e,hk w.heap.size C _ tV hZ⟩;simp[execOp,ha.ev hx,ha.ev hy,resolve,invoke,builtin,gK,Result.andThen,Sv.val]
theorem ab1{D:Sv}{x:Operand}{tx e:TypeId}{cw i b o n:Nat}{z:Value}{cs:Array Value}{T:TypeId}(hx:ev env x=some D.val)(nO:D.nil=false)(pA:D.sp=none)(qZ:D.b=b)(sX:D.o=o)(hn:D.len=n)(h0:0<n)[ht:eK P tx e c cw][hz:eP P e z](h1:z.cells.all (·.oneCell')=true)[hh:Has L b cs T i](ho:o+n*c<=cs.size)
  {L':List Value->List ai} [hu: ∀Z,fO L i (aq b (over cs o Z.toArray) T) (L' Z)] (hk: ∀Z:List Value,Z.length=n*c->Sq P N w0 l Q rest env (L' Z)):
  Sq P N w0 l Q (⟨none, .call {callee:= .builtin .clear,args:= #[x],argTypes:= #[tx]},ty,ps,af,none⟩::rest) env L:=
 nD rfl rfl fun aa w ha hw=>by
  rw[Sv.iA nO,pA,qZ,sX,hn]at hx;have hb:=hw.block hh.h;obtain⟨i',z',bl,aL,bC,dq,od⟩:=ht.info;obtain rfl:z'=z:=by
   have:=hz.zero;rw[bl,at3,aL]at this;exact atl (atl this)
  subst bC;have hZ:=size_zeroCells z'.cells n;rw[od]at hZ;have ui: ∀v∈(Builtin.zeroCells z'.cells n).toList,v.oneCell'=true:=fun v hv=>by
   simp only[Builtin.zeroCells,Array.toList_map,auq]at hv;obtain⟨j,hj,rfl⟩:=hv;have rL:0<z'.cells.size:=by
    rcases avu z'.cells.size with h|h
    ·
     rw[h]at hj;simp at hj
    ·
     exact h
   rw[getElem!_pos z'.cells _ (ave _ rL)];exact(at4.1 h1) _ (Array.getElem_mem _)
  have bB:=run_storeCells_at P b o T (Builtin.zeroCells z'.cells n).toList 0 cs w hb (by simp[hZ];omega) ui;have gK:(Builtin.clear_ #[tx] ty #[.slice (some ⟨b,o,none⟩) n D.cap]).run P w= .ok (.tuple #[]) (w.setRow b (over cs o (Builtin.zeroCells z'.cells n))):=by
   obtain⟨m,rfl⟩: ∃m,n=m+1:=⟨n -1,by omega⟩;simp[Builtin.clear_,run_underlying ht.fc,zeroValue,typeInfo,bl,aL,bB,over]
  refine⟨.tuple #[],w.setRow b (over cs o (Builtin.zeroCells z'.cells n)),L' (Builtin.zeroCells z'.cells n).toList,?_,?_,hk _ (by rw[avq,hZ])⟩
  ·
   simp[execOp,ha.ev hx,resolve,invoke,builtin,gK,Result.andThen]
  ·
   have h9:=hw.setRow hh.h (over cs o (Builtin.zeroCells z'.cells n));rw[←(hu _).h];simpa using h9
def Sv.top(s:Sv)(m:Nat):Sv:=⟨s.nil,s.b,s.o,s.len,m,s.sp⟩
theorem QO{t e:TypeId}{x lo hi mx:Operand}{l h m:Nat}{k k' QP:IntKind}{il ih im:Int}[ht:fA P t e c](hx:ev env x=some s.val)[q:Hd w0 L s enc c xs](hl:ev env lo=some (.int k il))(hh:ev env hi=some (.int k' ih))(hm:ev env mx=some (.int QP im))(el:il=(l:Int))(eh:ih=(h:Int))(em:im=(m:Int))(h1:l<=h)(h2:h<=m)(h3:m<=xs.length):
  Ry P N w0 env L ⟨d, .slice t x (some lo) (some hi) (some mx),ty,ps,af,gd⟩ ((s.top m).sub c l h).val:=fun a w ha hw=>by
 subst el eh em;have r:=q.h w hw;have hs:=r.ok;have hlen:=r.len;have hle:=hs.le;have ee:=zY ht.fc;have hu:P.underlying t=some (.slice (P.elem t)):=by rw[ee];exact ht.fc
 obtain⟨ad,len,cap,pf⟩:=s.ex;have e3:len=s.len/\cap=s.cap/\sliced ad l h m c=((s.top m).sub c l h).val:=by
  cases hn:s.nil with
  |true=>
   rw[Sv.sC hn]at pf;obtain⟨rfl,rfl,rfl⟩:=by simpa using pf
   have:=hs.nil hn;have e2:((s.top m).sub c l h).nil=true:=hn;rw[Sv.sC e2];have:l=0:=by omega
   have:h=0:=by omega
   have:m=0:=by omega
   subst l h m;exact⟨by omega,by omega,by simp[sliced]⟩
  |false=>
   rw[Sv.iA hn]at pf;obtain⟨rfl,rfl,rfl⟩:=by simpa using pf
   have e2:((s.top m).sub c l h).nil=false:=hn;rw[Sv.iA e2];refine⟨rfl,rfl,?_⟩;simp only[sliced,Sv.sub,Sv.top]
   by_cases hc:m=l
   ·
    simp[hc]
   ·
    have ft:=hs.sp (by omega);simp[hc,ft,Addr.gT]
 obtain⟨e1,e2,e3⟩:=e3;have hr:=run_slice_lhm (P:=P) (w:=w) t ad len cap hu k k' QP (l:Int) (h:Int) (m:Int) (by omega) (by omega) (by omega) (by omega);rw[ee,lN w ht.size]at hr;simp only[Result.andThen,auy,e3]at hr;simp only[execOp,ha.ev hx,ha.ev hl,ha.ev hh,ha.ev hm,pf,at3,run_sliceAt_slice (h:=hu),hr,Sem.run_bind,Result.andThen,Sem.run_pure]
theorem ab2{t e:TypeId}{x:Operand}{m n:Nat}[ht:fA P t e m](hx:ev env x=some s.val)(pz:s.nil=false)(hn:s.cap=n):
  Ry P N w0 env L ⟨d, .call {callee:= .builtin .cap,args:= #[x],argTypes:= #[t]},ty,ps,af,gd⟩ (.int .i64 n):=fun a w ha _=>by
 subst hn;rw[Sv.iA pz]at hx;have hu:P.underlying t=some (.slice (P.elem t)):=by rw[zY ht.fc];exact ht.fc
 have:=run_cap_slice (P:=P) (w:=w) t ty (some ⟨s.b,s.o,s.sp⟩) s.len s.cap hu;simp[execOp,ha.ev hx,resolve,invoke,builtin,this,Result.andThen,goInt]
class QQ(P:Program)(f:FuncId)(tS tR:outParam TypeId):Prop where
 fn: ∃fn,P.funcs[f]? =some fn∧(fn.name== "runtime.NumGoroutine")=false∧fn.body.isNone=true∧Extern.findNext fn=none∧Extern.find fn=some (Extern.SlicesOverlaps.overlaps #[tS,tS] #[tR])
theorem Mem.apart{w:World}{i j k:Nat}{e e':ai}(h:Mem w0 L w)(hi:L[i]? =some e)(hj:L[j]? =some e')(o8:i≠j)(hk:e.fp k): ¬e'.fp k:=by
 obtain⟨gi,rfl⟩:=zz.1 hi;obtain⟨gj,rfl⟩:=zz.1 hj;have hd:=auZ.1 h.qa;rcases Nat.lt_or_gt_of_ne o8 with h1|h1
 ·
  exact hd i j gi gj h1 k hk
 exact fun h2=>hd j i gj gi h1 k h2 hk
theorem ab3{V D:Sv}{x y:Operand}{f:FuncId}{ts:Array TypeId}{tS tR e T:TypeId}{i j b:Nat}{cs:Array Value}(hx:ev env x=some V.val)(hy:ev env y=some D.val)[hf:QQ P f tS tR][ht:fA P tS e c](hc:1<c)[q:fX L V enc c xs i](hv:0<xs.length)[hh:Has L b cs T j](nO:D.nil=false)(pA:D.sp=none)(qZ:D.b=b)(gU:0<cs.size)(o8:i≠j:=by decide):
  Ry P N w0 env L ⟨d, .call {callee:= .value (.func f),args:= #[x,y],argTypes:=ts},ty,ps,af,gd⟩ (.bool false):=fun a w ha hw=>by
 obtain⟨r,pj⟩:=hw.get q.h;have Kn:=r.some hv;obtain⟨hVs,cv,Tv,fz,fe,eI,nH,mZ⟩:=pj Kn;obtain rfl:=mZ hc;have hb:=hw.block hh.h;have cd:V.b≠b:=fun e0=>hw.apart q.h hh.h o8 (k:=V.b) ⟨Kn,rfl⟩ e0;subst qZ;rw[Sv.iA Kn,hVs]at hx;rw[Sv.iA nO,pA]at hy;obtain⟨fn,h1,h2,h3,h4,h5⟩:=hf.fn;have gK:=Lib.run_overlaps_apart (P:=P) w tS tR e ht.fc c (fun w=>lN w ht.size) ⟨V.b,V.o,none⟩ ⟨D.b,D.o,none⟩ V.len V.cap D.len D.cap cd Tv T cv.size cs.size (by simp[World.shape?,fe]) (by simp[World.shape?,hb]) (by omega) (by simp[World.frozen?,fe]) (by simp[World.frozen?,fe]);have QR:=run_callFunc_extern (P:=P) h1 h2 h3 h4 h5 #[.slice (some ⟨V.b,V.o,none⟩) V.len V.cap, .slice (some ⟨D.b,D.o,none⟩) D.len D.cap] w;rw[gK]at QR;have e1:a.eval (.func f)= .func (.func f) #[] #[]:=rfl;simp[execOp,ha.ev hx,ha.ev hy,resolve,e1,Deferred.ofValue,invoke,QR,Result.andThen]
end
end Go.ax
namespace Go.Kb
def ab4:Nat:=3988292384
def Ko(n:Nat):Nat:=(n/2)^^^(if n%2=1 then ab4 else 0)
theorem ab5{n:Nat}(h:n<2^32):Ko n<2^32:=by
 refine awe (by omega) ?_;split
 ·
  decide
 decide
def pB(n:Nat):Nat->Nat
 |0=>n
 |k+1=>Ko (pB n k)
theorem Kq{n:Nat}(h:n<2^32): ∀k,pB n k<2^32
 |0=>h
 |k+1=>ab5 (Kq h k)
def Kr(n:Nat)(b:UInt8):Nat:=pB (n^^^b.toNat) 8
theorem ab6{n:Nat}{b:UInt8}(h:n<2^32):Kr n b<2^32:=Kq (awe h (by have:=b.toNat_lt;omega)) 8
def lg(n:Nat)(l:List UInt8):Nat:=l.foldl Kr n
theorem F8{n:Nat}(h:n<2^32): ∀l,lg n l<2^32
 |[]=>h
 |b::l=>F8 (ab6 h) l
theorem ab7{n:Nat}{l:List UInt8}{i:Nat}{b:UInt8}(h:l[i]? =some b):lg n (l.take (i+1))=Kr (lg n (l.take i)) b:=by
 rw[atr,h,lg,lg,avf];rfl
def oB(l:List UInt8):Nat:=4294967295 -lg 4294967295 l
theorem Ks(l:List UInt8):oB l<2^32:=by unfold oB;omega
end Go.Kb
namespace Go.ax
open Go.RowKit
section
variable {α:Type} {enc:α->Array Value} {c:Nat} {s:Sv} {xs:List α}
theorem Mem.QS{w0 w:World}{L:List ai}{i k:Nat}(hw:Mem w0 L w)(hi:L[i]? =some (own enc c s xs))(hk:k<=xs.length):Mem w0 (L.set i (own enc c (s.sub c 0 k) (xs.take k))) w:=by
 obtain⟨r,pj⟩:=hw.get hi;have r2:=r.sub (lo:=0) (hi:=k) (atL _) hk;rw[auI,Nat.sub_zero]at r2;refine hw.change hi (fun k hk=>hk) (fun _ _=>rfl) rfl ⟨rfl,rfl,rfl⟩ ⟨r2,fun hn=>?_⟩;obtain⟨h1,cs,T,fz,h2,h3,h4,h5⟩:=pj hn;refine⟨h1,cs,T,fz,h2,?_,h4,h5⟩;rw[Sv.CQ];exact h3
end
section
variable {P:Program} {N:cC} {w0:World} {env:Env} {L:List ai} {Q:Exit->Act->World->Prop} {l rest:List Oper} {d:Option Tmp} {ty:TypeId} {ps:String} {af:Array Edge} {gd:Option (Nat×Bool)}
variable {α:Type} {enc:α->Array Value} {c:Nat} {xs:List α}
theorem QT{x y:Operand}{tx gM e:TypeId}{cw k:Nat}{z:Value}{kn kq:IntKind}{iy:Int}(x0:α)(hx:ev env x=some (.slice none 0 0))(hy:ev env y=some (.int kq iy))(oA:iy=(k:Int))(h0:0<k)
  [ht:eK P tx e c cw] [he:bp enc c] (hc:0<c) [hz:eP P e z] (QU:enc x0=z.cells) (Kl:P.underlying gM=some (.int kn)) (hb:k*cw<=140737488355328) (ib:k<=140737488355328)
  (hk: ∀b C:Nat,k<=C->Sq P N w0 l Q rest (cy env d (Sv.val ⟨false,b,0,k,C,none⟩)) (own enc c ⟨false,b,0,k,C,none⟩ (List.replicate k x0)::L)) (hd:dx N d=true:=by rfl):
  Sq P N w0 l Q (⟨d, .call {callee:= .builtin .append,args:= #[x,y],argTypes:= #[tx,gM]},ty,ps,af,none⟩::rest) env L:=
 nD rfl hd fun aa w ha hw=>by
  subst oA;obtain⟨i',z',bl,aL,bC,dq,od⟩:=ht.info;obtain rfl:z'=z:=by
   have:=hz.zero;rw[bl,at3,aL]at this;exact atl (atl this)
  subst bC dq;have gK:=Lib.run_append_nil_zeros (P:=P) w tx gM ty e i' z' kq kn ht.fc Kl bl aL k h0 hc (by omega) (by omega);have tV:=grownCap_ge w k 0 e;generalize grownCap w k 0 e=C at gK tV;have CT:=size_zeroCells z'.cells k;have F7:=size_zeroCells z'.cells (C -k);have ab8: ∀m i j,i<m->j<i'.size->(Builtin.zeroCells z'.cells m)[i*i'.size+j]? =z'.cells[j]? :=fun m i j hi hj=>by
   have bn:i*i'.size+j<m*z'.cells.size:=by
    rw[od];have:(i+1)*i'.size<=m*i'.size:=atG _ hi;rw[atU]at this;omega
   have e1:(i*i'.size+j)%z'.cells.size=j:=by rw[od,auP,Nat.mul_add_mod];exact at5 hj
   have hz3:j<z'.cells.size:=by omega
   simp[Builtin.zeroCells,bn,e1,hz3]
  refine⟨_,_,_,?_,hw.drew.call (wT (enc:=enc) (c:=i'.size) (xs:=List.replicate k x0) (cs:=Builtin.zeroCells z'.cells k++Builtin.zeroCells z'.cells (C -k)) (e:=e) rfl k C (by simp) tV ib ?_ fun i x hx j hj=>?_),hk _ C tV⟩
  ·
   simp[execOp,ha.ev hx,ha.ev hy,resolve,invoke,builtin,gK,Result.andThen,Sv.val]
  ·
   rw[aud,CT,F7,od,←atU];exact atG _ (by omega)
  ·
   have hi:i<k:=by
    have:=(zz.1 hx).1;simpa using this
   obtain rfl:x0=x:=by rw[avN,if_pos hi]at hx;exact atl hx
   rw[QU,←ab8 k i j hi hj,auk];rw[CT,od];have:(i+1)*i'.size<=k*i'.size:=atG _ hi;rw[atU]at this;omega
theorem F9{t e:TypeId}{x:Operand}{m:Nat}[ht:fA P t e m](hx:ev env x=some (.slice none 0 0)):
  Ry P N w0 env L ⟨d, .call {callee:= .builtin .cap,args:= #[x],argTypes:= #[t]},ty,ps,af,gd⟩ (.int .i64 (0:Nat)):=fun a w ha _=>by
 have hu:P.underlying t=some (.slice (P.elem t)):=by rw[zY ht.fc];exact ht.fc
 have:=run_cap_slice (P:=P) (w:=w) t ty none 0 0 hu;simp[execOp,ha.ev hx,resolve,invoke,builtin,this,Result.andThen,goInt]
class ng(w0:World)(L:List ai){τ:Type}[Deep τ](xs:List τ):Prop where
 h: ∀w,Mem w0 L w-> ∀x∈xs,Deep.cK (hp w) x
instance ng.nil{τ:Type}[Deep τ]:ng w0 L ([]:List τ):=⟨fun _ _ _ h=>by cases h⟩
instance ng.cons{τ:Type}[Deep τ]{x:τ}{xs:List τ}[a:aX w0 L x][b:ng w0 L xs]:ng w0 L (x::xs):=⟨fun w hw y hy=>by
 rcases atv.1 hy with rfl|hy
 ·
  exact a.h w hw
 exact b.h w hw y hy⟩
instance (priority:=low) aX.flat {τ:Type}[Deep τ][Plain τ]{enc:τ->Array Value}{c:Nat}[gD τ enc c]{s:Sv}{xs:List τ}[q:dy w0 L enc c s xs]:aX w0 L (⟨s,xs⟩:Sl τ):=⟨fun w hw=>by
 have hl:=q.h w hw;have e1:Deep.cells (τ:=τ)=enc:=funext (gD.h (c:=c));have e2:Deep.c τ=c:=gD.hc (enc:=enc);refine⟨?_,fun x _=>Deep.jA _ x (by rw[Plain.h x];exact trivial)⟩;subst e1 e2;exact hl⟩
instance (priority:=low) aX.rows {τ:Type}[Deep τ]{enc:τ->Array Value}{c:Nat}[gD τ enc c]{s:Sv}{xs:List τ}[q:dy w0 L enc c s xs][g:ng w0 L xs]:aX w0 L (⟨s,xs⟩:Sl τ):=⟨fun w hw=>by
 have hl:=q.h w hw;have e1:Deep.cells (τ:=τ)=enc:=funext (gD.h (c:=c));have e2:Deep.c τ=c:=gD.hc (enc:=enc);refine⟨?_,g.h w hw⟩;subst e1 e2;exact hl⟩
theorem ab9{τ:Type}[Deep τ]{s:Sv}{xs:List τ}[g:aX w0 L (⟨s,xs⟩:Sl τ)](h: ∀a:Sl τ,a=⟨s,xs⟩->aX w0 L a->Sq P N w0 l Q rest (cy env d a.sv.val) L):Sq P N w0 l Q rest (cy env d s.val) L:=h _ rfl g
def lh(l:List (Sl UInt8)):List UInt8:=(l.map Sl.xs).flatten
theorem Ga{l:List (Sl UInt8)}{i:Nat}{x:Sl UInt8}(h:l[i]? =some x):lh (l.take (i+1))=lh (l.take i)++x.xs:=by
 rw[lh,atr,h];simp[lh]
theorem aca(l:List (Sl UInt8))(i:Nat):(lh (l.take i)).length<=(lh l).length:=by
 have e:lh l=lh (l.take i)++lh (l.drop i):=by
  unfold lh;rw[←List.flatten_append,←atS,auc]
 rw[e,adr];omega
end
def acb(l:List UInt8):List UInt8:=l++be (Kb.oB l) 4
theorem acd(l:List UInt8): ∀n,l.foldl (fun a b=>a*256+b.toNat) n=n*256^l.length+de l:=by
 induction l with
 |nil=>intro n;simp[de]
 |cons x l ih=>
  intro n;rw[auQ,ih,show de (x::l)=l.foldl (fun a b=>a*256+b.toNat) (0*256+x.toNat)from rfl,ih,af0,Nat.pow_succ];simp only[Nat.zero_mul,auf,atU];rw[Nat.mul_assoc n,auP 256,auW]
theorem ace(x:UInt8)(l:List UInt8):de (x::l)=x.toNat*256^l.length+de l:=by
 rw[show de (x::l)=l.foldl (fun a b=>a*256+b.toNat) (0*256+x.toNat)from rfl,acd];simp
theorem QV(l:List UInt8):de l<256^l.length:=by
 have:=Jd l l.length (att _);rwa [atP]at this
theorem acf(m n:Nat): ∀k,be (m*256^k+n) k=be n k
 |0=>rfl
 |k+1=>by
  have e:m*256^(k+1)+n=(m*256)*256^k+n:=by rw[Nat.pow_succ,Nat.mul_assoc,auP 256]
  rw[be,be,e,acf (m*256) n k,avT,Nat.add_mul_div_right _ _ (Nat.pow_pos (by decide))];congr 1;apply avC.1;rw[sG,sG];omega
theorem Gd(n:Nat): ∀k,de (be n k)=n%256^k
 |0=>by simp[be,de,Nat.mod_one]
 |k+1=>by
  rw[be,ace,jL,Gd n k,sG,Nat.pow_succ,Nat.mod_mul,auP,avT]
section
variable {w0:World} {L:List ai} {α:Type} {enc:α->Array Value} {c:Nat} {xs ys:List α} {s t:Sv} {g:Bool}
end
section
variable {P:Program} {N:cC} {w0:World} {env:Env} {L:List ai} {l:List Oper} {Q:Exit->Act->World->Prop} {rest:List Oper} {d:Option Tmp} {ty:TypeId} {ps:String} {af:Array Edge}
end
section
variable {w0:World} {L:List ai} {τ:Type} [Deep τ]
instance (priority:=low) ng.of {a:Sl τ}[q:aX w0 L a]:ng w0 L a.xs:=⟨fun w hw=>(q.h w hw).2⟩
instance ng.append{xs ys:List τ}[a:ng w0 L xs][b:ng w0 L ys]:ng w0 L (xs++ys):=⟨fun w hw x hx=>by
 rcases atu.1 hx with h|h
 ·
  exact a.h w hw x h
 exact b.h w hw x h⟩
end
section
variable {w0:World} {L:List ai} {τ:Type} [Deep τ]
instance ng.take{xs:List τ}{n:Nat}[q:ng w0 L xs]:ng w0 L (xs.take n):=⟨fun w hw x hx=>q.h w hw x (avk hx)⟩
instance ng.drop{xs:List τ}{n:Nat}[q:ng w0 L xs]:ng w0 L (xs.drop n):=⟨fun w hw x hx=>q.h w hw x (av5 hx)⟩
class acg(a:Sl τ)(s:outParam Sv)(xs:outParam (List τ)):Prop where
 h:a=⟨s,xs⟩
instance (priority:=low) aX.named {a:Sl τ}{s:Sv}{xs:List τ}[n:acg a s xs][q:aX w0 L (⟨s,xs⟩:Sl τ)]:aX w0 L a:=⟨by rw[n.h];exact q.h⟩
end
class gv(τ:Type)[d:Deep τ] where
 reach:τ->Nat->Prop
 congr: ∀(h h':Nat->Option Obj) (x:τ),(∀k,reach x k->h' k=h k)->d.cK h x->d.cK h' x
theorem eJ.congr{α:Type}{enc:α->Array Value}{c:Nat}{h h':Nat->Option Obj}{s:Sv}{xs:List α}(e:xs≠[]->h' s.b=h s.b)(r:eJ enc c h s xs):eJ enc c h' s xs:=
 ⟨r.ok,r.len,fun i x hi j hj=>by
  have cd:xs≠[]:=fun he=>by rw[he]at hi;simp at hi
  rw[←r.row i x hi j hj];unfold nG;rw[e cd]⟩
@[reducible] def gv.flat {τ:Type}[d:Deep τ](hg: ∀h x,d.cK h x):gv τ:=⟨fun _ _=>False,fun _ h' x _ _=>hg h' x⟩
instance gv.slice{τ:Type}[d:Deep τ][r:gv τ]:gv (Sl τ) where
 reach a k:=(a.xs≠[]/\k=a.sv.b)\/ ∃x∈a.xs,r.reach x k
 congr h h' a e g:=⟨g.1.congr fun cd=>e _ (.inl ⟨cd,rfl⟩),fun x hx=>r.congr h h' x (fun k hk=>e k (.inr ⟨x,hx,hk⟩)) (g.2 x hx)⟩
instance:gv UInt8:=gv.flat fun _ _=>trivial
def fz{τ:Type}[d:Deep τ][r:gv τ](x:τ):ai:=⟨r.reach x,fun h=>d.cK h x,fun h h' e s=>r.congr h h' x e s⟩
section
variable {w0:World} {L:List ai} {τ:Type} [d:Deep τ] [r:gv τ]
instance (priority:=high) aX.frozen {a:τ}{i:Nat}[q:At L (fz a) i]:aX w0 L a:=⟨fun _ hw=>hw.get q.h⟩
theorem Mem.freeze{w:World}{es:List ai}(x:τ)(hg:d.cK (hp w) x)(hr: ∀k,r.reach x k-> ∃e∈es,e.fp k)(h:Mem w0 (es++L) w):Mem w0 (fz x::L) w:=by
 have hd:=avz.1 h.qa;refine⟨h.below,fun e he=>?_,fun e he k hk=>?_,aui.2 ⟨fun y hy k hk kB=>?_,hd.2.1⟩⟩
 ·
  rcases atv.1 he with rfl|he
  ·
   exact hg
  exact h.sat e (atu.2 (.inr he))
 ·
  rcases atv.1 he with rfl|he
  ·
   obtain⟨e',sF,kB⟩:=hr k hk;exact h.j8 e' (atu.2 (.inl sF)) k kB
  exact h.j8 e (atu.2 (.inr he)) k hk
 obtain⟨e',sF,oh⟩:=hr k hk;exact hd.2.2 e' sF y hy k oh kB
theorem Mem.ach{w:World}{e:ai}(x:τ)(hg:d.cK (hp w) x)(hr: ∀k,r.reach x k->e.fp k)(h:Mem w0 (e::L) w):Mem w0 (fz x::L) w:=
 Mem.freeze (es:=[e]) x hg (fun k hk=>⟨e,by simp,hr k hk⟩) h
end
open Go.Kb
section
variable {w0:World} {L:List ai} {τ:Type} [Deep τ] {xs:List τ} {es:List ai}
theorem Mem.yT{w:World}(h:Mem w0 L w):Mem w0 (ai.all []::L) w:=Mem.Cj.2 h
theorem Mem.aci{w:World}{e:ai}(h:Mem w0 (e::ai.all es::L) w):Mem w0 (ai.all (e::es)::L) w:=Mem.yB.2 h
theorem Mem.QW{w:World}{s:Sv}{enc:τ->Array Value}{c:Nat}[f:gD τ enc c][Plain τ](h:Mem w0 (own enc c s xs::L) w):Mem w0 (Deep.cz (⟨s,xs⟩:Sl τ)::L) w:=Tr.Jh.mem h
end
end Go.ax
namespace Go.Kb
open Go.ax
theorem uu(k:IntKind)(n:Int):(Value.int k n).oneCell'=true:=rfl
theorem uv(b:Bool):(Value.bool b).oneCell'=true:=rfl
instance:gv Int:=gv.flat fun _ _=>trivial
structure Ft where
 op:Int
 fail:Bool
 cut:Bool
 mask:UInt8
 deriving DecidableEq
def dA(x:Ft):Array Value:= #[.int .i64 x.op, .bool x.fail, .bool x.cut, .int .u8 x.mask.toNat]
instance:bp dA 4:=⟨fun _=>rfl,fun x=>by
 simp only[dA,avc,avl,avw,Sv.one,uu,uv,au4]⟩
instance (x:Ft):gn (dA x) 4:=⟨rfl,bp.one x⟩
instance (x:Ft):bQ (dA x) 0 (.int .i64 x.op):=⟨rfl⟩
instance (x:Ft):bQ (dA x) 1 (.bool x.fail):=⟨rfl⟩
instance (x:Ft):bQ (dA x) 2 (.bool x.cut):=⟨rfl⟩
instance (x:Ft):bQ (dA x) 3 (.int .u8 x.mask.toNat):=⟨rfl⟩
instance:Deep Ft:=Deep.flat dA 4
instance:Plain Ft:=⟨fun _=>rfl⟩
instance:gv Ft:=gv.flat fun _ _=>trivial
instance:gD Ft dA 4:=⟨rfl,fun _=>rfl⟩
def AB:Ft:=⟨0,false,false,0⟩
structure Bk where
 pages:Sl (Sl UInt8)
 used:Int
 aU:Int
 bad:Bool
def cl(x:Bk):Array Value:= #[x.pages.sv.val, .int .i64 x.used, .int .i64 x.aU, .bool x.bad]
instance:bp cl 4:=⟨fun _=>rfl,fun x=>by
 simp only[cl,avc,avl,avw,Sv.one,uu,uv,au4]⟩
instance (x:Bk):gn (cl x) 4:=⟨rfl,bp.one x⟩
instance (x:Bk):bQ (cl x) 0 (x.pages.sv.val):=⟨rfl⟩
instance (x:Bk):bQ (cl x) 1 (.int .i64 x.used):=⟨rfl⟩
instance (x:Bk):bQ (cl x) 2 (.int .i64 x.aU):=⟨rfl⟩
instance (x:Bk):bQ (cl x) 3 (.bool x.bad):=⟨rfl⟩
instance:Deep Bk where
 c:=4
 cells:=cl
 size:=bp.size
 one:=bp.one
 cK h x:=Deep.cK h x.pages
 cz x:=Deep.cz x.pages
 jA h x hs:=Deep.jA h x.pages hs
 mono w w' x hg hb:=Deep.mono w w' x.pages hg hb
instance:gv Bk where
 reach x k:=gv.reach x.pages k
 congr h h' x e hg:=gv.congr h h' x.pages (fun k hk=>e k (hk)) hg
variable {w0:World}{L:List ai}
instance{x:Bk}[q:aX w0 L x]:aX w0 L x.pages:=⟨fun w hw=>(q.h w hw)⟩
instance:gD Bk cl 4:=⟨rfl,fun _=>rfl⟩
def q8:Bk:=⟨⟨Sv.none,[]⟩,0,0,false⟩
structure Cp where
 pages:Int
 size:Int
 blocks:Sl Bk
 ops:Int
 off:Bool
 aD:Sl Ft
def aV(x:Cp):Array Value:= #[.int .i64 x.pages, .int .i64 x.size,x.blocks.sv.val, .int .i64 x.ops, .bool x.off,x.aD.sv.val]
instance:bp aV 6:=⟨fun _=>rfl,fun x=>by
 simp only[aV,avc,avl,avw,Sv.one,uu,uv,au4]⟩
instance (x:Cp):gn (aV x) 6:=⟨rfl,bp.one x⟩
instance (x:Cp):bQ (aV x) 0 (.int .i64 x.pages):=⟨rfl⟩
instance (x:Cp):bQ (aV x) 1 (.int .i64 x.size):=⟨rfl⟩
instance (x:Cp):bQ (aV x) 2 (x.blocks.sv.val):=⟨rfl⟩
instance (x:Cp):bQ (aV x) 3 (.int .i64 x.ops):=⟨rfl⟩
instance (x:Cp):bQ (aV x) 4 (.bool x.off):=⟨rfl⟩
instance (x:Cp):bQ (aV x) 5 (x.aD.sv.val):=⟨rfl⟩
instance:Deep Cp where
 c:=6
 cells:=aV
 size:=bp.size
 one:=bp.one
 cK h x:=Deep.cK h x.blocks/\Deep.cK h x.aD
 cz x:= .two (Deep.cz x.blocks) (Deep.cz x.aD)
 jA h x hs:=⟨Deep.jA h x.blocks hs.1,Deep.jA h x.aD hs.2.1⟩
 mono w w' x hg hb:=⟨Deep.mono w w' x.blocks hg.1 hb,Deep.mono w w' x.aD hg.2 hb⟩
instance:gv Cp where
 reach x k:=gv.reach x.blocks k\/gv.reach x.aD k
 congr h h' x e hg:=⟨gv.congr h h' x.blocks (fun k hk=>e k (.inl hk)) hg.1,gv.congr h h' x.aD (fun k hk=>e k (.inr hk)) hg.2⟩
instance{x:Cp}[q:aX w0 L x]:aX w0 L x.blocks:=⟨fun w hw=>(q.h w hw).1⟩
instance{x:Cp}[q:aX w0 L x]:aX w0 L x.aD:=⟨fun w hw=>(q.h w hw).2⟩
instance{pages:Int}{size:Int}{blocks:Sl Bk}{ops:Int}{off:Bool}{aD:Sl Ft}[q0:aX w0 L blocks][q1:aX w0 L aD]:aX w0 L (Cp.mk pages size blocks ops off aD):=⟨fun w hw=>⟨q0.h w hw,q1.h w hw⟩⟩
def gY:Cp:=⟨0,0,⟨Sv.none,[]⟩,0,false,⟨Sv.none,[]⟩⟩
end Go.Kb
namespace Go.ax
theorem eJ.cut{α:Type}{enc:α->Array Value}{c:Nat}{h:Nat->Option Obj}{s:Sv}{xs:List α}(r:eJ enc c h s xs){lo hi:Nat}(h1:lo<=hi)(h2:hi<=xs.length):eJ enc c h ⟨s.nil,s.b,if hi=lo then s.o else s.o+lo*c,hi -lo,hi -lo,s.sp⟩ ((xs.drop lo).take (hi -lo)):=by
  have hl:=r.len;have hle:=r.ok.le;have kg:=r.ok.bd;refine⟨⟨fun hn=>?_,att _,?_,fun hc=>?_⟩,?_,fun i x qb j hj=>?_⟩
  ·have:=r.ok.nil hn
   simp only at this⊢;omega
  ·simp only;omega
  ·simp only at hc⊢;exact r.ok.sp (by omega)
  ·simp;omega
  ·have fg:=(zz.1 qb).1
   rw[atq,atD]at fg;have hx:xs[lo+i]? =Option.some x:=by rw[avj,if_pos (by omega),auC]at qb;exact qb
   have:=r.row (lo+i) x hx j hj;simp only;rw[if_neg (by omega),show s.o+lo*c+i*c+j=s.o+(lo+i)*c+j by rw[atU];omega];exact this
end Go.ax
namespace Go.Kb
open Go.ax
structure BV where
  pages:List (List UInt8)
  used:Int
  aU:Int
  bad:Bool
  deriving DecidableEq
structure CV where
  pages:Int
  size:Int
  blocks:List BV
  ops:Int
  off:Bool
  aD:List Ft
  deriving DecidableEq
def aP(l:List (Sl UInt8)):List (List UInt8):=l.map fun x=>x.xs
theorem pC(l:List (Sl UInt8)):(aP l).length=l.length:=by simp[aP]
theorem q9{l:List (Sl UInt8)}{i:Nat}{x:Sl UInt8}(h:l[i]? =some x):(aP l)[i]? =some x.xs:=by simp[aP,h]
def bv(b:Bk):BV:=⟨aP b.pages.xs,b.used,b.aU,b.bad⟩
def jk(l:List Bk):List BV:=l.map bv
theorem ie(l:List Bk):(jk l).length=l.length:=by simp[jk]
theorem nP{l:List Bk}{i:Nat}{x:Bk}(h:l[i]? =some x):(jk l)[i]? =some (bv x):=by simp[jk,h]
def cv(c:Cp):CV:=⟨c.pages,c.size,jk c.blocks.xs,c.ops,c.off,c.aD.xs⟩
def win(rm:Sv)(lo hi:Nat):Sv:=⟨rm.nil,rm.b,if hi=lo then rm.o else rm.o+lo,hi -lo,hi -lo,rm.sp⟩
def dG(rm:Sv):Nat->List (List UInt8)->List (Sl UInt8)
  |_,[]=>[]
  |o,p::r=>⟨win rm o (o+p.length),p⟩::dG rm (o+p.length) r
theorem xn(rm:Sv): ∀(o:Nat) (l:List (List UInt8)),aP (dG rm o l)=l
  |_,[]=>rfl
  |o,p::r=>by
   have:=xn rm (o+p.length) r;simp only[aP,dG,atI]at this⊢;rw[this]
theorem Kt(rm:Sv): ∀(o:Nat) (l:List (List UInt8)),(dG rm o l).length=l.length
  |_,[]=>rfl
  |o,p::r=>by rw[dG,af0,af0,Kt]
theorem Gj(rm:Sv): ∀(o:Nat) (l:List (List UInt8)) (x:Sl UInt8),x∈dG rm o l->x.sv.b=rm.b
  |_,[],_,h=>by cases h
  |o,p::r,x,h=>by
   rcases atv.1 h with rfl|h
   ·rfl
   ·exact Gj rm _ r x h
theorem QX(rm:Sv): ∀(o:Nat) (l:List (List UInt8)) (p:List UInt8),dG rm o (l++[p])=dG rm o l++[⟨win rm (o+l.flatten.length) (o+l.flatten.length+p.length),p⟩]
  |o,[],p=>by simp[dG]
  |o,q::r,p=>by
   rw[auL,dG,QX,dG];simp only[auM,adr,auL,auW]
theorem QY{rm:Sv}{h:Nat->Option Obj}{all:List UInt8}(hl:eJ aO 1 h rm all): ∀(o:Nat) (l:List (List UInt8)),o+l.flatten.length<=all.length->(all.drop o).take l.flatten.length=l.flatten-> ∀x∈dG rm o l,eJ aO 1 h x.sv x.xs
  |_,[],_,_,_,hx=>by cases hx
  |o,p::r,hb,he,x,hx=>by
   rw[auM,adr]at hb;rw[auM,adr]at he
   have e1:(all.drop o).take p.length=p:=by
      have:=congrArg (List.take p.length) he;rw[List.take_take,avX (by omega),List.take_left']at this
      ·exact this
      ·rfl
   have e2:(all.drop (o+p.length)).take r.flatten.length=r.flatten:=by
      have:=congrArg (List.drop p.length) he;rw[List.drop_take,avp,List.drop_left' rfl,show p.length+r.flatten.length -p.length=r.flatten.length by omega]at this;exact this
   rcases atv.1 hx with rfl|hx
   ·have:=hl.cut (lo:=o) (hi:=o+p.length) (by omega) (by omega)
    rw[avy,show o+p.length -o=p.length by omega,e1]at this;simpa[win]using this
   ·exact QY hl (o+p.length) r (by omega) e2 x hx
def AD(a:Sl (Sl UInt8)):ai:=⟨fun k=> ∃x∈a.xs,k=x.sv.b,fun h=>a.xs=[]\/ ∃rm,rm.nil=false/\a.xs=dG rm 0 (aP a.xs)/\(own aO 1 rm (aP a.xs).flatten).sat h,fun h h' e s=>by
  rcases s with s|⟨rm,h1,h2,h3⟩
  ·exact .inl s
  ·rcases List.eq_nil_or_concat a.xs with hx|⟨l,x,hx⟩
   ·exact .inl hx
   ·have hm:x∈a.xs:=by rw[hx];simp
    have hb:x.sv.b=rm.b:=Gj rm 0 _ x (h2▸hm);exact .inr ⟨rm,h1,h2,(own aO 1 rm (aP a.xs).flatten).loc h h' (fun k hk=>e k ⟨x,hm,by rw[hb];exact hk.2⟩) h3⟩⟩
def fC(a:Sl (Sl UInt8)):ai:= .two (own (cq (τ:=UInt8)) 1 a.sv a.xs) (AD a)
theorem acj{a:Sl (Sl UInt8)}{h:Nat->Option Obj}(s:(AD a).sat h): ∀x∈a.xs,eJ aO 1 h x.sv x.xs:=fun x hx=>by
  rcases s with s|⟨rm,h1,h2,h3⟩
  ·rw[s]at hx;cases hx
  ·refine QY h3.1 0 (aP a.xs) (by omega) (by rw[auI,atP]) x (h2▸hx)
theorem CU{α:Type}{enc:α->Array Value}{c:Nat}{s:Sv}{xs:List α}{h:Nat->Option Obj}(hl:eJ enc c h s xs)(hx:xs≠[]):(own enc c s xs).fp s.b:=
  ⟨hl.ok.some (by have:=hl.len;have:=auV.2 hx;omega),rfl⟩
theorem ai.Gl{k:Nat}: ∀{es:List ai} {e:ai},e∈es->e.fp k->(ai.all es).fp k
  |_::_,_,he,hk=>(atv.1 he).elim (fun h=> .inl (h▸hk)) fun h=> .inr (ai.Gl h hk)
theorem QZ{α:Type}{e:α}: ∀{L:List α} {i:Nat},L[i]? =Option.some e->L.Perm (e::L.eraseIdx i)
  |[],i,h=>by simp at h
  |x::L,0,h=>by obtain rfl:x=e:=by simpa using h
                simp
  |x::L,i+1,h=>by
   have:=QZ (L:=L) (i:=i) (by simpa using h);rw[awc];exact(this.cons x).trans (.swap _ _ _)
theorem Mem.pick{τ:Type}{f:τ->ai}{w0 w:World}{L:List ai}{xs:List τ}{i:Nat}{x:τ}(hx:xs[i]? =some x):Mem w0 (ai.all (xs.map f)::L) w↔Mem w0 (f x::ai.all ((xs.eraseIdx i).map f)::L) w:=by
  have hp:(xs.map f).Perm (f x::(xs.eraseIdx i).map f):=by
    have:=QZ hx;simpa using this.map f
  rw[Mem.Ck];have e:Mem w0 (f x::ai.all ((xs.eraseIdx i).map f)::L) w↔Mem w0 (f x::((xs.eraseIdx i).map f++L)) w:=by
    have sw: ∀(a b:ai) (K:List ai),Mem w0 (a::b::K) w↔Mem w0 (b::a::K) w:=fun a b K=>⟨fun h=>h.perm (List.Perm.swap _ _ _),fun h=>h.perm (List.Perm.swap _ _ _)⟩;rw[sw,Mem.Ck];exact⟨fun h=>h.perm avv,fun h=>h.perm avv.symm⟩
  rw[e];exact⟨fun h=>h.perm (hp.append_right L),fun h=>h.perm (hp.append_right L).symm⟩
theorem ack{w0 w:World}{L:List ai}{a:Sl Bk}(h:Mem w0 (own cl 4 a.sv a.xs::ai.all (a.xs.map fun b:Bk=>fC b.pages)::L) w):Mem w0 (fz a::L) w:=by
  have hs:=h.sat (own cl 4 a.sv a.xs) (by simp);have ha:=h.sat (ai.all (a.xs.map fun b:Bk=>fC b.pages)) (by simp);have hb: ∀x∈a.xs,(fC x.pages).sat fun k=>w.heap[k]? :=fun x hx=>ai.Ab ha _ (atK hx);refine Mem.freeze (es:=[own cl 4 a.sv a.xs,ai.all (a.xs.map fun b:Bk=>fC b.pages)]) a ⟨hs.1,fun x hx=>⟨(hb x hx).1.1,fun y hy=>⟨acj (hb x hx).2.1 y hy,fun _ _=>trivial⟩⟩⟩ (fun k hk=>?_) h;rcases hk with⟨cd,rfl⟩|⟨x,hx,hk⟩
  ·exact⟨_,by simp,CU hs.1 cd⟩
  ·refine⟨ai.all (a.xs.map fun b:Bk=>fC b.pages),by simp,ai.Gl (atK hx) ?_⟩
   rcases hk with⟨cd,rfl⟩|⟨y,hy,⟨_,rfl⟩|⟨_,_,hf⟩⟩
   ·exact .inl (CU (hb x hx).1.1 cd)
   ·exact .inr ⟨y,hy,rfl⟩
   ·exact hf.elim
theorem Gm{τ:Type}[Deep τ][r:gv τ][Plain τ]{enc:τ->Array Value}{c:Nat}[f:gD τ enc c](hr: ∀(x:τ) k,¬r.reach x k)(hg: ∀h (x:τ),Deep.cK h x){w0 w:World}{L:List ai}{a:Sl τ}(h:Mem w0 (own enc c a.sv a.xs::L) w):Mem w0 (fz a::L) w:=by
  have hs:=h.sat (own enc c a.sv a.xs) (by simp);have e1:Deep.cells (τ:=τ)=enc:=funext (gD.h (c:=c));have e2:Deep.c τ=c:=gD.hc (enc:=enc);refine Mem.ach a ⟨by rw[e1,e2];exact hs.1,fun x _=>hg _ x⟩ (fun k hk=>?_) h;rcases hk with⟨cd,rfl⟩|⟨x,_,hk⟩
  ·exact CU hs.1 cd
  ·exact(hr x k hk).elim
theorem Gn{w0 w:World}{L:List ai}{d:Cp}(h:Mem w0 (fz d.blocks::fz d.aD::L) w):Mem w0 (fz d::L) w:=by
  refine Mem.freeze (es:=[fz d.blocks,fz d.aD]) d ⟨h.sat (fz d.blocks) (by simp),h.sat (fz d.aD) (by simp)⟩ (fun k hk=>?_) h;rcases hk with hk|hk
  ·exact⟨fz d.blocks,by simp,hk⟩
  ·exact⟨fz d.aD,by simp,hk⟩
theorem Ku{w0 w:World}{L:List ai}{a:Sl Ft}(h:Mem w0 (own dA 4 a.sv a.xs::L) w):Mem w0 (fz a::L) w:=Gm (fun _ _ h=>h) (fun _ _=>trivial) h
theorem yU{w0 w:World}{L:List ai}{a:Sl Int}(h:Mem w0 (own cf 1 a.sv a.xs::L) w):Mem w0 (fz a::L) w:=Gm (fun _ _ h=>h) (fun _ _=>trivial) h
theorem Kv{w0 w:World}{L:List ai}{a:Sl UInt8}(h:Mem w0 (own aO 1 a.sv a.xs::L) w):Mem w0 (fz a::L) w:=Gm (fun _ _ h=>h) (fun _ _=>trivial) h
def cS:Int:=1099511627776
def vM(b p s:Int):Bool:=decide (1<=b)&&decide (b<=32)&&decide (1<=p)&&decide (p<=16)&&decide (1<=s)&&decide (s<=256)
theorem mF{b p s:Int}:vM b p s=true↔1<=b/\b<=32/\1<=p/\p<=16/\1<=s/\s<=256:=by
 simp only[vM,ad2,decide_eq_true_eq,and_assoc]
def Q0(s:Int)(x:List UInt8):Bool:=decide ((x.length:Int)=s)
def ra(p s:Int)(b:BV):Bool:=decide ((b.pages.length:Int)=p)&&decide (0<=b.used)&&decide (b.used<=p)&&decide (0<=b.aU)&&decide (b.aU<=cS)&&b.pages.all (Q0 s)
theorem fu{p s:Int}{b:BV}:ra p s b=true↔(b.pages.length:Int)=p/\0<=b.used/\b.used<=p/\0<=b.aU/\b.aU<=cS/\ ∀x∈b.pages,(x.length:Int)=s:=by
 simp only[ra,Q0,ad2,decide_eq_true_eq,and_assoc,aty]
def aW(c:CV):Bool:=vM c.blocks.length c.pages c.size&&decide (0<=c.ops)&&decide (c.ops<=cS)&&decide (c.aD.length<=64)&&c.blocks.all (ra c.pages c.size)
theorem eM{c:CV}:aW c=true↔vM c.blocks.length c.pages c.size=true/\0<=c.ops/\c.ops<=cS/\c.aD.length<=64/\ ∀b∈c.blocks,ra c.pages c.size b=true:=by
 simp only[aW,ad2,decide_eq_true_eq,and_assoc,aty]
def ig(c:CV)(block:Int):Bool:=aW c&&decide (0<=block)&&decide (block<c.blocks.length)
theorem ij{c:CV}{block:Int}:ig c block=true↔aW c=true/\0<=block/\block<c.blocks.length:=by
 simp only[ig,ad2,decide_eq_true_eq,and_assoc]
def zBV:BV:=⟨[],0,0,false⟩
def aj(c:CV)(block:Int):BV:=c.blocks.getD block.toNat zBV
def ik(n:Int):List UInt8:=List.replicate n.toNat 255
def fS(b p s:Int):CV×Int:=if vM b p s=true then(⟨p,s,List.replicate b.toNat ⟨List.replicate p.toNat (ik s),0,0,false⟩,0,false,[]⟩,0)else(⟨0,0,[],0,false,[]⟩,1)
def br(c:CV):Ft×Bool:=match c.aD.find? fun f=>decide (f.op=c.ops)with
 |some f=>(f,f.cut||f.fail)
 |none=>(AB,false)
def lW(f:Ft):Int:=if f.cut=true then 7 else 9
def oC(c:CV)(block pD:Int)(p:List UInt8):Bool:=ig c block&&decide (0<=pD)&&decide (pD<c.pages)&&decide ((p.length:Int)=c.size)&&decide (c.ops<cS)
theorem jQ{c:CV}{block pD:Int}{p:List UInt8}:oC c block pD p=true↔ig c block=true/\0<=pD/\pD<c.pages/\(p.length:Int)=c.size/\c.ops<cS:=by
 simp only[oC,ad2,decide_eq_true_eq,and_assoc]
def df(m:UInt8)(p:List UInt8):List UInt8:=p.map fun x=>x|||m
def pE(c:CV)(p:List UInt8):List UInt8:=if(br c).2=true then df (~~~(br c).1.mask) p else p
def iL(c:CV)(block pD:Int)(p:List UInt8):CV:=
 {c with ops:=c.ops+1,off:=(br c).2&&(br c).1.cut,blocks:=c.blocks.set block.toNat {aj c block with used:=(aj c block).used+1,pages:=(aj c block).pages.set pD.toNat (pE c p)}}
def kj(c:CV)(block pD:Int)(p:List UInt8):Int:=
 if oC c block pD p=true then(if c.off=true then 7 else if(aj c block).bad=true\/pD≠(aj c block).used then 9 else if(br c).2=true then lW (br c).1 else 0)else 1
def gF(c:CV)(block pD:Int)(p:List UInt8):CV:=
 if oC c block pD p=true/\c.off=false/\(aj c block).bad=false/\pD=(aj c block).used then iL c block pD p else c
def pF(c:CV)(block:Int):Bool:=ig c block&&decide (c.ops<cS)&&decide ((aj c block).aU<cS)
theorem qp{c:CV}{block:Int}:pF c block=true↔ig c block=true/\c.ops<cS/\(aj c block).aU<cS:=by
 simp only[pF,ad2,decide_eq_true_eq,and_assoc]
def sY(c:CV)(ps:List (List UInt8)):List (List UInt8):=if(br c).2=true then ps.map (df (br c).1.mask)else ps.map fun _=>ik c.size
def lj(c:CV)(block:Int):CV:=
 {c with ops:=c.ops+1,off:=(br c).2&&(br c).1.cut,blocks:=c.blocks.set block.toNat {aj c block with used:=if(br c).2=true then c.pages else 0,aU:=(aj c block).aU+1,pages:=sY c (aj c block).pages}}
def dY(c:CV)(block:Int):Int:=
 if pF c block=true then(if c.off=true then 7 else if(aj c block).bad=true then 9 else if(br c).2=true then lW (br c).1 else 0)else 1
def gf(c:CV)(block:Int):CV:=if pF c block=true/\c.off=false/\(aj c block).bad=false then lj c block else c
def qq(c:CV)(block:Int):Int:=if ig c block=true then(if c.off=true then 7 else 0)else 1
def lX(c:CV)(block:Int):CV:=if qq c block=0 then{c with blocks:=c.blocks.set block.toNat {aj c block with bad:=true}}else c
def ll(c:CV)(fs:List Ft):Int:=if aW c=true/\fs.length<=64 then 0 else 1
def lp(c:CV)(fs:List Ft):CV:=if ll c fs=0 then{c with off:=false,aD:=fs}else c
theorem Gp{c:CV}{block:Int}(h:ig c block=true):c.blocks[block.toNat]? =some (aj c block):=by
 obtain⟨_,h2,h3⟩:=ij.1 h;exact po (by omega)
theorem rb{c:CV}{block:Int}(h:ig c block=true):ra c.pages c.size (aj c block)=true:=
 (eM.1 (ij.1 h).1).2.2.2.2 _ (alM (Gp h))
end Go.Kb
namespace Go.ax
open Go.RowKit
section
variable {α:Type} {enc:α->Array Value} {c:Nat}
theorem acm{P:Program}{t tx ty e:TypeId}{cw:Nat}(ht:eK P t e c cw)[he:bp enc c]{w0 w:World}{L:List ai}{i:Nat}{s:Sv}{xs ys:List α}{x:Value}
  (hw:Mem w0 L w) (hi:L[i]? =some (own enc c s xs)) (hs:Src P c tx x ys.length (aJ enc ys) w) (hn:s.nil=false) (qd:s.len+ys.length<=s.cap) (kg:s.len+ys.length<=140737488355328):
  ∃w',(Builtin.append_ #[t,tx] ty #[s.val,x]).run P w= .ok (Sv.val {s with len:=s.len+ys.length}) w'/\Mem w0 (L.set i (own enc c {s with len:=s.len+ys.length} (xs++ys))) w':=by
 obtain⟨r,pj⟩:=hw.get hi;obtain⟨i',z,bl,aL,bC,dq,od⟩:=ht.info;subst bC dq;have hlen:=r.len;have hle:=r.ok.le;obtain⟨ft,cs,T,fz,fe,eI,nH,mZ⟩:=pj hn;have hmul:(s.len+ys.length)*i'.size<=s.cap*i'.size:=atG _ qd;have eQ:(aJ enc ys).length=ys.length*i'.size:=ia ys;have jz:s.o+s.len*i'.size+(aJ enc ys).toArray.size<=cs.size:=by
  rw[auj,eQ];rw[atU]at hmul;omega
 have bB:=Ce (P:=P) s.b (s.o+s.len*i'.size) T fz (aJ enc ys) 0 cs w fe nH (by simpa using jz) hs.one;have Cf:(storeCells ⟨s.b,s.o+s.len*i'.size,none⟩ (aJ enc ys)).run P w= .ok () (w.setRow s.b (over cs (s.o+s.len*i'.size) (aJ enc ys).toArray)):=by
  simpa[over]using bB
 refine⟨w.setRow s.b (over cs (s.o+s.len*i'.size) (aJ enc ys).toArray),?_,?_⟩
 ·
  have mq:({s with len:=s.len+ys.length}:Sv).val= .slice (some ⟨s.b,s.o,s.sp⟩) (s.len+ys.length) s.cap:=Sv.iA (s:={s with len:=s.len+ys.length}) hn
  rw[Sv.iA hn,mq,ft];rcases hs.kind with⟨e',hk⟩|hk<;>simp[Builtin.append_,run_underlying ht.fc,run_underlying hk,sizeOf,typeInfo,bl,hs.len,qd,hs.cells,Addr.gT,Cf]
 ·
  have mu:hp (w.setRow s.b (over cs (s.o+s.len*i'.size) (aJ enc ys).toArray)) s.b=some (.cells (over cs (s.o+s.len*i'.size) (aJ enc ys).toArray) T fz):=setRow_heap w s.b cs _ T fz fe;refine hw.change hi (fun k hk=>hk) (fun k hk=>?_) (by simp[World.setRow]) ⟨rfl,rfl,rfl⟩ ⟨wS ⟨(fun h=>by rw[hn]at h;cases h),qd,by simp only;omega,r.ok.sp⟩ (by simp[hlen]) mu fun k y hy j hj=>?_,fun _=>⟨ft,_,_,_,mu,?_,by rw[ph jz];exact nH,mZ⟩⟩
  ·
   exact setRow_other w s.b k _ (fun e=>hk ⟨hn,e⟩)
  ·
   rw[tU jz]
   by_cases hk:k<xs.length
   ·
    rw[if_neg,←r.row k y (by rw[atN hk]at hy;exact hy) j hj]
    ·
     unfold nG;rw[fe]
    ·
     have:(k+1)*i'.size<=s.len*i'.size:=atG _ (by omega);rw[atU]at this;intro h;have:=h.1;simp only at this;omega
   ·
    rw[atz (by omega)]at hy;have sD:=oc (enc:=enc) ys (k -xs.length) y hy j hj;have oh:s.len*i'.size+(k -xs.length)*i'.size=k*i'.size:=by rw[←atU];congr 1;omega
    have bn:(k -xs.length+1)*i'.size<=ys.length*i'.size:=atG _ (by have:=(zz.1 hy).1;omega);rw[atU]at bn;rw[if_pos ⟨by simp only;omega,by rw[auj,eQ];simp only;omega⟩,←sD];simp only[auT];congr 1;omega
  ·
   rw[ph jz];exact eI
theorem acn{P:Program}{w0 w:World}{L:List ai}{i:Nat}{s:Sv}{xs ys:List α}[he:bp enc c]{k:Nat}(hw:Mem w0 L w)(hi:L[i]? =some (own enc c s xs))(hn:s.nil=false)(hk:k+ys.length<=xs.length):
  ∃w',(storeCells ⟨s.b,s.o+k*c,none⟩ (aJ enc ys)).run P w= .ok () w'/\Mem w0 (L.set i (own enc c s (xs.take k++(ys++xs.drop (k+ys.length))))) w':=by
 obtain⟨r,pj⟩:=hw.get hi;have hlen:=r.len;have hle:=r.ok.le;obtain⟨ft,cs,T,fz,fe,eI,nH,mZ⟩:=pj hn;have hmul:(k+ys.length)*c<=s.cap*c:=atG _ (by omega);have eQ:(aJ enc ys).length=ys.length*c:=ia ys;have jz:s.o+k*c+(aJ enc ys).toArray.size<=cs.size:=by
  rw[auj,eQ];rw[atU]at hmul;omega
 have ui: ∀v∈aJ enc ys,v.oneCell'=true:=vp ys;have bB:=Ce (P:=P) s.b (s.o+k*c) T fz (aJ enc ys) 0 cs w fe nH (by simpa using jz) ui;have Cf:(storeCells ⟨s.b,s.o+k*c,none⟩ (aJ enc ys)).run P w= .ok () (w.setRow s.b (over cs (s.o+k*c) (aJ enc ys).toArray)):=by
  simpa[over]using bB
 refine⟨_,Cf,?_⟩;have mu:hp (w.setRow s.b (over cs (s.o+k*c) (aJ enc ys).toArray)) s.b=some (.cells (over cs (s.o+k*c) (aJ enc ys).toArray) T fz):=setRow_heap w s.b cs _ T fz fe;have nh:(xs.take k++(ys++xs.drop (k+ys.length))).length=xs.length:=by simp only[adr,atq,atD];omega
 refine hw.change hi (fun k hk=>hk) (fun k hk=>?_) (by simp[World.setRow]) ⟨rfl,rfl,rfl⟩ ⟨wS r.ok (by rw[nh];exact hlen) mu fun m y hy j hj=>?_,fun _=>⟨ft,_,_,_,mu,?_,by rw[ph jz];exact nH,mZ⟩⟩
 ·
  exact setRow_other w s.b k _ (fun e=>hk ⟨hn,e⟩)
 ·
  rw[tU jz];rcases atA m k with h1|h1
  ·
   have xk:xs[m]? =some y:=by
    rw[atN (by rw[atq];omega),avj,if_pos h1]at hy;exact hy
   rw[if_neg,←r.row m y xk j hj]
   ·
    unfold nG;rw[fe]
   ·
    have:(m+1)*c<=k*c:=atG _ (by omega);rw[atU]at this;intro h;have:=h.1;omega
  ·
   rcases atA m (k+ys.length)with h2|h2
   ·
    have xk:ys[m -k]? =some y:=by
     rw[atz (by rw[atq];omega),atq,avX (by omega),atN (by omega)]at hy;exact hy
    have sD:=oc (enc:=enc) ys (m -k) y xk j hj;have oh:k*c+(m -k)*c=m*c:=by rw[←atU];congr 1;omega
    have bn:(m -k+1)*c<=ys.length*c:=atG _ (by omega);rw[atU]at bn;rw[if_pos ⟨by omega,by rw[auj,eQ];omega⟩,←sD];simp only[auT];congr 1;omega
   ·
    have xk:xs[m]? =some y:=by
     rw[atz (by rw[atq];omega),atq,avX (by omega),atz (by omega),auC]at hy;rw[←hy];congr 1;omega
    rw[if_neg,←r.row m y xk j hj]
    ·
     unfold nG;rw[fe]
    ·
     have:(k+ys.length)*c<=m*c:=atG _ h2;rw[atU]at this;intro h;have:=h.2;rw[auj,eQ]at this;omega
 ·
  rw[ph jz];exact eI
end
section
variable {P:Program} {N:cC} {w0:World} {env:Env} {L:List ai} {l:List Oper} {Q:Exit->Act->World->Prop} {rest:List Oper} {d:Option Tmp} {ty:TypeId} {ps:String} {af:Array Edge} {gd:Option (Nat×Bool)} {K:Value->List ai->Prop}
variable {α:Type} {enc:α->Array Value} {c:Nat} {s:Sv} {xs ys:List α}
theorem aco{t tx e:TypeId}{x y:Operand}{yv:Value}{cw i:Nat}[ht:eK P t e c cw][he:bp enc c](hx:ev env x=some s.val)(hy:ev env y=some yv)[q:fX L s enc c xs i]
  (hs: ∀w,Mem w0 L w->Src P c tx yv ys.length (aJ enc ys) w) (hn:s.nil=false) (qd:s.len+ys.length<=s.cap) (kg:s.len+ys.length<=140737488355328) {L':List ai} [hu:fO L i (own enc c {s with len:=s.len+ys.length} (xs++ys)) L']
  (hk:K (Sv.val {s with len:=s.len+ys.length}) L'):
  aS P N w0 env L ⟨d, .call {callee:= .builtin .append,args:= #[x,y],argTypes:= #[t,tx]},ty,ps,af,gd⟩ K:=
 vF fun a w ha hw=>by
  obtain⟨w',h1,h4⟩:=acm (ty:=ty) ht hw q.h (hs w hw) hn qd kg;refine⟨_,w',L',?_,by rw[←hu.h];exact h4,hk⟩;simp[execOp,ha.ev hx,ha.ev hy,resolve,invoke,builtin,h1,Result.andThen]
theorem acp{t tx e:TypeId}{x y:Operand}{yv:Value}{cw i:Nat}[ht:eK P t e c cw][he:bp enc c](hx:ev env x=some s.val)(hy:ev env y=some yv)[q:fX L s enc c xs i]
  (hs: ∀w,Mem w0 L w->Src P c tx yv ys.length (aJ enc ys) w) (hn:s.nil=false) (qd:s.len+ys.length<=s.cap) (kg:s.len+ys.length<=140737488355328) {L':List ai} [hu:fO L i (own enc c {s with len:=s.len+ys.length} (xs++ys)) L']
  (hk:Sq P N w0 l Q rest (cy env d (Sv.val {s with len:=s.len+ys.length})) L') (hd:dx N d=true:=by rfl):
  Sq P N w0 l Q (⟨d, .call {callee:= .builtin .append,args:= #[x,y],argTypes:= #[t,tx]},ty,ps,af,none⟩::rest) env L:=
 PZ rfl hd (aco hx hy hs hn qd kg hk)
theorem Q1{D S rm:Sv}{x y:Operand}{tx gM e:TypeId}{i k:Nat}{ys:List α}[he:bp enc c](hx:ev env x=some D.val)(nO:D.nil=false)(pA:D.sp=none)(qZ:D.b=rm.b)(sX:D.o=rm.o+k*c)(hy:ev env y=some S.val)[ht:fA P tx e c][q:fX L rm enc c xs i][hS:Hd w0 L S enc c ys](hc:0<c)(hn:rm.nil=false)(h0:0<ys.length)(hl:ys.length<=D.len)(kB:k+ys.length<=xs.length)
  {L':List ai} [hu:fO L i (own enc c rm (xs.take k++(ys++xs.drop (k+ys.length)))) L'] (hk:K (.int .i64 ys.length) L'):
  aS P N w0 env L ⟨d, .call {callee:= .builtin .copy,args:= #[x,y],argTypes:= #[tx,gM]},ty,ps,af,gd⟩ K:=
 vF fun a w ha hw=>by
  have hs:=hS.h w hw;have CR:=hs.some h0;have qj:=hs.len;have CS:=hs.ok.sp (by have:=hs.ok.le;omega);rw[Sv.iA nO,pA,qZ,sX]at hx;rw[Sv.iA CR,CS]at hy;obtain⟨w',h1,h2⟩:=acn (P:=P) hw q.h hn kB;rw[hu.h]at h2;refine⟨_,w',L',?_,h2,hk⟩;have Gt:=run_loadCells_list (P:=P) w ⟨S.b,S.o,none⟩ (aJ enc ys) (fun j v hj=>by
   obtain⟨z,hz,hv⟩:=E3 hc hj;rw[Addr.gT,rH,←hv,←hs.row _ z hz (j%c) (ave _ hc)];congr 1;have:=avY j c;rw[auP]at this;omega)
  rw[ia]at Gt
  cases hq:P.info? e with
  |none=>have:=ht.size;simp[hq]at this
  |some i'=>
   have hi:i'.size=c:=by have:=ht.size;simpa[hq]using this
   have BZ:Nat.min S.len D.len=ys.length:=by rw[qj];exact avX hl
   have gK:(Builtin.copy_ #[tx,gM] ty #[.slice (some ⟨rm.b,rm.o+k*c,none⟩) D.len D.cap, .slice (some ⟨S.b,S.o,none⟩) S.len S.cap]).run P w= .ok (goInt ys.length) w':=by
    simp[Builtin.copy_,run_underlying ht.fc,Builtin.lenOf,Builtin.firstCells,sizeOf,typeInfo,hq,hi,BZ,Gt,h1]
   simp[execOp,ha.ev hx,ha.ev hy,resolve,invoke,builtin,gK,Result.andThen,goInt]
theorem acq{D S rm:Sv}{x y:Operand}{tx gM e:TypeId}{i k:Nat}{ys:List α}[he:bp enc c](hx:ev env x=some D.val)(nO:D.nil=false)(pA:D.sp=none)(qZ:D.b=rm.b)(sX:D.o=rm.o+k*c)(hy:ev env y=some S.val)[ht:fA P tx e c][q:fX L rm enc c xs i][hS:Hd w0 L S enc c ys](hc:0<c)(hn:rm.nil=false)(h0:0<ys.length)(hl:ys.length<=D.len)(kB:k+ys.length<=xs.length)
  {L':List ai} [hu:fO L i (own enc c rm (xs.take k++(ys++xs.drop (k+ys.length)))) L'] (hk:Sq P N w0 l Q rest (cy env d (.int .i64 ys.length)) L') (hd:dx N d=true:=by rfl):
  Sq P N w0 l Q (⟨d, .call {callee:= .builtin .copy,args:= #[x,y],argTypes:= #[tx,gM]},ty,ps,af,none⟩::rest) env L:=
 PZ rfl hd (Q1 hx nO pA qZ sX hy hc hn h0 hl kB hk)
end
theorem Mem.AE{w0 w:World}{L:List ai}{e:ai}{es:List ai}(h:Mem w0 (e::ai.all es::L) w):Mem w0 (ai.all (es++[e])::L) w:=by
 have h1:Mem w0 (ai.all (e::es)::L) w:=Mem.aci h;rw[Mem.Ck]at h1⊢;exact h1.perm ((List.perm_append_singleton e es).symm.append_right L)
theorem Mem.Gu{w0 w:World}{L:List ai}{e e':ai}(hf: ∀k,e'.fp k->e.fp k)(hs:(e.sat fun k=>w.heap[k]?)->e'.sat fun k=>w.heap[k]?)(h:Mem w0 (e::L) w):Mem w0 (e'::L) w:=by
 have hd:=aui.1 h.qa;refine⟨h.below,fun x he=>?_,fun x he k hk=>?_,aui.2 ⟨fun y hy k hk=>hd.1 y hy k (hf k hk),hd.2⟩⟩
 ·
  rcases atv.1 he with rfl|he
  ·
   exact hs (h.sat e (by simp))
  exact h.sat x (by simp[he])
 rcases atv.1 he with rfl|he
 ·
  exact h.j8 e (by simp) k (hf k hk)
 exact h.j8 x (by simp[he]) k hk
end Go.ax
namespace Go.Kb
open Go.ax
theorem Q2{w0 w:World}{L:List ai}{s rm:Sv}{l:List (List UInt8)}{xs:List (Sl UInt8)}(hx:xs=dG rm 0 l)(hn:rm.nil=false)(h:Mem w0 (own (cq (τ:=UInt8)) 1 s xs::own aO 1 rm l.flatten::L) w):Mem w0 (fC ⟨s,xs⟩::L) w:=by
 have ht:aP xs=l:=by rw[hx,xn]
 have h1:=h.perm (List.Perm.swap _ _ _);have h2:Mem w0 (AD ⟨s,xs⟩::own (cq (τ:=UInt8)) 1 s xs::L) w:=Mem.Gu (fun k hk=>by
  obtain⟨x,w9,rfl⟩:=hk;exact⟨hn,Gj rm 0 l x (hx▸w9)⟩) (fun hs=> .inr ⟨rm,hn,by simp only[ht];exact hx,by simp only[ht];exact hs⟩) h1
 exact Mem.yB.2 (h2.perm (List.Perm.swap _ _ _))
theorem acr{w0 w:World}{L:List ai}{s:Sv}(h:Mem w0 (own (cq (τ:=UInt8)) 1 s []::L) w):Mem w0 (fC ⟨s,[]⟩::L) w:=by
 refine Mem.yB.2 (Mem.perm (Mem.Gu (e:= .emp) (e':=AD ⟨s,[]⟩) (fun k hk=>?_) (fun _=> .inl rfl) (Mem.Cj.2 h)) (List.Perm.swap _ _ _));obtain⟨x,hx,_⟩:=hk
 cases hx
theorem acs{w0 w:World}{L:List ai}{a:Sl (Sl UInt8)}(cd:a.xs≠[])(h:Mem w0 (fC a::L) w): ∃rm:Sv,(rm.nil=false/\rm.sp=none/\a.xs=dG rm 0 (aP a.xs))/\Mem w0 (own (cq (τ:=UInt8)) 1 a.sv a.xs::own aO 1 rm (aP a.xs).flatten::L) w:=by
 have h1:=Mem.yB.1 h;have hr:=h1.sat (AD a) (by simp);rcases hr with hr|⟨rm,g1,g2,g3⟩
 ·
  exact absurd hr cd
 refine⟨rm,⟨g1,(g3.2 g1).1,g2⟩,?_⟩;have h2:=h1.perm (List.Perm.swap _ _ _);obtain⟨x,l,AF⟩:=List.exists_cons_of_ne_nil cd;have hm:x∈a.xs:=by rw[AF];simp
 have hb:x.sv.b=rm.b:=Gj rm 0 _ x (g2▸hm);exact(Mem.Gu (e:=AD a) (e':=own aO 1 rm (aP a.xs).flatten) (fun k hk=>⟨x,hm,by rw[hb];exact hk.2⟩) (fun _=>g3) h2).perm (List.Perm.swap _ _ _)
theorem Gw: ∀{l:List (List UInt8)} {i:Nat} {q r:List UInt8},l[i]? =some q->r.length=q.length->(l.set i r).flatten=l.flatten.take (l.take i).flatten.length++(r++l.flatten.drop ((l.take i).flatten.length+r.length))
 |y::l,0,q,r,h,hr=>by
  obtain rfl:y=q:=by simpa using h
  simp[hr]
 |y::l,i+1,q,r,h,hr=>by
  have:=Gw (l:=l) (i:=i) (q:=q) (r:=r) (by simpa using h) hr;simp only[avH,auM,this,auD,adr];rw[List.take_length_add_append,auW,List.drop_length_add_append,atw]
theorem Gx{rm:Sv}: ∀{o:Nat} {l:List (List UInt8)} {i:Nat} {q:List UInt8},l[i]? =some q->(dG rm o l)[i]? =some ⟨win rm (o+(l.take i).flatten.length) (o+(l.take i).flatten.length+q.length),q⟩
 |o,y::l,0,q,h=>by
  obtain rfl:y=q:=by simpa using h
  simp[dG]
 |o,y::l,i+1,q,h=>by
  have:=Gx (rm:=rm) (o:=o+y.length) (l:=l) (i:=i) (q:=q) (by simpa using h);simp only[dG,List.getElem?_cons_succ,this,auD,auM,adr,auW]
def Q3(l:List (List UInt8)):Prop:=l.length<=1000000/\l.flatten.length<=1000000
theorem CW{l:List (List UInt8)}{i:Nat}{q:List UInt8}(h:l[i]? =some q):(l.take (i+1)).flatten.length=(l.take i).flatten.length+q.length:=by
 rw[atr,h];simp
theorem CX(l:List (List UInt8))(i:Nat):(l.take i).flatten.length<=l.flatten.length:=by
 have:l.flatten=(l.take i).flatten++(l.drop i).flatten:=by rw[←List.flatten_append,auc]
 rw[this,adr];omega
theorem acu{rm:Sv}{l:List (List UInt8)}{n i:Nat}{r q:List UInt8}(hn:n=l.length)(hr:r=(l.take i).flatten)(h:l[i]? =some q):(dG rm 0 (l.take i)++List.replicate (n -i) (⟨Sv.none,[]⟩:Sl UInt8)).set i ⟨win rm r.length (r.length+q.length),q⟩=dG rm 0 (l.take (i+1))++List.replicate (n -(i+1)) (⟨Sv.none,[]⟩:Sl UInt8):=by
 have hi:=(zz.1 h).1;have hl:(dG rm 0 (l.take i)).length=i:=by rw[Kt,atq];omega
 rw[avh _ _ (by omega),hl,avm,atr,h,show n -i=n -(i+1)+1 by omega,awb,auN];simp only[awf];rw[QX,hr,auf,atw,List.singleton_append]
theorem pG{w0 w:World}{L:List ai}(d:Cp)(h:Mem w0 (own cl 4 d.blocks.sv d.blocks.xs::ai.all (d.blocks.xs.map fun b:Bk=>fC b.pages)::own dA 4 d.aD.sv d.aD.xs::L) w):Mem w0 (fz d::L) w:=
 Gn ((Ku (a:=d.aD) ((ack h).perm (List.Perm.swap _ _ _))).perm (List.Perm.swap _ _ _))
theorem Kw{α:Type}{enc:α->Array Value}{c:Nat}{s:Sv}{xs ys:List α}{w0 w:World}{L:List ai}(e:xs.map enc=ys.map enc)(h:Mem w0 (own enc c s xs::L) w):Mem w0 (own enc c s ys::L) w:=
 Mem.Gu (e:=own enc c s xs) (fun _ hk=>hk) (fun hs=>⟨⟨hs.1.ok,by have:=congrArg List.length e;simp only[atM]at this;rw[←this];exact hs.1.len,fun i y hy j hj=>by
  have h1:(xs.map enc)[i]? =(ys.map enc)[i]? :=by rw[e]
  rw[atx,atx,hy]at h1
  cases hx:xs[i]?with
  |none=>rw[hx]at h1;cases h1
  |some x=>
   rw[hx]at h1;have h2:enc x=enc y:=by simpa using h1
   have:=hs.1.row i x hx j hj;rw[h2]at this;exact this⟩,hs.2⟩) h
theorem Gy{w0 w:World}{L:List ai}{s sp rm:Sv}{xs:List Bk}{i:Nat}{B B':Bk}{ps:List (Sl UInt8)}{l:List (List UInt8)}(hi:i<xs.length)(hp:ps.map (fun x=>x.sv)=(dG rm 0 l).map (fun x=>x.sv))(hn:rm.nil=false)(hc:cl B=cl B')(hB:B'.pages=⟨sp,dG rm 0 l⟩)
  (h:Mem w0 (own (cq (τ:=UInt8)) 1 sp ps::own aO 1 rm l.flatten::own cl 4 s (xs.set i B)::ai.all ((xs.eraseIdx i).map fun b:Bk=>fC b.pages)::L) w):Mem w0 (own cl 4 s (xs.set i B')::ai.all ((xs.set i B').map fun b:Bk=>fC b.pages)::L) w:=by
 have h1:Mem w0 (own (cq (τ:=UInt8)) 1 sp (dG rm 0 l)::own aO 1 rm l.flatten::own cl 4 s (xs.set i B)::ai.all ((xs.eraseIdx i).map fun b:Bk=>fC b.pages)::L) w:=Kw (by
  have:=congrArg (List.map fun v:Sv=>(#[v.val]:Array Value)) hp;rw[avV,avV]at this;exact this) h
 have h2:=Q2 (xs:=dG rm 0 l) rfl hn h1;rw[←hB]at h2;have h3:=Kw (ys:=xs.set i B') (by rw[avF,avF,hc]) (h2.perm (List.Perm.swap _ _ _));have h4:Mem w0 (fC B'.pages::ai.all (((xs.set i B').eraseIdx i).map fun b:Bk=>fC b.pages)::own cl 4 s (xs.set i B')::L) w:=by
  rw[List.eraseIdx_set_eq];exact h3.perm ((List.Perm.swap _ _ _).trans (List.Perm.cons _ (List.Perm.swap _ _ _)))
 have h5:=(Mem.pick (f:=fun b:Bk=>fC b.pages) (xs:=xs.set i B') (i:=i) (x:=B') (by rw[atE hi])).2 h4;exact h5.perm (List.Perm.swap _ _ _)
theorem Q4{w0 w:World}{L:List ai}{s:Sv}{xs:List Bk}{i:Nat}{B:Bk}(hB:xs[i]? =some B)(cd:B.pages.xs≠[])(h:Mem w0 (own cl 4 s xs::ai.all (xs.map fun b:Bk=>fC b.pages)::L) w):
  ∃rm:Sv,(rm.nil=false/\rm.sp=none/\B.pages.xs=dG rm 0 (aP B.pages.xs))/\Mem w0 (own (cq (τ:=UInt8)) 1 B.pages.sv B.pages.xs::own aO 1 rm (aP B.pages.xs).flatten::own cl 4 s xs::ai.all ((xs.eraseIdx i).map fun b:Bk=>fC b.pages)::L) w:=by
 have h1:=(Mem.pick (f:=fun b:Bk=>fC b.pages) hB).1 (h.perm (List.Perm.swap _ _ _));obtain⟨rm,hr,h2⟩:=acs cd h1;refine⟨rm,hr,h2.perm (List.Perm.cons _ (List.Perm.cons _ (List.Perm.swap _ _ _)))⟩
end Go.Kb
namespace Go.ax
section
variable {P:Program} {N:cC} {w0:World} {env:Env} {L:List ai} {d:Option Tmp} {ty:TypeId} {ps:String} {af:Array Edge} {gd:Option (Nat×Bool)} {x y:Operand} {t u:TypeId}
theorem Q5{a b:UInt8}(hx:ev env x=some (.int .u8 a.toNat))(hy:ev env y=some (.int .u8 b.toNat)):
  Ry P N w0 env L ⟨d, .binOp .or t x y u,ty,ps,af,gd⟩ (.int .u8 (a|||b).toNat):=by
 have ha:=a.toNat_lt;have hb:=b.toNat_lt;rw[UInt8.toNat_or];exact B9 hx hy rfl rfl (by simp only[nb];omega) (by simp only[nb];omega)
theorem acv: ∀n,n<256->(255^^^n:Nat)=255 -n:=by decide+kernel
theorem acw{p q:Nat}(hp:p<2^nb .u8)(hq:q<2^nb .u8):Op.intBits .xor .u8 (p:Int) (q:Int)=(pure (.int .u8 ((p^^^q:Nat):Int)):Sem Value):=by
 simp only[Op.intBits,zU,BitVec.toNat_xor,au7,at5 (rG hp),at5 (rG hq)];rw[qO (awe hp hq)]
theorem acx{a:UInt8}(hx:ev env x=some (.int .u8 a.toNat)):
  Ry P N w0 env L ⟨d, .unOp .xor t x,ty,ps,af,gd⟩ (.int .u8 (~~~a).toNat):=fun aa w ha _=>by
 have e:(Op.intBits .xor .u8 255 (a.toNat:Int))=(pure (.int .u8 ((~~~a).toNat:Int)):Sem Value):=by
  have h3:=a.toNat_lt;have h4:(~~~a).toNat=255 -a.toNat:=UInt8.toNat_not a;have h5:(255^^^a.toNat:Nat)=255 -a.toNat:=acv a.toNat h3;have hp:(255:Nat)<2^nb .u8:=by decide
  have hq:a.toNat<2^nb .u8:=h3;have hx:=acw hp hq;rw[h5]at hx;rw[h4];exact hx
 simp only[execOp,ha.ev hx,Op.unary,Sem.run_bind,Result.andThen];rw[show(if IntKind.u8.signed=true then(-1:Int)else IntKind.u8.max)=255 by decide,e];rfl
end
open Go.RowKit
section
variable {P:Program} {N:cC} {w0:World} {env:Env} {L:List ai} {l:List Oper} {Q:Exit->Act->World->Prop} {rest:List Oper} {d:Option Tmp} {ty:TypeId} {ps:String} {af:Array Edge} {gd:Option (Nat×Bool)} {K:Value->List ai->Prop}
variable {α:Type} {enc:α->Array Value} {c:Nat}
theorem acy{β:Type}{l:List β}{i:Nat}{z:β}(h:l[i]? =some z):l.set i z=l:=by
 obtain⟨hi,rfl⟩:=zz.1 h;exact List.set_getElem_self hi
theorem acz{D S:Sv}{x y:Operand}{tx gM e:TypeId}(hx:ev env x=some D.val)(hy:ev env y=some S.val)[ht:fA P tx e c][hS:Hd w0 L S enc c []](hk:K (.int .i64 0) L):
  aS P N w0 env L ⟨d, .call {callee:= .builtin .copy,args:= #[x,y],argTypes:= #[tx,gM]},ty,ps,af,gd⟩ K:=
 vF fun a w ha hw=>by
  have hs:=hS.h w hw;have qj:S.len=0:=hs.len;obtain⟨ad,len,cap,e1⟩:=S.ex;have el:len=S.len:=by
   cases hn:S.nil with
   |true=>rw[Sv.sC hn]at e1;have:=hs.ok.nil hn;cases e1;omega
   |false=>rw[Sv.iA hn]at e1;cases e1;rfl
  obtain⟨Q6,Qo,acA,e2⟩:=D.ex;refine⟨_,w,L,?_,hw,hk⟩
  cases hq:P.info? e with
  |none=>have:=ht.size;simp[hq]at this
  |some i'=>
   rw[e1]at hy;rw[e2]at hx;have kI:len=0:=by omega
   have gK:(Builtin.copy_ #[tx,gM] ty #[.slice Q6 Qo acA, .slice ad len cap]).run P w= .ok (goInt 0) w:=by
    have Gt: ∀v:Addr,(loadCells v 0).run P w= .ok #[] w:=fun v=>by
     have:=run_loadCells_list (P:=P) w v [] (fun j v hj=>by simp at hj);simpa using this
    have bB: ∀v:Addr,(storeCells v []).run P w= .ok () w:=fun v=>rfl
    cases Q6<;>cases ad<;>simp[Builtin.copy_,run_underlying ht.fc,Builtin.lenOf,Builtin.firstCells,sizeOf,typeInfo,hq,kI,Gt,bB]
   simp[execOp,ha.ev hx,ha.ev hy,resolve,invoke,builtin,gK,Result.andThen,goInt]
theorem Kx{D S rm:Sv}{x y:Operand}{tx gM e:TypeId}{i k:Nat}{xs ys:List α}[he:bp enc c](hx:ev env x=some D.val)(nO:D.nil=false)(pA:D.sp=none)(qZ:D.b=rm.b)(sX:D.o=rm.o+k*c)(hy:ev env y=some S.val)[ht:fA P tx e c][q:fX L rm enc c xs i][hS:Hd w0 L S enc c ys](hc:0<c)(hn:rm.nil=false)(hl:ys.length<=D.len)(kB:k+ys.length<=xs.length)
  {L':List ai} [hu:fO L i (own enc c rm (xs.take k++(ys++xs.drop (k+ys.length)))) L'] (hk:K (.int .i64 ys.length) L'):
  aS P N w0 env L ⟨d, .call {callee:= .builtin .copy,args:= #[x,y],argTypes:= #[tx,gM]},ty,ps,af,gd⟩ K:=by
 by_cases h0:ys=[]
 ·
  subst h0;have e1:xs.take k++([]++xs.drop (k+([]:List α).length))=xs:=by simp
  have e2:L'=L:=by
   rw[←hu.h,e1];exact acy q.h
  exact acz (c:=c) (enc:=enc) hx hy (by rw[e2]at hk;exact hk)
 ·
  exact Q1 hx nO pA qZ sX hy hc hn (auV.2 h0) hl kB hk
end
end Go.ax
namespace Go.Kb
open Go.ax
def gw(c:Cp):Prop:=c.blocks.xs.length<=1000000/\c.aD.xs.length<=1000000/\ ∀b∈c.blocks.xs,Q3 (aP b.pages.xs)
theorem xo{α:Type}{l:List α}{i:Nat}{z:α}(h:l[i]? =some z):l.set i z=l:=by
 obtain⟨hi,rfl⟩:=zz.1 h;exact List.set_getElem_self hi
theorem yV(l:List Bk)(i:Nat)(b:Bk):jk (l.set i b)=(jk l).set i (bv b):=by simp[jk,avF]
theorem acB{zs:List Bk}{i:Nat}{z z':Bk}(h:zs[i]? =some z):((zs.take i).map fun b:Bk=>fC b.pages)++[fC z'.pages]=((zs.set i z').take (i+1)).map fun b:Bk=>fC b.pages:=by
 have hi:=(zz.1 h).1;rw[atr,atE hi,avO (att _),atS];rfl
theorem acC{c:CV}(h: ∀f∈c.aD,f.op≠c.ops):br c=(AB,false):=by
 have:c.aD.find? (fun f=>decide (f.op=c.ops))=none:=List.find?_eq_none.2 fun f hf=>by simpa using h f hf
 rw[br,this]
theorem acD{c:CV}{i:Nat}{f:Ft}(hf:c.aD[i]? =some f)(h: ∀j g,j<i->c.aD[j]? =some g->g.op≠c.ops)(he:f.op=c.ops):br c=(f,f.cut||f.fail):=by
 have:c.aD.find? (fun f=>decide (f.op=c.ops))=some f:=by
  rw[List.find?_eq_some_iff_getElem];obtain⟨hi,rfl⟩:=zz.1 hf;exact⟨by simpa using he,i,hi,rfl,fun j hj=>by
   simpa using h j (c.aD[j]'(by omega)) hj (atp (by omega))⟩
 rw[br,this]
theorem Q7: ∀l:List (List UInt8),(∀x∈l,x.length<=256)->(l.map List.length).sum<=l.length*256
 |[],_=>by simp
 |x::l,hl=>by
  have h1:=Q7 l fun y hy=>hl y (atF _ hy);have h2:=hl x at2;simp only[atI,av1,af0];omega
theorem uw{c:Cp}(h:aW (cv c)=true):gw c:=by
 obtain⟨h1,h2,h3,h4,h5⟩:=eM.1 h;obtain⟨s1,s2,s3,s4,s5,s6⟩:=mF.1 h1;simp only[cv,ie]at*;refine⟨by omega,by omega,fun b hb=>?_⟩;have g:=fu.1 (h5 (bv b) (atK hb));simp only[bv]at g;have hf:(aP b.pages.xs).flatten.length<=(aP b.pages.xs).length*256:=by
  rw[List.length_flatten];exact Q7 _ fun x hx=>by have:=g.2.2.2.2.2 x hx;omega
 exact⟨by omega,by omega⟩
theorem Ky{rm:Sv}: ∀{o:Nat} {l l':List (List UInt8)},l.map List.length=l'.map List.length->(dG rm o l).map (fun x=>x.sv)=(dG rm o l').map (fun x=>x.sv)
 |_,[],[],_=>rfl
 |_,[],_::_,h=>by simp at h
 |_,_::_,[],h=>by simp at h
 |o,p::l,p'::l',h=>by
  simp only[atI,avZ]at h;have:=Ky (rm:=rm) (o:=o+p'.length) h.2;simp only[dG,atI,h.1,this]
theorem acE{rm:Sv}{l:List (List UInt8)}{i:Nat}{q r:List UInt8}(h:l[i]? =some q)(hr:r.length=q.length):(dG rm 0 l).map (fun x=>x.sv)=(dG rm 0 (l.set i r)).map (fun x=>x.sv):=Ky (by
 rw[avF,hr,xo];rw[atx,h];rfl)
theorem AG: ∀{l:List (List UInt8)} {i j:Nat} {q:List UInt8},l[i]? =some q->j<q.length->l.flatten[(l.take i).flatten.length+j]? =q[j]?
 |y::l,0,j,q,h,hj=>by
  obtain rfl:y=q:=by simpa using h
  simp only[atW,awn,anc,auf,auM];rw[atN hj]
 |y::l,i+1,j,q,h,hj=>by
  have:=AG (l:=l) (i:=i) (j:=j) (q:=q) (by simpa using h) hj;simp only[auD,auM,adr];rw[auW,atz (by omega),aua,this]
theorem Q8: ∀{l:List (List UInt8)} {i j:Nat} {q:List UInt8} {v:UInt8},l[i]? =some q->j<q.length->l.flatten.set ((l.take i).flatten.length+j) v=(l.set i (q.set j v)).flatten
 |y::l,0,j,q,v,h,hj=>by
  obtain rfl:y=q:=by simpa using h
  simp only[atW,awn,anc,auf,auM,auN];rw[List.set_append_left _ _ hj]
 |y::l,i+1,j,q,v,h,hj=>by
  have:=Q8 (l:=l) (i:=i) (j:=j) (q:=q) (v:=v) (by simpa using h) hj;simp only[auD,auM,adr,avH];rw[auW,avh _ _ (by omega),aua,this]
theorem Kz{l:List (List UInt8)}{i:Nat}{r:List UInt8}:(l.set i r).take i=l.take i:=avO (att _)
theorem AH{rm:Sv}{lo n:Nat}(h:0<n):(win rm lo (lo+n)).o=rm.o+lo:=by
 simp only[win];rw[if_neg (by omega)]
theorem GA{rm:Sv}{lo n:Nat}(hn:rm.nil=false)(hs:rm.sp=none)(hb:n<=1000000):(win rm lo (lo+n)).Ok:=
 ⟨fun h=>absurd (hn.symm.trans h) (by decide),att _,by simp only[win];omega,fun _=>hs⟩
theorem Q9{c:CV}{x:Cp}{B:Bk}{b g:Int}{q:List UInt8}{rm:Sv}{off:Bool}(hx:cv x=c)(hB:bv B=aj c b):
  cv ⟨x.pages,x.size,⟨x.blocks.sv,x.blocks.xs.set b.toNat ⟨⟨B.pages.sv,dG rm 0 ((aP B.pages.xs).set g.toNat q)⟩,B.used+1,B.aU,B.bad⟩⟩,x.ops+1,off,x.aD⟩={c with ops:=c.ops+1,off:=off,blocks:=c.blocks.set b.toNat {aj c b with used:=(aj c b).used+1,pages:=(aj c b).pages.set g.toNat q}}:=by
 subst hx;rw[←hB];simp only[cv,yV,bv,xn]
theorem acF{m:UInt8}{xs:List UInt8}{i:Nat}{z:UInt8}(h:xs[i]? =some z):(df m (xs.take i)++xs.drop i).set i (z|||m)=df m (xs.take (i+1))++xs.drop (i+1):=by
 have hi:=(zz.1 h).1;have hl:(df m (xs.take i)).length=i:=by rw[df,atM,atq];omega
 rw[avh _ _ (by omega),hl,avm,avr hi,auN,atr,h,df,df,atS,atw];rfl
theorem Ra{m:UInt8}{xs:List UInt8}{i:Nat}(h:i<xs.length):(df m (xs.take i)++xs.drop i)[i]? =xs[i]? :=by
 have hl:(df m (xs.take i)).length=i:=by rw[df,atM,atq];omega
 rw[atz (by omega),hl,avm,auC,auH]
theorem KA{m:UInt8}{xs:List UInt8}{i:Nat}(h:i<=xs.length):(df m (xs.take i)++xs.drop i).length=xs.length:=by
 rw[df,adr,atM,atq,atD];omega
theorem Rb{T:List (List UInt8)}{g i:Nat}{q xs:List UInt8}{m z:UInt8}(hq:T[g]? =some q)(hz:xs[i]? =some z):(T.set g (df m (xs.take (i+1))++xs.drop (i+1))).flatten=(T.set g (df m (xs.take i)++xs.drop i)).flatten.set ((T.take g).flatten.length+i) (z|||m):=by
 have hg:=(zz.1 hq).1;have hi:=(zz.1 hz).1;have h1:=Q8 (l:=T.set g (df m (xs.take i)++xs.drop i)) (i:=g) (j:=i) (v:=z|||m) (atE hg) (by rw[KA (by omega)];exact hi);rw[Kz]at h1;rw[h1,avM,acF hz]
def mixed(f:List UInt8->List UInt8)(T:List (List UInt8))(k:Nat):List (List UInt8):=(T.take k).map f++T.drop k
theorem Rc{f:List UInt8->List UInt8}{T:List (List UInt8)}:mixed f T 0=T:=by simp[mixed]
theorem Rd{f:List UInt8->List UInt8}{T:List (List UInt8)}{k:Nat}(h:T.length<=k):mixed f T k=T.map f:=by
 rw[mixed,atC h,awh h,auh]
theorem CY{f:List UInt8->List UInt8}{T:List (List UInt8)}{k:Nat}{q:List UInt8}(h:T[k]? =some q):(mixed f T k)[k]? =some q:=by
 have hk:=(zz.1 h).1;have hl:((T.take k).map f).length=k:=by rw[atM,atq];omega
 rw[mixed,atz (by omega),hl,avm,auC,auH,h]
theorem KB{f:List UInt8->List UInt8}{T:List (List UInt8)}{k:Nat}{q:List UInt8}(h:T[k]? =some q):(mixed f T k).set k (f q)=mixed f T (k+1):=by
 have hk:=(zz.1 h).1;have hl:((T.take k).map f).length=k:=by rw[atM,atq];omega
 obtain⟨_,rfl⟩:=zz.1 h;rw[mixed,avh _ _ (by omega),hl,avm,avr hk,auN,mixed,atr,atp hk,atS,atw];rfl
theorem GB{f:List UInt8->List UInt8}{T:List (List UInt8)}{k:Nat}(hf: ∀x∈T,(f x).length=x.length)(hk:k<=T.length):((mixed f T k).take k).flatten.length=(T.take k).flatten.length:=by
 have hl:((T.take k).map f).length=k:=by rw[atM,atq];omega
 rw[mixed,List.take_append_of_le_length (by omega),atC (by omega),List.length_flatten,List.length_flatten,avV];congr 1;exact auw fun x hx=>hf x (avk hx)
theorem acG{f:List UInt8->List UInt8}{T:List (List UInt8)}{k n:Nat}{q:List UInt8}(hq:T[k]? =some q)(hf: ∀x∈T,(f x).length=x.length)(he:f q=List.replicate n 255)(hn:n=q.length):(mixed f T (k+1)).flatten=(mixed f T k).flatten.take (T.take k).flatten.length++(List.replicate n 255++(mixed f T k).flatten.drop ((T.take k).flatten.length+n)):=by
 have hk:=(zz.1 hq).1;rw[←KB hq,Gw (CY hq) (by rw[he,aue,hn]),GB hf (by omega),he,aue]
theorem acH{rm:Sv}{f:List UInt8->List UInt8}{T:List (List UInt8)}(hf: ∀x∈T,(f x).length=x.length):(dG rm 0 T).map (fun x=>x.sv)=(dG rm 0 (T.map f)).map (fun x=>x.sv):=Ky (by
 rw[avV];exact(auw fun x hx=>(hf x hx)).symm)
theorem acI{rm:Sv}{lo n:Nat}(hn:rm.nil=false)(hs:rm.sp=none)(h:0<n):(win rm lo (lo+n)).val= .slice (some ⟨rm.b,rm.o+lo,none⟩) n n:=by
 rw[Sv.iA (s:=win rm lo (lo+n)) hn,show(win rm lo (lo+n)).sp=rm.sp from rfl,hs,AH h,show(win rm lo (lo+n)).len=n from aua ..,show(win rm lo (lo+n)).cap=n from aua ..];rfl
theorem yW{c:Cp}{b:Int}:bv (c.blocks.xs.getD b.toNat q8)=aj (cv c) b:=by
 simp only[aj,cv,jk,av0,atx]
 cases c.blocks.xs[b.toNat]? <;>rfl
theorem KC{c:Cp}{b:Int}(h:ig (cv c) b=true):0<=b/\b.toNat<c.blocks.xs.length:=by
 obtain⟨_,h2,h3⟩:=ij.1 h;simp only[cv,ie]at h3;exact⟨h2,by omega⟩
theorem Re{c:CV}{x:Cp}{B:Bk}{b u:Int}{l:List (List UInt8)}{rm:Sv}{off:Bool}(hx:cv x=c)(hB:bv B=aj c b):
  cv ⟨x.pages,x.size,⟨x.blocks.sv,x.blocks.xs.set b.toNat ⟨⟨B.pages.sv,dG rm 0 l⟩,u,B.aU+1,B.bad⟩⟩,x.ops+1,off,x.aD⟩={c with ops:=c.ops+1,off:=off,blocks:=c.blocks.set b.toNat {aj c b with used:=u,aU:=(aj c b).aU+1,pages:=l}}:=by
 subst hx;rw[←hB];simp only[cv,yV,bv,xn]
theorem acJ{xs:List Bk}{i:Nat}{B B':Bk}(h:xs[i]? =some B)(hp:B'.pages=B.pages):((xs.set i B').map fun b:Bk=>fC b.pages)=xs.map fun b:Bk=>fC b.pages:=by
 rw[avF,hp];refine xo ?_;rw[atx,h];rfl
theorem acK{c:CV}{x:Cp}{B:Bk}{b:Int}(hx:cv x=c)(hB:bv B=aj c b):
  cv ⟨x.pages,x.size,⟨x.blocks.sv,x.blocks.xs.set b.toNat ⟨B.pages,B.used,B.aU,true⟩⟩,x.ops,x.off,x.aD⟩={c with blocks:=c.blocks.set b.toNat {aj c b with bad:=true}}:=by
 subst hx;rw[←hB];simp only[cv,yV,bv]
theorem KD{w0 w:World}{L:List ai}{s:Sv}{xs:List (Sl UInt8)}(h:Mem w0 (own (cq (τ:=UInt8)) 1 s xs::ai.all (xs.map fun p:Sl UInt8=>fz p)::L) w):Mem w0 (fz (⟨s,xs⟩:Sl (Sl UInt8))::L) w:=by
 have hs:=h.sat (own (cq (τ:=UInt8)) 1 s xs) (by simp);have ha:=h.sat (ai.all (xs.map fun p:Sl UInt8=>fz p)) (by simp);refine Mem.freeze (es:=[own (cq (τ:=UInt8)) 1 s xs,ai.all (xs.map fun p:Sl UInt8=>fz p)]) _ ⟨hs.1,fun x hx=>ai.Ab ha (fz x) (atK hx)⟩ (fun k hk=>?_) h;rcases hk with⟨cd,rfl⟩|⟨x,hx,hk⟩
 ·
  exact⟨_,by simp,CU hs.1 cd⟩
 exact⟨ai.all (xs.map fun p:Sl UInt8=>fz p),by simp,ai.Gl (atK (f:=fun p:Sl UInt8=>fz p) hx) hk⟩
theorem Rf{w0 w:World}{L:List ai}{s:Sv}{xs:List Bk}(h:Mem w0 (own cl 4 s xs::ai.all (xs.map fun b:Bk=>fz b.pages)::L) w):Mem w0 (fz (⟨s,xs⟩:Sl Bk)::L) w:=by
 have hs:=h.sat (own cl 4 s xs) (by simp);have ha:=h.sat (ai.all (xs.map fun b:Bk=>fz b.pages)) (by simp);refine Mem.freeze (es:=[own cl 4 s xs,ai.all (xs.map fun b:Bk=>fz b.pages)]) _ ⟨hs.1,fun x hx=>ai.Ab ha (fz x.pages) (atK (f:=fun b:Bk=>fz b.pages) hx)⟩ (fun k hk=>?_) h;rcases hk with⟨cd,rfl⟩|⟨x,hx,hk⟩
 ·
  exact⟨_,by simp,CU hs.1 cd⟩
 exact⟨ai.all (xs.map fun b:Bk=>fz b.pages),by simp,ai.Gl (atK (f:=fun b:Bk=>fz b.pages) hx) hk⟩
theorem Rh{w0 w:World}{L:List ai}{s:Sv}(hs:s.Ok)(hl:s.len=0)(h:Mem w0 L w):Mem w0 (fz (⟨s,[]⟩:Sl Ft)::L) w:=
 Mem.freeze (es:=[]) _ ⟨⟨hs,hl,fun i x hx=>by cases hx⟩,fun x hx=>by cases hx⟩ (fun k hk=>by
  rcases hk with⟨cd,_⟩|⟨x,hx,_⟩
  ·
   exact absurd rfl cd
  cases hx) h
theorem Ri{w0 w:World}{L:List ai}{d:Cp}(hf:d.aD=⟨Sv.none,[]⟩)(h:Mem w0 (own cl 4 d.blocks.sv d.blocks.xs::ai.all (d.blocks.xs.map fun b:Bk=>fz b.pages)::L) w):Mem w0 (fz d::L) w:=by
 have h1:=Rh (s:=Sv.none) Sv.Cc rfl (Rf h);rw[←hf]at h1;exact Gn (h1.perm (List.Perm.swap _ _ _))
theorem Rj{zs:List Bk}{i:Nat}{z z':Bk}(h:zs[i]? =some z):((zs.take i).map fun b:Bk=>fz b.pages)++[fz z'.pages]=((zs.set i z').take (i+1)).map fun b:Bk=>fz b.pages:=by
 have hi:=(zz.1 h).1;rw[atr,atE hi,avO (att _),atS];rfl
theorem KE{zs:List (Sl UInt8)}{i:Nat}{z z':Sl UInt8}(h:zs[i]? =some z):((zs.take i).map fun b:Sl UInt8=>fz b)++[fz z']=((zs.set i z').take (i+1)).map fun b:Sl UInt8=>fz b:=by
 have hi:=(zz.1 h).1;rw[atr,atE hi,avO (att _),atS];rfl
theorem GC{α β:Type}{f:α->β}{zs:List α}{i:Nat}{z z':α}(h:zs[i]? =some z):((zs.set i z').take (i+1)).map f=(zs.take i).map f++[f z']:=by
 have hi:=(zz.1 h).1;rw[atr,atE hi,avO (att _),atS];rfl
theorem GD{b n:Nat}(h:n<=1000000):(⟨false,b,0,n,n,none⟩:Sv).Ok:=⟨fun h=>(by cases h),att _,by simp only;omega,fun _=>rfl⟩
end Go.Kb
namespace Go.ax
theorem Rk{P:Program}{N:cC}{w0:World}{env:Env}{L:List ai}{Q:Exit->Act->World->Prop}{c:Code}{X:Type}{pr:X->Prop}(Lx:X->List ai)(h: ∀w,Mem w0 L w-> ∃x,pr x/\Mem w0 (Lx x) w)(hk: ∀x,pr x->Cw P N w0 Q c env (Lx x)):Cw P N w0 Q c env L:=fun a w ha hw=>by
 obtain⟨x,h1,h2⟩:=h w hw;exact hk x h1 a w ha h2
end Go.ax
namespace Go.Kb
open Go.ax
structure fv where
 kind:Int
 id:Int
 gen:UInt64
 body:Sl UInt8
def dj(x:fv):Array Value:= #[.int .i64 x.kind, .int .i64 x.id, .int .u64 x.gen.toNat,x.body.sv.val]
instance:bp dj 4:=⟨fun _=>rfl,fun x=>by
 simp only[dj,avc,avl,avw,Sv.one,uu,uv,au4]⟩
instance (x:fv):gn (dj x) 4:=⟨rfl,bp.one x⟩
instance (x:fv):bQ (dj x) 0 (.int .i64 x.kind):=⟨rfl⟩
instance (x:fv):bQ (dj x) 1 (.int .i64 x.id):=⟨rfl⟩
instance (x:fv):bQ (dj x) 2 (.int .u64 x.gen.toNat):=⟨rfl⟩
instance (x:fv):bQ (dj x) 3 (x.body.sv.val):=⟨rfl⟩
instance:Deep fv where
 c:=4
 cells:=dj
 size:=bp.size
 one:=bp.one
 cK h x:=Deep.cK h x.body
 cz x:=Deep.cz x.body
 jA h x hs:=Deep.jA h x.body hs
 mono w w' x hg hb:=Deep.mono w w' x.body hg hb
variable {w0:World}{L:List ai}
instance{x:fv}[q:aX w0 L x]:aX w0 L x.body:=⟨fun w hw=>(q.h w hw)⟩
instance{kind:Int}{id:Int}{gen:UInt64}{body:Sl UInt8}[q0:aX w0 L body]:aX w0 L (fv.mk kind id gen body):=⟨fun w hw=>q0.h w hw⟩
def pH:fv:=⟨0,0,0,⟨Sv.none,[]⟩⟩
structure dH where
 gen:UInt64
 at_:Sl Int
def eR(x:dH):Array Value:= #[.int .u64 x.gen.toNat,x.at_.sv.val]
instance:bp eR 2:=⟨fun _=>rfl,fun x=>by
 simp only[eR,avc,avl,avw,Sv.one,uu,uv,au4]⟩
instance (x:dH):gn (eR x) 2:=⟨rfl,bp.one x⟩
instance (x:dH):bQ (eR x) 0 (.int .u64 x.gen.toNat):=⟨rfl⟩
instance (x:dH):bQ (eR x) 1 (x.at_.sv.val):=⟨rfl⟩
instance:Deep dH where
 c:=2
 cells:=eR
 size:=bp.size
 one:=bp.one
 cK h x:=Deep.cK h x.at_
 cz x:=Deep.cz x.at_
 jA h x hs:=Deep.jA h x.at_ hs
 mono w w' x hg hb:=Deep.mono w w' x.at_ hg hb
instance{x:dH}[q:aX w0 L x]:aX w0 L x.at_:=⟨fun w hw=>(q.h w hw)⟩
instance{gen:UInt64}{at_:Sl Int}[q0:aX w0 L at_]:aX w0 L (dH.mk gen at_):=⟨fun w hw=>q0.h w hw⟩
def mG:dH:=⟨0,⟨Sv.none,[]⟩⟩
structure az where
 live:Int
 used:Int
 aU:Int
 bad:Bool
 deriving DecidableEq
def bL(x:az):Array Value:= #[.int .i64 x.live, .int .i64 x.used, .int .i64 x.aU, .bool x.bad]
instance:bp bL 4:=⟨fun _=>rfl,fun x=>by
 simp only[bL,avc,avl,avw,Sv.one,uu,uv,au4]⟩
instance (x:az):gn (bL x) 4:=⟨rfl,bp.one x⟩
instance (x:az):bQ (bL x) 0 (.int .i64 x.live):=⟨rfl⟩
instance (x:az):bQ (bL x) 1 (.int .i64 x.used):=⟨rfl⟩
instance (x:az):bQ (bL x) 2 (.int .i64 x.aU):=⟨rfl⟩
instance (x:az):bQ (bL x) 3 (.bool x.bad):=⟨rfl⟩
def dZ:az:=⟨0,0,0,false⟩
structure cA where
 ae:Cp
 at_:Sl Int
 gen:UInt64
 last:Int
def cD(x:cA):Array Value:= #[.int .i64 x.ae.pages, .int .i64 x.ae.size,x.ae.blocks.sv.val, .int .i64 x.ae.ops, .bool x.ae.off,x.ae.aD.sv.val,x.at_.sv.val, .int .u64 x.gen.toNat, .int .i64 x.last]
instance:bp cD 9:=⟨fun _=>rfl,fun x=>by
 simp only[cD,avc,avl,avw,Sv.one,uu,uv,au4]⟩
instance (x:cA):gn (cD x) 9:=⟨rfl,bp.one x⟩
instance (x:cA):bQ (cD x) 0 (.int .i64 x.ae.pages):=⟨rfl⟩
instance (x:cA):bQ (cD x) 1 (.int .i64 x.ae.size):=⟨rfl⟩
instance (x:cA):bQ (cD x) 2 (x.ae.blocks.sv.val):=⟨rfl⟩
instance (x:cA):bQ (cD x) 4 (.bool x.ae.off):=⟨rfl⟩
instance (x:cA):bQ (cD x) 6 (x.at_.sv.val):=⟨rfl⟩
instance (x:cA):bQ (cD x) 7 (.int .u64 x.gen.toNat):=⟨rfl⟩
instance (x:cA):bQ (cD x) 8 (.int .i64 x.last):=⟨rfl⟩
instance (x:cA):mY (cD x) 0 6 (aV x.ae):=⟨rfl,fun j hj=>by
 match j,hj with
 |0,_=>rfl
 |1,_=>rfl
 |2,_=>rfl
 |3,_=>rfl
 |4,_=>rfl
 |5,_=>rfl⟩
instance:Deep cA where
 c:=9
 cells:=cD
 size:=bp.size
 one:=bp.one
 cK h x:=Deep.cK h x.ae/\Deep.cK h x.at_
 cz x:= .two (Deep.cz x.ae) (Deep.cz x.at_)
 jA h x hs:=⟨Deep.jA h x.ae hs.1,Deep.jA h x.at_ hs.2.1⟩
 mono w w' x hg hb:=⟨Deep.mono w w' x.ae hg.1 hb,Deep.mono w w' x.at_ hg.2 hb⟩
instance:gv cA where
 reach x k:=gv.reach x.ae k\/gv.reach x.at_ k
 congr h h' x e hg:=⟨gv.congr h h' x.ae (fun k hk=>e k (.inl hk)) hg.1,gv.congr h h' x.at_ (fun k hk=>e k (.inr hk)) hg.2⟩
instance{x:cA}[q:aX w0 L x]:aX w0 L x.ae:=⟨fun w hw=>(q.h w hw).1⟩
instance{x:cA}[q:aX w0 L x]:aX w0 L x.at_:=⟨fun w hw=>(q.h w hw).2⟩
instance{ae:Cp}{at_:Sl Int}{gen:UInt64}{last:Int}[q0:aX w0 L ae][q1:aX w0 L at_]:aX w0 L (cA.mk ae at_ gen last):=⟨fun w hw=>⟨q0.h w hw,q1.h w hw⟩⟩
def mH:cA:=⟨gY,⟨Sv.none,[]⟩,0,0⟩
structure aT where
 ak:cA
 beyond:Bool
def aR(x:aT):Array Value:= #[.int .i64 x.ak.ae.pages, .int .i64 x.ak.ae.size,x.ak.ae.blocks.sv.val, .int .i64 x.ak.ae.ops, .bool x.ak.ae.off,x.ak.ae.aD.sv.val,x.ak.at_.sv.val, .int .u64 x.ak.gen.toNat, .int .i64 x.ak.last, .bool x.beyond]
instance (x:aT):bQ (aR x) 0 (.int .i64 x.ak.ae.pages):=⟨rfl⟩
instance (x:aT):bQ (aR x) 1 (.int .i64 x.ak.ae.size):=⟨rfl⟩
instance (x:aT):bQ (aR x) 2 (x.ak.ae.blocks.sv.val):=⟨rfl⟩
instance (x:aT):bQ (aR x) 6 (x.ak.at_.sv.val):=⟨rfl⟩
instance (x:aT):bQ (aR x) 7 (.int .u64 x.ak.gen.toNat):=⟨rfl⟩
instance (x:aT):bQ (aR x) 8 (.int .i64 x.ak.last):=⟨rfl⟩
instance (x:aT):bQ (aR x) 9 (.bool x.beyond):=⟨rfl⟩
instance (x:aT):mY (aR x) 0 9 (cD x.ak):=⟨rfl,fun j hj=>by
 match j,hj with
 |0,_=>rfl
 |1,_=>rfl
 |2,_=>rfl
 |3,_=>rfl
 |4,_=>rfl
 |5,_=>rfl
 |6,_=>rfl
 |7,_=>rfl
 |8,_=>rfl⟩
instance (x:aT):mY (aR x) 0 6 (aV x.ak.ae):=⟨rfl,fun j hj=>by
 match j,hj with
 |0,_=>rfl
 |1,_=>rfl
 |2,_=>rfl
 |3,_=>rfl
 |4,_=>rfl
 |5,_=>rfl⟩
structure jE where
 w:az
 pages:Int
 deriving DecidableEq
def fJ(x:jE):Array Value:= #[.int .i64 x.w.live, .int .i64 x.w.used, .int .i64 x.w.aU, .bool x.w.bad, .int .i64 x.pages]
instance:bp fJ 5:=⟨fun _=>rfl,fun x=>by
 simp only[fJ,avc,avl,avw,Sv.one,uu,uv,au4]⟩
instance (x:jE):gn (fJ x) 5:=⟨rfl,bp.one x⟩
instance (x:jE):bQ (fJ x) 0 (.int .i64 x.w.live):=⟨rfl⟩
instance (x:jE):bQ (fJ x) 1 (.int .i64 x.w.used):=⟨rfl⟩
instance (x:jE):bQ (fJ x) 2 (.int .i64 x.w.aU):=⟨rfl⟩
instance (x:jE):bQ (fJ x) 3 (.bool x.w.bad):=⟨rfl⟩
instance (x:jE):bQ (fJ x) 4 (.int .i64 x.pages):=⟨rfl⟩
def acL:jE:=⟨dZ,0⟩
end Go.Kb
namespace Go.ax
open Go.Kb
section
variable {P:Program} {N:cC} {w0:World} {env:Env} {L:List ai} {d:Option Tmp} {ty:TypeId} {ps:String} {af:Array Edge} {gd:Option (Nat×Bool)}
theorem acM{p:Nat}(h:p<2^32):4294967295^^^p=4294967295 -p:=by
 have e:(BitVec.allOnes 32^^^BitVec.ofNat 32 p).toNat=(~~~(BitVec.ofNat 32 p)).toNat:=by rw[BitVec.allOnes_xor]
 rw[BitVec.toNat_xor,BitVec.toNat_not,BitVec.toNat_allOnes,au7,at5 h]at e;simpa using e
theorem Rl{x:Operand}{a:Int}{p:Nat}{t:TypeId}(hx:ev env x=some (.int .u32 a))(ea:a=(p:Int))(hp:p<2^32):
  Ry P N w0 env L ⟨d, .unOp .xor t x,ty,ps,af,gd⟩ (.int .u32 ((4294967295 -p:Nat):Int)):=fun a w ha _=>by
 subst ea;have h1:(Op.intBits .xor .u32 4294967295 (p:Int)).run P w= .ok (.int .u32 ((4294967295 -p:Nat):Int)) w:=by
  have e2:(BitVec.ofInt 32 4294967295^^^BitVec.ofInt 32 (p:Int)).toNat=4294967295 -p:=by
   rw[zU,BitVec.toNat_xor,au7,at5 hp,←acM hp];rfl
  show Sem.run P (pure (Value.int .u32 (IntKind.u32.wrap ((BitVec.ofInt 32 4294967295^^^BitVec.ofInt 32 (p:Int)).toNat:Int)))) w=_;rw[e2,qO (k:= .u32) (by show 4294967295 -p<4294967296;omega)];rfl
 have h2:Op.unary .xor (.int .u32 (p:Int))=Op.intBits .xor .u32 4294967295 (p:Int):=rfl;simp only[execOp,ha.ev hx,h2,Sem.run_bind,h1,Sem.run_pure,Result.andThen]
theorem acN{x y:Operand}{p:Nat}{a:Int}{k':IntKind}{t u:TypeId}(hx:ev env x=some (.int .u64 a))(hy:ev env y=some (.int k' 8))(ea:a=(p:Int))(hp:p*256<2^64):
  Ry P N w0 env L ⟨d, .binOp .shl t x y u,ty,ps,af,gd⟩ (.int .u64 ((p*256:Nat):Int)):=by
 subst ea;have h:=IX (P:=P) (N:=N) (w0:=w0) (L:=L) (d:=d) (ty:=ty) (ps:=ps) (af:=af) (gd:=gd) (t:=t) (u:=u) hx hy (by decide);have e:IntKind.u64.wrap ((p:Int)*2^min (Int.toNat 8) IntKind.u64.bits)=((p*256:Nat):Int):=by
  have e1:(p:Int)*2^min (Int.toNat 8) IntKind.u64.bits=((p*256:Nat):Int):=by
   rw[show(2:Int)^min (Int.toNat 8) IntKind.u64.bits=256 from by decide];omega
  rw[e1];exact qO hp
 rw[e]at h;exact h
theorem acO{n many i:Nat}(h:i<many):(List.replicate (many -i) (0:UInt8)++be n i).set (many -1 -i) (b8 (n/256^i))=List.replicate (many -(i+1)) 0++be n (i+1):=by
 rw[List.set_append_left _ _ (by simp;omega)];have e:List.replicate (many -i) (0:UInt8)=List.replicate (many -(i+1)) 0++[0]:=by
  rw[show many -i=many -(i+1)+1 by omega,List.replicate_succ',]
 rw[e,avh _ _ (by simp;omega)];simp only[aue,show many -1 -i -(many -(i+1))=0 by omega,auN,atw];rfl
end
end Go.ax
namespace Go.Kb
open Go.ax
def da(n:Int):UInt8:=b8 (n%256).toNat
theorem acP(n:Nat):da (n:Int)=b8 n:=by
 unfold da;rw[show((n:Int)%256).toNat=n%256 by omega,Yy]
theorem AI(n:Int):IntKind.u8.wrap n=((da n).toNat:Int):=by
 unfold da;rw[sG];simp[IntKind.wrap,IntKind.bits,IntKind.signed];omega
def fj(r:Rt):List UInt8:=
 [if r.p.bits=128 then 1 else 0,da r.p.len]++(List.range 16).map (fun i=>b8 (bf r.p.key i))++[b8 (r.dN.toNat/256),b8 r.dN.toNat]
theorem re(r:Rt):(fj r).length=20:=by simp[fj]
theorem Rn(r:Rt):(fj r)[0]? =some (if r.p.bits=128 then 1 else 0):=by simp[fj]
theorem Ro(r:Rt):(fj r)[1]? =some (da r.p.len):=by simp[fj]
theorem Rp(r:Rt)(i:Nat)(h:i<16):(fj r)[2+i]? =some (b8 (bf r.p.key i)):=by
 unfold fj;rw[atw,atz (by simp),atN (by simp;omega)];simp[h]
theorem Rq(r:Rt):(fj r)[18]? =some (b8 (r.dN.toNat/256)):=by simp[fj]
theorem Rr(r:Rt):(fj r)[19]? =some (b8 r.dN.toNat):=by simp[fj]
theorem Rs(r:Rt){AJ:Array Value}(h0:AJ.size=20)(hz:AJ[0]? =some (.int .u8 (if r.p.bits=128 then 1 else 0:Nat))):
  (((over (AJ.setIfInBounds 1 (.int .u8 (da r.p.len).toNat)) 2 (bR r.p.key)).setIfInBounds 18 (.int .u8 (b8 (r.dN.toNat/256)).toNat)).setIfInBounds 19 (.int .u8 (b8 r.dN.toNat).toNat))=(aJ aO (fj r)).toArray:=by
 have hs:(over (AJ.setIfInBounds 1 (.int .u8 (da r.p.len).toNat)) 2 (bR r.p.key)).size=20:=by rw[ph (by simp[eL,h0])];simpa using h0
 refine aut fun j=>?_;have hf: ∀b,(fj r)[j]? =some b->(aJ aO (fj r)).toArray[j]? =some (.int .u8 b.toNat):=fun b hb=>by
  have:=oc (enc:=aO) (fj r) j b hb 0 (by decide);simp only[avy,auH]at this;simpa[aO]using this
 have hk:2+(bR r.p.key).size<=(AJ.setIfInBounds 1 (.int .u8 (da r.p.len).toNat)).size:=by simp[eL,h0]
 rw[aub,aub]
 by_cases Ru:19=j
 ·
  subst Ru;rw[hf _ (Rr r)];simp[hs]
 by_cases CZ:18=j
 ·
  subst CZ;rw[hf _ (Rq r)];simp[hs]
 rw[if_neg Ru,if_neg CZ,tU hk,eL]
 by_cases h2:2<=j/\j<2+16
 ·
  rw[if_pos h2,jh _ _ (by omega)];have:=Rp r (j -2) (by omega);rw[show 2+(j -2)=j by omega]at this;rw[hf _ this,sG];have:=jC r.p.key (j -2);rw[at5 this]
 rw[if_neg h2,aub]
 by_cases h1:1=j
 ·
  subst h1;rw[hf _ (Ro r)];simp[h0]
 rw[if_neg h1]
 by_cases hj:j=0
 ·
  subst hj;rw[hz,hf _ (Rn r)];split<;>rfl
 ·
  have e1:AJ[j]? =none:=by simp;omega
  rw[e1];have:(aJ aO (fj r)).length=20:=by rw[ia,re]
  simp;omega
structure PV where
 kind:Int
 id:Int
 gen:Nat
 body:List UInt8
 deriving DecidableEq
def kl:PV:=⟨0,0,0,[]⟩
def cW(p:fv):PV:=⟨p.kind,p.id,p.gen.toNat,p.body.xs⟩
def oD(n:Int):Bool:=decide (24<=n)&&decide (n<=256)
theorem sZ{n:Int}:oD n=true↔24<=n/\n<=256:=by simp only[oD,ad2,decide_eq_true_eq]
def dW(n:Int):Int:=if oD n=true then n -16 else 0
def mI(p:PV)(n:Int):Bool:=oD n&&(decide (p.kind=1)||decide (p.kind=2))&&decide (0<=p.id)&&decide (p.id<64)&&decide (p.gen<281474976710656)&&decide ((p.body.length:Int)<=dW n)
theorem rM{p:PV}{n:Int}:mI p n=true↔oD n=true/\(p.kind=1\/p.kind=2)/\0<=p.id/\p.id<64/\p.gen<281474976710656/\(p.body.length:Int)<=dW n:=by
 simp only[mI,ad2,auA,decide_eq_true_eq,and_assoc]
def km(b:List UInt8):Bool:=b.all fun x=>decide (x=255)
theorem C0{b:List UInt8}:km b=true↔ ∀x∈b,x=255:=by simp only[km,aty,decide_eq_true_eq]
def jR(p:PV)(n:Nat):List UInt8:=[da p.kind,da p.id]++be p.gen 6++be p.body.length 2++p.body++List.replicate (n -4 -10 -p.body.length) 0
def dt(p:PV)(n:Int):List UInt8×Int:=if mI p n=true then(jR p n.toNat++be (oB (jR p n.toNat)) 4,0)else([],1)
def vN(b:List UInt8):PV:=⟨(b.getD 0 0).toNat,(b.getD 1 0).toNat,de ((b.drop 2).take (8 -2)),[]⟩
def iD(b:List UInt8):Nat:=de ((b.drop 8).take (10 -8))
def mJ(b:List UInt8):List UInt8:=(b.drop 0).take (b.length -4 -0)
def yX(b:List UInt8):List UInt8:=(b.drop (b.length -4)).take (b.length -(b.length -4))
def oE(b:List UInt8):List UInt8:=((mJ b).drop (10+iD b)).take ((mJ b).length -(10+iD b))
def xp(b:List UInt8):Bool:=b.all fun x=>decide (x=0)
theorem KF{b:List UInt8}:xp b=true↔ ∀x∈b,x=0:=by simp only[xp,aty,decide_eq_true_eq]
def pI(b:List UInt8):Bool:=decide ((iD b:Int)<=dW b.length)&&mI (vN b) b.length
def cM(b:List UInt8):PV×Int:=
 if oD b.length=false then(kl,3)
 else if km b=true then(kl,0)
 else if de (yX b)≠oB (mJ b)then(kl,4)
 else if pI b=false then(kl,2)
 else if xp (oE b)=false then(kl,2)
 else({vN b with body:=(b.drop 10).take (10+iD b -10)},0)
theorem Rv(b:List UInt8):iD b<65536:=by
 have h:=QV ((b.drop 8).take (10 -8));have h2:((b.drop 8).take (10 -8)).length<=2:=by rw[atq];omega
 have h3:=auR (show 0<256 by decide) h2;rw[iD];omega
theorem KG(b:List UInt8):de ((b.drop 2).take (8 -2))<281474976710656:=by
 have h:=QV ((b.drop 2).take (8 -2));have h2:((b.drop 2).take (8 -2)).length<=6:=by rw[atq];omega
 have h3:=auR (show 0<256 by decide) h2;omega
def vO(b:List UInt8):fv:=⟨(b.getD 0 0).toNat,(b.getD 1 0).toNat,UInt64.ofNat (de ((b.drop 2).take (8 -2))),⟨Sv.none,[]⟩⟩
theorem Rw(b:List UInt8):(UInt64.ofNat (de ((b.drop 2).take (8 -2)))).toNat=de ((b.drop 2).take (8 -2)):=by
 have:=KG b;rw[UInt64.toNat_ofNat'];omega
theorem Rx(b:List UInt8)(s:Sv)(l:List UInt8):cW {vO b with body:=⟨s,l⟩}={vN b with body:=l}:=by
 simp only[cW,vO,Rw];rfl
theorem KH(b:List UInt8):cW (vO b)=vN b:=Rx b Sv.none []
theorem acQ(b:List UInt8):(mJ b).length=b.length -4:=by rw[mJ,atq,atD];omega
theorem acR{M:Nat}{k d:UInt8}(h:2<=M):((List.replicate M (0:UInt8)).set 0 k).set 1 d=[k,d]++List.replicate (M -2) 0:=by
 obtain⟨m,rfl⟩: ∃m,M=m+2:=⟨M -2,by omega⟩;simp[awb]
theorem KI{A Y:List UInt8}{k N:Nat}(hk:k=A.length):(A++List.replicate N 0).take k++(Y++(A++List.replicate N 0).drop (k+Y.length))=A++Y++List.replicate (N -Y.length) 0:=by
 subst hk;rw[List.take_left',List.drop_append,awh (by omega),aua,List.drop_replicate,aug,atw];rfl
theorem acS{p:PV}{n:Nat}(h:p.body.length+14<=n):(jR p n).length=n -4:=by
 simp only[jR,adr,jL,aue,af0,anc];omega
theorem KJ(b:List UInt8):(cM b).1.body.length<=65536:=by
 have h:=Rv b;rw[cM];split
 ·
  simp[kl]
 split
 ·
  simp[kl]
 split
 ·
  simp[kl]
 split
 ·
  simp[kl]
 split
 ·
  simp[kl]
 simp only[atq];omega
structure RV where
 gen:Nat
 at_:List Int
 deriving DecidableEq
def iq:RV:=⟨0,[]⟩
def dL(r:dH):RV:=⟨r.gen.toNat,r.at_.xs⟩
def kJ(n:Int):Int:=min 64 (dW n/2)
def yY(x:Int):Bool:=decide (0<=x)&&decide (x<=65535)
theorem C1{x:Int}:yY x=true↔0<=x/\x<=65535:=by simp only[yY,ad2,decide_eq_true_eq]
def pJ(r:RV)(n:Int):Bool:= !decide (dW n=0)&&decide (r.gen<281474976710656)&&decide ((r.at_.length:Int)<=kJ n)&&r.at_.all yY
theorem xq{r:RV}{n:Int}:pJ r n=true↔dW n≠0/\r.gen<281474976710656/\(r.at_.length:Int)<=kJ n/\ ∀x∈r.at_,yY x=true:=by
 simp only[pJ,ad2,aus,decide_eq_true_eq,decide_eq_false_iff_not,and_assoc,aty,ne_eq]
def rN(b:List UInt8)(i:Nat):Int:=((tX (b.getD (2*i) 0) (b.getD (2*i+1) 0)).toNat:Int)
def qt(b:List UInt8):List Int:=(List.range (b.length/2)).map (rN b)
def vP(p:PV):Bool:=decide (p.kind=2)&&decide (p.body.length%2=0)&&decide (p.id=max 0 ((p.body.length/2:Nat) -1:Int))
def bF(b:List UInt8):RV×Int:=
 if(cM b).2≠0 then(iq,(cM b).2)
 else if(cM b).1.kind=0 then(iq,6)
 else if vP (cM b).1=false then(iq,2)
 else(⟨(cM b).1.gen,qt (cM b).1.body⟩,0)
def GF(x:Int):List UInt8:=[da (x/256),da x]
def gZ(l:List Int):List UInt8:=(l.map GF).flatten
def cX(r:RV)(n:Int):List UInt8×Int:=if pJ r n=true then dt ⟨2,max 0 ((r.at_.length:Int) -1),r.gen,gZ r.at_⟩ n else([],1)
theorem acT{b:List UInt8}{i:Nat}(h:i<b.length/2):(qt b).take (i+1)=(qt b).take i++[rN b i]:=by
 rw[atr,qt,atx,auU h];rfl
theorem GG(b:List UInt8):(qt b).length=b.length/2:=by simp[qt]
theorem acU{l:List Int}{i:Nat}{x:Int}(h:l[i]? =some x):gZ (l.take (i+1))=gZ (l.take i)++GF x:=by
 simp[gZ,atr,h]
theorem AK(l:List Int):(gZ l).length=2*l.length:=by
 induction l with
 |nil=>rfl
 |cons x l ih=>
  have:gZ (x::l)=GF x++gZ l:=by simp[gZ]
  rw[this,adr,ih];simp only[GF,af0,anc];omega
structure NS where
 at_:Int
 new:RV
 found:Bool
 blank:Bool
 deriving DecidableEq
def yZ(s:NS)(i:Nat)(b:List UInt8):NS:=
 if(bF b).2=0/\(s.found=false\/s.new.gen<=(bF b).1.gen)then⟨i,(bF b).1,true,s.blank&&km b⟩else{s with blank:=s.blank&&km b}
def dF(l:List (List UInt8)):Nat->NS
 |0=>⟨0,iq,false,true⟩
 |k+1=>yZ (dF l k) k (l.getD k [])
def fT(l:List (List UInt8)):Int×RV×Int:=
 if(dF l l.length).found=true then((dF l l.length).at_,(dF l l.length).new,0)else if(dF l l.length).blank=true then(0,iq,6)else(0,iq,2)
theorem Rz{l:List (List UInt8)}{i:Nat}{b:List UInt8}(hb:l[i]? =some b)(h:(bF b).2=0/\((dF l i).found=false\/(dF l i).new.gen<=(bF b).1.gen)):dF l (i+1)=⟨i,(bF b).1,true,(dF l i).blank&&km b⟩:=by
 rw[dF,show l.getD i []=b by simp[List.getD,hb],yZ,if_pos h]
theorem RA{l:List (List UInt8)}{i:Nat}{b:List UInt8}(hb:l[i]? =some b)(h: ¬((bF b).2=0/\((dF l i).found=false\/(dF l i).new.gen<=(bF b).1.gen))):dF l (i+1)={dF l i with blank:=(dF l i).blank&&km b}:=by
 rw[dF,show l.getD i []=b by simp[List.getD,hb],yZ,if_neg h]
structure VV where
 ae:CV
 at_:List Int
 gen:Nat
 last:Int
 deriving DecidableEq
def zCV:CV:=⟨0,0,[],0,false,[]⟩
def lY:VV:=⟨zCV,[],0,0⟩
def vv(v:cA):VV:=⟨cv v.ae,v.at_.xs,v.gen.toNat,v.last⟩
def gx(c:CV):Bool:=aW c&&decide (4<=(c.blocks.length:Int))&&decide (2<=c.pages)&&decide (24<=c.size)
theorem fF{c:CV}:gx c=true↔aW c=true/\4<=(c.blocks.length:Int)/\2<=c.pages/\24<=c.size:=by simp only[gx,ad2,decide_eq_true_eq,and_assoc]
def bP(c:CV)(k:Int):List UInt8:=(aj c (k/c.pages)).pages.getD (k%c.pages).toNat []
def lq(c:CV)(k:Int):Bool:=decide (2<=k/c.pages)&&decide (k/c.pages<(c.blocks.length:Int))&&decide (k%c.pages<(aj c (k/c.pages)).used)
theorem ni{c:CV}{k:Int}:lq c k=true↔2<=k/c.pages/\k/c.pages<(c.blocks.length:Int)/\k%c.pages<(aj c (k/c.pages)).used:=by simp only[lq,ad2,decide_eq_true_eq,and_assoc]
def GH(p:PV×Int)(id:Int):Bool:=decide (p.2=0)&&decide (p.1.kind=1)&&decide (p.1.id=id)
def oG(c:CV)(id n:Int):Bool:=lq c (n -1)&&GH (cM (bP c (n -1))) id
theorem acV(c:CV):{lp c c.aD with off:=c.off}=c:=by
 rw[lp];split<;>rfl
def rO(c:CV)(l:List Int)(i:Nat):Bool:=decide (l.getD i 0=0)||(!(l.take i).contains (l.getD i 0)&&oG c (i:Int) (l.getD i 0))
def vQ(c:CV)(l:List Int):Bool:=(List.range l.length).all (rO c l)
theorem C2{c:CV}{l:List Int}:vQ c l=true↔ ∀i,i<l.length->rO c l i=true:=by simp only[vQ,aty,atX]
def kK(l:List Int)(i:Nat):Int->Option Unit:=fun x=>if x≠0/\x∈l.take i then some ()else none
theorem C3{l:List Int}{i:Nat}{x:Int}:(kK l i x).isSome=decide (x≠0/\x∈l.take i):=by
 unfold kK;split<;>simp_all
theorem RB{l:List Int}:(fun _=>none)=kK l 0:=by
 funext x;simp[kK]
theorem RC{l:List Int}{i:Nat}(h:l[i]? =some 0):kK l (i+1)=kK l i:=by
 funext x
 unfold kK;rw[atr,h]
 by_cases hx:x=0
 ·
  simp[hx]
 simp[hx]
theorem RD{l:List Int}{i:Nat}{y:Int}(h:l[i]? =some y)(hy:y≠0):(fun z=>if z=y then some ()else kK l i z)=kK l (i+1):=by
 funext x
 unfold kK;rw[atr,h]
 by_cases hx:x=y
 ·
  subst hx;simp[hy]
 simp[hx]
theorem qu{l:List Int}{i:Nat}{y:Int}(h:l[i]? =some y):l.getD i 0=y:=by simp[List.getD,h]
def fK(l:List (Sl (Sl UInt8))):List (Sl UInt8):=(l.map Sl.xs).flatten
theorem GI{l:List (Sl (Sl UInt8))}{i:Nat}{x:Sl (Sl UInt8)}(h:l[i]? =some x):fK (l.take (i+1))=fK (l.take i)++x.xs:=by
 rw[fK,atr,h];simp[fK]
theorem acW(l:List (Sl (Sl UInt8)))(i:Nat):(fK (l.take i)).length<=(fK l).length:=by
 have e:fK l=fK (l.take i)++fK (l.drop i):=by
  unfold fK;rw[←List.flatten_append,←atS,auc]
 rw[e,adr];omega
class RE(w0:World)(l:List (Sl UInt8)):Prop where
 h: ∀y∈l,Deep.cK (hp w0) y
variable {w0:World}{L:List ai}
instance aX.row{x:Sv}{l:List (Sl UInt8)}{i:Nat}[q:fX L x (cq (τ:=UInt8)) 1 l i][m:RE w0 l]:aX w0 L (⟨x,l⟩:Sl (Sl UInt8)):=
 ⟨fun w hw=>⟨(hw.get q.h).1,fun y hy=>Deep.mono w0 w y (m.h y hy) hw.below⟩⟩
def bW(c:CV):Int×RV×Int:=fT ((aj c 0).pages++(aj c 1).pages)
def nj(c:CV):Bool:=decide ((bW c).1%c.pages<(aj c ((bW c).1/c.pages)).used)&&vQ c (bW c).2.1.at_
def bE(c:CV):VV×Int:=
 if gx c=false then(lY,1)
 else if c.off=true then(lY,7)
 else if(bW c).2.2≠0 then(lY,(bW c).2.2)
 else if nj c=false then(lY,2)
 else(⟨c,(bW c).2.1.at_,(bW c).2.1.gen,(bW c).1/c.pages⟩,0)
theorem RF(l:List (List UInt8)): ∀k,k<=l.length->(dF l k).at_=0\/(0<=(dF l k).at_/\(dF l k).at_<k)
 |0,_=> .inl rfl
 |k+1,h=>by
  have:=RF l k (by omega);rw[dF,yZ];split
  ·
   exact .inr ⟨by simp only;omega,by simp only;omega⟩
  simp only;omega
theorem KK{l:List (List UInt8)}(h:0<l.length):0<=(fT l).1/\(fT l).1<l.length:=by
 have:=RF l l.length (att _);rw[fT];split
 ·
  simp only;omega
 split<;>(simp only;omega)
theorem acX(b:List UInt8): ∀x∈qt b,0<=x/\x<=65535:=by
 intro x hx;obtain⟨i,_,rfl⟩:=auq.1 hx;have:=(tX (b.getD (2*i) 0) (b.getD (2*i+1) 0)).toNat_lt;simp only[rN];omega
theorem acY(b:List UInt8): ∀x∈(bF b).1.at_,0<=x/\x<=65535:=by
 rw[bF];split
 ·
  simp[iq]
 split
 ·
  simp[iq]
 split
 ·
  simp[iq]
 exact acX _
theorem RG(l:List (List UInt8)): ∀k,∀x∈(dF l k).new.at_,0<=x/\x<=65535
 |0=>by simp[dF,iq]
 |k+1=>by
  have:=RG l k;rw[dF,yZ];split
  ·
   exact acY _
  exact this
theorem RH(l:List (List UInt8)): ∀x∈(fT l).2.1.at_,0<=x/\x<=65535:=by
 rw[fT];split
 ·
  exact RG _ _
 split<;>simp[iq]
theorem KL(a b:Sl (Sl UInt8)):aP (fK [a,b])=aP a.xs++aP b.xs:=by simp[aP,fK]
theorem KM{c:Cp}{i:Nat}{B:Bk}(h:c.blocks.xs[i]? =some B):aj (cv c) (i:Int)=bv B:=by
 rw[←yW];simp[List.getD,h]
theorem acZ(b:List UInt8):(bF b).1.at_.length<=65536:=by
 have h:=KJ b;rw[bF];split
 ·
  simp[iq]
 split
 ·
  simp[iq]
 split
 ·
  simp[iq]
 simp only[GG];omega
theorem RI(l:List (List UInt8)): ∀k,(dF l k).new.at_.length<=65536
 |0=>by simp[dF,iq]
 |k+1=>by
  have:=RI l k;rw[dF,yZ];split
  ·
   exact acZ _
  exact this
theorem ac0(l:List (List UInt8)):(fT l).2.1.at_.length<=65536:=by
 rw[fT];split
 ·
  exact RI _ _
 split<;>simp[iq]
theorem RJ(c:CV):(bE c).1.at_.length<=65536:=by
 have h:=ac0 ((aj c 0).pages++(aj c 1).pages);rw[bE];split
 ·
  simp[lY]
 split
 ·
  simp[lY]
 split
 ·
  simp[lY]
 split
 ·
  simp[lY]
 exact h
theorem KN{c:CV}(h:(bE c).2=0):gx c=true:=by
 cases hb:gx c with
 |true=>rfl
 |false=>rw[bE,if_pos hb]at h;cases h
def mK(x:VV):Bool:=decide ((bE {x.ae with off:=false}).2=0)&&decide ((bE {x.ae with off:=false}).1.gen=x.gen)&&decide ((bE {x.ae with off:=false}).1.last=x.last)&&decide ((bE {x.ae with off:=false}).1.at_=x.at_)
theorem ac1{w0 w:World}{L:List ai}(h:Mem w0 L w):Mem w0 (fz gY::L) w:=
 Gn (d:=gY) (Mem.freeze (es:=[]) _ ⟨eJ.nil _ _ _,fun x hx=>by cases hx⟩ (fun k hk=>by
  rcases hk with⟨cd,_⟩|⟨x,hx,_⟩
  ·
   exact absurd rfl cd
  cases hx) (Rh (s:=Sv.none) Sv.Cc rfl h))
class RL(a:Cp)(b:outParam Cp):Prop where
 h:a=b
instance aX.ao4{v:cA}{c:Cp}[e:RL v.ae c][q1:aX w0 L c][q2:aX w0 L v.at_]:aX w0 L v:=
 ⟨fun w hw=>⟨by rw[e.h];exact q1.h w hw,q2.h w hw⟩⟩
def jl(c:CV)(n:Int):List UInt8:=if(cM (bP c (n -1))).2=0 then(cM (bP c (n -1))).1.body else[]
theorem KO{c:CV}(h:(bE c).2=0):gx c=true/\nj c=true/\bE c=(⟨c,(bW c).2.1.at_,(bW c).2.1.gen,(bW c).1/c.pages⟩,0):=by
 have hb:=KN h
 by_cases h1:c.off=true
 ·
  rw[bE,if_neg (by rw[hb];simp),if_pos h1]at h;cases h
 by_cases h2:(bW c).2.2≠0
 ·
  rw[bE,if_neg (by rw[hb];simp),if_neg h1,if_pos h2]at h;exact absurd h h2
 cases h3:nj c with
 |false=>rw[bE,if_neg (by rw[hb];simp),if_neg h1,if_neg h2,if_pos h3]at h;cases h
 |true=>exact⟨hb,rfl,by rw[bE,if_neg (by rw[hb];simp),if_neg h1,if_neg h2,if_neg (by rw[h3];simp)]⟩
theorem C4{x:VV}(h:mK x=true):aW x.ae=true/\vQ x.ae x.at_=true/\ ∀y∈x.at_,0<=y/\y<=65535:=by
 simp only[mK,ad2,decide_eq_true_eq]at h;obtain⟨⟨⟨h1,h2⟩,h3⟩,h4⟩:=h;obtain⟨hb,hl,hf⟩:=KO h1;rw[hf]at h4;simp only at h4;simp only[nj,ad2,decide_eq_true_eq]at hl;rw[h4]at hl;refine⟨(fF.1 hb).1,hl.2,?_⟩;rw[←h4];exact RH _
theorem RM{x:VV}(h:mK x=true){i:Nat}{y:Int}(hy:x.at_[i]? =some y)(h0:y≠0):1<=y/\y<=1000000/\lq x.ae (y -1)=true:=by
 obtain⟨h1,h2,h3⟩:=C4 h;have hr:=h3 y (alM hy);have hp:=C2.1 h2 i (zz.1 hy).1;rw[rO,qu hy]at hp;simp only[auA,decide_eq_true_eq,ad2]at hp;rcases hp with hp|hp
 ·
  exact absurd hp h0
 have hn:=hp.2;rw[oG,ad2]at hn;exact⟨by omega,by omega,hn.1⟩
def nQ(l:List Int)(j:Nat):Bool:=decide (l.getD j 0≠0)&& !(l.take j).contains (l.getD j 0)
def ko(pages:Int)(l:List Int)(k i:Nat):Nat:=((List.range k).filter fun j=>nQ l j&&decide ((l.getD j 0 -1)/pages=(i:Int)+2)).length
def ux(b:BV)(live:Nat):az:=⟨live,b.used,b.aU,b.bad⟩
def kr(c:CV)(l:List Int)(k:Nat):List az:=(List.range (c.blocks.length -2)).map fun i:Nat=>ux (aj c ((i:Int)+2)) (ko c.pages l k i)
def jm(c:CV)(l:List Int):List az:=kr c l l.length
theorem AL(c:CV)(l:List Int)(k:Nat):(kr c l k).length=c.blocks.length -2:=by simp[kr]
theorem C5(pages:Int)(l:List Int)(k i:Nat):ko pages l (k+1) i=ko pages l k i+(if nQ l k&&decide ((l.getD k 0 -1)/pages=(i:Int)+2)then 1 else 0):=by
 rw[ko,auF,auG,adr,ko];congr 1;simp only[auu,avB];split<;>rfl
theorem ac2{c:CV}{l:List Int}{k:Nat}(h:nQ l k=false):kr c l (k+1)=kr c l k:=by
 refine auw fun i _=>?_;rw[C5,h];simp
theorem ac3{l:List Int}{i:Nat}{y:Int}(h:l[i]? =some y)(hy:y≠0/\y∈l.take i):kK l (i+1)=kK l i:=by
 funext x
 unfold kK;rw[atr,h]
 by_cases hx:x=y
 ·
  subst hx;simp[hy.1,hy.2]
 simp[hx]
theorem ac4{c:CV}{l:List Int}{k i:Nat}{x:az}(h:nQ l k=true)(hi:(l.getD k 0 -1)/c.pages=(i:Int)+2)(hx:(kr c l k)[i]? =some x):kr c l (k+1)=(kr c l k).set i {x with live:=x.live+1}:=by
 have fg:i<c.blocks.length -2:=by have:=(zz.1 hx).1;rwa [AL]at this
 have kL:x=ux (aj c ((i:Int)+2)) (ko c.pages l k i):=by
  rw[kr,atx,auU fg]at hx;exact(atl hx).symm
 refine auz fun j=>?_;rw[auo]
 by_cases hj:i=j
 ·
  subst hj;rw[if_pos rfl,if_pos (by rw[AL];exact fg),kr,atx,auU fg,at3,C5,h,hi,kL];simp[ux]
 rw[if_neg hj,kr,kr,atx,atx];rcases atA j (c.blocks.length -2)with j9|j9
 ·
  rw[auU j9,at3,at3,C5,h,hi];simp only[aup];rw[decide_eq_false (by omega)];simp
 rw[atB (by simpa using j9)];rfl
def aw(l:List (Sl Int)):List Int:=(l.map Sl.xs).flatten
theorem RN{l:List (Sl Int)}{i:Nat}{x:Sl Int}(h:l[i]? =some x):aw (l.take (i+1))=aw (l.take i)++x.xs:=by
 rw[aw,atr,h];simp[aw]
theorem ac5{l:List (Sl Int)}{i j:Nat}{x:Sl Int}{y:Int}(h:l[i]? =some x)(hy:x.xs[j]? =some y):(aw l)[(aw (l.take i)).length+j]? =some y:=by
 have hj:=(zz.1 hy).1;have e:aw l=aw (l.take (i+1))++aw (l.drop (i+1)):=by
  unfold aw;rw[←List.flatten_append,←atS,auc]
 rw[e,RN h,atN (by rw[adr];omega),atz (by omega),aua,hy]
def xr(c:CV)(l:List Int):Prop:=(aW c=true/\l.length<=1000000)/\2<=c.blocks.length/\ ∀n∈l,n=0\/(1<=n/\n<=1000000/\2<=(n -1)/c.pages/\(n -1)/c.pages<(c.blocks.length:Int))
theorem ac6(c:CV)(l:List Int):kr c l 0=(List.range (c.blocks.length -2)).map fun i:Nat=>ux (aj c ((i:Int)+2)) 0:=by
 refine auw fun i _=>?_;simp[ko]
theorem RO(pages:Int)(l:List Int)(k i:Nat):ko pages l k i<=k:=by
 rw[ko];exact avU (avJ _ _) (by simp)
theorem ac7{c:CV}{l:List Int}{k i:Nat}{z:az}(h:(kr c l k)[i]? =some z):0<=z.live/\z.live<=k:=by
 rw[kr,atx,au1]at h;obtain⟨j,_,rfl⟩:=h;have:=RO c.pages l k j;simp only[ux];omega
def y0(a b:Int):Int:=if a<b then -1 else if b<a then 1 else 0
def nk(p:Int)(x:az):Bool:= !x.bad&&decide (x.used<p)
def mL(x:az):Bool:= !x.bad&&decide (x.live=0)&&decide (0<x.used)
def y5(p:Int)(x:az):Bool:=if x.bad=true then decide (0<x.live)else decide (x.used=p)&&decide (0<x.live)&&decide (x.live<p)
def AM(a b:az):Int:=y0 b.used a.used
def s0(a b:az):Int:=y0 a.aU b.aU
def KP(a b:az):Int:=y0 a.live b.live
def AN(a b:az):Int:=if a.bad=b.bad then 0 else if a.bad=true then -1 else 1
def xu(p:Int)(x:az):Bool:=decide (0<=x.live)&&decide (x.live<=x.used)&&decide (x.used<=p)&&decide (0<=x.aU)&&decide (x.aU<=cS)
theorem rP{p:Int}{x:az}:xu p x=true↔0<=x.live/\x.live<=x.used/\x.used<=p/\0<=x.aU/\x.aU<=cS:=by
 simp only[xu,ad2,decide_eq_true_eq,and_assoc]
def mM(l:List az)(p:Int):Bool:=decide (1<=(l.length:Int))&&decide ((l.length:Int)<=32)&&decide (1<=p)&&decide (p<=16)&&l.all (xu p)
theorem s8{l:List az}{p:Int}:mM l p=true↔1<=(l.length:Int)/\(l.length:Int)<=32/\1<=p/\p<=16/\ ∀x∈l,xu p x=true:=by
 simp only[mM,ad2,decide_eq_true_eq,and_assoc,aty]
def uy(a b:az):List (az->az->Int)->Bool
 |[]=>false
 |o::r=>if o a b≠0 then decide (o a b<0)else uy a b r
def AO(l:List az)(eC:az->Bool)(os:List (az->az->Int))(i:Nat)(s:Int×Bool):Int×Bool:=
 if eC (l.getD i dZ)=true/\(s.2=false\/uy (l.getD i dZ) (l.getD s.1.toNat dZ) os=true)then((i:Int),true)else s
def iM(l:List az)(eC:az->Bool)(os:List (az->az->Int)):Nat->Int×Bool
 |0=>(0,false)
 |k+1=>AO l eC os k (iM l eC os k)
def gg(l:List az)(p:Int)(eC:az->Bool)(os:List (az->az->Int)):Int×Bool:=
 if mM l p=true then iM l eC os l.length else(0,false)
def fD(l:List az)(p:Int):Int×Bool:=gg l p (nk p) [AM,s0]
def fG(l:List az)(p:Int):Int×Bool:=gg l p mL [s0]
def vR(l:List az)(p:Int):Int×Bool:=gg l p (y5 p) [AN,KP,s0]
def oH(p:Int)(x:az):Int:=if mL x=true then p else if nk p x=true then p -x.used else 0
def fL:List Int->Int
 |[]=>0
 |x::r=>x+fL r
def GJ(l:List az)(p:Int):Int:=if mM l p=true then fL (l.map (oH p))else 0
theorem RP(a b:List Int):fL (a++b)=fL a+fL b:=by
 induction a with
 |nil=>simp[fL]
 |cons x r ih=>simp only[auL,fL,ih];omega
theorem KQ(l:List az)(eC:az->Bool)(os:List (az->az->Int)): ∀k,0<=(iM l eC os k).1/\(iM l eC os k).1<=k/\((iM l eC os k).2=true->(iM l eC os k).1<k/\eC (l.getD (iM l eC os k).1.toNat dZ)=true)
 |0=>⟨by simp[iM],by simp[iM],fun h=>by simp[iM]at h⟩
 |k+1=>by
  obtain⟨h1,h2,h3⟩:=KQ l eC os k;rw[iM,AO];split
  ·
   rename_i h;exact⟨by simp only;omega,by simp only;omega,fun _=>⟨by simp only;omega,by simpa using h.1⟩⟩
  exact⟨h1,by omega,fun h=>⟨by have:=(h3 h).1;omega,(h3 h).2⟩⟩
theorem RQ{l:List az}{eC:az->Bool}{os:List (az->az->Int)}: ∀{k},(iM l eC os k).2=false-> ∀i,i<k->eC (l.getD i dZ)=false
 |0,_,i,hi=>by omega
 |k+1,h,i,hi=>by
  rw[iM,AO]at h;split at h
  ·
   cases h
  rename_i hn
  by_cases e:i=k
  ·
   subst e
   cases hr:eC (l.getD i dZ)with
   |false=>rfl
   |true=>exact absurd ⟨hr, .inl h⟩ hn
  exact RQ h i (by omega)
theorem AP{l:List az}{p:Int}{eC:az->Bool}{os:List (az->az->Int)}(h:(gg l p eC os).2=true):mM l p=true/\0<=(gg l p eC os).1/\(gg l p eC os).1<l.length/\eC (l.getD (gg l p eC os).1.toNat dZ)=true:=by
 unfold gg at h⊢;split at h
 ·
  rename_i hw;rw[if_pos hw];obtain⟨h1,h2,h3⟩:=KQ l eC os l.length;exact⟨hw,h1,(h3 h).1,(h3 h).2⟩
 cases h
theorem uz{l:List az}{p:Int}{eC:az->Bool}{os:List (az->az->Int)}(hw:mM l p=true)(h:(gg l p eC os).2=false): ∀x∈l,eC x=false:=fun x hx=>by
 unfold gg at h;rw[if_pos hw]at h;obtain⟨i,hi⟩:=atH hx;have fg:=(zz.1 hi).1;have:=RQ h i fg;rwa [show l.getD i dZ=x by simp[List.getD,hi]]at this
theorem drop_at{α:Type}{l:List α}{i:Nat}{e:α}(he:l[i]? =some e):l.drop i=e::l.drop (i+1):=by
 obtain⟨hi,rfl⟩:=zz.1 he;rw[List.getElem_cons_drop]
theorem ac8{p:Int}{x:az}(h:xu p x=true)(hp:1<=p):0<=oH p x/\oH p x<=p:=by
 obtain⟨h1,h2,h3,_⟩:=rP.1 h;rw[oH];split
 ·
  omega
 split<;>omega
theorem RR(p:Int): ∀l:List az,(∀x∈l,xu p x=true)->1<=p->0<=fL (l.map (oH p))/\fL (l.map (oH p))<=(l.length:Int)*p
 |[],_,_=>by simp[fL]
 |x::r,h,hp=>by
  have h1:=RR p r (fun y hy=>h y (atF _ hy)) hp;have h2:=ac8 (h x at2) hp;rw[atI,fL,af0,Int.natCast_add,Int.add_mul];omega
theorem room_le{n:Nat}{p:Int}(h:n<=32)(h1:1<=p)(h2:p<=16):(n:Int)*p<=512:=by
 have:(n:Int)*p<=32*16:=awl (by omega) h2 (by omega) (by omega);omega
structure dU(c d:CV):Prop where
 pages:d.pages=c.pages
 size:d.size=c.size
 len:d.blocks.length=c.blocks.length
theorem dU.dk(c:CV):dU c c:=⟨rfl,rfl,rfl⟩
theorem dU.trans{c d e:CV}(h:dU c d)(g:dU d e):dU c e:=⟨g.pages.trans h.pages,g.size.trans h.size,g.len.trans h.len⟩
theorem ac9(c:CV)(b g:Int)(p:List UInt8):dU c (gF c b g p):=by
 rw[gF];split
 ·
  exact⟨rfl,rfl,by simp[iL]⟩
 exact .dk c
theorem ada(c:CV)(b:Int):dU c (gf c b):=by
 rw[gf];split
 ·
  exact⟨rfl,rfl,by simp[lj]⟩
 exact .dk c
theorem adb(c:CV)(b:Int):dU c (lX c b):=by
 rw[lX];split
 ·
  exact⟨rfl,rfl,by simp⟩
 exact .dk c
theorem KR{c:CV}(h:aW c=true){o:Int}{f:Bool}(h0:0<=o)(h1:o<=cS){i:Nat}{B:BV}(hB:ra c.pages c.size B=true):aW {c with ops:=o,off:=f,blocks:=c.blocks.set i B}=true:=by
 obtain⟨k1,k2,k3,k4,k5⟩:=eM.1 h;refine eM.2 ⟨by simpa using k1,h0,h1,k4,fun b hb=>?_⟩;rcases at0 hb with hb|rfl
 ·
  exact k5 b hb
 exact hB
theorem KS{c:CV}(h:aW c=true)(b g:Int)(p:List UInt8):aW (gF c b g p)=true:=by
 rw[gF];split
 ·
  rename_i hk;obtain⟨k1,k2,k3,k4⟩:=hk;obtain⟨j1,j2,j3,j4,j5⟩:=jQ.1 k1;obtain⟨o1,o2,o3,o4,o5,o6⟩:=fu.1 (rb j1);have:=(eM.1 h).2.1;refine KR h (by omega) (by omega) (fu.2 ⟨by simpa using o1,by simp only;omega,by simp only;omega,o4,o5,fun x hx=>?_⟩);rcases at0 hx with hx|rfl
  ·
   exact o6 x hx
  rw[pE];split
  ·
   simpa[df]using j4
  exact j4
 exact h
theorem KT{c:CV}(h:aW c=true)(b:Int):aW (gf c b)=true:=by
 rw[gf];split
 ·
  rename_i hk;obtain⟨k1,k2,k3⟩:=hk;obtain⟨j1,j2,j3⟩:=qp.1 k1;obtain⟨o1,o2,o3,o4,o5,o6⟩:=fu.1 (rb j1);have:=(eM.1 h).2.1;have hs:=mF.1 (eM.1 h).1;have hl:(sY c (aj c b).pages).length=(aj c b).pages.length:=by rw[sY];split<;>simp
  refine KR h (by omega) (by omega) (fu.2 ⟨by rw[hl];exact o1,?_,?_,by simp only;omega,by simp only;omega,fun x hx=>?_⟩)
  ·
   simp only;split<;>omega
  ·
   simp only;split<;>omega
  rw[sY]at hx;split at hx
  ·
   obtain⟨y,hy,rfl⟩:=auq.1 hx;simpa[df]using o6 y hy
  obtain⟨y,hy,rfl⟩:=auq.1 hx;simp only[ik,aue];omega
 exact h
theorem RS{c:CV}(h:aW c=true)(b:Int):aW (lX c b)=true:=by
 rw[lX];split
 ·
  rename_i hk;have hh:ig c b=true:=by
   rw[qq]at hk;split at hk
   ·
    assumption
   cases hk
  obtain⟨o1,o2,o3,o4,o5,o6⟩:=fu.1 (rb hh);have k:=eM.1 h;exact KR (o:=c.ops) (f:=c.off) h k.2.1 k.2.2.1 (fu.2 ⟨o1,o2,o3,o4,o5,o6⟩)
 exact h
def ei(c:CV)(b:Int):Int:=if(aj c b).bad=true then 0 else c.pages -(aj c b).used
def iN(c:CV)(b e:Int):CV:=if e=9 then lX c b else c
def bA(c:CV)(b:Int)(p:List UInt8):Int:=kj c b (aj c b).used p
def bx(c:CV)(b:Int)(p:List UInt8):CV:=iN (gF c b (aj c b).used p) b (bA c b p)
def du(c:CV)(b:Int):CV:=iN (gf c b) b (dY c b)
def iO(c:CV):List UInt8:=(dt ⟨1,0,0,[]⟩ c.size).1
def eS:Nat->CV->Int->CV×Int
 |0,c,b=>(du c b,dY c b)
 |n+1,c,b=>if bA c b (iO c)≠0 then(bx c b (iO c),bA c b (iO c))else eS n (bx c b (iO c)) b
def cG(c:CV)(b:Int):CV×Int:=eS (ei c b).toNat c b
theorem RT{c:CV}(h:aW c=true)(b e:Int):aW (iN c b e)=true:=by
 rw[iN];split
 ·
  exact RS h b
 exact h
theorem GK(c:CV)(b e:Int):dU c (iN c b e):=by
 rw[iN];split
 ·
  exact adb c b
 exact .dk c
theorem lZ{c:CV}(h:aW c=true)(b:Int)(p:List UInt8):aW (bx c b p)=true:=RT (KS h _ _ _) _ _
theorem iP(c:CV)(b:Int)(p:List UInt8):dU c (bx c b p):=(ac9 _ _ _ _).trans (GK _ _ _)
theorem C6{c:CV}(h:aW c=true)(b:Int):aW (du c b)=true:=RT (KT h _) _ _
theorem xv(c:CV)(b:Int):dU c (du c b):=(ada _ _).trans (GK _ _ _)
theorem RU: ∀(n:Nat) {c:CV} (b:Int),aW c=true->aW (eS n c b).1=true/\dU c (eS n c b).1
 |0,c,b,h=>⟨C6 h b,xv c b⟩
 |n+1,c,b,h=>by
  rw[eS];split
  ·
   exact⟨lZ h _ _,iP _ _ _⟩
  have:=RU n b (lZ h b (iO c));exact⟨this.1,(iP _ _ _).trans this.2⟩
theorem xw{c:CV}(b:Int)(h:aW c=true):aW (cG c b).1=true/\dU c (cG c b).1:=RU _ b h
theorem qv{c:CV}{b:Int}{p:List UInt8}(h:bA c b p=0):oC c b (aj c b).used p=true/\c.off=false/\(aj c b).bad=false/\(br c).2=false/\bx c b p=iL c b (aj c b).used p:=by
 have h0:=h;rw[bA,kj]at h
 by_cases h1:oC c b (aj c b).used p=true
 ·
  rw[if_pos h1]at h
  by_cases h2:c.off=true
  ·
   rw[if_pos h2]at h;cases h
  rw[if_neg h2]at h
  by_cases h3:(aj c b).bad=true\/(aj c b).used≠(aj c b).used
  ·
   rw[if_pos h3]at h;cases h
  rw[if_neg h3]at h;have zR:(aj c b).bad=false:=by
   cases hb:(aj c b).bad with
   |false=>rfl
   |true=>exact absurd (.inl hb) h3
  by_cases h4:(br c).2=true
  ·
   rw[if_pos h4,lW]at h;split at h<;>cases h
  refine⟨h1,by simpa using h2,zR,by simpa using h4,?_⟩;rw[bx,iN,h0,if_neg (by decide),gF,if_pos ⟨h1,by simpa using h2,zR,rfl⟩]
 rw[if_neg h1]at h;cases h
theorem rf{c:CV}{b:Int}(h:ig c b=true){o:Int}{f:Bool}{B:BV}:aj {c with ops:=o,off:=f,blocks:=c.blocks.set b.toNat B} b=B:=by
 obtain⟨_,h2,h3⟩:=ij.1 h;simp only[aj,List.getD,atE (show b.toNat<c.blocks.length by omega),avb]
theorem RW{c:CV}{b:Int}{p:List UInt8}(h:bA c b p=0):ei (bx c b p) b=ei c b -1:=by
 obtain⟨h1,h2,h3,h4,h5⟩:=qv h;have hh:=(jQ.1 h1).1;rw[h5,ei,ei,iL,rf hh];simp only[h3];simp only[at1,if_false];omega
theorem ade{c:CV}{b:Int}(h:0<ei c b):cG c b=if bA c b (iO c)≠0 then(bx c b (iO c),bA c b (iO c))else cG (bx c b (iO c)) b:=by
 obtain⟨n,hn⟩: ∃n,(ei c b).toNat=n+1:=⟨(ei c b).toNat -1,by omega⟩;rw[cG,hn,eS];split
 ·
  rfl
 rename_i h0;have rL:bA c b (iO c)=0:=by simpa using h0
 rw[cG,RW rL,show(ei c b -1).toNat=n by omega]
theorem adf{c:CV}{b:Int}(h: ¬0<ei c b):cG c b=(du c b,dY c b):=by
 rw[cG,show(ei c b).toNat=0 by omega];rfl
theorem C7(c:CV)(b e:Int):(iN c b e).ops=c.ops:=by
 rw[iN];split
 ·
  rw[lX];split<;>rfl
 rfl
theorem adg(c:CV)(b g:Int)(p:List UInt8):c.ops<=(gF c b g p).ops:=by
 rw[gF];split
 ·
  simp only[iL];omega
 omega
theorem adh(c:CV)(b:Int):c.ops<=(gf c b).ops:=by
 rw[gf];split
 ·
  simp only[lj];omega
 omega
theorem uA{c:CV}{b:Int}{p:List UInt8}(hb:(aj c b).bad=false)(he:bA c b p=9\/bA c b p=0):(bx c b p).ops=c.ops+1:=by
 rw[bx,C7,gF];rw[bA,kj]at he
 by_cases h1:oC c b (aj c b).used p=true
 ·
  rw[if_pos h1]at he
  by_cases h2:c.off=true
  ·
   rw[if_pos h2]at he;omega
  rw[if_pos ⟨h1,by simpa using h2,hb,rfl⟩];rfl
 rw[if_neg h1]at he;omega
theorem adi{c:CV}{b:Int}(hb:(aj c b).bad=false)(he:dY c b=9\/dY c b=0):(du c b).ops=c.ops+1:=by
 rw[du,C7,gf];rw[dY]at he
 by_cases h1:pF c b=true
 ·
  rw[if_pos h1]at he
  by_cases h2:c.off=true
  ·
   rw[if_pos h2]at he;omega
  rw[if_pos ⟨h1,by simpa using h2,hb⟩];rfl
 rw[if_neg h1]at he;omega
theorem adj{c:CV}{b:Int}{p:List UInt8}(h:bA c b p=0):(aj (bx c b p) b).bad=false:=by
 obtain⟨h1,h2,h3,h4,h5⟩:=qv h;rw[h5,iL,rf (jQ.1 h1).1];exact h3
theorem y7(c:CV)(b:Int)(p:List UInt8):c.ops<=(bx c b p).ops:=by rw[bx,C7];exact adg _ _ _ _
theorem RX(c:CV)(b:Int):c.ops<=(du c b).ops:=by rw[du,C7];exact adh _ _
theorem AQ: ∀(n:Nat) (c:CV) (b:Int),c.ops<=(eS n c b).1.ops
 |0,c,b=>RX c b
 |n+1,c,b=>by
  rw[eS];split
  ·
   exact y7 _ _ _
  have:=AQ n (bx c b (iO c)) b;have:=y7 c b (iO c);omega
theorem RY: ∀(n:Nat) {c:CV} {b:Int},(aj c b).bad=false->(eS n c b).2=9\/(eS n c b).2=0->c.ops<(eS n c b).1.ops
 |0,c,b,hb,he=>by have:=adi hb he;simp only[eS];omega
 |n+1,c,b,hb,he=>by
  rw[eS]at he⊢
  by_cases h0:bA c b (iO c)≠0
  ·
   rw[if_pos h0]at he⊢;have:=uA hb (p:=iO c) (he.imp id fun h=>h);simp only;omega
  rw[if_neg h0]at he⊢;have rL:bA c b (iO c)=0:=by simpa using h0
  have:=RY n (adj rL) he;have:=y7 c b (iO c);omega
theorem GL{c:CV}{b:Int}(hb:(aj c b).bad=false)(he:(cG c b).2=9\/(cG c b).2=0):c.ops<(cG c b).1.ops:=RY _ hb he
def bc:az:=⟨0,0,0,true⟩
def pK(x:az):az:=if x.bad=true then bc else x
def au(c:CV)(fl:List Int):List az:=(jm c fl).map pK
def iE(R:az->Bool)(x:az):az:=if x.bad=true\/R x=false then bc else x
def cg(R:az->Bool)(l:List az):List az:=l.map (iE R)
theorem l5(c:CV)(fl:List Int):(au c fl).length=c.blocks.length -2:=by rw[au,atM,jm,AL]
theorem xx(R:az->Bool)(l:List az):(cg R l).length=l.length:=by simp[cg]
structure WV where
 v:VV
 beyond:Bool
 deriving DecidableEq
def WV.on(x:WV)(c:CV):WV:={x with v:={x.v with ae:=c}}
theorem uB{c:Cp}{b:Int}{B:Bk}(h:c.blocks.xs[b.toNat]? =some B):aj (cv c) b=bv B:=by
 rw[←yW];simp[List.getD,h]
def nR(c:CV):Nat:=(c.blocks.filter fun b=>b.bad).length
def lr(p:List UInt8):Nat:=if(bF p).2=0 then(bF p).1.gen else 0
def uC(l:List (List UInt8)):Nat:=l.foldl (fun m p=>max m (lr p)) 0
def l6(c:CV)(b:Int):Nat:=uC (aj c b).pages
theorem adk{l:List (List UInt8)}{i:Nat}{p:List UInt8}(h:l[i]? =some p):uC (l.take (i+1))=max (uC (l.take i)) (lr p):=by
 rw[uC,atr,h];simp[uC]
theorem RZ(b:List UInt8):(cM b).1.gen<281474976710656:=by
 have:=KG b;rw[cM];split
 ·
  simp[kl]
 split
 ·
  simp[kl]
 split
 ·
  simp[kl]
 split
 ·
  simp[kl]
 split
 ·
  simp[kl]
 exact this
theorem R0(p:List UInt8):lr p<281474976710656:=by
 rw[lr];split
 ·
  rw[bF];split
  ·
   simp[iq]
  split
  ·
   simp[iq]
  split
  ·
   simp[iq]
  exact RZ p
 omega
theorem KU(l:List (List UInt8)):uC l<281474976710656:=by
 have: ∀(l:List (List UInt8)) (m:Nat),m<281474976710656->l.foldl (fun m p=>max m (lr p)) m<281474976710656:=by
  intro l
  induction l with
  |nil=>intro m h;exact h
  |cons p r ih=>
   intro m h;have:=R0 p;exact ih _ (Nat.max_lt.2 ⟨h,this⟩)
 exact this l 0 (by omega)
def C8(c:CV)(b:Int):Bool:= !(aj c b).bad&&(decide (0<(aj c b).used)||(decide (b<2)&&decide (0<l6 c b)))
def gP(c:CV)(b:Int):Nat:=max 1 (l6 c (1 -b)+(1 -b).toNat)
def vS(c:CV)(last:Int):Int:=if(aj c (1 -last)).bad=true then ei c last else if(aj c last).bad=true/\0<ei c (1 -last)then ei c (1 -last)else c.pages
def AR(g:Nat):Bool:=decide (281474976710656<=g+2)
def jS(e:Int):Int:=if e=9 then 0 else e
theorem R5{f:az->az}{l:List az}{i:Nat}{x:az}(h:l[i]? =some x):((l.take i).map f++l.drop i).set i (f x)=(l.take (i+1)).map f++l.drop (i+1):=by
 have hi:=(zz.1 h).1;have hl:((l.take i).map f).length=i:=by rw[atM,atq];omega
 rw[avh _ _ (by omega),hl,avm,drop_at h,auN,atr,h];simp
theorem R6{f:az->az}{l:List az}{i:Nat}{x:az}(h:l[i]? =some x)(hf:f x=x):(l.take i).map f++l.drop i=(l.take (i+1)).map f++l.drop (i+1):=by
 rw[drop_at h,atr,h];simp[hf]
theorem R7{f:az->az}{l:List az}{i:Nat}{x:az}(h:l[i]? =some x):((l.take i).map f++l.drop i)[i]? =some x:=by
 have hi:=(zz.1 h).1;have hl:((l.take i).map f).length=i:=by rw[atM,atq];omega
 rw[atz (by omega),hl,avm,auC,auH,h]
theorem adl{l:List BV}{i:Nat}{x:BV}(h:l[i]? =some x):((l.take (i+1)).filter fun b=>b.bad).length=((l.take i).filter fun b=>b.bad).length+(if x.bad=true then 1 else 0):=by
 rw[atr,h,auG,adr];congr 1;simp only[awf,auu,avB];split<;>simp_all
def iQ(c:CV)(l:List Int):Prop:= ∀n∈l,n=0\/(1<=n/\2<=(n -1)/c.pages/\(n -1)/c.pages<(c.blocks.length:Int))
theorem iQ.cj{c d:CV}{l:List Int}(h:iQ c l)(g:dU c d):iQ d l:=fun n hn=>by
  rcases h n hn with h|h
  ·exact .inl h
  ·exact .inr (by rw[g.pages,g.len];exact h)
theorem iQ.append{c:CV}{a b:List Int}(h:iQ c a)(g:iQ c b):iQ c (a++b):=fun n hn=>(atu.1 hn).elim (h n) (g n)
theorem eU{c:CV}(h:aW c=true):1<=(c.blocks.length:Int)/\(c.blocks.length:Int)<=32/\1<=c.pages/\c.pages<=16/\1<=c.size/\c.size<=256:=mF.1 (eM.1 h).1
theorem KV{n p b:Int}(hp:1<=p)(jF:p<=16)(hb:b<=32)(h:(n -1)/p<b):n<=512:=by
  have h1:n -1=p*((n -1)/p)+(n -1)%p:=(Int.mul_ediv_add_emod (n -1) p).symm;have h2:=avx (n -1) (show 0<p by omega);have h3:(n -1)/p<=31:=by omega
  have h4:p*((n -1)/p)<=p*31:=Int.mul_le_mul_of_nonneg_left h3 (by omega);omega
theorem iQ.kn{c:CV}{l:List Int}(h:iQ c l)(hk:aW c=true)(h2:2<=c.blocks.length)(hl:l.length<=1000000):xr c l:=
  ⟨⟨hk,hl⟩,h2,fun n hn=>by
    rcases h n hn with h|h
    ·exact .inl h
    ·have hd:=eU hk
     have:=KV (n:=n) hd.2.2.1 hd.2.2.2.1 hd.2.1 h.2.2;exact .inr ⟨h.1,by omega,h.2.1,h.2.2⟩⟩
theorem KW{c:CV}{fl:List Int}{i:Nat}(hi:i<c.blocks.length -2):(au c fl)[i]? =some (pK (ux (aj c ((i:Int)+2)) (ko c.pages fl fl.length i))):=by
  rw[au,jm,kr,atx,atx,auU hi];rfl
theorem GM{c:CV}{fl:List Int}{i:Nat}{x:az}(h:(au c fl)[i]? =some x):x.bad=(aj c ((i:Int)+2)).bad:=by
  have hi:=(zz.1 h).1;rw[l5]at hi;rw[KW hi]at h;obtain rfl:=atl h;rw[pK];split
  ·rename_i hb;exact hb.symm
  ·rfl
theorem s9{c:CV}(hk:aW c=true){b:Int}(h0:0<=b)(h1:b<c.blocks.length):ra c.pages c.size (aj c b)=true:=rb (ij.2 ⟨hk,h0,h1⟩)
structure AS(c:CV)(n:Nat)(x:az):Prop where
  R8:0<=x.live
  adm:x.live<=n
  C9:0<=x.used
  AT:x.used<=c.pages
  R9:0<=x.aU
  Sa:x.aU<=cS
theorem uD{c:CV}{fl:List Int}(hk:aW c=true){x:az}(h:x∈au c fl):AS c fl.length x:=by
  obtain⟨i,hi⟩:=atH h;have fg:=(zz.1 hi).1;rw[l5]at fg;rw[KW fg]at hi;obtain rfl:=atl hi;have hd:=eU hk;have qw:cS=1099511627776:=rfl;rw[pK];split
  ·exact⟨by simp[bc],by simp[bc],by simp[bc],by simp only[bc];omega,by simp[bc],by simp only[bc];omega⟩
  ·have ho:=fu.1 (s9 hk (b:=(i:Int)+2) (by omega) (by omega))
   have:=RO c.pages fl fl.length i;exact⟨by simp only[ux];omega,by simp only[ux];omega,ho.2.1,ho.2.2.1,ho.2.2.2.1,ho.2.2.2.2.1⟩
theorem AS.bad(c:CV)(hk:aW c=true)(n:Nat):AS c n bc:=by
  have hd:=eU hk;have qw:cS=1099511627776:=rfl;exact⟨by simp[bc],by simp[bc],by simp[bc],by simp only[bc];omega,by simp[bc],by simp only[bc];omega⟩
theorem KX{R:az->Bool}{l:List az}{i:Nat}{x:az}(h:(cg R l)[i]? =some x): ∃y,l[i]? =some y/\x=iE R y:=by
  rw[cg,atx,au1]at h;obtain⟨y,hy,rfl⟩:=h;exact⟨y,hy,rfl⟩
theorem adn{R:az->Bool}{y:az}(h:(iE R y).bad=false):iE R y=y/\y.bad=false/\R y=true:=by
  unfold iE at h⊢;split at h
  ·cases h
  ·rename_i hn
   rw[if_neg hn];refine⟨rfl,h,?_⟩
   cases hR:R y with
   |true=>rfl
   |false=>exact absurd (.inr hR) hn
theorem ta{p:Int}{x:az}(h:nk p x=true):x.bad=false/\x.used<p:=by
  simpa[nk]using h
theorem l8{x:az}(h:mL x=true):x.bad=false/\x.live=0/\0<x.used:=by
  simpa[mL,and_assoc]using h
theorem pL{R:az→Bool}{l:List az}{p:Int}{eC:az→Bool}{os:List (az→az→Int)}(hr: ∀x,eC x=true→x.bad=false)(h:(gg (cg R l) p eC os).2=true):
    ∃x,l[(gg (cg R l) p eC os).1.toNat]? =some x/\x.bad=false/\R x=true/\eC x=true/\0<=(gg (cg R l) p eC os).1/\(gg (cg R l) p eC os).1<l.length:=by
  obtain⟨h1,h2,h3,h4⟩:=AP h;rw[xx]at h3;have hi:(cg R l)[(gg (cg R l) p eC os).1.toNat]? =some ((cg R l).getD (gg (cg R l) p eC os).1.toNat dZ):=po (by rw[xx];omega);obtain⟨y,hy,he⟩:=KX hi;rw[he]at h4;obtain⟨k1,k2,k3⟩:=adn (hr _ h4);rw[k1]at h4;exact⟨y,hy,k2,k3,h4,h2,h3⟩
def rQ(x:az):Bool:=decide (0<x.live)
def gG(x:az):Bool:=decide (x.live=0)
def dV(l:List az):Nat:=(l.filter fun x=> !x.bad&&decide (x.live=0)).length
def mN(c:CV)(fl:List Int):Int×Bool:=fD (cg rQ (au c fl)) c.pages
def kt(c:CV)(fl:List Int):Int×Bool:=fD (cg gG (au c fl)) c.pages
def jG(c:CV)(fl:List Int):Int:=(fG (cg gG (au c fl)) c.pages).1
def bg(c:CV)(fl:List Int)(aG:Bool):CV×Int×Int:=
  if(mN c fl).2=true then(c,(mN c fl).1+2,0)
  else if dV (au c fl)=0\/(dV (au c fl)=1/\aG=false)then(c,0,5)
  else if(kt c fl).2=true then(c,(kt c fl).1+2,0)
  else((cG c (jG c fl+2)).1,jG c fl+2,(cG c (jG c fl+2)).2)
theorem ado{l:List az}{i:Nat}{x:az}(h:l[i]? =some x):((l.take (i+1)).filter fun z=> !z.bad&&decide (z.live=0)).length=((l.take i).filter fun z=> !z.bad&&decide (z.live=0)).length+(if x.bad=false/\x.live=0 then 1 else 0):=by
  rw[atr,h,auG,adr];congr 1;simp only[awf,auu,avB];split<;>simp_all
theorem adp(l:List az):(l.filter fun z=> !z.bad&&decide (z.live=0)).length<=l.length:=avJ _ _
theorem Sb{c:CV}{fl:List Int}(hk:aW c=true)(h2:3<=c.blocks.length)(hi:dV (au c fl)≠0)(hb: ¬(kt c fl).2=true):0<=jG c fl/\jG c fl<(c.blocks.length:Int) -2/\(aj c (jG c fl+2)).bad=false:=by
  have hd:=eU hk;have dM:=l5 c fl;have hw:mM (cg gG (au c fl)) c.pages=true:=s8.2 ⟨by rw[xx];omega,by rw[xx];omega,by omega,by omega,fun x hx=>by
    obtain⟨i,hi⟩:=atH hx;obtain⟨y,hy,rfl⟩:=KX hi;have t:=uD hk (alM hy);have qw:cS=1099511627776:=rfl;unfold iE;split
    ·exact rP.2 (by simp only[bc];omega)
    ·rename_i hn
     have hl:y.live=0:=by
        cases hR:gG y with
        |true=>simpa[gG]using hR
        |false=>exact absurd (.inr hR) hn
     exact rP.2 ⟨by omega,by have:=t.C9;omega,t.AT,t.R9,t.Sa⟩⟩
  have rR:(kt c fl).2=false:=by simpa using hb
  have KY:=uz hw (show(gg _ _ _ _).2=false from rR);have xz:0<((au c fl).filter fun x=> !x.bad&&decide (x.live=0)).length:=by rw[dV]at hi;omega
  obtain⟨x,hx⟩:=List.exists_mem_of_length_pos xz;obtain⟨pM,kL⟩:=atY.1 hx;simp only[ad2,aus,decide_eq_true_eq]at kL;have xA:iE gG x=x:=by
    unfold iE;rw[if_neg];rintro(g|g)
    ·rw[kL.1]at g;cases g
    ·rw[show gG x=true by simp[gG,kL.2]]at g;cases g
  have vT:x∈cg gG (au c fl):=by
    rw[←xA];exact atK pM
  have Da:=KY x vT;have t:=uD hk pM;have nn:mL x=true:=by
    have: ¬x.used<c.pages:=fun h=>by
      rw[nk,kL.1,decide_eq_true h]at Da;cases Da
    simp only[mL,kL.1,avo,aup,ad2,decide_eq_true_eq];omega
  have hf:(fG (cg gG (au c fl)) c.pages).2=true:=by
    cases hq:(fG (cg gG (au c fl)) c.pages).2 with
    |true=>rfl
    |false=>have:=uz hw hq x vT;rw[nn]at this;cases this
  obtain⟨y,hy,k1,_,_,k4,k5⟩:=pL (fun x h=>(l8 h).1) hf;have qX:=GM hy;change 0<=jG c fl at k4;change jG c fl<_ at k5;refine⟨k4,by omega,?_⟩;rw[←k1,qX];congr 2;change _=((jG c fl).toNat:Int)+2;omega
theorem Sc{c:CV}{fl:List Int}(h:(mN c fl).2=true):0<=(mN c fl).1/\(mN c fl).1<((c.blocks.length -2:Nat):Int)/\(aj c ((mN c fl).1+2)).bad=false:=by
  obtain⟨y,hy,k1,_,_,k4,k5⟩:=pL (fun x h=>(ta h).1) h;have qX:=GM hy;rw[l5]at k5;refine⟨k4,k5,?_⟩;rw[←k1,qX];congr 2;change _=((mN c fl).1.toNat:Int)+2;change 0<=(mN c fl).1 at k4;omega
theorem Sd{c:CV}{fl:List Int}(h:(kt c fl).2=true):0<=(kt c fl).1/\(kt c fl).1<((c.blocks.length -2:Nat):Int)/\(aj c ((kt c fl).1+2)).bad=false:=by
  obtain⟨y,hy,k1,_,_,k4,k5⟩:=pL (fun x h=>(ta h).1) h;have qX:=GM hy;rw[l5]at k5;refine⟨k4,k5,?_⟩;rw[←k1,qX];congr 2;change _=((kt c fl).1.toNat:Int)+2;change 0<=(kt c fl).1 at k4;omega
theorem Db{c:CV}{b:Int}(h:dY c b=0):pF c b=true/\c.off=false/\(aj c b).bad=false/\(br c).2=false/\du c b=lj c b:=by
  have h0:=h;rw[dY]at h
  by_cases h1:pF c b=true
  ·rw[if_pos h1]at h
   by_cases h2:c.off=true
   ·rw[if_pos h2]at h;cases h
   ·rw[if_neg h2]at h
    by_cases h3:(aj c b).bad=true
    ·rw[if_pos h3]at h;cases h
    ·rw[if_neg h3]at h
     by_cases h4:(br c).2=true
     ·rw[if_pos h4,lW]at h
      split at h<;>cases h
     ·refine⟨h1,by simpa using h2,by simpa using h3,by simpa using h4,?_⟩
      rw[du,iN,h0,if_neg (by decide),gf,if_pos ⟨h1,by simpa using h2,by simpa using h3⟩]
  ·rw[if_neg h1]at h;cases h
theorem Se{c:CV}{b:Int}(h:dY c b=0):(aj (du c b) b).bad=false:=by
  obtain⟨h1,h2,h3,h4,h5⟩:=Db h;rw[h5,lj,rf (qp.1 h1).1];exact h3
theorem GN: ∀(n:Nat) {c:CV} {b:Int},(eS n c b).2=0->(aj (eS n c b).1 b).bad=false
  |0,c,b,h=>Se h
  |n+1,c,b,h=>by
   rw[eS]at h⊢
   by_cases h0:bA c b (iO c)≠0
   ·rw[if_pos h0]at h;exact absurd h h0
   ·rw[if_neg h0]at h⊢;exact GN n h
theorem KZ{c:CV}{fl:List Int}{aG:Bool}(hk:aW c=true)(h2:3≤c.blocks.length):aW (bg c fl aG).1=true∧dU c (bg c fl aG).1∧c.ops≤(bg c fl aG).1.ops∧
    ((bg c fl aG).2.2=0->2<=(bg c fl aG).2.1/\(bg c fl aG).2.1<c.blocks.length/\(aj (bg c fl aG).1 (bg c fl aG).2.1).bad=false)/\((bg c fl aG).2.2=9->c.ops<(bg c fl aG).1.ops):=by
  rw[bg]
  by_cases h1:(mN c fl).2=true
  ·rw[if_pos h1]
   have:=Sc h1;exact⟨hk, .dk c,aul _,fun _=>⟨by simp only;omega,by simp only;omega,this.2.2⟩,fun h=>absurd (show(0:Int)=9 from h) (by decide)⟩
  ·rw[if_neg h1]
   by_cases h3:dV (au c fl)=0\/(dV (au c fl)=1/\aG=false)
   ·rw[if_pos h3]
    exact⟨hk, .dk c,aul _,fun h=>absurd (show(5:Int)=0 from h) (by decide),fun h=>absurd (show(5:Int)=9 from h) (by decide)⟩
   ·rw[if_neg h3]
    by_cases h4:(kt c fl).2=true
    ·rw[if_pos h4]
     have:=Sd h4;exact⟨hk, .dk c,aul _,fun _=>⟨by simp only;omega,by simp only;omega,this.2.2⟩,fun h=>absurd (show(0:Int)=9 from h) (by decide)⟩
    ·rw[if_neg h4]
     obtain⟨d1,d2,d3⟩:=Sb hk h2 (fun e=>h3 (.inl e)) h4;have hc:=xw (jG c fl+2) hk;exact⟨hc.1,hc.2,AQ _ _ _,fun h=>⟨by simp only;omega,by simp only;omega,GN _ h⟩,fun h=>GL d3 (.inl h)⟩
def hH:Nat->CV->List Int->Bool->List UInt8->CV×Int×Int
  |0,c,_,_,_=>(c,0,0)
  |n+1,c,fl,aG,b=>
   if(bg c fl aG).2.2=0 then
      (if bA (bg c fl aG).1 (bg c fl aG).2.1 b=0 then(bx (bg c fl aG).1 (bg c fl aG).2.1 b,(bg c fl aG).2.1*c.pages+(aj (bg c fl aG).1 (bg c fl aG).2.1).used+1,0)
       else if bA (bg c fl aG).1 (bg c fl aG).2.1 b≠9 then(bx (bg c fl aG).1 (bg c fl aG).2.1 b,0,bA (bg c fl aG).1 (bg c fl aG).2.1 b)
       else hH n (bx (bg c fl aG).1 (bg c fl aG).2.1 b) fl aG b)
   else if(bg c fl aG).2.2≠9 then((bg c fl aG).1,0,(bg c fl aG).2.2)
   else hH n (bg c fl aG).1 fl aG b
def cT(c:CV)(fl:List Int)(aG:Bool)(p:PV):CV×Int×Int:=
  if(dt p c.size).2≠0 then(c,0,(dt p c.size).2)else hH ((cS -c.ops).toNat+1) c fl aG (dt p c.size).1
theorem tc{c:CV}(h:aW c=true):c.ops<=cS:=(eM.1 h).2.2.1
theorem K0: ∀(n:Nat) {c:CV} {fl:List Int} {aG:Bool} {b:List UInt8},aW c=true→3≤c.blocks.length→(cS -c.ops).toNat<n→
    aW (hH n c fl aG b).1=true/\dU c (hH n c fl aG b).1/\c.ops<=(hH n c fl aG b).1.ops/\((hH n c fl aG b).2.2=0->1<=(hH n c fl aG b).2.1/\2<=((hH n c fl aG b).2.1 -1)/c.pages/\((hH n c fl aG b).2.1 -1)/c.pages<c.blocks.length)
  |0,c,fl,aG,b,_,_,hn=>by omega
  |n+1,c,fl,aG,b,hk,h2,hn=>by
   obtain⟨f1,f2,f3,f4,f5⟩:=KZ (fl:=fl) (aG:=aG) hk h2;have hd:=eU hk;rw[hH]
   by_cases h0:(bg c fl aG).2.2=0
   ·rw[if_pos h0]
    obtain⟨g1,g2,g3⟩:=f4 h0
    by_cases h1:bA (bg c fl aG).1 (bg c fl aG).2.1 b=0
    ·rw[if_pos h1]
     have hl:=f2.trans (iP (bg c fl aG).1 (bg c fl aG).2.1 b);have hp:=jQ.1 (qv h1).1;rw[f2.pages]at hp;have hu:0<=(aj (bg c fl aG).1 (bg c fl aG).2.1).used:=hp.2.1;have K1:=hp.2.2.1
     have hq:((bg c fl aG).2.1*c.pages+(aj (bg c fl aG).1 (bg c fl aG).2.1).used+1 -1)/c.pages=(bg c fl aG).2.1:=by
          rw[auS,avi,auE _ _ (by omega),aum hu K1,avn]
     refine⟨lZ f1 _ _,hl,?_,fun _=>⟨?_,by simp only;rw[hq];exact g1,by simp only;rw[hq];exact g2⟩⟩
     ·have:=y7 (bg c fl aG).1 (bg c fl aG).2.1 b;simp only;omega
     ·have:0<=(bg c fl aG).2.1*c.pages:=au6 (by omega) (by omega)
      simp only;omega
    ·rw[if_neg h1]
     by_cases h9:bA (bg c fl aG).1 (bg c fl aG).2.1 b≠9
     ·rw[if_pos h9]
      exact⟨lZ f1 _ _,f2.trans (iP _ _ _),by have:=y7 (bg c fl aG).1 (bg c fl aG).2.1 b;simp only;omega,fun h=>absurd h h1⟩
     ·rw[if_neg h9]
      have ho:=uA g3 (p:=b) (.inl (by simpa using h9));have bN:=lZ f1 (bg c fl aG).2.1 b;have hl:=f2.trans (iP (bg c fl aG).1 (bg c fl aG).2.1 b);have hle:=tc bN;have:=K0 n (fl:=fl) (aG:=aG) (b:=b) bN (by rw[hl.len];exact h2) (by omega);refine⟨this.1,hl.trans this.2.1,by omega,fun h=>?_⟩;have g:=this.2.2.2 h;rw[hl.pages,hl.len]at g;exact g
   ·rw[if_neg h0]
    by_cases h9:(bg c fl aG).2.2≠9
    ·rw[if_pos h9]
     exact⟨f1,f2,f3,fun h=>absurd h h0⟩
    ·rw[if_neg h9]
     have ho:=f5 (by simpa using h9);have hle:=tc f1;have:=K0 n (fl:=fl) (aG:=aG) (b:=b) f1 (by rw[f2.len];exact h2) (by omega);refine⟨this.1,f2.trans this.2.1,by omega,fun h=>?_⟩;have g:=this.2.2.2 h;rw[f2.pages,f2.len]at g;exact g
theorem Sg{c:CV}{fl:List Int}{aG:Bool}{p:PV}(hk:aW c=true)(h2:3≤c.blocks.length):
    aW (cT c fl aG p).1=true/\dU c (cT c fl aG p).1/\c.ops<=(cT c fl aG p).1.ops/\((cT c fl aG p).2.2=0->1<=(cT c fl aG p).2.1/\2<=((cT c fl aG p).2.1 -1)/c.pages/\((cT c fl aG p).2.1 -1)/c.pages<c.blocks.length):=by
  rw[cT];split
  ·rename_i h;exact⟨hk, .dk c,aul _,fun h'=>absurd h' h⟩
  ·exact K0 _ hk h2 (by omega)
def lu(p:Int)(x:az):Int:=if x.live=0/\p -x.used=0 then p else p -x.used
def td(p:Int)(s:Int×Int)(x:az):Int×Int:=if x.bad=true then s else(s.1+lu p x,if x.live=0 then max s.2 (lu p x)else s.2)
def fM(p:Int)(l:List az):Int×Int:=l.foldl (td p) (0,0)
def ly(c:CV)(fl:List Int):Int×Int:=((fM c.pages (au c fl)).1 -(fM c.pages (au c fl)).2,(fM c.pages (au c fl)).1)
theorem Sh{p:Int}{l:List az}{i:Nat}{x:az}(h:l[i]? =some x):fM p (l.take (i+1))=td p (fM p (l.take i)) x:=by
  rw[fM,atr,h];simp[fM]
theorem GO{c:CV}{n:Nat}{x:az}(h:AS c n x)(hk:aW c=true):0<=lu c.pages x/\lu c.pages x<=c.pages:=by
  have hd:=eU hk;have:=h.C9;have:=h.AT;rw[lu];split<;>omega
theorem Si{c:CV}{n:Nat}(hk:aW c=true)(l:List az)(h: ∀x∈l,AS c n x): ∀i,i<=l.length->0<=(fM c.pages (l.take i)).1/\(fM c.pages (l.take i)).1<=16*(i:Int)/\0<=(fM c.pages (l.take i)).2/\(fM c.pages (l.take i)).2<=16
  |0,_=>by simp[fM]
  |i+1,hi=>by
   obtain⟨x,hx⟩:=get_some (xs:=l) (i:=i) (by omega);have ih:=Si hk l h i (by omega);have hr:=GO (h x (alM hx)) hk;have hd:=eU hk;rw[Sh hx,td];split
   ·omega
   ·refine⟨by simp only;omega,by simp only;omega,?_,?_⟩
    ·simp only;split<;>omega
    ·simp only;split<;>omega
structure cY(x:WV):Prop where
 ae:aW x.v.ae=true
 len:4<=(x.v.ae.blocks.length:Int)
 pages:2<=x.v.ae.pages
 size:24<=x.v.ae.size
 last:x.v.last=0\/x.v.last=1
 gen:x.v.gen<281474976710656
 vU:iQ x.v.ae x.v.at_
 kM:x.v.at_.length<=64
theorem cY.on{x:WV}(h:cY x){c:CV}(hk:aW c=true)(hl:dU x.v.ae c):cY (x.on c):=
 ⟨hk,by simp only[WV.on];rw[hl.len];exact h.len,by simp only[WV.on];rw[hl.pages];exact h.pages,by simp only[WV.on];rw[hl.size];exact h.size,h.last,h.gen,h.vU.cj hl,h.kM⟩
theorem cY.te{x:WV}(h:cY x):4<=x.v.ae.blocks.length:=by have:=h.len;omega
theorem Sj(x:WV):x.on x.v.ae=x:=rfl
theorem Sk(x:WV)(c d:CV):(x.on c).on d=x.on d:=rfl
def aY(c:CV)(last:Int):CV×Int×Int:=
 if 0<ei c last then(c,last,0)
 else if 0<ei c (1 -last)then(c,1 -last,0)
 else if(aj c (1 -last)).bad=true then(c,0,9)
 else(du c (1 -last),1 -last,dY c (1 -last))
theorem GP{c:CV}{b:Int}(h:0<ei c b):(aj c b).bad=false:=by
 rw[ei]at h;split at h
 ·
  omega
 rename_i hn;simpa using hn
theorem GQ{c:CV}{last:Int}(hk:aW c=true)(hl:last=0\/last=1):aW (aY c last).1=true/\dU c (aY c last).1/\c.ops<=(aY c last).1.ops/\
  ((aY c last).2.2=0->((aY c last).2.1=0\/(aY c last).2.1=1)/\(aj (aY c last).1 (aY c last).2.1).bad=false):=by
 rw[aY]
 by_cases h1:0<ei c last
 ·
  rw[if_pos h1];exact⟨hk, .dk c,aul _,fun _=>⟨hl,GP h1⟩⟩
 ·
  rw[if_neg h1]
  by_cases h2:0<ei c (1 -last)
  ·
   rw[if_pos h2];exact⟨hk, .dk c,aul _,fun _=>⟨by simp only;omega,GP h2⟩⟩
  ·
   rw[if_neg h2]
   by_cases h3:(aj c (1 -last)).bad=true
   ·
    rw[if_pos h3];exact⟨hk, .dk c,aul _,fun h=>absurd (show(9:Int)=0 from h) (by decide)⟩
   ·
    rw[if_neg h3];exact⟨C6 hk _,xv _ _,RX _ _,fun h=>⟨by simp only;omega,Se h⟩⟩
def gh:Nat->WV->List Int->List UInt8->WV×Int
 |0,x,_,_=>(x,0)
 |n+1,x,a,b=>
  if(aY x.v.ae x.v.last).2.2≠0 then(x.on (aY x.v.ae x.v.last).1,(aY x.v.ae x.v.last).2.2)
  else if bA (aY x.v.ae x.v.last).1 (aY x.v.ae x.v.last).2.1 b=0 then
   (⟨⟨bx (aY x.v.ae x.v.last).1 (aY x.v.ae x.v.last).2.1 b,a,x.v.gen+1,if l6 (bx (aY x.v.ae x.v.last).1 (aY x.v.ae x.v.last).2.1 b) 1=x.v.gen+1 then 1 else(aY x.v.ae x.v.last).2.1⟩,x.beyond⟩,0)
  else if bA (aY x.v.ae x.v.last).1 (aY x.v.ae x.v.last).2.1 b≠9 then
   (x.on (bx (aY x.v.ae x.v.last).1 (aY x.v.ae x.v.last).2.1 b),bA (aY x.v.ae x.v.last).1 (aY x.v.ae x.v.last).2.1 b)
  else gh n (x.on (bx (aY x.v.ae x.v.last).1 (aY x.v.ae x.v.last).2.1 b)) a b
def dQ(x:WV)(a:List Int):WV×Int:=
 if(cX ⟨x.v.gen+1,a⟩ x.v.ae.size).2≠0 then(x,(cX ⟨x.v.gen+1,a⟩ x.v.ae.size).2)
 else gh ((cS -x.v.ae.ops).toNat+1) x a (cX ⟨x.v.gen+1,a⟩ x.v.ae.size).1
structure jn(x y:WV):Prop where
 ok:cY y
 cj:dU x.v.ae y.v.ae
 ops:x.v.ae.ops<=y.v.ae.ops
 xB:y.v.at_.length=x.v.at_.length
theorem jn.dk{x:WV}(h:cY x):jn x x:=⟨h, .dk _,aul _,rfl⟩
theorem jn.trans{x y z:WV}(h:jn x y)(g:jn y z):jn x z:=⟨g.ok,h.cj.trans g.cj,Int.le_trans h.ops g.ops,g.xB.trans h.xB⟩
theorem jn.on{x:WV}(h:cY x){c:CV}(hk:aW c=true)(hl:dU x.v.ae c)(ho:x.v.ae.ops<=c.ops):jn x (x.on c):=⟨h.on hk hl,hl,ho,rfl⟩
theorem adq{r:RV}{n:Int}(h:(cX r n).2=0):r.gen<281474976710656/\(r.at_.length:Int)<=kJ n:=by
 rw[cX]at h;split at h
 ·
  rename_i hm;have:=xq.1 hm;exact⟨this.2.1,this.2.2.1⟩
 cases h
theorem ads(n:Int):kJ n<=64:=by rw[kJ];omega
theorem Sm: ∀(n:Nat) {x:WV} {a:List Int} {b:List UInt8},cY x->iQ x.v.ae a->a.length=x.v.at_.length->x.v.gen+1<281474976710656->(cS -x.v.ae.ops).toNat<n->jn x (gh n x a b).1/\((gh n x a b).2=0->x.v.ae.ops<(gh n x a b).1.v.ae.ops)
 |0,x,a,b,_,_,_,_,hn=>by omega
 |n+1,x,a,b,hx,ha,dE,hg,hn=>by
  obtain⟨r1,r2,r3,r4⟩:=GQ (c:=x.v.ae) (last:=x.v.last) hx.ae hx.last;rw[gh]
  by_cases h0:(aY x.v.ae x.v.last).2.2≠0
  ·
   rw[if_pos h0];exact⟨.on hx r1 r2 r3,fun h=>absurd h h0⟩
  rw[if_neg h0];obtain⟨r5,r6⟩:=r4 (by simpa using h0);have fU:=lZ r1 (aY x.v.ae x.v.last).2.1 b;have ca:=r2.trans (iP (aY x.v.ae x.v.last).1 (aY x.v.ae x.v.last).2.1 b);have np:=y7 (aY x.v.ae x.v.last).1 (aY x.v.ae x.v.last).2.1 b
  by_cases h1:bA (aY x.v.ae x.v.last).1 (aY x.v.ae x.v.last).2.1 b=0
  ·
   rw[if_pos h1];have ho:=uA r6 (p:=b) (.inr h1);have fN:=hx.on fU ca;refine⟨⟨⟨fU,fN.len,fN.pages,fN.size,?_,hg,ha.cj ca,by simp only;rw[dE];exact hx.kM⟩,ca,by simp only;omega,dE⟩,fun _=>by simp only;omega⟩;simp only;split
   ·
    exact .inr rfl
   exact r5
  rw[if_neg h1]
  by_cases h9:bA (aY x.v.ae x.v.last).1 (aY x.v.ae x.v.last).2.1 b≠9
  ·
   rw[if_pos h9];exact⟨.on hx fU ca (by omega),fun h=>absurd h h1⟩
  rw[if_neg h9];have ho:=uA r6 (p:=b) (.inl (by simpa using h9));have hle:=tc fU;have fN:=hx.on fU ca;have:=Sm n (x:=x.on (bx (aY x.v.ae x.v.last).1 (aY x.v.ae x.v.last).2.1 b)) (a:=a) (b:=b) fN (ha.cj ca) dE hg (by simp only[WV.on];omega);exact⟨(jn.on hx fU ca (by omega)).trans this.1,fun h=>by
   have h2:(bx (aY x.v.ae x.v.last).1 (aY x.v.ae x.v.last).2.1 b).ops<_:=this.2 h;omega⟩
theorem K2{x:WV}{a:List Int}(hx:cY x)(ha:iQ x.v.ae a)(dE:a.length=x.v.at_.length):jn x (dQ x a).1/\((dQ x a).2=0->x.v.ae.ops<(dQ x a).1.v.ae.ops):=by
 rw[dQ];split
 ·
  rename_i h;exact⟨.dk hx,fun h'=>absurd h' h⟩
 rename_i h;have:=adq (r:=⟨x.v.gen+1,a⟩) (n:=x.v.ae.size) (by simpa using h);exact Sm _ hx ha dE this.1 (by omega)
def nS:Nat->Int->CV->CV×Int
 |0,_,c=>(c,0)
 |n+1,b,c=>if C8 c b=false then nS n (b+1) c
  else if dY c b≠0/\dY c b≠9 then(du c b,dY c b)else nS n (b+1) (du c b)
def pN(c:CV)(b:Int)(ids:Nat):List UInt8×Int:=cX ⟨gP c b,List.replicate ids 0⟩ c.size
def GR(c:CV)(b:Int)(ids:Nat)(g:Nat):VV:=⟨c,List.replicate ids 0,g,b⟩
def xC:Nat->Int->WV->Nat->WV×Int
 |0,_,x,_=>(x,9)
 |n+1,b,x,ids=>
  if(pN x.v.ae b ids).2≠0\/ei x.v.ae b=0 then xC n (b+1) x ids
  else if bA x.v.ae b (pN x.v.ae b ids).1=0 then(⟨GR (bx x.v.ae b (pN x.v.ae b ids).1) b ids (gP x.v.ae b),x.beyond⟩,0)
  else if bA x.v.ae b (pN x.v.ae b ids).1≠9 then(x.on (bx x.v.ae b (pN x.v.ae b ids).1),bA x.v.ae b (pN x.v.ae b ids).1)
  else xC n (b+1) (x.on (bx x.v.ae b (pN x.v.ae b ids).1)) ids
def rS(x:WV)(ids:Nat):WV×Int:=
 if(nS x.v.ae.blocks.length 0 x.v.ae).2≠0 then(x.on (nS x.v.ae.blocks.length 0 x.v.ae).1,(nS x.v.ae.blocks.length 0 x.v.ae).2)
 else xC 2 0 (x.on (nS x.v.ae.blocks.length 0 x.v.ae).1) ids
def xD(s:Int×Int)(i:Nat)(x:az):Int×Int:=
 if x.bad=true\/x.live=0\/cS<=x.aU then s else if s.2<x.used -x.live then((i:Int),x.used -x.live)else s
def gH(l:List az):Nat->Int×Int
 |0=>(0,0)
 |k+1=>xD (gH l k) k (l.getD k dZ)
def iR(l:List az)(p:Int):Int×Bool:=if(vR l p).2=true then((vR l p).1,true)else((gH l l.length).1,decide (0<(gH l l.length).2))
theorem K3(l:List az): ∀k,0<=(gH l k).1/\0<=(gH l k).2/\(0<(gH l k).2->(gH l k).1<k)
 |0=>by simp[gH]
 |k+1=>by
  have:=K3 l k;rw[gH,xD];split
  ·
   exact⟨this.1,this.2.1,fun h=>by have:=this.2.2 h;omega⟩
  split
  ·
   exact⟨by simp only;omega,by simp only;omega,fun _=>by simp only;omega⟩
  exact⟨this.1,this.2.1,fun h=>by have:=this.2.2 h;omega⟩
theorem K4{l:List az}{p:Int}(h:(iR l p).2=true):0<=(iR l p).1/\(iR l p).1<l.length:=by
 rw[iR]at h⊢;split
 ·
  rename_i hv;have:=AP hv;exact⟨this.2.1,this.2.2.1⟩
 rename_i hv;rw[if_neg hv]at h;have:=K3 l l.length;exact⟨this.1,this.2.2 (by simpa using h)⟩
def rT(x:az):Bool:=decide (x.used=0)
def tg(p:Int)(x:az):Bool:=decide (x.used=p)
def th(x:az):Bool:=decide (x.aU<cS)
def mO(c:CV)(l:List az):Int×Bool:=fD (cg rT l) c.pages
def jT(c:CV)(l:List az):Int×Bool:=fG (cg (tg c.pages) l) c.pages
def jU(c:CV)(l:List az):Int×Bool:=fG (cg th l) c.pages
def bY(c:CV)(l:List az):CV×Int×Int:=
 if(mO c l).2=true then(c,(mO c l).1+2,0)
 else if(jT c l).2=true then((cG c ((jT c l).1+2)).1,(jT c l).1+2,(cG c ((jT c l).1+2)).2)
 else if(jU c l).2=true then((cG c ((jU c l).1+2)).1,(jU c l).1+2,(cG c ((jU c l).1+2)).2)
 else(c,0,6)
def lz(c:CV)(l:List az):Prop:=l.length=c.blocks.length -2/\ ∀(i:Nat) (x:az),l[i]? =some x->x.bad=false->(aj c ((i:Int)+2)).bad=false
theorem y8(c:CV)(fl:List Int):lz c (au c fl):=⟨l5 c fl,fun i x hx hb=>by rw[←GM hx];exact hb⟩
theorem lz.set{c:CV}{l:List az}(h:lz c l)(i:Nat):lz c (l.set i bc):=⟨by rw[atV];exact h.1,fun j x hx hb=>by
 rw[auo]at hx;split at hx
 ·
  split at hx
  ·
   obtain rfl:=atl hx;cases hb
  cases hx
 exact h.2 j x hx hb⟩
theorem xE{c:CV}{R:az->Bool}{l:List az}{eC:az->Bool}{os:List (az->az->Int)}(ht:lz c l)(hr: ∀x,eC x=true->x.bad=false)(h:(gg (cg R l) c.pages eC os).2=true):
  0<=(gg (cg R l) c.pages eC os).1/\(gg (cg R l) c.pages eC os).1<((c.blocks.length -2:Nat):Int)/\(aj c ((gg (cg R l) c.pages eC os).1+2)).bad=false:=by
 obtain⟨x,hx,k1,_,_,k4,k5⟩:=pL hr h;rw[ht.1]at k5;refine⟨k4,k5,?_⟩;have:=ht.2 _ x hx k1;rwa [show(((gg (cg R l) c.pages eC os).1.toNat:Nat):Int)=(gg (cg R l) c.pages eC os).1 by omega]at this
theorem K5{c:CV}{l:List az}(hk:aW c=true)(ht:lz c l):aW (bY c l).1=true/\dU c (bY c l).1/\c.ops<=(bY c l).1.ops/\
  ((bY c l).2.2=0->2<=(bY c l).2.1/\(bY c l).2.1<c.blocks.length/\(aj (bY c l).1 (bY c l).2.1).bad=false)/\((bY c l).2.2=9->c.ops<(bY c l).1.ops)/\((bY c l).2.2=6->(bY c l).1=c):=by
 rw[bY];have e6: ∀{b:Int},(cG c b).2≠6:=fun{b}=>by
  have: ∀n {c:CV},(eS n c b).2≠6:=by
   intro n
   induction n with
   |zero=>
    intro c;simp only[eS,dY];split
    ·
     split
     ·
      decide
     ·
      split
      ·
       decide
      ·
       split
       ·
        rw[lW];split<;>decide
       ·
        decide
    ·
     decide
   |succ n ih=>
    intro c;rw[eS];split
    ·
     simp only[bA,kj];split
     ·
      split
      ·
       decide
      ·
       split
       ·
        decide
       ·
        split
        ·
         rw[lW];split<;>decide
        ·
         decide
     ·
      decide
    ·
     exact ih
  exact this _
 by_cases h1:(mO c l).2=true
 ·
  rw[if_pos h1];have:=xE ht (fun x h=>(ta h).1) h1;change 0<=(mO c l).1/\(mO c l).1<_/\(aj c ((mO c l).1+2)).bad=false at this;exact⟨hk, .dk c,aul _,fun _=>⟨by simp only;omega,by simp only;omega,this.2.2⟩,fun h=>absurd (show(0:Int)=9 from h) (by decide),fun h=>absurd (show(0:Int)=6 from h) (by decide)⟩
 ·
  rw[if_neg h1]
  by_cases h2:(jT c l).2=true
  ·
   rw[if_pos h2];have:=xE ht (fun x h=>(l8 h).1) h2;change 0<=(jT c l).1/\(jT c l).1<_/\(aj c ((jT c l).1+2)).bad=false at this;have hc:=xw ((jT c l).1+2) hk;exact⟨hc.1,hc.2,AQ _ _ _,fun h=>⟨by simp only;omega,by simp only;omega,GN _ h⟩,fun h=>GL this.2.2 (.inl h),fun h=>absurd h e6⟩
  ·
   rw[if_neg h2]
   by_cases h3:(jU c l).2=true
   ·
    rw[if_pos h3];have:=xE ht (fun x h=>(l8 h).1) h3;change 0<=(jU c l).1/\(jU c l).1<_/\(aj c ((jU c l).1+2)).bad=false at this;have hc:=xw ((jU c l).1+2) hk;exact⟨hc.1,hc.2,AQ _ _ _,fun h=>⟨by simp only;omega,by simp only;omega,GN _ h⟩,fun h=>GL this.2.2 (.inl h),fun h=>absurd h e6⟩
   ·
    rw[if_neg h3];exact⟨hk, .dk c,aul _,fun h=>absurd (show(6:Int)=0 from h) (by decide),fun h=>absurd (show(6:Int)=9 from h) (by decide),fun _=>rfl⟩
def cB(c:CV)(a0 a:List Int)(src tgt:Int):Int×Bool:=
 if tgt<0 then(if(fD ((au c (a0++a)).set (src -2).toNat bc) c.pages).2=true then((fD ((au c (a0++a)).set (src -2).toNat bc) c.pages).1+2,true)else(0,false))else(tgt,true)
def eo(c:CV)(g id n:Int):List UInt8×Int:=dt ⟨1,id,g.toNat,jl c n⟩ c.size
structure MV where
 c:CV
 a:List Int
 e:Option Int
def cc(v:VV)(src tgt:Int):List Int->Nat->CV->List Int->MV
 |[],_,c,a=>⟨c,a,none⟩
 |n::r,id,c,a=>
  if n=0\/(n -1)/v.ae.pages≠src then cc v src tgt r (id+1) c a
  else if(cB c v.at_ a src tgt).2=false then⟨c,a,some 6⟩
  else if(eo c ((v.gen:Int)+1) id n).2≠0 then⟨c,a,some (eo c ((v.gen:Int)+1) id n).2⟩
  else if bA c (cB c v.at_ a src tgt).1 (eo c ((v.gen:Int)+1) id n).1≠0 then
   ⟨bx c (cB c v.at_ a src tgt).1 (eo c ((v.gen:Int)+1) id n).1,a,some (jS (bA c (cB c v.at_ a src tgt).1 (eo c ((v.gen:Int)+1) id n).1))⟩
  else cc v src tgt r (id+1) (bx c (cB c v.at_ a src tgt).1 (eo c ((v.gen:Int)+1) id n).1) (a.set id ((cB c v.at_ a src tgt).1*v.ae.pages+(aj c (cB c v.at_ a src tgt).1).used+1))
def cU(x:WV)(src tgt:Int):WV×Bool×Int:=
 match(cc x.v src tgt x.v.at_ 0 x.v.ae x.v.at_).e with
 |some e=>(x.on (cc x.v src tgt x.v.at_ 0 x.v.ae x.v.at_).c,false,e)
 |none=>((dQ (x.on (cc x.v src tgt x.v.at_ 0 x.v.ae x.v.at_).c) (cc x.v src tgt x.v.at_ 0 x.v.ae x.v.at_).a).1,decide ((dQ (x.on (cc x.v src tgt x.v.at_ 0 x.v.ae x.v.at_).c) (cc x.v src tgt x.v.at_ 0 x.v.ae x.v.at_).a).2=0),(dQ (x.on (cc x.v src tgt x.v.at_ 0 x.v.ae x.v.at_).c) (cc x.v src tgt x.v.at_ 0 x.v.ae x.v.at_).a).2)
theorem K6{x:WV}{src tgt:Int}{c:CV}{a:List Int}{e:Int}(h:cc x.v src tgt x.v.at_ 0 x.v.ae x.v.at_=⟨c,a,some e⟩):cU x src tgt=(x.on c,false,e):=by
 rw[cU,h]
theorem adt{x:WV}{src tgt:Int}{c:CV}{a:List Int}(h:cc x.v src tgt x.v.at_ 0 x.v.ae x.v.at_=⟨c,a,none⟩):cU x src tgt=((dQ (x.on c) a).1,decide ((dQ (x.on c) a).2=0),(dQ (x.on c) a).2):=by
 rw[cU,h]
theorem Sn{c:CV}{a0 a:List Int}{src tgt:Int}(h:(cB c a0 a src tgt).2=true)(ht:0<=tgt->2<=tgt/\tgt<c.blocks.length/\(aj c tgt).bad=false):
  2<=(cB c a0 a src tgt).1/\(cB c a0 a src tgt).1<c.blocks.length/\(aj c (cB c a0 a src tgt).1).bad=false:=by
 rw[cB]at h⊢
 by_cases h1:tgt<0
 ·
  rw[if_pos h1]at h⊢
  by_cases h2:(fD ((au c (a0++a)).set (src -2).toNat bc) c.pages).2=true
  ·
   rw[if_pos h2];have hT:=(y8 c (a0++a)).set (src -2).toNat;obtain⟨k1,k2,k3,k4⟩:=AP h2;change 0<=(fD ((au c (a0++a)).set (src -2).toNat bc) c.pages).1 at k2;change(fD ((au c (a0++a)).set (src -2).toNat bc) c.pages).1<_ at k3;change nk _ (List.getD _ (fD ((au c (a0++a)).set (src -2).toNat bc) c.pages).1.toNat _)=true at k4;rw[hT.1]at k3;have hi:((au c (a0++a)).set (src -2).toNat bc)[(fD ((au c (a0++a)).set (src -2).toNat bc) c.pages).1.toNat]? =some _:=po (d:=dZ) (by rw[hT.1];omega);have:=hT.2 _ _ hi (ta k4).1;rw[show(((fD ((au c (a0++a)).set (src -2).toNat bc) c.pages).1.toNat:Nat):Int)=(fD ((au c (a0++a)).set (src -2).toNat bc) c.pages).1 by omega]at this;exact⟨by simp only;omega,by simp only;omega,this⟩
  ·
   rw[if_neg h2]at h;cases h
 ·
  rw[if_neg h1];exact ht (by omega)
theorem Dc(c:CV)(b g:Int)(p:List UInt8):kj c b g p=0\/kj c b g p=1\/kj c b g p=7\/kj c b g p=9:=by
 rw[kj];split
 ·
  split
  ·
   omega
  split
  ·
   omega
  split
  ·
   rw[lW];split<;>omega
  omega
 omega
theorem AU(p:PV)(n:Int):(dt p n).2=0\/(dt p n).2=1:=by
 rw[dt];split<;>simp
theorem K7{c:CV}{b:Int}{p:List UInt8}(h:bA c b p=0)(b':Int):(aj (bx c b p) b').bad=(aj c b').bad:=by
 obtain⟨h1,h2,h3,h4,h5⟩:=qv h;have hh:=(jQ.1 h1).1;obtain⟨_,g2,g3⟩:=ij.1 hh;rw[h5,iL];simp only[aj,List.getD,auo]
 by_cases e:b.toNat=b'.toNat
 ·
  rw[if_pos e,if_pos (by omega),e];simp
 rw[if_neg e]
theorem K8{v:VV}{src tgt:Int}: ∀(l:List Int) (id:Nat) {c:CV} {a:List Int},aW c=true->dU v.ae c->v.ae.ops<=c.ops->iQ v.ae a->(0<=tgt->2<=tgt/\tgt<c.blocks.length/\(aj c tgt).bad=false)->
  aW (cc v src tgt l id c a).c=true/\dU v.ae (cc v src tgt l id c a).c/\c.ops<=(cc v src tgt l id c a).c.ops/\iQ v.ae (cc v src tgt l id c a).a/\(cc v src tgt l id c a).a.length=a.length/\
   ((cc v src tgt l id c a).e=some 0->c.ops<(cc v src tgt l id c a).c.ops)/\((cc v src tgt l id c a).e=some 6-> ∀b,(aj (cc v src tgt l id c a).c b).bad=(aj c b).bad)
 |[],id,c,a,hk,hl,ho,ha,ht=>⟨hk,hl,aul _,ha,rfl,fun h=>by simp[cc]at h,fun h=>by simp[cc]at h⟩
 |n::r,id,c,a,hk,hl,ho,ha,ht=>by
  rw[cc]
  by_cases h1:n=0\/(n -1)/v.ae.pages≠src
  ·
   rw[if_pos h1];exact K8 r (id+1) hk hl ho ha ht
  ·
   rw[if_neg h1]
   by_cases h2:(cB c v.at_ a src tgt).2=false
   ·
    rw[if_pos h2];exact⟨hk,hl,aul _,ha,rfl,fun h=>by simp at h,fun _ _=>rfl⟩
   ·
    rw[if_neg h2];obtain⟨m1,m2,m3⟩:=Sn (by simpa using h2) ht
    by_cases h3:(eo c ((v.gen:Int)+1) id n).2≠0
    ·
     rw[if_pos h3];have AV:(eo c ((v.gen:Int)+1) id n).2=1:=(AU _ _).resolve_left h3;exact⟨hk,hl,aul _,ha,rfl,fun h=>absurd (atl h) h3,fun h=>absurd (AV.symm.trans (atl h)) (by decide)⟩
    ·
     rw[if_neg h3]
     by_cases h4:bA c (cB c v.at_ a src tgt).1 (eo c ((v.gen:Int)+1) id n).1≠0
     ·
      rw[if_pos h4];have gU:bA c (cB c v.at_ a src tgt).1 (eo c ((v.gen:Int)+1) id n).1=1\/bA c (cB c v.at_ a src tgt).1 (eo c ((v.gen:Int)+1) id n).1=7\/bA c (cB c v.at_ a src tgt).1 (eo c ((v.gen:Int)+1) id n).1=9:=(Dc _ _ _ _).resolve_left h4;refine⟨lZ hk _ _,hl.trans (iP _ _ _),y7 _ _ _,ha,rfl,fun h=>?_,fun h=>?_⟩
      ·
       have h:=atl h;rw[jS]at h;split at h
       ·
        rename_i h9;have:=uA m3 (.inl h9);simp only;omega
       ·
        exact absurd h h4
      ·
       have h:=atl h;rw[jS]at h;split at h
       ·
        cases h
       ·
        omega
     ·
      rw[if_neg h4];have xF:bA c (cB c v.at_ a src tgt).1 (eo c ((v.gen:Int)+1) id n).1=0:=by simpa using h4
      have fU:=jQ.1 (qv xF).1;have hd:=eU hk;have nh:=hl.trans (iP c (cB c v.at_ a src tgt).1 (eo c ((v.gen:Int)+1) id n).1);have dN:=uA m3 (p:=(eo c ((v.gen:Int)+1) id n).1) (.inr xF);have GS:v.ae.pages=c.pages:=hl.pages.symm;have ih:=K8 r (id+1) (src:=src) (tgt:=tgt) (lZ hk (cB c v.at_ a src tgt).1 (eo c ((v.gen:Int)+1) id n).1) nh (by omega) (a:=a.set id ((cB c v.at_ a src tgt).1*v.ae.pages+(aj c (cB c v.at_ a src tgt).1).used+1)) (fun y hy=>by
       rcases at0 hy with hy|rfl
       ·
        exact ha y hy
       ·
        have hq:((cB c v.at_ a src tgt).1*v.ae.pages+(aj c (cB c v.at_ a src tgt).1).used+1 -1)/v.ae.pages=(cB c v.at_ a src tgt).1:=by
         rw[GS,auS,avi,auE _ _ (by omega),aum fU.2.1 fU.2.2.1,avn]
        have h0:0<=(cB c v.at_ a src tgt).1*v.ae.pages:=au6 (by omega) (by omega);have:=fU.2.1;exact .inr ⟨by omega,by rw[hq];exact m1,by rw[hq,←hl.len];exact m2⟩) (fun h=>by
       have:=ht h;rw[(iP c _ _).len,K7 xF];exact this)
      obtain⟨i1,i2,i3,i4,i5,i6,i7⟩:=ih;refine⟨i1,i2,by omega,i4,by rw[i5,atV],fun h=>by have:=i6 h;omega,fun h b=>?_⟩;rw[i7 h b,K7 xF]
theorem K9(c:CV)(b:Int):dY c b=0\/dY c b=1\/dY c b=7\/dY c b=9:=by
 rw[dY];split
 ·
  split
  ·
   omega
  split
  ·
   omega
  split
  ·
   rw[lW];split<;>omega
  omega
 omega
theorem adu(c:CV)(l:Int):(aY c l).2.2=0\/(aY c l).2.2=1\/(aY c l).2.2=7\/(aY c l).2.2=9:=by
 rw[aY];split
 ·
  exact .inl rfl
 split
 ·
  exact .inl rfl
 split
 ·
  exact .inr (.inr (.inr rfl))
 exact K9 _ _
theorem So: ∀(n:Nat) (y:WV) (a:List Int) (b:List UInt8),(gh n y a b).2≠6
 |0,y,a,b=>by simp[gh]
 |n+1,y,a,b=>by
  rw[gh];split
  ·
   have:=adu y.v.ae y.v.last;simp only;omega
  split
  ·
   simp
  split
  ·
   have:=Dc (aY y.v.ae y.v.last).1 (aY y.v.ae y.v.last).2.1 (aj (aY y.v.ae y.v.last).1 (aY y.v.ae y.v.last).2.1).used b;simp only[bA];omega
  exact So n _ _ _
theorem La(y:WV)(a:List Int):(dQ y a).2≠6:=by
 rw[dQ];split
 ·
  rw[cX];split
  ·
   have:=AU ⟨2,max 0 ((a.length:Int) -1),y.v.gen+1,gZ a⟩ y.v.ae.size;simp only;omega
  simp
 exact So _ _ _ _
theorem GU{x:WV}{src tgt:Int}(hx:cY x)(ht:0<=tgt->2<=tgt/\tgt<x.v.ae.blocks.length/\(aj x.v.ae tgt).bad=false):
  jn x (cU x src tgt).1/\((cU x src tgt).2.2=0->x.v.ae.ops<(cU x src tgt).1.v.ae.ops)/\((cU x src tgt).2.1=true->(cU x src tgt).2.2=0)/\((cU x src tgt).2.1=false/\(cU x src tgt).2.2=6-> ∀b,(aj (cU x src tgt).1.v.ae b).bad=(aj x.v.ae b).bad):=by
 obtain⟨h1,h2,h3,h4,h5,h6,h7⟩:=K8 x.v.at_ 0 (src:=src) hx.ae (.dk _) (aul _) hx.vU ht;rw[cU];split
 ·
  rename_i e he;refine⟨.on hx h1 h2 h3,fun h=>h6 (by rw[he];exact congrArg some h),fun h=>absurd (show false=true from h) (by simp),fun h b=>h7 (by rw[he];exact congrArg some h.2) b⟩
 ·
  rename_i he;have fN:=hx.on h1 h2;have hw:=K2 fN (a:=(cc x.v src tgt x.v.at_ 0 x.v.ae x.v.at_).a) (h4.cj h2) h5;refine⟨(jn.on hx h1 h2 h3).trans hw.1,fun h=>?_,fun h=>by simpa using h,fun h=>?_⟩
  ·
   have g:(cc x.v src tgt x.v.at_ 0 x.v.ae x.v.at_).c.ops<_:=hw.2 h;simp only;omega
  ·
   exact absurd h.2 (La _ _)
theorem Sp: ∀(n:Nat) (c:CV) (b:Int),(eS n c b).2≠6
 |0,c,b=>by have:=K9 c b;simp only[eS];omega
 |n+1,c,b=>by
  rw[eS];split
  ·
   have:=Dc c b (aj c b).used (iO c);simp only[bA];omega
  exact Sp n _ _
theorem Sr(c:CV)(b:Int):(cG c b).2≠6:=Sp _ _ _
def rh(c:CV)(l:List az)(i:Int):Bool:=decide ((bY c (l.set i.toNat bc)).2.2=6)&&decide ((l.getD i.toNat dZ).live<=GJ (l.set i.toNat bc) c.pages)
def cP(c:CV)(l:List az)(i:Int):Int×Int:=if rh c l i=true then(-1,0)else(bY c (l.set i.toNat bc)).2
def eV(x:WV)(l:List az)(i:Int):WV×Int:=
 if(cP x.v.ae l i).2≠0 then(x.on (bY x.v.ae (l.set i.toNat bc)).1,jS (cP x.v.ae l i).2)
 else if(cU (x.on (bY x.v.ae (l.set i.toNat bc)).1) (i+2) (cP x.v.ae l i).1).2.1=false\/(l.getD i.toNat dZ).used=x.v.ae.pages then
  ((cU (x.on (bY x.v.ae (l.set i.toNat bc)).1) (i+2) (cP x.v.ae l i).1).1,(cU (x.on (bY x.v.ae (l.set i.toNat bc)).1) (i+2) (cP x.v.ae l i).1).2.2)
 else((cU (x.on (bY x.v.ae (l.set i.toNat bc)).1) (i+2) (cP x.v.ae l i).1).1.on (cG (cU (x.on (bY x.v.ae (l.set i.toNat bc)).1) (i+2) (cP x.v.ae l i).1).1.v.ae (i+2)).1,
  jS (cG (cU (x.on (bY x.v.ae (l.set i.toNat bc)).1) (i+2) (cP x.v.ae l i).1).1.v.ae (i+2)).2)
theorem Ss{e:Int}(h:jS e=0):e=0\/e=9:=by
 rw[jS]at h;split at h
 ·
  exact .inr (by assumption)
 exact .inl h
theorem GV{e:Int}(h:jS e=6):e=6:=by
 rw[jS]at h;split at h
 ·
  cases h
 exact h
theorem GW{c:CV}{l:List az}{i:Int}(hk:aW c=true)(ht:lz c l):(cP c l i).2=0->0<=(cP c l i).1->2<=(cP c l i).1/\(cP c l i).1<c.blocks.length/\(aj (bY c (l.set i.toNat bc)).1 (cP c l i).1).bad=false:=by
 intro h h0;rw[cP]at h h0⊢;split at h
 ·
  rename_i ha;rw[if_pos ha]at h0;exact absurd (show(0:Int)<= -1 from h0) (by decide)
 rename_i ha;rw[if_neg ha];exact(K5 hk (ht.set i.toNat)).2.2.2.1 h
theorem adv{x:WV}{src tgt:Int}(hx:cY x)(ht:0<=tgt->2<=tgt/\tgt<x.v.ae.blocks.length/\(aj x.v.ae tgt).bad=false):cY (cU x src tgt).1/\dU x.v.ae (cU x src tgt).1.v.ae:=
 ⟨(GU hx ht).1.ok,(GU hx ht).1.cj⟩
theorem Lc{x:WV}{l:List az}{i:Int}(hx:cY x)(ht:lz x.v.ae l):
  jn x (eV x l i).1/\((eV x l i).2=0->x.v.ae.ops<(eV x l i).1.v.ae.ops)/\((eV x l i).2=6-> ∀b,(aj (eV x l i).1.v.ae b).bad=(aj x.v.ae b).bad):=by
 obtain⟨t1,t2,t3,t4,t5,t6⟩:=K5 hx.ae (ht.set i.toNat);have hn:=jn.on hx t1 t2 t3;rw[eV]
 by_cases h0:(cP x.v.ae l i).2≠0
 ·
  rw[if_pos h0];have he:(cP x.v.ae l i).2=(bY x.v.ae (l.set i.toNat bc)).2.2:=by
   rw[cP]at h0⊢;split at h0
   ·
    exact absurd rfl h0
   ·
    rename_i ha;rw[if_neg ha]
  refine⟨hn,fun h=>?_,fun h b=>?_⟩
  ·
   rcases Ss h with g|g
   ·
    exact absurd g h0
   ·
    exact t5 (he▸g)
  ·
   have:=t6 (he▸GV h);simp only[WV.on];rw[this]
 ·
  rw[if_neg h0];have rL:(cP x.v.ae l i).2=0:=by simpa using h0
  have hr:=GW (i:=i) hx.ae ht rL;obtain⟨m1,m2,m3,m4⟩:=GU (x:=x.on (bY x.v.ae (l.set i.toNat bc)).1) (src:=i+2) (tgt:=(cP x.v.ae l i).1) hn.ok (fun h=>by
   have:=hr h;exact⟨this.1,by simp only[WV.on];rw[t2.len];exact this.2.1,this.2.2⟩)
  have hb:(cP x.v.ae l i).2=0->(bY x.v.ae (l.set i.toNat bc)).2.2=6->(bY x.v.ae (l.set i.toNat bc)).1=x.v.ae:=fun _ h=>t6 h
  by_cases h1:(cU (x.on (bY x.v.ae (l.set i.toNat bc)).1) (i+2) (cP x.v.ae l i).1).2.1=false\/(l.getD i.toNat dZ).used=x.v.ae.pages
  ·
   rw[if_pos h1];refine⟨hn.trans m1,fun h=>?_,fun h b=>?_⟩
   ·
    have g:(bY x.v.ae (l.set i.toNat bc)).1.ops<_:=m2 h;simp only;omega
   ·
    have hf:(cU (x.on (bY x.v.ae (l.set i.toNat bc)).1) (i+2) (cP x.v.ae l i).1).2.1=false:=by
     cases hq:(cU (x.on (bY x.v.ae (l.set i.toNat bc)).1) (i+2) (cP x.v.ae l i).1).2.1 with
     |false=>rfl
     |true=>have:=m3 hq;exact absurd (this.symm.trans h) (by decide)
    rw[m4 ⟨hf,h⟩ b]
    by_cases ha:rh x.v.ae l i=true
    ·
     simp only[rh,ad2,decide_eq_true_eq]at ha;simp only[WV.on];rw[t6 ha.1]
    ·
     exact absurd h (adw (by
      have:(cP x.v.ae l i).1=(bY x.v.ae (l.set i.toNat bc)).2.1:=by rw[cP,if_neg ha]
      have g:(bY x.v.ae (l.set i.toNat bc)).2.2=0:=by
       rw[cP,if_neg ha]at rL;exact rL
      have:=(t4 g).1;omega))
  ·
   rw[if_neg h1];have hm:(cU (x.on (bY x.v.ae (l.set i.toNat bc)).1) (i+2) (cP x.v.ae l i).1).2.1=true:=by
    cases hq:(cU (x.on (bY x.v.ae (l.set i.toNat bc)).1) (i+2) (cP x.v.ae l i).1).2.1 with
    |true=>rfl
    |false=>exact absurd (.inl hq) h1
   have hz:=m2 (m3 hm);have hc:=xw (i+2) m1.ok.ae;have ho:=AQ (ei (cU (x.on (bY x.v.ae (l.set i.toNat bc)).1) (i+2) (cP x.v.ae l i).1).1.v.ae (i+2)).toNat (cU (x.on (bY x.v.ae (l.set i.toNat bc)).1) (i+2) (cP x.v.ae l i).1).1.v.ae (i+2);refine⟨(hn.trans m1).trans (.on m1.ok hc.1 hc.2 ho),fun _=>?_,fun h=>absurd (GV h) (Sr _ _)⟩;have g:(bY x.v.ae (l.set i.toNat bc)).1.ops<_:=hz;have g2:(cU (x.on (bY x.v.ae (l.set i.toNat bc)).1) (i+2) (cP x.v.ae l i).1).1.v.ae.ops<=(cG (cU (x.on (bY x.v.ae (l.set i.toNat bc)).1) (i+2) (cP x.v.ae l i).1).1.v.ae (i+2)).1.ops:=ho;simp only[WV.on]at*;omega
where
 adw {x:WV} {src tgt:Int} (h:0<=tgt):(cU x src tgt).2.2≠6:=by
  have key: ∀(l:List Int) (id:Nat) (c:CV) (a:List Int),(cc x.v src tgt l id c a).e≠some 6:=by
   intro l
   induction l with
   |nil=>intro id c a;simp[cc]
   |cons n r ih=>
    intro id c a;rw[cc];split
    ·
     exact ih _ _ _
    split
    ·
     rename_i h2;rw[cB,if_neg (by omega)]at h2;cases h2
    split
    ·
     rename_i h3;have:=(AU ⟨1,id,((x.v.gen:Int)+1).toNat,jl c n⟩ c.size).resolve_left h3;intro h;have h:=atl h;rw[eo]at h;omega
    split
    ·
     intro h;have h:=GV (atl h);have:=Dc c (cB c x.v.at_ a src tgt).1 (aj c (cB c x.v.at_ a src tgt).1).used (eo c ((x.v.gen:Int)+1) id n).1;rw[bA]at h;omega
    exact ih _ _ _
  rw[cU];split
  ·
   rename_i e he;intro h;exact key _ _ _ _ (by rw[he];exact congrArg some h)
  exact La _ _
def nT(p:Int)(x:az):Bool:=decide (x.used<p)&&decide (x.aU<cS)
def oI(c:CV)(l:List az):Int×Bool:=fG (cg (nT c.pages) l) c.pages
def jo(x:WV)(l:List az):WV×Int:=
 if(oI x.v.ae l).2=false then(x,6)else(x.on (cG x.v.ae ((oI x.v.ae l).1+2)).1,jS (cG x.v.ae ((oI x.v.ae l).1+2)).2)
def dm(x:WV):List az:=au x.v.ae x.v.at_
def ti(x:WV):Int×Bool:=iR (dm x) x.v.ae.pages
def et(x:WV):WV×Int:=
 if(ti x).2=true/\AR x.v.gen=false then
  (if(eV x (dm x) (ti x).1).2≠6 then eV x (dm x) (ti x).1 else jo (eV x (dm x) (ti x).1).1 (dm x))
 else jo x (dm x)
theorem lz.cj{c d:CV}{l:List az}(h:lz c l)(hl:dU c d)(hb: ∀b,(aj d b).bad=(aj c b).bad):lz d l:=⟨by rw[h.1,hl.len],fun i x hx kL=>by rw[hb];exact h.2 i x hx kL⟩
theorem Ld{x:WV}{l:List az}(hx:cY x)(ht:lz x.v.ae l):jn x (jo x l).1/\((jo x l).2=0->x.v.ae.ops<(jo x l).1.v.ae.ops):=by
 rw[jo];split
 ·
  exact⟨.dk hx,fun h=>absurd (show(6:Int)=0 from h) (by decide)⟩
 rename_i h;have hd:=xE ht (fun x h=>(l8 h).1) (show(oI x.v.ae l).2=true by simpa using h);change 0<=(oI x.v.ae l).1/\(oI x.v.ae l).1<_/\(aj x.v.ae ((oI x.v.ae l).1+2)).bad=false at hd;have hc:=xw ((oI x.v.ae l).1+2) hx.ae;exact⟨.on hx hc.1 hc.2 (AQ _ _ _),fun h=>GL hd.2.2 (Ss h).symm⟩
theorem GX{x:WV}(hx:cY x):jn x (et x).1/\((et x).2=0->x.v.ae.ops<(et x).1.v.ae.ops):=by
 have ht:lz x.v.ae (dm x):=y8 _ _;rw[et];split
 ·
  obtain⟨r1,r2,r3⟩:=Lc (i:=(ti x).1) hx ht;split
  ·
   exact⟨r1,r2⟩
  rename_i h6;have AW:(eV x (dm x) (ti x).1).2=6:=by simpa using h6
  have:=Ld r1.ok (ht.cj r1.cj (r3 AW));exact⟨r1.trans this.1,fun h=>by have:=this.2 h;have:=r1.ops;omega⟩
 exact Ld hx ht
def lA:Nat->WV->Int->WV×Int
 |0,x,_=>(x,0)
 |n+1,x,need=>
  if need<=(ly x.v.ae x.v.at_).1 then(x,0)
  else if need<=(ly x.v.ae x.v.at_).2/\vS x.v.ae x.v.last<2 then({x with beyond:=true},0)
  else if(et x).2=0 then lA n (et x).1 need
  else if(et x).2≠6 then et x
  else if need<=(ly x.v.ae x.v.at_).2 then({(et x).1 with beyond:=true},0)
  else((et x).1,5)
def kN(x:WV)(need:Int):WV×Int:=lA ((cS -x.v.ae.ops).toNat+1) x need
theorem cY.by{x:WV}(h:cY x)(b:Bool):cY {x with beyond:=b}:=⟨h.ae,h.len,h.pages,h.size,h.last,h.gen,h.vU,h.kM⟩
theorem jn.by{x y:WV}(h:jn x y)(b:Bool):jn x {y with beyond:=b}:=⟨h.ok.by b,h.cj,h.ops,h.xB⟩
theorem St: ∀(n:Nat) {x:WV} {need:Int},cY x->jn x (lA n x need).1
 |0,x,need,hx=> .dk hx
 |n+1,x,need,hx=>by
  have hc:=GX hx;rw[lA];split
  ·
   exact .dk hx
  split
  ·
   exact(jn.dk hx).by true
  split
  ·
   exact hc.1.trans (St n hc.1.ok)
  split
  ·
   exact hc.1
  split
  ·
   exact hc.1.by true
  exact hc.1
theorem adx{x:WV}{need:Int}(hx:cY x):jn x (kN x need).1:=St _ hx
def bu(x:It):Int×List UInt8:=(x.id,x.body.xs)
def mP(l:List (Int×List UInt8)):Nat:=(l.filter fun x=>decide (0<x.2.length)).length
theorem ady{l:List (Int×List UInt8)}{i:Nat}{x:Int×List UInt8}(h:l[i]? =some x):((l.take (i+1)).filter fun x=>decide (0<x.2.length)).length=((l.take i).filter fun x=>decide (0<x.2.length)).length+(if 0<x.2.length then 1 else 0):=by
 rw[atr,h,auG,adr];congr 1;simp only[awf,auu,avB];split<;>simp_all
def iS(v:VV)(x:Int×List UInt8):PV:=⟨1,x.1,v.gen+1,x.2⟩
def fV(v:VV)(aG:Bool):List (Int×List UInt8)->CV->List Int->CV×List Int×Int
 |[],c,a=>(c,a,0)
 |x::r,c,a=>
  if x.2.length=0 then fV v aG r c (a.set x.1.toNat 0)
  else if(cT c (v.at_++a) aG (iS v x)).2.2≠0 then((cT c (v.at_++a) aG (iS v x)).1,a,(cT c (v.at_++a) aG (iS v x)).2.2)
  else fV v aG r (cT c (v.at_++a) aG (iS v x)).1 (a.set x.1.toNat (cT c (v.at_++a) aG (iS v x)).2.1)
def cN(x:WV)(l:List (Int×List UInt8)):WV×Int:=kN {x with beyond:=false} (mP l)
def gk(x:WV)(l:List (Int×List UInt8)):CV×List Int×Int:=fV (cN x l).1.v (cN x l).1.beyond l (cN x l).1.v.ae (cN x l).1.v.at_
def gy(x:WV)(l:List (Int×List UInt8)):WV×Int:=
 if(cN x l).2≠0 then cN x l
 else if(gk x l).2.2≠0 then((cN x l).1.on (gk x l).1,(gk x l).2.2)
 else dQ ((cN x l).1.on (gk x l).1) (gk x l).2.1
theorem Le{v:VV}{aG:Bool}: ∀(l:List (Int×List UInt8)) {c:CV} {a:List Int},aW c=true->3<=c.blocks.length->iQ c a->
  aW (fV v aG l c a).1=true/\dU c (fV v aG l c a).1/\c.ops<=(fV v aG l c a).1.ops/\iQ c (fV v aG l c a).2.1/\(fV v aG l c a).2.1.length=a.length
 |[],c,a,hk,h2,ha=>⟨hk, .dk c,aul _,ha,rfl⟩
 |x::r,c,a,hk,h2,ha=>by
  rw[fV];split
  ·
   have:=Le r (v:=v) (aG:=aG) hk h2 (a:=a.set x.1.toNat 0) (fun y hy=>by
    rcases at0 hy with hy|rfl
    ·
     exact ha y hy
    ·
     exact .inl rfl)
   rwa [atV]at this
  ·
   obtain⟨p1,p2,p3,p4⟩:=Sg (fl:=v.at_++a) (aG:=aG) (p:=iS v x) hk h2;split
   ·
    exact⟨p1,p2,p3,ha,rfl⟩
   ·
    rename_i h0;have p5:=p4 (by simpa using h0);have:=Le r (v:=v) (aG:=aG) p1 (by rw[p2.len];exact h2) (a:=a.set x.1.toNat (cT c (v.at_++a) aG (iS v x)).2.1) (fun y hy=>by
     rw[p2.pages,p2.len];rcases at0 hy with hy|rfl
     ·
      exact ha y hy
     ·
      exact .inr p5)
    obtain⟨i1,i2,i3,i4,i5⟩:=this;refine⟨i1,p2.trans i2,by omega,fun y hy=>?_,by rw[i5,atV]⟩;have:=i4 y hy;rwa [p2.pages,p2.len]at this
theorem GY{x:WV}{l:List (Int×List UInt8)}(hx:cY x):jn x (cN x l).1:=by
 have:=adx (need:=mP l) (hx.by false);exact⟨this.ok,this.cj,this.ops,this.xB⟩
theorem GZ{x:WV}{l:List (Int×List UInt8)}(hx:cY x):jn x (gy x l).1:=by
 have hs:=GY (l:=l) hx;rw[gy];split
 ·
  exact hs
 have hl:=hs.ok.te;obtain⟨i1,i2,i3,i4,i5⟩:=Le (v:=(cN x l).1.v) (aG:=(cN x l).1.beyond) l hs.ok.ae (by omega) hs.ok.vU;have fN:=hs.trans (.on hs.ok i1 i2 i3);split
 ·
  exact fN
 exact fN.trans (K2 fN.ok (i4.cj i2) i5).1
def lB:Nat->WV->List (Int×List UInt8)->WV×Int
 |0,x,_=>(x,0)
 |n+1,x,l=>if(gy x l).2=5/\nR x.v.ae<nR (gy x l).1.v.ae then lB n (gy x l).1 l else gy x l
theorem Su(c:CV):nR c<=c.blocks.length:=avJ _ _
def uE(v:VV)(x:Int×List UInt8):Bool:=decide (0<=x.1)&&decide (x.1<(v.at_.length:Int))&&decide ((x.2.length:Int)<=dW v.ae.size)
def uF(v:VV)(l:List (Int×List UInt8))(i:Nat):Bool:=uE v (l.getD i (0,[]))&& !((l.take i).map Prod.fst).contains (l.getD i (0,[])).1
def tj(v:VV)(l:List (Int×List UInt8)):Bool:=(List.range l.length).all (uF v l)
theorem Dd{v:VV}{l:List (Int×List UInt8)}:tj v l=true↔ ∀i,i<l.length->uF v l i=true:=by simp only[tj,aty,atX]
def uG(l:List Int)(i:Nat):Int->Option Unit:=fun x=>if x∈l.take i then some ()else none
theorem Sw{l:List Int}{i:Nat}{x:Int}:(uG l i x).isSome=decide (x∈l.take i):=by
 unfold uG;split<;>simp_all
theorem adz{l:List Int}:(fun _=>none)=uG l 0:=by
 funext x;simp[uG]
theorem adA{l:List Int}{i:Nat}{y:Int}(h:l[i]? =some y):(fun z=>if z=y then some ()else uG l i z)=uG l (i+1):=by
 funext x
 unfold uG;rw[atr,h]
 by_cases hx:x=y
 ·
  subst hx;simp
 simp[hx]
def eW(v:VV)(l:List (Int×List UInt8)):VV×Int:=
 if ¬(mK v=true/\v.gen<281474976710655/\tj v l=true)then(v,1)
 else if v.ae.off=true then(v,7)
 else((lB (v.ae.blocks.length+1) ⟨v,false⟩ l).1.v,(lB (v.ae.blocks.length+1) ⟨v,false⟩ l).2)
def uH(b p:Int):Int:=if b<4\/32<b\/p<1\/16<p then 0 else(b -4)*p
def oJ(c:CV)(ids:Int):WV×Int:=rS ⟨⟨c,[],0,0⟩,false⟩ ids.toNat
def pO(c:CV)(ids:Int):VV×Int:=
 if ¬(gx c=true/\1<=ids/\ids<=kJ c.size)then(⟨c,[],0,0⟩,1)
 else if c.off=true then(⟨c,[],0,0⟩,7)
 else if(oJ c ids).2≠0 then(⟨(oJ c ids).1.v.ae,[],0,0⟩,(oJ c ids).2)
 else((oJ c ids).1.v,0)
theorem adB{b:List UInt8}:(bF b).1.at_.length<=64/\(bF b).1.gen<281474976710656:=by
 rw[bF];split
 ·
  simp[iq]
 rename_i h1;split
 ·
  simp[iq]
 rename_i h2;split
 ·
  simp[iq]
 rename_i h3;have hf:vP (cM b).1=true:=by simpa using h3
 simp only[vP,ad2,decide_eq_true_eq]at hf;refine⟨?_,RZ b⟩;have hid:(cM b).1.id<64:=by
  have nU:(cM b).2=0:=by simpa using h1
  rw[cM]at nU h2⊢
  by_cases g1:oD b.length=false
  ·
   rw[if_pos g1]at nU;cases nU
  rw[if_neg g1]at nU h2⊢
  by_cases g2:km b=true
  ·
   rw[if_pos g2]at h2;exact absurd rfl h2
  rw[if_neg g2]at nU h2⊢
  by_cases g3:de (yX b)≠oB (mJ b)
  ·
   rw[if_pos g3]at nU;cases nU
  rw[if_neg g3]at nU h2⊢
  by_cases g4:pI b=false
  ·
   rw[if_pos g4]at nU;cases nU
  rw[if_neg g4]at nU h2⊢;have g5:pI b=true:=by simpa using g4
  simp only[pI,ad2]at g5;have:=(rM.1 g5.2).2.2.2.1;split
  ·
   simp[kl]
  exact this
 simp only[GG];omega
theorem Sx(l:List (List UInt8)): ∀k,(dF l k).new.at_.length<=64/\(dF l k).new.gen<281474976710656
 |0=>by simp[dF,iq]
 |k+1=>by
  rw[dF,yZ];split
  ·
   exact adB
  exact Sx l k
theorem adC(l:List (List UInt8)):(fT l).2.1.at_.length<=64/\(fT l).2.1.gen<281474976710656:=by
 rw[fT];split
 ·
  exact Sx _ _
 split<;>simp[iq]
theorem De{v:VV}{b:Bool}(h:mK v=true):cY ⟨v,b⟩:=by
 have hr:=C4 h;have ha:= @RM v h;simp only[mK,ad2,decide_eq_true_eq]at h;obtain⟨⟨⟨h1,h2⟩,h3⟩,h4⟩:=h;obtain⟨hb,hl,hf⟩:=KO h1;obtain⟨b1,b2,b3,b4⟩:=fF.1 hb;have AX:=adC ((aj {v.ae with off:=false} 0).pages++(aj {v.ae with off:=false} 1).pages)
 rw[hf]at h2 h3 h4;simp only at h2 h3 h4;have hd:=eU hr.1;have qX:4<=(v.ae.blocks.length:Int):=b2;refine⟨hr.1,b2,b3,b4,?_,by rw[←h2];exact AX.2,fun n hn=>?_,by rw[←h4];exact AX.1⟩
 ·
  rw[←h3];have ho0:=fu.1 (s9 hr.1 (b:=0) (by omega) (by omega));have ho1:=fu.1 (s9 hr.1 (b:=1) (by omega) (by omega));have hlen:((aj v.ae 0).pages++(aj v.ae 1).pages).length=(aj v.ae 0).pages.length+(aj v.ae 1).pages.length:=adr;have kO:=KK (l:=(aj v.ae 0).pages++(aj v.ae 1).pages) (by rw[hlen];omega);change 0<=(bW {v.ae with off:=false}).1/\(bW {v.ae with off:=false}).1<_ at kO
  rw[hlen]at kO;have g0:0<=(bW {v.ae with off:=false}).1/v.ae.pages:=avs kO.1 (by omega)
  have g1:(bW {v.ae with off:=false}).1/v.ae.pages<2:=Int.ediv_lt_of_lt_mul (by omega) (by
   have h9:(bW {v.ae with off:=false}).1<(((aj v.ae 0).pages.length+(aj v.ae 1).pages.length:Nat):Int):=kO.2
   omega)
  change(bW {v.ae with off:=false}).1/v.ae.pages=0\/(bW {v.ae with off:=false}).1/v.ae.pages=1
  omega
 by_cases h0:n=0
 ·
  exact .inl h0
 obtain⟨i,hi⟩:=atH hn;have:=ha hi h0;have hp:=ni.1 this.2.2;exact .inr ⟨this.1,hp.1,hp.2.1⟩
def Sy(b:BV):Bool:=decide (b.pages.length<=20)&&b.pages.all fun p=>decide (p.length<=300)
def Sz(c:CV):Bool:=decide (c.blocks.length<=40)&&decide (c.aD.length<=80)&&c.blocks.all Sy
theorem ao5{c:CV}:Sz c=true↔c.blocks.length<=40/\c.aD.length<=80/\ ∀b∈c.blocks,b.pages.length<=20/\ ∀p∈b.pages,p.length<=300:=by
 simp only[Sz,Sy,ad2,decide_eq_true_eq,aty,and_assoc]
def y9(l:List (List UInt8))(i:Nat):Bool:=decide ((bF (l.getD i [])).2=0)&&(List.range l.length).all fun k=> !(decide ((bF (l.getD k [])).2=0)&&(decide ((bF (l.getD i [])).1.gen<(bF (l.getD k [])).1.gen)||(decide ((bF (l.getD k [])).1.gen=(bF (l.getD i [])).1.gen)&&decide (i<k))))
theorem Lf(l:List (List UInt8)): ∀k,k<=l.length->
  ((dF l k).found=true-> ∃i,i<k/\(dF l k).at_=(i:Int)/\(bF (l.getD i [])).2=0/\(dF l k).new=(bF (l.getD i [])).1/\ ∀j,j<k->(bF (l.getD j [])).2=0->(bF (l.getD j [])).1.gen<(bF (l.getD i [])).1.gen\/((bF (l.getD j [])).1.gen=(bF (l.getD i [])).1.gen/\j<=i))/\
  ((dF l k).found=false-> ∀j,j<k->(bF (l.getD j [])).2≠0)/\(dF l k).blank=(l.take k).all km
 |0,_=>⟨fun h=>by simp[dF]at h,fun _ j hj=>by omega,by simp[dF]⟩
 |k+1,hk=>by
  obtain⟨h1,h2,h3⟩:=Lf l k (by omega);obtain⟨b,hb⟩:=get_some (xs:=l) (i:=k) (by omega);have hg:l.getD k []=b:=by simp[List.getD,hb]
  have dM:(l.take (k+1)).all km=((l.take k).all km&&km b):=by rw[atr,hb];simp
  by_cases hq:(bF b).2=0/\((dF l k).found=false\/(dF l k).new.gen<=(bF b).1.gen)
  ·
   rw[Rz hb hq,h3,dM];refine⟨fun _=>⟨k,by omega,rfl,by rw[hg];exact hq.1,by rw[hg],fun j hj hv=>?_⟩,fun h=>by simp at h,rfl⟩;rw[hg]
   by_cases e:j=k
   ·
    subst e;rw[hg];exact .inr ⟨rfl,att _⟩
   ·
    have EH:j<k:=by omega
    rcases hq.2 with hf|hf
    ·
     exact absurd hv (h2 hf j EH)
    ·
     cases lC:(dF l k).found with
     |false=>exact absurd hv (h2 lC j EH)
     |true=>
      obtain⟨i,hi,ha,FJ,hn,iY⟩:=h1 lC;rw[hn]at hf;rcases iY j EH hv with g|g
      ·
       exact .inl (by omega)
      ·
       by_cases bn:(bF (l.getD j [])).1.gen<(bF b).1.gen
       ·
        exact .inl bn
       ·
        exact .inr ⟨by omega,by omega⟩
  ·
   rw[RA hb hq];refine⟨fun lC=>?_,fun lC j hj=>?_,by simp only[h3,dM]⟩
   ·
    obtain⟨i,hi,ha,FJ,hn,iY⟩:=h1 lC;refine⟨i,by omega,ha,FJ,hn,fun j hj hv=>?_⟩
    by_cases e:j=k
    ·
     subst e;rw[hg]at hv⊢;have: ¬(dF l j).new.gen<=(bF b).1.gen:=fun h=>hq ⟨hv, .inr h⟩;rw[hn]at this;exact .inl (by omega)
    ·
     exact iY j (by omega) hv
   ·
    by_cases e:j=k
    ·
     subst e;rw[hg];exact fun hv=>hq ⟨hv, .inl lC⟩
    ·
     exact h2 lC j (by omega)
theorem G0{l:List (List UInt8)}{i:Nat}:y9 l i=true↔(bF (l.getD i [])).2=0/\ ∀k,k<l.length->(bF (l.getD k [])).2=0-> ¬((bF (l.getD i [])).1.gen<(bF (l.getD k [])).1.gen\/((bF (l.getD k [])).1.gen=(bF (l.getD i [])).1.gen/\i<k)):=by
 simp only[y9,ad2,decide_eq_true_eq,aty,atX,aus,Bool.and_eq_false_iff,Bool.or_eq_false_iff,decide_eq_false_iff_not];constructor
 ·
  rintro⟨h1,h2⟩;refine⟨h1,fun k hk hv hc=>?_⟩;rcases h2 k hk with g|g
  ·
   exact g hv
  rcases hc with c|c
  ·
   exact g.1 c
  rcases g.2 with g|g
  ·
   exact g c.1
  exact g c.2
 rintro⟨h1,h2⟩;refine⟨h1,fun k hk=>?_⟩
 by_cases hv:(bF (l.getD k [])).2=0
 ·
  have:=h2 k hk hv;refine .inr ⟨fun c=>this (.inl c),?_⟩
  by_cases e:(bF (l.getD k [])).1.gen=(bF (l.getD i [])).1.gen
  ·
   exact .inr fun c=>this (.inr ⟨e,c⟩)
  exact .inl e
 exact .inl hv
theorem SA{l:List (List UInt8)}{i:Nat}(hi:i<l.length)(h:y9 l i=true):fT l=((i:Int),(bF (l.getD i [])).1,0):=by
 obtain⟨h1,h2⟩:=G0.1 h;obtain⟨s1,s2,s3⟩:=Lf l l.length (att _)
 cases hf:(dF l l.length).found with
 |false=>exact absurd h1 (s2 hf i hi)
 |true=>
  obtain⟨j,hj,ha,hv,hn,iY⟩:=s1 hf;have e:j=i:=by
   have g1:=iY i hi h1;have g2:=h2 j hj hv;omega
  subst e;rw[fT,if_pos hf,ha,hn]
theorem adD{l:List (List UInt8)}(h: ∀i,i<l.length->y9 l i=false):fT l=(0,iq,if l.all km=true then 6 else 2):=by
 obtain⟨s1,s2,s3⟩:=Lf l l.length (att _);rw[atP]at s3
 cases hf:(dF l l.length).found with
 |false=>
  rw[fT,if_neg (by rw[hf];simp),s3];split<;>rfl
 |true=>
  obtain⟨j,hj,ha,hv,hn,iY⟩:=s1 hf;have:y9 l j=true:=G0.2 ⟨hv,fun k hk hvk hc=>by have:=iY k hk hvk;omega⟩;rw[h j hj]at this;cases this
def vV(c:CV):VV×Int:=
 if(bW c).2.2≠0 then(lY,(bW c).2.2)else if nj c=false then(lY,2)else(⟨c,(bW c).2.1.at_,(bW c).2.1.gen,(bW c).1/c.pages⟩,0)
theorem SB{c:CV}{l:List Int}{i:Nat}{y:Int}(h:l.getD i 0=y):rO c l i=(decide (y=0)||(!(l.take i).contains y&&oG c (i:Int) y)):=by rw[rO,h]
theorem adE(c:CV):bE c=if gx c=false then(lY,1)else if c.off=true then(lY,7)else vV c:=rfl
theorem adF(x:VV):mK x=(gx x.ae&&(decide ((vV x.ae).2=0)&&decide (x.at_=(vV x.ae).1.at_)&&decide (x.gen=(vV x.ae).1.gen)&&decide (x.last=(vV x.ae).1.last))):=by
 have hb:gx {x.ae with off:=false}=gx x.ae:=rfl
 have fB:nj {x.ae with off:=false}=nj x.ae:=rfl
 have AY:bW {x.ae with off:=false}=bW x.ae:=rfl
 rw[mK,adE,hb]
 cases h:gx x.ae with
 |false=>rw[if_pos rfl];rfl
 |true=>
  rw[if_neg (by simp),if_neg (by simp),vV,vV,AY,fB]
  by_cases h1:(bW x.ae).2.2≠0
  ·
   rw[if_pos h1,if_pos h1,decide_eq_false h1];rfl
  rw[if_neg h1,if_neg h1]
  by_cases h2:nj x.ae=false
  ·
   rw[if_pos h2,if_pos h2];rfl
  rw[if_neg h2,if_neg h2];rw[avL];simp only[ad2,decide_eq_true_eq,true_and,aup];constructor
  ·
   rintro⟨⟨g1,g2⟩,g3⟩;exact⟨⟨g3.symm,g1.symm⟩,g2.symm⟩
  rintro⟨⟨g1,g2⟩,g3⟩;exact⟨⟨g2.symm,g3.symm⟩,g1.symm⟩
theorem adG{c:CV}(h:(bE c).2≠0):(bE c).1=lY:=by
 rw[bE]at h⊢
 repeat' split
 all_goals first|rfl|(exfalso;simp_all)
theorem adH(c:CV):(if(bE c).2=0 then(bE c).1 else lY)=(bE c).1:=by
 by_cases h:(bE c).2=0
 ·
  rw[if_pos h]
 rw[if_neg h,adG h]
def Lg(pages:Int)(l:List Int)(i:Nat)(n:Nat):Nat:=((List.range n).filter fun j=>decide (0<l.getD j 0)&&decide ((l.getD j 0 -1)/pages=(i:Int)+2)).length
theorem adI{v:VV}(h:mK v=true)(i:Nat):ko v.ae.pages v.at_ v.at_.length i=Lg v.ae.pages v.at_ i v.at_.length:=by
 obtain⟨-,h2,h3⟩:=C4 h;rw[ko,Lg];congr 1;refine List.filter_congr fun j hj=>?_;have jg:j<v.at_.length:=atX.1 hj;have hp:=C2.1 h2 j jg;have hr:=h3 (v.at_.getD j 0) (by rw[show v.at_.getD j 0=v.at_[j] by simp[List.getD,jg]];exact ava _);congr 1;rw[rO]at hp;rw[nQ]
 by_cases h0:v.at_.getD j 0=0
 ·
  rw[h0];simp
 rw[decide_eq_true h0,decide_eq_true (show 0<v.at_.getD j 0 by omega)];rw[decide_eq_false h0,awd,ad2]at hp;rw[hp.1];rfl
def rU(t:List Rt)(n id:Nat):List UInt8:=((t.drop (id*n)).take n).flatMap fj
def mc(t:List Rt)(ids n:Nat):List (List UInt8):=(List.range ids).map (rU t n)
def jq(a b:Int):Int:=if a<1\/64<a\/b<20\/240<b then 0 else min (a*(b/20)) 256
def jH(t:List Rt)(ids room:Int):Int:=if cL t=false\/jq ids room=0 then 1 else if jq ids room<t.length then 5 else 0
def lD(t:List Rt)(ids room:Int):List (List UInt8):=if jH t ids room=0 then mc t ids.toNat (room/20).toNat else[]
theorem xG(t:List Rt)(ids n:Nat):(mc t ids n).length=ids:=by simp[mc]
theorem adJ(l:List Rt):(l.flatMap fj).length=20*l.length:=by
 induction l with
 |nil=>rfl
 |cons a l ih=>rw[av3,adr,ih,re,af0];omega
theorem adK(t:List Rt)(n id:Nat):(rU t n id).length=20*min n (t.length -id*n):=by
 rw[rU,adJ,atq,atD]
theorem Lh(t:List Rt)(n id:Nat):(rU t n id).length<=20*n:=by rw[adK];omega
theorem G1{a b:Int}(h: ¬jq a b=0):1<=a/\a<=64/\20<=b/\b<=240/\jq a b=min (a*(b/20)) 256/\1<=b/20/\b/20<=12:=by
 unfold jq at h⊢;split at h
 ·
  exact absurd rfl h
 rename_i hn;rw[if_neg hn];have:1<=b/20/\b/20<=12:=by omega
 exact⟨by omega,by omega,by omega,by omega,rfl,this.1,this.2⟩
theorem adL{t:List Rt}{r:Rt}{i n id:Nat}(hn:0<n)(hr:t[i]? =some r):rU (t.take (i+1)) n id=rU (t.take i) n id++(if id=i/n then fj r else[]):=by
 have bn:i<t.length:=(zz.1 hr).1;have e1:t.take (i+1)=t.take i++[r]:=by rw[atr,hr];rfl
 have hd:=avY i n;have hm:=ave i hn;have hc:n*(i/n)=i/n*n:=auP _ _;unfold rU;have l1:(t.take i).length=i:=by rw[atq];omega
 rw[e1]
 by_cases h1:id=i/n
 ·
  subst h1;have e2:(t.take i++[r]).drop (i/n*n)=(t.take i).drop (i/n*n)++[r]:=List.drop_append_of_le_length (by rw[l1];omega);have e3:((t.take i).drop (i/n*n)++[r]).take n=(t.take i).drop (i/n*n)++[r]:=atC (by rw[adr,atD,l1];simp only[af0,anc];omega);have e4:((t.take i).drop (i/n*n)).take n=(t.take i).drop (i/n*n):=atC (by rw[atD,l1];omega);rw[if_pos rfl,e2,e3,e4];simp
 rw[if_neg h1,auh];rcases Nat.lt_or_gt_of_ne h1 with h2|h2
 ·
  have:(id+1)*n<=i/n*n:=atG _ h2;rw[atU]at this;rw[List.drop_append_of_le_length (by rw[l1];omega),List.take_append_of_le_length (by rw[atD,l1];omega)]
 have:(i/n+1)*n<=id*n:=atG _ h2;rw[atU]at this;rw[awh (by rw[adr,l1];simp;omega),awh (by rw[l1];omega)]
theorem adM{t:List Rt}{r:Rt}{i n ids:Nat}{x:List UInt8}(hn:0<n)(hr:t[i]? =some r)(hx:(mc (t.take i) ids n)[i/n]? =some x):
  mc (t.take (i+1)) ids n=(mc (t.take i) ids n).set (i/n) (x++fj r):=by
 refine auz fun j=>?_;rw[auo];have hk:i/n<ids:=by have:=(zz.1 hx).1;rwa [xG]at this
 by_cases hj:j<ids
 ·
  have e: ∀t',(mc t' ids n)[j]? =some (rU t' n j):=fun t'=>by simp[mc,hj]
  rw[e,adL hn hr]
  by_cases h:i/n=j
  ·
   subst h;rw[e]at hx;rw[if_pos rfl,if_pos rfl,if_pos (by rw[xG];exact hk)];rw[atl hx]
  ·
   rw[if_neg (fun e=>h e.symm),if_neg h,auh,e]
 ·
  rw[atB (by rw[xG];omega),if_neg (by omega),atB (by rw[xG];omega)]
theorem adN(t:List Rt)(ids n:Nat):mc (t.take 0) ids n=List.replicate ids []:=by
 refine List.eq_replicate_iff.2 ⟨xG _ _ _,fun x hx=>?_⟩;obtain⟨j,_,rfl⟩:=auq.1 hx;simp[rU]
theorem adO(t:List Rt)(id n:Nat):mc t (id+1) n=mc t id n++[rU t n id]:=by simp[mc,auF]
def ri(b:List UInt8):Rt:=⟨⟨if b.getD 0 0=1 then 128 else 32,(b.getD 1 0).toNat,oo fun i=>(b.getD (2+i) 0).toNat⟩,UInt16.ofNat ((b.getD 18 0).toNat*256+(b.getD 19 0).toNat)⟩
def rd(b:List UInt8):Option Rt:=if b.getD 0 0<=1 then some (ri b)else none
def nq(b:List UInt8):Option (List Rt):=
 if h:b.length<20 then(if b.length=0 then some []else none)
 else match rd (b.take 20),nq (b.drop 20)with
  |some r,some l=>some (r::l)
  |_,_=>none
termination_by b.length
decreasing_by rw[atD];omega
theorem SC:nq []=some []:=by rw[nq];simp
theorem Li{b:List UInt8}(h:20<=b.length):nq b=(rd (b.take 20)).bind fun r=>(nq (b.drop 20)).map (r:: ·):=by
 rw[nq,dif_neg (by omega)]
 cases rd (b.take 20)<;>simp
 cases nq (b.drop 20)<;>simp
theorem SD: ∀(k:Nat) (b:List UInt8),b.length<=k-> ¬b.length%20=0->nq b=none
 |0,b,h,hm=>by have:b.length=0:=by omega
               rw[this]at hm;simp at hm
 |k+1,b,h,hm=>by
  by_cases h2:b.length<20
  ·
   rw[nq,dif_pos h2,if_neg (fun e=>by rw[e]at hm;simp at hm)]
  rw[Li (by omega),SD k (b.drop 20) (by rw[atD];omega) (by rw[atD];omega)]
  cases rd (b.take 20)<;>rfl
def hK:List (List UInt8)->Option (List Rt)
 |[]=>some []
 |b::r=>(nq b).bind fun l=>(hK r).map (l++ ·)
theorem G2: ∀a b:List (List UInt8),hK (a++b)=(hK a).bind fun l=>(hK b).map (l++ ·)
 |[],b=>by simp[hK]
 |x::a,b=>by
  rw[auL,hK,hK,G2 a b]
  cases nq x<;>simp
  cases hK a<;>simp
  cases hK b<;>simp
theorem Lj{bs:List (List UInt8)}{i:Nat}{b:List UInt8}(h:bs[i]? =some b):hK (bs.take (i+1))=(hK (bs.take i)).bind fun l=>(nq b).map (l++ ·):=by
 rw[atr,h,awf,G2,hK,hK]
 cases hK (bs.take i)with
 |none=>rfl
 |some l=>cases nq b<;>simp
theorem SE{bs:List (List UInt8)}{i:Nat}(h:hK (bs.take i)=none):hK bs=none:=by
 rw[←auc i bs,G2,h];rfl
def jV(bs:List (List UInt8)):List Rt:=match hK bs with
 |some t=>if cL t=true then t else[]
 |none=>[]
def lE(bs:List (List UInt8)):Int:=match hK bs with
 |some t=>if cL t=true then 0 else 2
 |none=>2
theorem G3{bs:List (List UInt8)}(h:hK bs=none):jV bs=[]/\lE bs=2:=by simp[jV,lE,h]
theorem SF{bs:List (List UInt8)}{t:List Rt}(h:hK bs=some t)(hr:cL t=false):jV bs=[]/\lE bs=2:=by simp[jV,lE,h,hr]
theorem Lk{bs:List (List UInt8)}{t:List Rt}(h:hK bs=some t)(hr:cL t=true):jV bs=t/\lE bs=0:=by simp[jV,lE,h,hr]
def uI(a b:List (List UInt8))(i:Nat):Option (Int×List UInt8):=if a.getD i []=b.getD i []then none else some ((i:Int),b.getD i [])
def oL(a b:List (List UInt8))(n:Nat):List (Int×List UInt8):=(List.range n).filterMap (uI a b)
def fk(a b:List (List UInt8)):List (Int×List UInt8):=oL a b (max a.length b.length)
theorem SG{a b:List (List UInt8)}{n:Nat}(h:a.getD n []=b.getD n []):oL a b (n+1)=oL a b n:=by
 have e:uI a b n=none:=by rw[uI,if_pos h]
 simp[oL,auF,e]
theorem SH{a b:List (List UInt8)}{n:Nat}(h: ¬a.getD n []=b.getD n []):oL a b (n+1)=oL a b n++[((n:Int),b.getD n [])]:=by
 have e:uI a b n=some ((n:Int),b.getD n []):=by rw[uI,if_neg h]
 simp[oL,auF,e]
theorem G4(a b:List (List UInt8))(n:Nat):(oL a b n).length<=n:=by
 have:=List.length_filterMap_le (uI a b) (List.range n);simpa[oL]using this
def rj(b:List UInt8):Bool:=decide (b.getD 0 0<=1)
def rdv(b:List UInt8):Rt:=if rj b=true then ri b else bO
theorem SI(b:List UInt8):rd b=if rj b=true then some (ri b)else none:=by simp[rd,rj]
theorem adP(b:List UInt8):(ri b).dN=tX (b.getD 18 0) (b.getD 19 0):=rfl
theorem adQ{b:List UInt8}(hb:b.length=20)(v:Int)(hv:v=if b.getD 0 0=1 then 128 else 32):
  (over (((ay bO).setIfInBounds 0 (.int .i64 v)).setIfInBounds 1 (.int .i64 (b.getD 1 0).toNat)) 2 (aJ aO ((b.drop 2).take 16)).toArray).setIfInBounds 18 (.int .u16 (tX (b.getD 18 0) (b.getD 19 0)).toNat)=ay (ri b):=by
 have hk:(aJ aO ((b.drop 2).take 16)).toArray.size=16:=by rw[auj,ia,atq,atD,hb];rfl
 have h0:(ay bO).size=19:=gN _;have hs:2+(aJ aO ((b.drop 2).take 16)).toArray.size<=(((ay bO).setIfInBounds 0 (.int .i64 v)).setIfInBounds 1 (.int .i64 (b.getD 1 0).toNat)).size:=by rw[hk];simp[h0]
 refine aut fun j=>?_;rw[aub,ph hs,tU hs,hk]
 by_cases CZ:18=j
 ·
  subst CZ;rw[if_pos rfl,ue,adP];simp[h0]
 rw[if_neg CZ]
 by_cases h2:2<=j/\j<2+16
 ·
  rw[if_pos h2,nJ _ j (by omega),show j=2+(j -2) by omega,qR,jh _ _ (by omega),show 2+(j -2) -2=j -2 by omega];have hg:((b.drop 2).take 16)[j -2]? =some (b.getD j 0):=by
   rw[avj,if_pos (by omega),auC,show 2+(j -2)=j by omega,List.getD,atp (by omega)];rfl
  have:=oc (enc:=aO) ((b.drop 2).take 16) (j -2) _ hg 0 (by decide);simp only[avy,auH]at this;rw[show(aJ aO ((b.drop 2).take 16)).toArray[j -2]? =(aJ aO ((b.drop 2).take 16))[j -2]?by simp,this];have e:bf (ri b).p.key (j -2)=(b.getD j 0).toNat:=by
   show bf (oo fun i=>(b.getD (2+i) 0).toNat) (j -2)=_;rw[ud _ _ (by omega),show 2+(j -2)=j by omega];have:=(b.getD j 0).toNat_lt;omega
  rw[e];rfl
 rw[if_neg h2,aub]
 by_cases h1:1=j
 ·
  subst h1;rw[if_pos rfl,nJ _ 1 (by decide),yI];simp[h0,ri]
 rw[if_neg h1,aub]
 by_cases hj:0=j
 ·
  subst hj;rw[if_pos rfl,nJ _ 0 (by decide),yH];simp[h0,ri,hv]
 ·
  rw[if_neg hj,atQ (by rw[h0];omega),atQ (by rw[gN];omega)]
theorem SJ{t:List Rt}{ids room:Int}(h:jq ids room=0\/cL t=false):jH t ids room=1/\lD t ids room=[]:=by
 have e:jH t ids room=1:=if_pos h.symm;exact⟨e,by rw[lD,e];rfl⟩
theorem SK{t:List Rt}{ids room:Int}(h: ¬jq ids room=0)(h':cL t=true)(h2:jq ids room<t.length):jH t ids room=5/\lD t ids room=[]:=by
 have e:jH t ids room=5:=by
  rw[jH,if_neg (by simp[h,h']),if_pos h2]
 exact⟨e,by rw[lD,e];rfl⟩
theorem Ll{t:List Rt}{ids room:Int}(h: ¬jq ids room=0)(h':cL t=true)(h2: ¬jq ids room<t.length):jH t ids room=0/\lD t ids room=mc t ids.toNat (room/20).toNat:=by
 have e:jH t ids room=0:=by
  rw[jH,if_neg (by simp[h,h']),if_neg h2]
 exact⟨e,by rw[lD,if_pos e]⟩
theorem adR{s:Sv}{xs:List (Sl UInt8)}{i:Nat}{y:Sl UInt8}:lx (⟨s,xs.set i y⟩:Sl (Sl UInt8))=(xs.map (·.xs)).set i y.xs:=by simp[lx,avF]
section
variable {bits:Int} {ns:List Nd} {i:Nat} {a a2:List Int} {nd:Nd}
end
def par(v:Wy):Wy:=aat v.key (v.steps -1)
section
variable {bits:Int} {W:List Wy} {R:List Rt}
def lab(W:List Wy)(i b:Nat)(v:Wy):Int:=
 if v.steps=0\/W.idxOf (par v)<i\/W.idxOf (par v)=i/\kst v.key (v.steps -1)<b then(v.steps:Int)+1 else 0
end
section
variable {bits:Int} {t:List Rt}
end
def me(p:Nat->Bool):Nat->Nat->Nat->Nat
 |0,i,_=>i
 |f+1,i,j=>if i<j then(if p ((i+j)/2)=true then me p f i ((i+j)/2)else me p f ((i+j)/2+1) j)else i
def bs(p:Nat->Bool)(n:Nat):Nat:=me p (n+1) 0 n
theorem G5(p:Nat->Bool): ∀(f g i j:Nat),j -i<f->j -i<g->me p f i j=me p g i j
 |0,_,_,_,h,_=>by omega
 |_+1,0,_,_,_,h=>by omega
 |f+1,g+1,i,j,h1,h2=>by
  rw[me,me];split
  ·
   split
   ·
    exact G5 p f g _ _ (by omega) (by omega)
   exact G5 p f g _ _ (by omega) (by omega)
  rfl
theorem SL{p:Nat->Bool}{f i j:Nat}(h:i<j)(hf:j -i<f):me p f i j=if p ((i+j)/2)=true then me p f i ((i+j)/2)else me p f ((i+j)/2+1) j:=by
 match f,hf with
 |f+1,hf=>
  rw[me,if_pos h];split
  ·
   exact G5 p f (f+1) _ _ (by omega) (by omega)
  exact G5 p f (f+1) _ _ (by omega) (by omega)
theorem adS{p:Nat->Bool}{f i j:Nat}(h: ¬i<j)(hf:0<f):me p f i j=i:=by
 match f,hf with
 |f+1,_=>rw[me,if_neg h]
theorem Lm{p:Nat->Bool}{n:Nat}(hm: ∀a b,a<=b->b<n->p a=true->p b=true): ∀(f i j:Nat),j -i<f->i<=j->j<=n->(∀a,a<i->p a=false)->(∀a,j<=a->a<n->p a=true)->
  me p f i j<=n/\(∀a,a<me p f i j->p a=false)/\ ∀a,me p f i j<=a->a<n->p a=true
 |0,_,_,h,_,_,_,_=>by omega
 |f+1,i,j,h,o8,wJ,h1,h2=>by
  rw[me];split
  ·
   rename_i bn;split
   ·
    rename_i hp;exact Lm hm f _ _ (by omega) (by omega) (by omega) h1 fun a ha han=>hm _ a ha han hp
   ·
    rename_i hp;refine Lm hm f _ _ (by omega) (by omega) wJ (fun a ha=>?_) h2
    cases fw:p a with
    |false=>rfl
    |true=>exact absurd (hm a ((i+j)/2) (by omega) (by omega) fw) hp
  ·
   obtain rfl:i=j:=by omega
   exact⟨wJ,h1,h2⟩
theorem SM{p:Nat->Bool}{n:Nat}(hm: ∀a b,a<=b->b<n->p a=true->p b=true):bs p n<=n/\(∀a,a<bs p n->p a=false)/\ ∀a,bs p n<=a->a<n->p a=true:=
 Lm hm (n+1) 0 n (by omega) (atL _) (att _) (fun a ha=>by omega) (fun a h1 h2=>by omega)
def behind(t:List Rt)(q:cH)(j:Nat):Bool:=match t[j]?with
 |some r=> !eA r.p q
 |none=>true
def db(t:List Rt)(q:cH):Nat:=bs (behind t q) t.length
def mQ(t:List Rt)(q:cH):Bool:=match t[db t q]?with
 |some r=>decide (r.p=q)
 |none=>false
theorem Lo{p:Nat->Bool}: ∀(f i j:Nat),i<=j->me p f i j<=j
 |0,_,_,h=>h
 |f+1,i,j,h=>by
  rw[me];split
  ·
   split
   ·
    exact avU (Lo f _ _ (by omega)) (by omega)
   exact Lo f _ _ (by omega)
  exact h
theorem SN(t:List Rt)(q:cH):db t q<=t.length:=Lo _ _ _ (atL _)
theorem adT(t:List Rt)(q:cH):mQ t q=(decide (((db t q:Nat):Int)<(t.length:Int))&&decide ((t.getD (db t q) bO).p=q)):=by
 rcases atA (db t q) t.length with h|h
 ·
  have e:t[db t q]? =some t[db t q]:=by simp[h]
  rw[mQ,e,av0,e];simp[h]
 rw[mQ,atB h,decide_eq_false (by omega)];rfl
def AZ(t:List Rt)(k:Key)(bits:Int)(n:Nat):Option Rt:=if mQ t ⟨bits,n,ff k n⟩=true then t[db t ⟨bits,n,ff k n⟩]?else none
def uJ(t:List Rt)(k:Key)(bits:Int):Nat->Option Rt
 |0=>AZ t k bits 0
 |n+1=>match AZ t k bits (n+1)with
  |some r=>some r
  |none=>uJ t k bits n
def A0(t:List Rt)(k:Key)(bits:Int):Bool:=cL t&&bm ⟨bits,bits,k⟩
def A1(t:List Rt)(k:Key)(bits:Int):Rt:=if A0 t k bits=true then(uJ t k bits bits.toNat).getD bO else bO
def xH(t:List Rt)(k:Key)(bits:Int):Int:=if A0 t k bits=true then(if(uJ t k bits bits.toNat).isSome=true then 0 else 6)else 1
theorem G6{t:List Rt}(h:cL t=true): ∀(i j:Nat) (a b:Rt),i<j->t[i]? =some a->t[j]? =some b->eA a.p b.p=true:=by
 intro i j
 induction j with
 |zero=>intro a b o8;omega
 |succ j ih=>
  intro a b o8 ha hb;have j9:=(zz.1 hb).1;obtain⟨c,hc⟩: ∃c,t[j]? =some c:=⟨t[j],by simp[show j<t.length by omega]⟩;have pP:eA c.p b.p=true:=by
   cases hx:eA c.p b.p with
   |true=>rfl
   |false=>
    have:=Fp j9 (by rw[Fq hb hc,hx];simp);rw[this]at h;cases h
  rcases atA i j with h1|h1
  ·
   have hac:=ih a c h1 ha hc;have m1:=Au h (alM ha);have m2:=Au h (alM hb);have m3:=Au h (alM hc);rw[nI m1 m3]at hac;rw[nI m3 m2]at pP;rw[nI m1 m2];omega
  obtain rfl:i=j:=by omega
  obtain rfl:=atl (ha.symm.trans hc);exact pP
theorem Df{p:cH}(h:bm p=true):eA p p=false:=by
 cases hx:eA p p with
 |false=>rfl
 |true=>rw[nI h h]at hx;omega
theorem SO{t:List Rt}(h:cL t=true){q:cH}(hq:bm q=true)(a b:Nat)(EC:a<=b)(hb:b<t.length)(ha:behind t q a=true):behind t q b=true:=by
 obtain⟨x,hx⟩: ∃x,t[a]? =some x:=⟨t[a],by simp[show a<t.length by omega]⟩;obtain⟨y,hy⟩: ∃y,t[b]? =some y:=⟨t[b],by simp[hb]⟩;simp only[behind,hx,hy,aus]at ha⊢;rcases atA a b with h1|h1
 ·
  have hl:=G6 h a b x y h1 hx hy;have m1:=Au h (alM hx);have m2:=Au h (alM hy)
  cases hz:eA y.p q with
  |false=>rfl
  |true=>
   rw[nI m1 m2]at hl;rw[nI m2 hq]at hz;have:eA x.p q=true:=by rw[nI m1 hq];omega
   rw[this]at ha;cases ha
 obtain rfl:a=b:=by omega
 obtain rfl:=atl (hx.symm.trans hy);exact ha
theorem adU{t:List Rt}(h:cL t=true){q:cH}(hq:bm q=true){r:Rt}(hr:r∈t)(e:r.p=q):t[db t q]? =some r/\mQ t q=true:=by
 obtain⟨h1,h2,h3⟩:=SM (p:=behind t q) (n:=t.length) fun a b=>SO h hq a b;obtain⟨i,hi⟩:=avg.1 hr;have fg:=(zz.1 hi).1;have e1:db t q=i:=by
  have SP:behind t q i=true:=by simp only[behind,hi,e,Df hq];rfl
  rcases Nat.lt_trichotomy (db t q) i with h4|h4|h4
  ·
   obtain⟨x,hx⟩: ∃x,t[db t q]? =some x:=⟨t[db t q],by simp[show db t q<t.length by omega]⟩;have h5:=h3 (db t q) (att _) (by omega);have h6:=G6 h _ _ x r h4 hx hi;simp only[behind,hx]at h5;rw[e]at h6;rw[h6]at h5;cases h5
  ·
   exact h4
  have:=h2 i h4;rw[this]at SP;cases SP
 rw[mQ,e1,hi];exact⟨rfl,by simp[e]⟩
theorem Dg{t:List Rt}{q:cH}(h:mQ t q=true): ∃r∈t,t[db t q]? =some r/\r.p=q:=by
 rw[mQ]at h
 cases e:t[db t q]?with
 |none=>rw[e]at h;cases h
 |some r=>rw[e]at h;exact⟨r,alM e,rfl,by simpa using h⟩
section
variable {t:List Rt} {k:Key} {bits:Int}
end
end Go.Kb

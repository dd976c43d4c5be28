/- Part of a proof. -/
import Derived.Test.YtkggjjnhnjjokaaGreatDoorB2
import Derived.Test.YtkggjjnhnjjokaaGreatDoorB1
import Derived.DeepKeys
import Derived.Lib.BytesEntry
set_option maxRecDepth 20000
set_option linter.unusedSimpArgs false
set_option linter.unusedVariables false
namespace Go.ay
open Go.RowKit
section
variable {α:Type} {enc:α->Array Value} {c:Nat}
theorem Xi{P:Program}{t tx ty e:TypeId}{cF:Nat}(ht:eB P t e c cF)[he:bk enc c]{w0 w:World}{L:List aj}{i:Nat}{s:Sv}{xs ys:List α}{x:Value}
  (hw:Mem w0 L w) (hi:L[i]? =some (own enc c s xs)) (hs:Src P c tx x ys.length (aF enc ys) w) (hn:s.nil=false) (nh:s.len+ys.length<=s.cap) (iO:s.len+ys.length<=140737488355328):
  ∃w',(Builtin.append_ #[t,tx] ty #[s.val,x]).run P w= .ok (Sv.val {s with len:=s.len+ys.length}) w'/\Mem w0 (L.set i (own enc c {s with len:=s.len+ys.length} (xs++ys))) w':=by
 obtain⟨r,lM⟩:=hw.get hi;obtain⟨i',z,aQ,az,aX,bX,mo⟩:=ht.info;subst aX bX;have hlen:=r.len;have hle:=r.ok.le;obtain⟨fw,cs,T,fz,fB,dO,lN,lO⟩:=lM hn;have hmul:(s.len+ys.length)*i'.size<=s.cap*i'.size:=apz _ nh;have dw:(aF enc ys).length=ys.length*i'.size:=fX ys;have iC:s.o+s.len*i'.size+(aF enc ys).toArray.size<=cs.size:=by
  rw[ap1,dw];rw[apM]at hmul;omega
 have bu:=Bm (P:=P) s.b (s.o+s.len*i'.size) T fz (aF enc ys) 0 cs w fB lN (by simpa using iC) hs.one;have w5:(storeCells ⟨s.b,s.o+s.len*i'.size,none⟩ (aF enc ys)).run P w= .ok () (w.setRow s.b (over cs (s.o+s.len*i'.size) (aF enc ys).toArray)):=by
  simpa[over]using bu
 refine⟨w.setRow s.b (over cs (s.o+s.len*i'.size) (aF enc ys).toArray),?_,?_⟩
 ·
  have jN:({s with len:=s.len+ys.length}:Sv).val= .slice (some ⟨s.b,s.o,s.sp⟩) (s.len+ys.length) s.cap:=Sv.gk (s:={s with len:=s.len+ys.length}) hn
  rw[Sv.gk hn,jN,fw];rcases hs.kind with⟨e',hk⟩|hk<;>simp[Builtin.append_,run_underlying ht.dZ,run_underlying hk,sizeOf,typeInfo,aQ,hs.len,nh,hs.cells,Addr.gg,w5]
 ·
  have cD:hp (w.setRow s.b (over cs (s.o+s.len*i'.size) (aF enc ys).toArray)) s.b=some (.cells (over cs (s.o+s.len*i'.size) (aF enc ys).toArray) T fz):=setRow_heap w s.b cs _ T fz fB;refine hw.change hi (fun k hk=>hk) (fun k hk=>?_) (by simp[World.setRow]) ⟨rfl,rfl,rfl⟩ ⟨va ⟨(fun h=>by rw[hn]at h;cases h),nh,by simp only;omega,r.ok.sp⟩ (by simp[hlen]) cD fun k y hy j hj=>?_,fun _=>⟨fw,_,_,_,cD,?_,by rw[nf iC];exact lN,lO⟩⟩
  ·
   exact setRow_other w s.b k _ (fun e=>hk ⟨hn,e⟩)
  ·
   rw[tj iC]
   by_cases hk:k<xs.length
   ·
    rw[if_neg,←r.row k y (by rw[apw hk]at hy;exact hy) j hj]
    ·
     unfold mY;rw[fB]
    ·
     have:(k+1)*i'.size<=s.len*i'.size:=apz _ (by omega);rw[apM]at this;intro h;have:=h.1;simp only at this;omega
   ·
    rw[apx (by omega)]at hy;have w4:=ng (enc:=enc) ys (k -xs.length) y hy j hj;have ni:s.len*i'.size+(k -xs.length)*i'.size=k*i'.size:=by rw[←apM];congr 1;omega
    have bc:(k -xs.length+1)*i'.size<=ys.length*i'.size:=apz _ (by have:=(ad2.1 hy).1;omega);rw[apM]at bc;rw[if_pos ⟨by simp only;omega,by rw[ap1,dw];simp only;omega⟩,←w4];simp only[aqA];congr 1;omega
  ·
   rw[nf iC];exact dO
theorem Xj{P:Program}{w0 w:World}{L:List aj}{i:Nat}{s:Sv}{xs ys:List α}[he:bk enc c]{k:Nat}(hw:Mem w0 L w)(hi:L[i]? =some (own enc c s xs))(hn:s.nil=false)(hk:k+ys.length<=xs.length):
  ∃w',(storeCells ⟨s.b,s.o+k*c,none⟩ (aF enc ys)).run P w= .ok () w'/\Mem w0 (L.set i (own enc c s (xs.take k++(ys++xs.drop (k+ys.length))))) w':=by
 obtain⟨r,lM⟩:=hw.get hi;have hlen:=r.len;have hle:=r.ok.le;obtain⟨fw,cs,T,fz,fB,dO,lN,lO⟩:=lM hn;have hmul:(k+ys.length)*c<=s.cap*c:=apz _ (by omega);have dw:(aF enc ys).length=ys.length*c:=fX ys;have iC:s.o+k*c+(aF enc ys).toArray.size<=cs.size:=by
  rw[ap1,dw];rw[apM]at hmul;omega
 have rQ: ∀v∈aF enc ys,v.oneCell'=true:=u9 ys;have bu:=Bm (P:=P) s.b (s.o+k*c) T fz (aF enc ys) 0 cs w fB lN (by simpa using iC) rQ;have w5:(storeCells ⟨s.b,s.o+k*c,none⟩ (aF enc ys)).run P w= .ok () (w.setRow s.b (over cs (s.o+k*c) (aF enc ys).toArray)):=by
  simpa[over]using bu
 refine⟨_,w5,?_⟩;have cD:hp (w.setRow s.b (over cs (s.o+k*c) (aF enc ys).toArray)) s.b=some (.cells (over cs (s.o+k*c) (aF enc ys).toArray) T fz):=setRow_heap w s.b cs _ T fz fB;have ot:(xs.take k++(ys++xs.drop (k+ys.length))).length=xs.length:=by simp only[af0,apk,apr];omega
 refine hw.change hi (fun k hk=>hk) (fun k hk=>?_) (by simp[World.setRow]) ⟨rfl,rfl,rfl⟩ ⟨va r.ok (by rw[ot];exact hlen) cD fun m y hy j hj=>?_,fun _=>⟨fw,_,_,_,cD,?_,by rw[nf iC];exact lN,lO⟩⟩
 ·
  exact setRow_other w s.b k _ (fun e=>hk ⟨hn,e⟩)
 ·
  rw[tj iC];rcases apo m k with h1|h1
  ·
   have xE:xs[m]? =some y:=by
    rw[apw (by rw[apk];omega),aqy,if_pos h1]at hy;exact hy
   rw[if_neg,←r.row m y xE j hj]
   ·
    unfold mY;rw[fB]
   ·
    have:(m+1)*c<=k*c:=apz _ (by omega);rw[apM]at this;intro h;have:=h.1;omega
  ·
   rcases apo m (k+ys.length)with h2|h2
   ·
    have xE:ys[m -k]? =some y:=by
     rw[apx (by rw[apk];omega),apk,arC (by omega),apw (by omega)]at hy;exact hy
    have w4:=ng (enc:=enc) ys (m -k) y xE j hj;have ni:k*c+(m -k)*c=m*c:=by rw[←apM];congr 1;omega
    have bc:(m -k+1)*c<=ys.length*c:=apz _ (by omega);rw[apM]at bc;rw[if_pos ⟨by omega,by rw[ap1,dw];omega⟩,←w4];simp only[aqA];congr 1;omega
   ·
    have xE:xs[m]? =some y:=by
     rw[apx (by rw[apk];omega),apk,arC (by omega),apx (by omega),apU]at hy;rw[←hy];congr 1;omega
    rw[if_neg,←r.row m y xE j hj]
    ·
     unfold mY;rw[fB]
    ·
     have:(k+ys.length)*c<=m*c:=apz _ h2;rw[apM]at this;intro h;have:=h.2;rw[ap1,dw]at this;omega
 ·
  rw[nf iC];exact dO
end
section
variable {P:Program} {N:cc} {w0:World} {env:Env} {L:List aj} {l:List Oper} {Q:Exit->Act->World->Prop} {rest:List Oper} {d:Option Tmp} {ty:TypeId} {ps:String} {af:Array Edge} {gd:Option (Nat×Bool)} {K:Value->List aj->Prop}
variable {α:Type} {enc:α->Array Value} {c:Nat} {s:Sv} {xs ys:List α}
theorem Xk{t tx e:TypeId}{x y:Operand}{yv:Value}{cF i:Nat}[ht:eB P t e c cF][he:bk enc c](hx:ev env x=some s.val)(hy:ev env y=some yv)[q:di L s enc c xs i]
  (hs: ∀w,Mem w0 L w->Src P c tx yv ys.length (aF enc ys) w) (hn:s.nil=false) (nh:s.len+ys.length<=s.cap) (iO:s.len+ys.length<=140737488355328) {L':List aj} [hu:eK L i (own enc c {s with len:=s.len+ys.length} (xs++ys)) L']
  (hk:K (Sv.val {s with len:=s.len+ys.length}) L'):
  gO P N w0 env L ⟨d, .call {callee:= .builtin .append,args:= #[x,y],argTypes:= #[t,tx]},ty,ps,af,gd⟩ K:=
 vn fun a w ha hw=>by
  obtain⟨w',h1,h4⟩:=Xi (ty:=ty) ht hw q.h (hs w hw) hn nh iO;refine⟨_,w',L',?_,by rw[←hu.h];exact h4,hk⟩;simp[execOp,ha.ev hx,ha.ev hy,resolve,invoke,builtin,h1,Result.andThen]
theorem Xl{t tx e:TypeId}{x y:Operand}{yv:Value}{cF i:Nat}[ht:eB P t e c cF][he:bk enc c](hx:ev env x=some s.val)(hy:ev env y=some yv)[q:di L s enc c xs i]
  (hs: ∀w,Mem w0 L w->Src P c tx yv ys.length (aF enc ys) w) (hn:s.nil=false) (nh:s.len+ys.length<=s.cap) (iO:s.len+ys.length<=140737488355328) {L':List aj} [hu:eK L i (own enc c {s with len:=s.len+ys.length} (xs++ys)) L']
  (hk:Sq P N w0 l Q rest (ca env d (Sv.val {s with len:=s.len+ys.length})) L') (hd:cM N d=true:=by rfl):
  Sq P N w0 l Q (⟨d, .call {callee:= .builtin .append,args:= #[x,y],argTypes:= #[t,tx]},ty,ps,af,none⟩::rest) env L:=
 Nc rfl hd (Xk hx hy hs hn nh iO hk)
theorem Ob{D S rm:Sv}{x y:Operand}{tx fO e:TypeId}{i k:Nat}{ys:List α}[he:bk enc c](hx:ev env x=some D.val)(nr:D.nil=false)(nt:D.sp=none)(oQ:D.b=rm.b)(qN:D.o=rm.o+k*c)(hy:ev env y=some S.val)[ht:dY P tx e c][q:di L rm enc c xs i][hS:Hd w0 L S enc c ys](hc:0<c)(hn:rm.nil=false)(h0:0<ys.length)(hl:ys.length<=D.len)(jq:k+ys.length<=xs.length)
  {L':List aj} [hu:eK L i (own enc c rm (xs.take k++(ys++xs.drop (k+ys.length)))) L'] (hk:K (.int .i64 ys.length) L'):
  gO P N w0 env L ⟨d, .call {callee:= .builtin .copy,args:= #[x,y],argTypes:= #[tx,fO]},ty,ps,af,gd⟩ K:=
 vn fun a w ha hw=>by
  have hs:=hS.h w hw;have BN:=hs.some h0;have km:=hs.len;have BO:=hs.ok.sp (by have:=hs.ok.le;omega);rw[Sv.gk nr,nt,oQ,qN]at hx;rw[Sv.gk BN,BO]at hy;obtain⟨w',h1,h2⟩:=Xj (P:=P) hw q.h hn jq;rw[hu.h]at h2;refine⟨_,w',L',?_,h2,hk⟩;have EH:=run_loadCells_list (P:=P) w ⟨S.b,S.o,none⟩ (aF enc ys) (fun j v hj=>by
   obtain⟨z,hz,hv⟩:=DH hc hj;rw[Addr.gg,qB,←hv,←hs.row _ z hz (j%c) (ara _ hc)];congr 1;have:=arb j c;rw[aqt]at this;omega)
  rw[fX]at EH
  cases hq:P.info? e with
  |none=>have:=ht.size;simp[hq]at this
  |some i'=>
   have hi:i'.size=c:=by have:=ht.size;simpa[hq]using this
   have A8:Nat.min S.len D.len=ys.length:=by rw[km];exact arC hl
   have fN:(Builtin.copy_ #[tx,fO] ty #[.slice (some ⟨rm.b,rm.o+k*c,none⟩) D.len D.cap, .slice (some ⟨S.b,S.o,none⟩) S.len S.cap]).run P w= .ok (goInt ys.length) w':=by
    simp[Builtin.copy_,run_underlying ht.dZ,Builtin.lenOf,Builtin.firstCells,sizeOf,typeInfo,hq,hi,A8,EH,h1]
   simp[execOp,ha.ev hx,ha.ev hy,resolve,invoke,builtin,fN,Result.andThen,goInt]
theorem Xm{D S rm:Sv}{x y:Operand}{tx fO e:TypeId}{i k:Nat}{ys:List α}[he:bk enc c](hx:ev env x=some D.val)(nr:D.nil=false)(nt:D.sp=none)(oQ:D.b=rm.b)(qN:D.o=rm.o+k*c)(hy:ev env y=some S.val)[ht:dY P tx e c][q:di L rm enc c xs i][hS:Hd w0 L S enc c ys](hc:0<c)(hn:rm.nil=false)(h0:0<ys.length)(hl:ys.length<=D.len)(jq:k+ys.length<=xs.length)
  {L':List aj} [hu:eK L i (own enc c rm (xs.take k++(ys++xs.drop (k+ys.length)))) L'] (hk:Sq P N w0 l Q rest (ca env d (.int .i64 ys.length)) L') (hd:cM N d=true:=by rfl):
  Sq P N w0 l Q (⟨d, .call {callee:= .builtin .copy,args:= #[x,y],argTypes:= #[tx,fO]},ty,ps,af,none⟩::rest) env L:=
 Nc rfl hd (Ob hx nr nt oQ qN hy hc hn h0 hl jq hk)
end
theorem Mem.zC{w0 w:World}{L:List aj}{e:aj}{es:List aj}(h:Mem w0 (e::aj.all es::L) w):Mem w0 (aj.all (es++[e])::L) w:=by
 have h1:Mem w0 (aj.all (e::es)::L) w:=Mem.Wx h;rw[Mem.Bs]at h1⊢;exact h1.perm ((List.perm_append_singleton e es).symm.append_right L)
theorem Mem.EI{w0 w:World}{L:List aj}{e e':aj}(hf: ∀k,e'.fp k->e.fp k)(hs:(e.sat fun k=>w.heap[k]?)->e'.sat fun k=>w.heap[k]?)(h:Mem w0 (e::L) w):Mem w0 (e'::L) w:=by
 have hd:=apA.1 h.nY;refine⟨h.below,fun x he=>?_,fun x he k hk=>?_,apA.2 ⟨fun y hy k hk=>hd.1 y hy k (hf k hk),hd.2⟩⟩
 ·
  rcases apn.1 he with rfl|he
  ·
   exact hs (h.sat e (by simp))
  exact h.sat x (by simp[he])
 rcases apn.1 he with rfl|he
 ·
  exact h.iZ e (by simp) k (hf k hk)
 exact h.iZ x (by simp[he]) k hk
end Go.ay
namespace Go.Kb
open Go.ay
theorem Oc{w0 w:World}{L:List aj}{s rm:Sv}{l:List (List UInt8)}{xs:List (Sl UInt8)}(hx:xs=cX rm 0 l)(hn:rm.nil=false)(h:Mem w0 (own (bU (τ:=UInt8)) 1 s xs::own aP 1 rm l.flatten::L) w):Mem w0 (eN ⟨s,xs⟩::L) w:=by
 have ht:aL xs=l:=by rw[hx,vu]
 have h1:=h.perm (List.Perm.swap _ _ _);have h2:Mem w0 (zy ⟨s,xs⟩::own (bU (τ:=UInt8)) 1 s xs::L) w:=Mem.EI (fun k hk=>by
  obtain⟨x,oh,rfl⟩:=hk;exact⟨hn,EC rm 0 l x (hx▸oh)⟩) (fun hs=> .inr ⟨rm,hn,by simp only[ht];exact hx,by simp only[ht];exact hs⟩) h1
 exact Mem.w8.2 (h2.perm (List.Perm.swap _ _ _))
theorem Xn{w0 w:World}{L:List aj}{s:Sv}(h:Mem w0 (own (bU (τ:=UInt8)) 1 s []::L) w):Mem w0 (eN ⟨s,[]⟩::L) w:=by
 refine Mem.w8.2 (Mem.perm (Mem.EI (e:= .emp) (e':=zy ⟨s,[]⟩) (fun k hk=>?_) (fun _=> .inl rfl) (Mem.Bq.2 h)) (List.Perm.swap _ _ _));obtain⟨x,hx,_⟩:=hk
 cases hx
theorem Xo{w0 w:World}{L:List aj}{a:Sl (Sl UInt8)}(cr:a.xs≠[])(h:Mem w0 (eN a::L) w): ∃rm:Sv,(rm.nil=false/\rm.sp=none/\a.xs=cX rm 0 (aL a.xs))/\Mem w0 (own (bU (τ:=UInt8)) 1 a.sv a.xs::own aP 1 rm (aL a.xs).flatten::L) w:=by
 have h1:=Mem.w8.1 h;have hr:=h1.sat (zy a) (by simp);rcases hr with hr|⟨rm,g1,g2,g3⟩
 ·
  exact absurd hr cr
 refine⟨rm,⟨g1,(g3.2 g1).1,g2⟩,?_⟩;have h2:=h1.perm (List.Perm.swap _ _ _);obtain⟨x,l,zD⟩:=List.exists_cons_of_ne_nil cr;have hm:x∈a.xs:=by rw[zD];simp
 have hb:x.sv.b=rm.b:=EC rm 0 _ x (g2▸hm);exact(Mem.EI (e:=zy a) (e':=own aP 1 rm (aL a.xs).flatten) (fun k hk=>⟨x,hm,by rw[hb];exact hk.2⟩) (fun _=>g3) h2).perm (List.Perm.swap _ _ _)
theorem EJ: ∀{l:List (List UInt8)} {i:Nat} {q r:List UInt8},l[i]? =some q->r.length=q.length->(l.set i r).flatten=l.flatten.take (l.take i).flatten.length++(r++l.flatten.drop ((l.take i).flatten.length+r.length))
 |y::l,0,q,r,h,hr=>by
  obtain rfl:y=q:=by simpa using h
  simp[hr]
 |y::l,i+1,q,r,h,hr=>by
  have:=EJ (l:=l) (i:=i) (q:=q) (r:=r) (by simpa using h) hr;simp only[List.set_cons_succ,aqx,this,aqg,af0];rw[List.take_length_add_append,aqK,List.drop_length_add_append,apq]
theorem EK{rm:Sv}: ∀{o:Nat} {l:List (List UInt8)} {i:Nat} {q:List UInt8},l[i]? =some q->(cX rm o l)[i]? =some ⟨win rm (o+(l.take i).flatten.length) (o+(l.take i).flatten.length+q.length),q⟩
 |o,y::l,0,q,h=>by
  obtain rfl:y=q:=by simpa using h
  simp[cX]
 |o,y::l,i+1,q,h=>by
  have:=EK (rm:=rm) (o:=o+y.length) (l:=l) (i:=i) (q:=q) (by simpa using h);simp only[cX,arM,this,aqg,aqx,af0,aqK]
def Od(l:List (List UInt8)):Prop:=l.length<=1000000/\l.flatten.length<=1000000
theorem BZ{l:List (List UInt8)}{i:Nat}{q:List UInt8}(h:l[i]? =some q):(l.take (i+1)).flatten.length=(l.take i).flatten.length+q.length:=by
 rw[aps,h];simp
theorem B2(l:List (List UInt8))(i:Nat):(l.take i).flatten.length<=l.flatten.length:=by
 have:l.flatten=(l.take i).flatten++(l.drop i).flatten:=by rw[←arA,apH]
 rw[this,af0];omega
theorem Xp{rm:Sv}{l:List (List UInt8)}{n i:Nat}{r q:List UInt8}(hn:n=l.length)(hr:r=(l.take i).flatten)(h:l[i]? =some q):(cX rm 0 (l.take i)++List.replicate (n -i) (⟨Sv.none,[]⟩:Sl UInt8)).set i ⟨win rm r.length (r.length+q.length),q⟩=cX rm 0 (l.take (i+1))++List.replicate (n -(i+1)) (⟨Sv.none,[]⟩:Sl UInt8):=by
 have hi:=(ad2.1 h).1;have hl:(cX rm 0 (l.take i)).length=i:=by rw[Iu,apk];omega
 rw[aq0 _ _ (by omega),hl,aqM,aps,h,show n -i=n -(i+1)+1 by omega,arL,aq1];simp only[arU];rw[N6,hr,apP,apq,arc]
theorem nC{w0 w:World}{L:List aj}(d:Cp)(h:Mem w0 (own bS 4 d.blocks.sv d.blocks.xs::aj.all (d.blocks.xs.map fun b:Bk=>eN b.ae)::own dL 4 d.bj.sv d.bj.xs::L) w):Mem w0 (fz d::L) w:=
 EF ((N9 (a:=d.bj) ((Xg h).perm (List.Perm.swap _ _ _))).perm (List.Perm.swap _ _ _))
theorem Iw{α:Type}{enc:α->Array Value}{c:Nat}{s:Sv}{xs ys:List α}{w0 w:World}{L:List aj}(e:xs.map enc=ys.map enc)(h:Mem w0 (own enc c s xs::L) w):Mem w0 (own enc c s ys::L) w:=
 Mem.EI (e:=own enc c s xs) (fun _ hk=>hk) (fun hs=>⟨⟨hs.1.ok,by have:=congrArg List.length e;simp only[apQ]at this;rw[←this];exact hs.1.len,fun i y hy j hj=>by
  have h1:(xs.map enc)[i]? =(ys.map enc)[i]? :=by rw[e]
  rw[apG,apG,hy]at h1
  cases hx:xs[i]?with
  |none=>rw[hx]at h1;cases h1
  |some x=>
   rw[hx]at h1;have h2:enc x=enc y:=by simpa using h1
   have:=hs.1.row i x hx j hj;rw[h2]at this;exact this⟩,hs.2⟩) h
theorem EL{w0 w:World}{L:List aj}{s sp rm:Sv}{xs:List Bk}{i:Nat}{B B':Bk}{ps:List (Sl UInt8)}{l:List (List UInt8)}(hi:i<xs.length)(hp:ps.map (fun x=>x.sv)=(cX rm 0 l).map (fun x=>x.sv))(hn:rm.nil=false)(hc:bS B=bS B')(hB:B'.ae=⟨sp,cX rm 0 l⟩)
  (h:Mem w0 (own (bU (τ:=UInt8)) 1 sp ps::own aP 1 rm l.flatten::own bS 4 s (xs.set i B)::aj.all ((xs.eraseIdx i).map fun b:Bk=>eN b.ae)::L) w):Mem w0 (own bS 4 s (xs.set i B')::aj.all ((xs.set i B').map fun b:Bk=>eN b.ae)::L) w:=by
 have h1:Mem w0 (own (bU (τ:=UInt8)) 1 sp (cX rm 0 l)::own aP 1 rm l.flatten::own bS 4 s (xs.set i B)::aj.all ((xs.eraseIdx i).map fun b:Bk=>eN b.ae)::L) w:=Iw (by
  have:=congrArg (List.map fun v:Sv=>(#[v.val]:Array Value)) hp;rw[List.map_map,List.map_map]at this;exact this) h
 have h2:=Oc (xs:=cX rm 0 l) rfl hn h1;rw[←hB]at h2;have h3:=Iw (ys:=xs.set i B') (by rw[arx,arx,hc]) (h2.perm (List.Perm.swap _ _ _));have h4:Mem w0 (eN B'.ae::aj.all (((xs.set i B').eraseIdx i).map fun b:Bk=>eN b.ae)::own bS 4 s (xs.set i B')::L) w:=by
  rw[List.eraseIdx_set_eq];exact h3.perm ((List.Perm.swap _ _ _).trans (List.Perm.cons _ (List.Perm.swap _ _ _)))
 have h5:=(Mem.pick (f:=fun b:Bk=>eN b.ae) (xs:=xs.set i B') (i:=i) (x:=B') (by rw[apJ hi])).2 h4;exact h5.perm (List.Perm.swap _ _ _)
theorem Oe{w0 w:World}{L:List aj}{s:Sv}{xs:List Bk}{i:Nat}{B:Bk}(hB:xs[i]? =some B)(cr:B.ae.xs≠[])(h:Mem w0 (own bS 4 s xs::aj.all (xs.map fun b:Bk=>eN b.ae)::L) w):
  ∃rm:Sv,(rm.nil=false/\rm.sp=none/\B.ae.xs=cX rm 0 (aL B.ae.xs))/\Mem w0 (own (bU (τ:=UInt8)) 1 B.ae.sv B.ae.xs::own aP 1 rm (aL B.ae.xs).flatten::own bS 4 s xs::aj.all ((xs.eraseIdx i).map fun b:Bk=>eN b.ae)::L) w:=by
 have h1:=(Mem.pick (f:=fun b:Bk=>eN b.ae) hB).1 (h.perm (List.Perm.swap _ _ _));obtain⟨rm,hr,h2⟩:=Xo cr h1;refine⟨rm,hr,h2.perm (List.Perm.cons _ (List.Perm.cons _ (List.Perm.swap _ _ _)))⟩
end Go.Kb
namespace Go.ay
section
variable {P:Program} {N:cc} {w0:World} {env:Env} {L:List aj} {d:Option Tmp} {ty:TypeId} {ps:String} {af:Array Edge} {gd:Option (Nat×Bool)} {x y:Operand} {t u:TypeId}
theorem Of{a b:UInt8}(hx:ev env x=some (.int .u8 a.toNat))(hy:ev env y=some (.int .u8 b.toNat)):
  Ry P N w0 env L ⟨d, .binOp .or t x y u,ty,ps,af,gd⟩ (.int .u8 (a|||b).toNat):=by
 have ha:=a.toNat_lt;have hb:=b.toNat_lt;rw[UInt8.toNat_or];exact Be hx hy rfl rfl (by simp only[nb];omega) (by simp only[nb];omega)
theorem Xq: ∀n,n<256->(255^^^n:Nat)=255 -n:=by decide+kernel
theorem Xr{p q:Nat}(hp:p<2^nb .u8)(hq:q<2^nb .u8):Op.intBits .xor .u8 (p:Int) (q:Int)=(pure (.int .u8 ((p^^^q:Nat):Int)):Sem Value):=by
 simp only[Op.intBits,yT,BitVec.toNat_xor,aqV,ap3 (pH hp),ap3 (pH hq)];rw[oH (arS hp hq)]
theorem Xs{a:UInt8}(hx:ev env x=some (.int .u8 a.toNat)):
  Ry P N w0 env L ⟨d, .unOp .xor t x,ty,ps,af,gd⟩ (.int .u8 (~~~a).toNat):=fun aa w ha _=>by
 have e:(Op.intBits .xor .u8 255 (a.toNat:Int))=(pure (.int .u8 ((~~~a).toNat:Int)):Sem Value):=by
  have h3:=a.toNat_lt;have h4:(~~~a).toNat=255 -a.toNat:=UInt8.toNat_not a;have h5:(255^^^a.toNat:Nat)=255 -a.toNat:=Xq a.toNat h3;have hp:(255:Nat)<2^nb .u8:=by decide
  have hq:a.toNat<2^nb .u8:=h3;have hx:=Xr hp hq;rw[h5]at hx;rw[h4];exact hx
 simp only[execOp,ha.ev hx,Op.unary,Sem.run_bind,Result.andThen];rw[show(if IntKind.u8.signed=true then(-1:Int)else IntKind.u8.max)=255 by decide,e];rfl
end
open Go.RowKit
section
variable {P:Program} {N:cc} {w0:World} {env:Env} {L:List aj} {l:List Oper} {Q:Exit->Act->World->Prop} {rest:List Oper} {d:Option Tmp} {ty:TypeId} {ps:String} {af:Array Edge} {gd:Option (Nat×Bool)} {K:Value->List aj->Prop}
variable {α:Type} {enc:α->Array Value} {c:Nat}
theorem Xt{β:Type}{l:List β}{i:Nat}{z:β}(h:l[i]? =some z):l.set i z=l:=by
 obtain⟨hi,rfl⟩:=ad2.1 h;exact List.set_getElem_self hi
theorem Xu{D S:Sv}{x y:Operand}{tx fO e:TypeId}(hx:ev env x=some D.val)(hy:ev env y=some S.val)[ht:dY P tx e c][hS:Hd w0 L S enc c []](hk:K (.int .i64 0) L):
  gO P N w0 env L ⟨d, .call {callee:= .builtin .copy,args:= #[x,y],argTypes:= #[tx,fO]},ty,ps,af,gd⟩ K:=
 vn fun a w ha hw=>by
  have hs:=hS.h w hw;have km:S.len=0:=hs.len;obtain⟨ad,len,cap,e1⟩:=S.ex;have el:len=S.len:=by
   cases hn:S.nil with
   |true=>rw[Sv.pJ hn]at e1;have:=hs.ok.nil hn;cases e1;omega
   |false=>rw[Sv.gk hn]at e1;cases e1;rfl
  obtain⟨Og,Oh,Xv,e2⟩:=D.ex;refine⟨_,w,L,?_,hw,hk⟩
  cases hq:P.info? e with
  |none=>have:=ht.size;simp[hq]at this
  |some i'=>
   rw[e1]at hy;rw[e2]at hx;have Xw:len=0:=by omega
   have fN:(Builtin.copy_ #[tx,fO] ty #[.slice Og Oh Xv, .slice ad len cap]).run P w= .ok (goInt 0) w:=by
    have EH: ∀v:Addr,(loadCells v 0).run P w= .ok #[] w:=fun v=>by
     have:=run_loadCells_list (P:=P) w v [] (fun j v hj=>by simp at hj);simpa using this
    have bu: ∀v:Addr,(storeCells v []).run P w= .ok () w:=fun v=>rfl
    cases Og<;>cases ad<;>simp[Builtin.copy_,run_underlying ht.dZ,Builtin.lenOf,Builtin.firstCells,sizeOf,typeInfo,hq,Xw,EH,bu]
   simp[execOp,ha.ev hx,ha.ev hy,resolve,invoke,builtin,fN,Result.andThen,goInt]
theorem Ix{D S rm:Sv}{x y:Operand}{tx fO e:TypeId}{i k:Nat}{xs ys:List α}[he:bk enc c](hx:ev env x=some D.val)(nr:D.nil=false)(nt:D.sp=none)(oQ:D.b=rm.b)(qN:D.o=rm.o+k*c)(hy:ev env y=some S.val)[ht:dY P tx e c][q:di L rm enc c xs i][hS:Hd w0 L S enc c ys](hc:0<c)(hn:rm.nil=false)(hl:ys.length<=D.len)(jq:k+ys.length<=xs.length)
  {L':List aj} [hu:eK L i (own enc c rm (xs.take k++(ys++xs.drop (k+ys.length)))) L'] (hk:K (.int .i64 ys.length) L'):
  gO P N w0 env L ⟨d, .call {callee:= .builtin .copy,args:= #[x,y],argTypes:= #[tx,fO]},ty,ps,af,gd⟩ K:=by
 by_cases h0:ys=[]
 ·
  subst h0;have e1:xs.take k++([]++xs.drop (k+([]:List α).length))=xs:=by simp
  have e2:L'=L:=by
   rw[←hu.h,e1];exact Xt q.h
  exact Xu (c:=c) (enc:=enc) hx hy (by rw[e2]at hk;exact hk)
 ·
  exact Ob hx nr nt oQ qN hy hc hn (arn.2 h0) hl jq hk
end
end Go.ay
namespace Go.Kb
open Go.ay
def gn(c:Cp):Prop:=c.blocks.xs.length<=1000000/\c.bj.xs.length<=1000000/\ ∀b∈c.blocks.xs,Od (aL b.ae.xs)
theorem zE{α:Type}{l:List α}{i:Nat}{z:α}(h:l[i]? =some z):l.set i z=l:=by
 obtain⟨hi,rfl⟩:=ad2.1 h;exact List.set_getElem_self hi
theorem xF(l:List Bk)(i:Nat)(b:Bk):ij (l.set i b)=(ij l).set i (bv b):=by simp[ij,arx]
theorem Xx{zs:List Bk}{i:Nat}{z z':Bk}(h:zs[i]? =some z):((zs.take i).map fun b:Bk=>eN b.ae)++[eN z'.ae]=((zs.set i z').take (i+1)).map fun b:Bk=>eN b.ae:=by
 have hi:=(ad2.1 h).1;rw[aps,apJ hi,arl (apm _),ap6];rfl
theorem Xy{c:CV}(h: ∀f∈c.bj,f.op≠c.ops):bM c=(zx,false):=by
 have:c.bj.find? (fun f=>decide (f.op=c.ops))=none:=arV.2 fun f hf=>by simpa using h f hf
 rw[bM,this]
theorem Xz{c:CV}{i:Nat}{f:Ft}(hf:c.bj[i]? =some f)(h: ∀j g,j<i->c.bj[j]? =some g->g.op≠c.ops)(he:f.op=c.ops):bM c=(f,f.cut||f.fail):=by
 have:c.bj.find? (fun f=>decide (f.op=c.ops))=some f:=by
  rw[List.find?_eq_some_iff_getElem];obtain⟨hi,rfl⟩:=ad2.1 hf;exact⟨by simpa using he,i,hi,rfl,fun j hj=>by
   simpa using h j (c.bj[j]'(by omega)) hj (apF (by omega))⟩
 rw[bM,this]
theorem Oi: ∀l:List (List UInt8),(∀x∈l,x.length<=256)->(l.map List.length).sum<=l.length*256
 |[],_=>by simp
 |x::l,hl=>by
  have h1:=Oi l fun y hy=>hl y (apL _ hy);have h2:=hl x apu;simp only[apY,List.sum_cons,apj];omega
theorem r8{c:Cp}(h:bq (cv c)=true):gn c:=by
 obtain⟨h1,h2,h3,h4,h5⟩:=eW.1 h;obtain⟨s1,s2,s3,s4,s5,s6⟩:=kQ.1 h1;simp only[cv,gm]at*;refine⟨by omega,by omega,fun b hb=>?_⟩;have g:=gP.1 (h5 (bv b) (aqb hb));simp only[bv]at g;have hf:(aL b.ae.xs).flatten.length<=(aL b.ae.xs).length*256:=by
  rw[List.length_flatten];exact Oi _ fun x hx=>by have:=g.2.2.2.2.2 x hx;omega
 exact⟨by omega,by omega⟩
theorem Iy{rm:Sv}: ∀{o:Nat} {l l':List (List UInt8)},l.map List.length=l'.map List.length->(cX rm o l).map (fun x=>x.sv)=(cX rm o l').map (fun x=>x.sv)
 |_,[],[],_=>rfl
 |_,[],_::_,h=>by simp at h
 |_,_::_,[],h=>by simp at h
 |o,p::l,p'::l',h=>by
  simp only[apY,arD]at h;have:=Iy (rm:=rm) (o:=o+p'.length) h.2;simp only[cX,apY,h.1,this]
theorem XA{rm:Sv}{l:List (List UInt8)}{i:Nat}{q r:List UInt8}(h:l[i]? =some q)(hr:r.length=q.length):(cX rm 0 l).map (fun x=>x.sv)=(cX rm 0 (l.set i r)).map (fun x=>x.sv):=Iy (by
 rw[arx,hr,zE];rw[apG,h];rfl)
theorem zF: ∀{l:List (List UInt8)} {i j:Nat} {q:List UInt8},l[i]? =some q->j<q.length->l.flatten[(l.take i).flatten.length+j]? =q[j]?
 |y::l,0,j,q,h,hj=>by
  obtain rfl:y=q:=by simpa using h
  simp only[apK,ar6,apl,apP,aqx];rw[apw hj]
 |y::l,i+1,j,q,h,hj=>by
  have:=zF (l:=l) (i:=i) (j:=j) (q:=q) (by simpa using h) hj;simp only[aqg,aqx,af0];rw[aqK,apx (by omega),aqv,this]
theorem Oj: ∀{l:List (List UInt8)} {i j:Nat} {q:List UInt8} {v:UInt8},l[i]? =some q->j<q.length->l.flatten.set ((l.take i).flatten.length+j) v=(l.set i (q.set j v)).flatten
 |y::l,0,j,q,v,h,hj=>by
  obtain rfl:y=q:=by simpa using h
  simp only[apK,ar6,apl,apP,aqx,aq1];rw[List.set_append_left _ _ hj]
 |y::l,i+1,j,q,v,h,hj=>by
  have:=Oj (l:=l) (i:=i) (j:=j) (q:=q) (v:=v) (by simpa using h) hj;simp only[aqg,aqx,af0,List.set_cons_succ];rw[aqK,aq0 _ _ (by omega),aqv,this]
theorem Iz{l:List (List UInt8)}{i:Nat}{r:List UInt8}:(l.set i r).take i=l.take i:=arl (apm _)
theorem zG{rm:Sv}{lo n:Nat}(h:0<n):(win rm lo (lo+n)).o=rm.o+lo:=by
 simp only[win];rw[if_neg (by omega)]
theorem EM{rm:Sv}{lo n:Nat}(hn:rm.nil=false)(hs:rm.sp=none)(hb:n<=1000000):(win rm lo (lo+n)).Ok:=
 ⟨fun h=>absurd (hn.symm.trans h) (by decide),apm _,by simp only[win];omega,fun _=>hs⟩
theorem Ol{c:CV}{x:Cp}{B:Bk}{b g:Int}{q:List UInt8}{rm:Sv}{off:Bool}(hx:cv x=c)(hB:bv B=aM c b):
  cv ⟨x.ae,x.size,⟨x.blocks.sv,x.blocks.xs.set b.toNat ⟨⟨B.ae.sv,cX rm 0 ((aL B.ae.xs).set g.toNat q)⟩,B.used+1,B.bB,B.bad⟩⟩,x.ops+1,off,x.bj⟩={c with ops:=c.ops+1,off:=off,blocks:=c.blocks.set b.toNat {aM c b with used:=(aM c b).used+1,ae:=(aM c b).ae.set g.toNat q}}:=by
 subst hx;rw[←hB];simp only[cv,xF,bv,vu]
theorem XB{m:UInt8}{xs:List UInt8}{i:Nat}{z:UInt8}(h:xs[i]? =some z):(cU m (xs.take i)++xs.drop i).set i (z|||m)=cU m (xs.take (i+1))++xs.drop (i+1):=by
 have hi:=(ad2.1 h).1;have hl:(cU m (xs.take i)).length=i:=by rw[cU,apQ,apk];omega
 rw[aq0 _ _ (by omega),hl,aqM,aqE hi,aq1,aps,h,cU,cU,ap6,apq];rfl
theorem Om{m:UInt8}{xs:List UInt8}{i:Nat}(h:i<xs.length):(cU m (xs.take i)++xs.drop i)[i]? =xs[i]? :=by
 have hl:(cU m (xs.take i)).length=i:=by rw[cU,apQ,apk];omega
 rw[apx (by omega),hl,aqM,apU,aqk]
theorem IA{m:UInt8}{xs:List UInt8}{i:Nat}(h:i<=xs.length):(cU m (xs.take i)++xs.drop i).length=xs.length:=by
 rw[cU,af0,apQ,apk,apr];omega
theorem On{T:List (List UInt8)}{g i:Nat}{q xs:List UInt8}{m z:UInt8}(hq:T[g]? =some q)(hz:xs[i]? =some z):(T.set g (cU m (xs.take (i+1))++xs.drop (i+1))).flatten=(T.set g (cU m (xs.take i)++xs.drop i)).flatten.set ((T.take g).flatten.length+i) (z|||m):=by
 have hg:=(ad2.1 hq).1;have hi:=(ad2.1 hz).1;have h1:=Oj (l:=T.set g (cU m (xs.take i)++xs.drop i)) (i:=g) (j:=i) (v:=z|||m) (apJ hg) (by rw[IA (by omega)];exact hi);rw[Iz]at h1;rw[h1,List.set_set,XB hz]
def mixed(f:List UInt8->List UInt8)(T:List (List UInt8))(k:Nat):List (List UInt8):=(T.take k).map f++T.drop k
theorem Oo{f:List UInt8->List UInt8}{T:List (List UInt8)}:mixed f T 0=T:=by simp[mixed]
theorem Oq{f:List UInt8->List UInt8}{T:List (List UInt8)}{k:Nat}(h:T.length<=k):mixed f T k=T.map f:=by
 rw[mixed,apy h,arW h,apZ]
theorem B3{f:List UInt8->List UInt8}{T:List (List UInt8)}{k:Nat}{q:List UInt8}(h:T[k]? =some q):(mixed f T k)[k]? =some q:=by
 have hk:=(ad2.1 h).1;have hl:((T.take k).map f).length=k:=by rw[apQ,apk];omega
 rw[mixed,apx (by omega),hl,aqM,apU,aqk,h]
theorem IB{f:List UInt8->List UInt8}{T:List (List UInt8)}{k:Nat}{q:List UInt8}(h:T[k]? =some q):(mixed f T k).set k (f q)=mixed f T (k+1):=by
 have hk:=(ad2.1 h).1;have hl:((T.take k).map f).length=k:=by rw[apQ,apk];omega
 obtain⟨_,rfl⟩:=ad2.1 h;rw[mixed,aq0 _ _ (by omega),hl,aqM,aqE hk,aq1,mixed,aps,apF hk,ap6,apq];rfl
theorem EN{f:List UInt8->List UInt8}{T:List (List UInt8)}{k:Nat}(hf: ∀x∈T,(f x).length=x.length)(hk:k<=T.length):((mixed f T k).take k).flatten.length=(T.take k).flatten.length:=by
 have hl:((T.take k).map f).length=k:=by rw[apQ,apk];omega
 rw[mixed,List.take_append_of_le_length (by omega),apy (by omega),List.length_flatten,List.length_flatten,List.map_map];congr 1;exact aq7 fun x hx=>hf x (art hx)
theorem XC{f:List UInt8->List UInt8}{T:List (List UInt8)}{k n:Nat}{q:List UInt8}(hq:T[k]? =some q)(hf: ∀x∈T,(f x).length=x.length)(he:f q=List.replicate n 255)(hn:n=q.length):(mixed f T (k+1)).flatten=(mixed f T k).flatten.take (T.take k).flatten.length++(List.replicate n 255++(mixed f T k).flatten.drop ((T.take k).flatten.length+n)):=by
 have hk:=(ad2.1 hq).1;rw[←IB hq,EJ (B3 hq) (by rw[he,ap5,hn]),EN hf (by omega),he,ap5]
theorem XD{rm:Sv}{f:List UInt8->List UInt8}{T:List (List UInt8)}(hf: ∀x∈T,(f x).length=x.length):(cX rm 0 T).map (fun x=>x.sv)=(cX rm 0 (T.map f)).map (fun x=>x.sv):=Iy (by
 rw[List.map_map];exact(aq7 fun x hx=>(hf x hx)).symm)
theorem XE{rm:Sv}{lo n:Nat}(hn:rm.nil=false)(hs:rm.sp=none)(h:0<n):(win rm lo (lo+n)).val= .slice (some ⟨rm.b,rm.o+lo,none⟩) n n:=by
 rw[Sv.gk (s:=win rm lo (lo+n)) hn,show(win rm lo (lo+n)).sp=rm.sp from rfl,hs,zG h,show(win rm lo (lo+n)).len=n from aqv ..,show(win rm lo (lo+n)).cap=n from aqv ..];rfl
theorem xG{c:Cp}{b:Int}:bv (c.blocks.xs.getD b.toNat oR)=aM (cv c) b:=by
 simp only[aM,cv,ij,apT,apG]
 cases c.blocks.xs[b.toNat]? <;>rfl
theorem pX{c:Cp}{b:Int}(h:lU (cv c) b=true):0<=b/\b.toNat<c.blocks.xs.length:=by
 obtain⟨_,h2,h3⟩:=ny.1 h;simp only[cv,gm]at h3;exact⟨h2,by omega⟩
theorem Ot{c:CV}{x:Cp}{B:Bk}{b u:Int}{l:List (List UInt8)}{rm:Sv}{off:Bool}(hx:cv x=c)(hB:bv B=aM c b):
  cv ⟨x.ae,x.size,⟨x.blocks.sv,x.blocks.xs.set b.toNat ⟨⟨B.ae.sv,cX rm 0 l⟩,u,B.bB+1,B.bad⟩⟩,x.ops+1,off,x.bj⟩={c with ops:=c.ops+1,off:=off,blocks:=c.blocks.set b.toNat {aM c b with used:=u,bB:=(aM c b).bB+1,ae:=l}}:=by
 subst hx;rw[←hB];simp only[cv,xF,bv,vu]
theorem XF{xs:List Bk}{i:Nat}{B B':Bk}(h:xs[i]? =some B)(hp:B'.ae=B.ae):((xs.set i B').map fun b:Bk=>eN b.ae)=xs.map fun b:Bk=>eN b.ae:=by
 rw[arx,hp];refine zE ?_;rw[apG,h];rfl
theorem XG{c:CV}{x:Cp}{B:Bk}{b:Int}(hx:cv x=c)(hB:bv B=aM c b):
  cv ⟨x.ae,x.size,⟨x.blocks.sv,x.blocks.xs.set b.toNat ⟨B.ae,B.used,B.bB,true⟩⟩,x.ops,x.off,x.bj⟩={c with blocks:=c.blocks.set b.toNat {aM c b with bad:=true}}:=by
 subst hx;rw[←hB];simp only[cv,xF,bv]
theorem IC{w0 w:World}{L:List aj}{s:Sv}{xs:List (Sl UInt8)}(h:Mem w0 (own (bU (τ:=UInt8)) 1 s xs::aj.all (xs.map fun p:Sl UInt8=>fz p)::L) w):Mem w0 (fz (⟨s,xs⟩:Sl (Sl UInt8))::L) w:=by
 have hs:=h.sat (own (bU (τ:=UInt8)) 1 s xs) (by simp);have ha:=h.sat (aj.all (xs.map fun p:Sl UInt8=>fz p)) (by simp);refine Mem.freeze (es:=[own (bU (τ:=UInt8)) 1 s xs,aj.all (xs.map fun p:Sl UInt8=>fz p)]) _ ⟨hs.1,fun x hx=>aj.Bt ha (fz x) (aqb hx)⟩ (fun k hk=>?_) h;rcases hk with⟨cr,rfl⟩|⟨x,hx,hk⟩
 ·
  exact⟨_,by simp,BX hs.1 cr⟩
 exact⟨aj.all (xs.map fun p:Sl UInt8=>fz p),by simp,aj.ED (aqb (f:=fun p:Sl UInt8=>fz p) hx) hk⟩
theorem Ou{w0 w:World}{L:List aj}{s:Sv}{xs:List Bk}(h:Mem w0 (own bS 4 s xs::aj.all (xs.map fun b:Bk=>fz b.ae)::L) w):Mem w0 (fz (⟨s,xs⟩:Sl Bk)::L) w:=by
 have hs:=h.sat (own bS 4 s xs) (by simp);have ha:=h.sat (aj.all (xs.map fun b:Bk=>fz b.ae)) (by simp);refine Mem.freeze (es:=[own bS 4 s xs,aj.all (xs.map fun b:Bk=>fz b.ae)]) _ ⟨hs.1,fun x hx=>aj.Bt ha (fz x.ae) (aqb (f:=fun b:Bk=>fz b.ae) hx)⟩ (fun k hk=>?_) h;rcases hk with⟨cr,rfl⟩|⟨x,hx,hk⟩
 ·
  exact⟨_,by simp,BX hs.1 cr⟩
 exact⟨aj.all (xs.map fun b:Bk=>fz b.ae),by simp,aj.ED (aqb (f:=fun b:Bk=>fz b.ae) hx) hk⟩
theorem Ov{w0 w:World}{L:List aj}{s:Sv}(hs:s.Ok)(hl:s.len=0)(h:Mem w0 L w):Mem w0 (fz (⟨s,[]⟩:Sl Ft)::L) w:=
 Mem.freeze (es:=[]) _ ⟨⟨hs,hl,fun i x hx=>by cases hx⟩,fun x hx=>by cases hx⟩ (fun k hk=>by
  rcases hk with⟨cr,_⟩|⟨x,hx,_⟩
  ·
   exact absurd rfl cr
  cases hx) h
theorem Ow{w0 w:World}{L:List aj}{d:Cp}(hf:d.bj=⟨Sv.none,[]⟩)(h:Mem w0 (own bS 4 d.blocks.sv d.blocks.xs::aj.all (d.blocks.xs.map fun b:Bk=>fz b.ae)::L) w):Mem w0 (fz d::L) w:=by
 have h1:=Ov (s:=Sv.none) Sv.yX rfl (Ou h);rw[←hf]at h1;exact EF (h1.perm (List.Perm.swap _ _ _))
theorem Ox{zs:List Bk}{i:Nat}{z z':Bk}(h:zs[i]? =some z):((zs.take i).map fun b:Bk=>fz b.ae)++[fz z'.ae]=((zs.set i z').take (i+1)).map fun b:Bk=>fz b.ae:=by
 have hi:=(ad2.1 h).1;rw[aps,apJ hi,arl (apm _),ap6];rfl
theorem ID{zs:List (Sl UInt8)}{i:Nat}{z z':Sl UInt8}(h:zs[i]? =some z):((zs.take i).map fun b:Sl UInt8=>fz b)++[fz z']=((zs.set i z').take (i+1)).map fun b:Sl UInt8=>fz b:=by
 have hi:=(ad2.1 h).1;rw[aps,apJ hi,arl (apm _),ap6];rfl
theorem EO{α β:Type}{f:α->β}{zs:List α}{i:Nat}{z z':α}(h:zs[i]? =some z):((zs.set i z').take (i+1)).map f=(zs.take i).map f++[f z']:=by
 have hi:=(ad2.1 h).1;rw[aps,apJ hi,arl (apm _),ap6];rfl
theorem EP{b n:Nat}(h:n<=1000000):(⟨false,b,0,n,n,none⟩:Sv).Ok:=⟨fun h=>(by cases h),apm _,by simp only;omega,fun _=>rfl⟩
end Go.Kb
namespace Go.ay
theorem Oy{P:Program}{N:cc}{w0:World}{env:Env}{L:List aj}{Q:Exit->Act->World->Prop}{c:Code}{X:Type}{pr:X->Prop}(Lx:X->List aj)(h: ∀w,Mem w0 L w-> ∃x,pr x/\Mem w0 (Lx x) w)(hk: ∀x,pr x->Cw P N w0 Q c env (Lx x)):Cw P N w0 Q c env L:=fun a w ha hw=>by
 obtain⟨x,h1,h2⟩:=h w hw;exact hk x h1 a w ha h2
end Go.ay
namespace Go.Kb
open Go.ay
structure eC where
 kind:Int
 id:Int
 gen:UInt64
 body:Sl UInt8
def cL(x:eC):Array Value:= #[.int .i64 x.kind, .int .i64 x.id, .int .u64 x.gen.toNat,x.body.sv.val]
instance:bk cL 4:=⟨fun _=>rfl,fun x=>by
 simp only[cL,aqY,aq3,arf,Sv.one,tM,tN,aq4]⟩
instance (x:eC):eU (cL x) 4:=⟨rfl,bk.one x⟩
instance (x:eC):bK (cL x) 0 (.int .i64 x.kind):=⟨rfl⟩
instance (x:eC):bK (cL x) 1 (.int .i64 x.id):=⟨rfl⟩
instance (x:eC):bK (cL x) 2 (.int .u64 x.gen.toNat):=⟨rfl⟩
instance (x:eC):bK (cL x) 3 (x.body.sv.val):=⟨rfl⟩
instance:Deep eC where
 c:=4
 cells:=cL
 size:=bk.size
 one:=bk.one
 dJ h x:=Deep.dJ h x.body
 cd x:=Deep.cd x.body
 je h x hs:=Deep.je h x.body hs
 mono w w' x hg hb:=Deep.mono w w' x.body hg hb
variable {w0:World}{L:List aj}
instance{x:eC}[q:aV w0 L x]:aV w0 L x.body:=⟨fun w hw=>(q.h w hw)⟩
instance{kind:Int}{id:Int}{gen:UInt64}{body:Sl UInt8}[q0:aV w0 L body]:aV w0 L (eC.mk kind id gen body):=⟨fun w hw=>q0.h w hw⟩
def nD:eC:=⟨0,0,0,⟨Sv.none,[]⟩⟩
structure cY where
 gen:UInt64
 at_:Sl Int
def dS(x:cY):Array Value:= #[.int .u64 x.gen.toNat,x.at_.sv.val]
instance:bk dS 2:=⟨fun _=>rfl,fun x=>by
 simp only[dS,aqY,aq3,arf,Sv.one,tM,tN,aq4]⟩
instance (x:cY):eU (dS x) 2:=⟨rfl,bk.one x⟩
instance (x:cY):bK (dS x) 0 (.int .u64 x.gen.toNat):=⟨rfl⟩
instance (x:cY):bK (dS x) 1 (x.at_.sv.val):=⟨rfl⟩
instance:Deep cY where
 c:=2
 cells:=dS
 size:=bk.size
 one:=bk.one
 dJ h x:=Deep.dJ h x.at_
 cd x:=Deep.cd x.at_
 je h x hs:=Deep.je h x.at_ hs
 mono w w' x hg hb:=Deep.mono w w' x.at_ hg hb
instance{x:cY}[q:aV w0 L x]:aV w0 L x.at_:=⟨fun w hw=>(q.h w hw)⟩
instance{gen:UInt64}{at_:Sl Int}[q0:aV w0 L at_]:aV w0 L (cY.mk gen at_):=⟨fun w hw=>q0.h w hw⟩
def kR:cY:=⟨0,⟨Sv.none,[]⟩⟩
structure aJ where
 live:Int
 used:Int
 bB:Int
 bad:Bool
 deriving DecidableEq
def bD(x:aJ):Array Value:= #[.int .i64 x.live, .int .i64 x.used, .int .i64 x.bB, .bool x.bad]
instance:bk bD 4:=⟨fun _=>rfl,fun x=>by
 simp only[bD,aqY,aq3,arf,Sv.one,tM,tN,aq4]⟩
instance (x:aJ):eU (bD x) 4:=⟨rfl,bk.one x⟩
instance (x:aJ):bK (bD x) 0 (.int .i64 x.live):=⟨rfl⟩
instance (x:aJ):bK (bD x) 1 (.int .i64 x.used):=⟨rfl⟩
instance (x:aJ):bK (bD x) 2 (.int .i64 x.bB):=⟨rfl⟩
instance (x:aJ):bK (bD x) 3 (.bool x.bad):=⟨rfl⟩
def ik:aJ:=⟨0,0,0,false⟩
structure cf where
 ak:Cp
 at_:Sl Int
 gen:UInt64
 last:Int
def cj(x:cf):Array Value:= #[.int .i64 x.ak.ae, .int .i64 x.ak.size,x.ak.blocks.sv.val, .int .i64 x.ak.ops, .bool x.ak.off,x.ak.bj.sv.val,x.at_.sv.val, .int .u64 x.gen.toNat, .int .i64 x.last]
instance:bk cj 9:=⟨fun _=>rfl,fun x=>by
 simp only[cj,aqY,aq3,arf,Sv.one,tM,tN,aq4]⟩
instance (x:cf):eU (cj x) 9:=⟨rfl,bk.one x⟩
instance (x:cf):bK (cj x) 0 (.int .i64 x.ak.ae):=⟨rfl⟩
instance (x:cf):bK (cj x) 1 (.int .i64 x.ak.size):=⟨rfl⟩
instance (x:cf):bK (cj x) 2 (x.ak.blocks.sv.val):=⟨rfl⟩
instance (x:cf):bK (cj x) 4 (.bool x.ak.off):=⟨rfl⟩
instance (x:cf):bK (cj x) 6 (x.at_.sv.val):=⟨rfl⟩
instance (x:cf):bK (cj x) 7 (.int .u64 x.gen.toNat):=⟨rfl⟩
instance (x:cf):bK (cj x) 8 (.int .i64 x.last):=⟨rfl⟩
instance (x:cf):mn (cj x) 0 6 (aU x.ak):=⟨rfl,fun j hj=>by
 match j,hj with
 |0,_=>rfl
 |1,_=>rfl
 |2,_=>rfl
 |3,_=>rfl
 |4,_=>rfl
 |5,_=>rfl⟩
instance:Deep cf where
 c:=9
 cells:=cj
 size:=bk.size
 one:=bk.one
 dJ h x:=Deep.dJ h x.ak/\Deep.dJ h x.at_
 cd x:= .two (Deep.cd x.ak) (Deep.cd x.at_)
 je h x hs:=⟨Deep.je h x.ak hs.1,Deep.je h x.at_ hs.2.1⟩
 mono w w' x hg hb:=⟨Deep.mono w w' x.ak hg.1 hb,Deep.mono w w' x.at_ hg.2 hb⟩
instance:fE cf where
 reach x k:=fE.reach x.ak k\/fE.reach x.at_ k
 congr h h' x e hg:=⟨fE.congr h h' x.ak (fun k hk=>e k (.inl hk)) hg.1,fE.congr h h' x.at_ (fun k hk=>e k (.inr hk)) hg.2⟩
instance{x:cf}[q:aV w0 L x]:aV w0 L x.ak:=⟨fun w hw=>(q.h w hw).1⟩
instance{x:cf}[q:aV w0 L x]:aV w0 L x.at_:=⟨fun w hw=>(q.h w hw).2⟩
instance{ak:Cp}{at_:Sl Int}{gen:UInt64}{last:Int}[q0:aV w0 L ak][q1:aV w0 L at_]:aV w0 L (cf.mk ak at_ gen last):=⟨fun w hw=>⟨q0.h w hw,q1.h w hw⟩⟩
def kS:cf:=⟨fY,⟨Sv.none,[]⟩,0,0⟩
structure aO where
 aG:cf
 beyond:Bool
def aN(x:aO):Array Value:= #[.int .i64 x.aG.ak.ae, .int .i64 x.aG.ak.size,x.aG.ak.blocks.sv.val, .int .i64 x.aG.ak.ops, .bool x.aG.ak.off,x.aG.ak.bj.sv.val,x.aG.at_.sv.val, .int .u64 x.aG.gen.toNat, .int .i64 x.aG.last, .bool x.beyond]
instance (x:aO):bK (aN x) 0 (.int .i64 x.aG.ak.ae):=⟨rfl⟩
instance (x:aO):bK (aN x) 1 (.int .i64 x.aG.ak.size):=⟨rfl⟩
instance (x:aO):bK (aN x) 2 (x.aG.ak.blocks.sv.val):=⟨rfl⟩
instance (x:aO):bK (aN x) 6 (x.aG.at_.sv.val):=⟨rfl⟩
instance (x:aO):bK (aN x) 7 (.int .u64 x.aG.gen.toNat):=⟨rfl⟩
instance (x:aO):bK (aN x) 8 (.int .i64 x.aG.last):=⟨rfl⟩
instance (x:aO):bK (aN x) 9 (.bool x.beyond):=⟨rfl⟩
instance (x:aO):mn (aN x) 0 9 (cj x.aG):=⟨rfl,fun j hj=>by
 match j,hj with
 |0,_=>rfl
 |1,_=>rfl
 |2,_=>rfl
 |3,_=>rfl
 |4,_=>rfl
 |5,_=>rfl
 |6,_=>rfl
 |7,_=>rfl
 |8,_=>rfl⟩
instance (x:aO):mn (aN x) 0 6 (aU x.aG.ak):=⟨rfl,fun j hj=>by
 match j,hj with
 |0,_=>rfl
 |1,_=>rfl
 |2,_=>rfl
 |3,_=>rfl
 |4,_=>rfl
 |5,_=>rfl⟩
structure iF where
 w:aJ
 ae:Int
 deriving DecidableEq
def fe(x:iF):Array Value:= #[.int .i64 x.w.live, .int .i64 x.w.used, .int .i64 x.w.bB, .bool x.w.bad, .int .i64 x.ae]
instance:bk fe 5:=⟨fun _=>rfl,fun x=>by
 simp only[fe,aqY,aq3,arf,Sv.one,tM,tN,aq4]⟩
instance (x:iF):eU (fe x) 5:=⟨rfl,bk.one x⟩
instance (x:iF):bK (fe x) 0 (.int .i64 x.w.live):=⟨rfl⟩
instance (x:iF):bK (fe x) 1 (.int .i64 x.w.used):=⟨rfl⟩
instance (x:iF):bK (fe x) 2 (.int .i64 x.w.bB):=⟨rfl⟩
instance (x:iF):bK (fe x) 3 (.bool x.w.bad):=⟨rfl⟩
instance (x:iF):bK (fe x) 4 (.int .i64 x.ae):=⟨rfl⟩
def XH:iF:=⟨ik,0⟩
end Go.Kb
namespace Go.ay
open Go.Kb
section
variable {P:Program} {N:cc} {w0:World} {env:Env} {L:List aj} {d:Option Tmp} {ty:TypeId} {ps:String} {af:Array Edge} {gd:Option (Nat×Bool)}
theorem XI{p:Nat}(h:p<2^32):4294967295^^^p=4294967295 -p:=by
 have e:(BitVec.allOnes 32^^^BitVec.ofNat 32 p).toNat=(~~~(BitVec.ofNat 32 p)).toNat:=by rw[BitVec.allOnes_xor]
 rw[BitVec.toNat_xor,BitVec.toNat_not,BitVec.toNat_allOnes,aqV,ap3 h]at e;simpa using e
theorem Oz{x:Operand}{a:Int}{p:Nat}{t:TypeId}(hx:ev env x=some (.int .u32 a))(ea:a=(p:Int))(hp:p<2^32):
  Ry P N w0 env L ⟨d, .unOp .xor t x,ty,ps,af,gd⟩ (.int .u32 ((4294967295 -p:Nat):Int)):=fun a w ha _=>by
 subst ea;have h1:(Op.intBits .xor .u32 4294967295 (p:Int)).run P w= .ok (.int .u32 ((4294967295 -p:Nat):Int)) w:=by
  have e2:(BitVec.ofInt 32 4294967295^^^BitVec.ofInt 32 (p:Int)).toNat=4294967295 -p:=by
   rw[yT,BitVec.toNat_xor,aqV,ap3 hp,←XI hp];rfl
  show Sem.run P (pure (Value.int .u32 (IntKind.u32.wrap ((BitVec.ofInt 32 4294967295^^^BitVec.ofInt 32 (p:Int)).toNat:Int)))) w=_;rw[e2,oH (k:= .u32) (by show 4294967295 -p<4294967296;omega)];rfl
 have h2:Op.unary .xor (.int .u32 (p:Int))=Op.intBits .xor .u32 4294967295 (p:Int):=rfl;simp only[execOp,ha.ev hx,h2,Sem.run_bind,h1,Sem.run_pure,Result.andThen]
theorem XJ{x y:Operand}{p:Nat}{a:Int}{k':IntKind}{t u:TypeId}(hx:ev env x=some (.int .u64 a))(hy:ev env y=some (.int k' 8))(ea:a=(p:Int))(hp:p*256<2^64):
  Ry P N w0 env L ⟨d, .binOp .shl t x y u,ty,ps,af,gd⟩ (.int .u64 ((p*256:Nat):Int)):=by
 subst ea;have h:=Dw (P:=P) (N:=N) (w0:=w0) (L:=L) (d:=d) (ty:=ty) (ps:=ps) (af:=af) (gd:=gd) (t:=t) (u:=u) hx hy (by decide);have e:IntKind.u64.wrap ((p:Int)*2^min (Int.toNat 8) IntKind.u64.bits)=((p*256:Nat):Int):=by
  have e1:(p:Int)*2^min (Int.toNat 8) IntKind.u64.bits=((p*256:Nat):Int):=by
   rw[show(2:Int)^min (Int.toNat 8) IntKind.u64.bits=256 from by decide];omega
  rw[e1];exact oH hp
 rw[e]at h;exact h
theorem XK{n many i:Nat}(h:i<many):(List.replicate (many -i) (0:UInt8)++be n i).set (many -1 -i) (b8 (n/256^i))=List.replicate (many -(i+1)) 0++be n (i+1):=by
 rw[List.set_append_left _ _ (by simp;omega)];have e:List.replicate (many -i) (0:UInt8)=List.replicate (many -(i+1)) 0++[0]:=by
  rw[show many -i=many -(i+1)+1 by omega,List.replicate_succ',]
 rw[e,aq0 _ _ (by simp;omega)];simp only[ap5,show many -1 -i -(many -(i+1))=0 by omega,aq1,apq];rfl
end
end Go.ay
namespace Go.Kb
open Go.ay
def dA(n:Int):UInt8:=b8 (n%256).toNat
theorem zH(n:Int):IntKind.u8.wrap n=((dA n).toNat:Int):=by
 unfold dA;rw[Hi];simp[IntKind.wrap,IntKind.bits,IntKind.signed];omega
def gY(r:Rt):List UInt8:=
 [if r.p.bits=128 then 1 else 0,dA r.p.len]++(List.range 16).map (fun i=>b8 (bm r.p.key i))++[b8 (r.bN.toNat/256),b8 r.bN.toNat]
theorem r9(r:Rt):(gY r).length=20:=by simp[gY]
theorem XL(r:Rt):(gY r)[0]? =some (if r.p.bits=128 then 1 else 0):=by simp[gY]
theorem XM(r:Rt):(gY r)[1]? =some (dA r.p.len):=by simp[gY]
theorem XN(r:Rt)(i:Nat)(h:i<16):(gY r)[2+i]? =some (b8 (bm r.p.key i)):=by
 unfold gY;rw[apq,apx (by simp),apw (by simp;omega)];simp[h]
theorem XO(r:Rt):(gY r)[18]? =some (b8 (r.bN.toNat/256)):=by simp[gY]
theorem XP(r:Rt):(gY r)[19]? =some (b8 r.bN.toNat):=by simp[gY]
theorem OA(r:Rt){zI:Array Value}(h0:zI.size=20)(hz:zI[0]? =some (.int .u8 (if r.p.bits=128 then 1 else 0:Nat))):
  (((over (zI.setIfInBounds 1 (.int .u8 (dA r.p.len).toNat)) 2 (bR r.p.key)).setIfInBounds 18 (.int .u8 (b8 (r.bN.toNat/256)).toNat)).setIfInBounds 19 (.int .u8 (b8 r.bN.toNat).toNat))=(aF aP (gY r)).toArray:=by
 have hs:(over (zI.setIfInBounds 1 (.int .u8 (dA r.p.len).toNat)) 2 (bR r.p.key)).size=20:=by rw[nf (by simp[fD,h0])];simpa using h0
 refine aqI fun j=>?_;have hf: ∀b,(gY r)[j]? =some b->(aF aP (gY r)).toArray[j]? =some (.int .u8 b.toNat):=fun b hb=>by
  have:=ng (enc:=aP) (gY r) j b hb 0 (by decide);simp only[aqS,aqk]at this;simpa[aP]using this
 have hk:2+(bR r.p.key).size<=(zI.setIfInBounds 1 (.int .u8 (dA r.p.len).toNat)).size:=by simp[fD,h0]
 rw[aqa,aqa]
 by_cases OB:19=j
 ·
  subst OB;rw[hf _ (XP r)];simp[hs]
 by_cases B4:18=j
 ·
  subst B4;rw[hf _ (XO r)];simp[hs]
 rw[if_neg OB,if_neg B4,tj hk,fD]
 by_cases h2:2<=j/\j<2+16
 ·
  rw[if_pos h2,ki _ _ (by omega)];have:=XN r (j -2) (by omega);rw[show 2+(j -2)=j by omega]at this;rw[hf _ this,Hi];have:=jv r.p.key (j -2);rw[ap3 this]
 rw[if_neg h2,aqa]
 by_cases h1:1=j
 ·
  subst h1;rw[hf _ (XM r)];simp[h0]
 rw[if_neg h1]
 by_cases hj:j=0
 ·
  subst hj;rw[hz,hf _ (XL r)];split<;>rfl
 ·
  have e1:zI[j]? =none:=by simp;omega
  rw[e1];have:(aF aP (gY r)).length=20:=by rw[fX,r9]
  simp;omega
structure PV where
 kind:Int
 id:Int
 gen:Nat
 body:List UInt8
 deriving DecidableEq
def jV:PV:=⟨0,0,0,[]⟩
def cE(p:eC):PV:=⟨p.kind,p.id,p.gen.toNat,p.body.xs⟩
def sa(n:Int):Bool:=decide (24<=n)&&decide (n<=256)
theorem B5{n:Int}:sa n=true↔24<=n/\n<=256:=by simp only[sa,anc,decide_eq_true_eq]
def fI(n:Int):Int:=if sa n=true then n -16 else 0
def zJ(p:PV)(n:Int):Bool:=sa n&&(decide (p.kind=1)||decide (p.kind=2))&&decide (0<=p.id)&&decide (p.id<64)&&decide (p.gen<281474976710656)&&decide ((p.body.length:Int)<=fI n)
theorem OC{p:PV}{n:Int}:zJ p n=true↔sa n=true/\(p.kind=1\/p.kind=2)/\0<=p.id/\p.id<64/\p.gen<281474976710656/\(p.body.length:Int)<=fI n:=by
 simp only[zJ,anc,aqz,decide_eq_true_eq,and_assoc]
def pY(b:List UInt8):Bool:=b.all fun x=>decide (x=255)
theorem OD{b:List UInt8}:pY b=true↔ ∀x∈b,x=255:=by simp only[pY,apC,decide_eq_true_eq]
def nE(p:PV)(n:Nat):List UInt8:=[dA p.kind,dA p.id]++be p.gen 6++be p.body.length 2++p.body++List.replicate (n -4 -10 -p.body.length) 0
def eX(p:PV)(n:Int):List UInt8×Int:=if zJ p n=true then(nE p n.toNat++be (pT (nE p n.toNat)) 4,0)else([],1)
def zK(b:List UInt8):PV:=⟨(b.getD 0 0).toNat,(b.getD 1 0).toNat,de ((b.drop 2).take (8 -2)),[]⟩
def jz(b:List UInt8):Nat:=de ((b.drop 8).take (10 -8))
def nF(b:List UInt8):List UInt8:=(b.drop 0).take (b.length -4 -0)
def ER(b:List UInt8):List UInt8:=(b.drop (b.length -4)).take (b.length -(b.length -4))
def oV(b:List UInt8):List UInt8:=((nF b).drop (10+jz b)).take ((nF b).length -(10+jz b))
def zL(b:List UInt8):Bool:=b.all fun x=>decide (x=0)
theorem OE{b:List UInt8}:zL b=true↔ ∀x∈b,x=0:=by simp only[zL,apC,decide_eq_true_eq]
def sd(b:List UInt8):Bool:=decide ((jz b:Int)<=fI b.length)&&zJ (zK b) b.length
def dm(b:List UInt8):PV×Int:=
 if sa b.length=false then(jV,3)
 else if pY b=true then(jV,0)
 else if de (ER b)≠pT (nF b)then(jV,4)
 else if sd b=false then(jV,2)
 else if zL (oV b)=false then(jV,2)
 else({zK b with body:=(b.drop 10).take (10+jz b -10)},0)
theorem OF(b:List UInt8):jz b<65536:=by
 have h:=NA ((b.drop 8).take (10 -8));have h2:((b.drop 8).take (10 -8)).length<=2:=by rw[apk];omega
 have h3:=aqo (show 0<256 by decide) h2;rw[jz];omega
theorem IE(b:List UInt8):de ((b.drop 2).take (8 -2))<281474976710656:=by
 have h:=NA ((b.drop 2).take (8 -2));have h2:((b.drop 2).take (8 -2)).length<=6:=by rw[apk];omega
 have h3:=aqo (show 0<256 by decide) h2;omega
def tV(b:List UInt8):eC:=⟨(b.getD 0 0).toNat,(b.getD 1 0).toNat,UInt64.ofNat (de ((b.drop 2).take (8 -2))),⟨Sv.none,[]⟩⟩
theorem OG(b:List UInt8):(UInt64.ofNat (de ((b.drop 2).take (8 -2)))).toNat=de ((b.drop 2).take (8 -2)):=by
 have:=IE b;rw[UInt64.toNat_ofNat'];omega
theorem OH(b:List UInt8)(s:Sv)(l:List UInt8):cE {tV b with body:=⟨s,l⟩}={zK b with body:=l}:=by
 simp only[cE,tV,OG];rfl
theorem IF(b:List UInt8):cE (tV b)=zK b:=OH b Sv.none []
theorem XQ(b:List UInt8):(nF b).length=b.length -4:=by rw[nF,apk,apr];omega
theorem XR{M:Nat}{k d:UInt8}(h:2<=M):((List.replicate M (0:UInt8)).set 0 k).set 1 d=[k,d]++List.replicate (M -2) 0:=by
 obtain⟨m,rfl⟩: ∃m,M=m+2:=⟨M -2,by omega⟩;simp[arL]
theorem IG{A Y:List UInt8}{k N:Nat}(hk:k=A.length):(A++List.replicate N 0).take k++(Y++(A++List.replicate N 0).drop (k+Y.length))=A++Y++List.replicate (N -Y.length) 0:=by
 subst hk;rw[List.take_left',List.drop_append,arW (by omega),aqv,List.drop_replicate,apV,apq];rfl
theorem XS{p:PV}{n:Nat}(h:p.body.length+14<=n):(nE p n).length=n -4:=by
 simp only[nE,af0,nj,ap5,apj,apl];omega
theorem IH(b:List UInt8):(dm b).1.body.length<=65536:=by
 have h:=OF b;rw[dm];split
 ·
  simp[jV]
 split
 ·
  simp[jV]
 split
 ·
  simp[jV]
 split
 ·
  simp[jV]
 split
 ·
  simp[jV]
 simp only[apk];omega
structure RV where
 gen:Nat
 at_:List Int
 deriving DecidableEq
def gH:RV:=⟨0,[]⟩
def db(r:cY):RV:=⟨r.gen.toNat,r.at_.xs⟩
def lV(n:Int):Int:=min 64 (fI n/2)
def zM(x:Int):Bool:=decide (0<=x)&&decide (x<=65535)
theorem II{x:Int}:zM x=true↔0<=x/\x<=65535:=by simp only[zM,anc,decide_eq_true_eq]
def tW(r:RV)(n:Int):Bool:= !decide (fI n=0)&&decide (r.gen<281474976710656)&&decide ((r.at_.length:Int)<=lV n)&&r.at_.all zM
theorem B6{r:RV}{n:Int}:tW r n=true↔fI n≠0/\r.gen<281474976710656/\(r.at_.length:Int)<=lV n/\ ∀x∈r.at_,zM x=true:=by
 simp only[tW,anc,aqP,decide_eq_true_eq,decide_eq_false_iff_not,and_assoc,apC,ne_eq]
def qR(b:List UInt8)(i:Nat):Int:=((w7 (b.getD (2*i) 0) (b.getD (2*i+1) 0)).toNat:Int)
def pZ(b:List UInt8):List Int:=(List.range (b.length/2)).map (qR b)
def vB(p:PV):Bool:=decide (p.kind=2)&&decide (p.body.length%2=0)&&decide (p.id=max 0 ((p.body.length/2:Nat) -1:Int))
def fm(b:List UInt8):RV×Int:=
 if(dm b).2≠0 then(gH,(dm b).2)
 else if(dm b).1.kind=0 then(gH,6)
 else if vB (dm b).1=false then(gH,2)
 else(⟨(dm b).1.gen,pZ (dm b).1.body⟩,0)
def ES(x:Int):List UInt8:=[dA (x/256),dA x]
def jA(l:List Int):List UInt8:=(l.map ES).flatten
def dB(r:RV)(n:Int):List UInt8×Int:=if tW r n=true then eX ⟨2,max 0 ((r.at_.length:Int) -1),r.gen,jA r.at_⟩ n else([],1)
theorem XT{b:List UInt8}{i:Nat}(h:i<b.length/2):(pZ b).take (i+1)=(pZ b).take i++[qR b i]:=by
 rw[aps,pZ,apG,ark h];rfl
theorem IJ(b:List UInt8):(pZ b).length=b.length/2:=by simp[pZ]
theorem XU{l:List Int}{i:Nat}{x:Int}(h:l[i]? =some x):jA (l.take (i+1))=jA (l.take i)++ES x:=by
 simp[jA,aps,h]
theorem XV(l:List Int):(jA l).length=2*l.length:=by
 induction l with
 |nil=>rfl
 |cons x l ih=>
  have:jA (x::l)=ES x++jA l:=by simp[jA]
  rw[this,af0,ih];simp only[ES,apj,apl];omega
structure NS where
 at_:Int
 new:RV
 found:Bool
 blank:Bool
 deriving DecidableEq
def xH(s:NS)(i:Nat)(b:List UInt8):NS:=
 if(fm b).2=0/\(s.found=false\/s.new.gen<=(fm b).1.gen)then⟨i,(fm b).1,true,s.blank&&pY b⟩else{s with blank:=s.blank&&pY b}
def et(l:List (List UInt8)):Nat->NS
 |0=>⟨0,gH,false,true⟩
 |k+1=>xH (et l k) k (l.getD k [])
def gp(l:List (List UInt8)):Int×RV×Int:=
 if(et l l.length).found=true then((et l l.length).at_,(et l l.length).new,0)else if(et l l.length).blank=true then(0,gH,6)else(0,gH,2)
theorem XW{l:List (List UInt8)}{i:Nat}{b:List UInt8}(hb:l[i]? =some b)(h:(fm b).2=0/\((et l i).found=false\/(et l i).new.gen<=(fm b).1.gen)):et l (i+1)=⟨i,(fm b).1,true,(et l i).blank&&pY b⟩:=by
 rw[et,show l.getD i []=b by simp[List.getD,hb],xH,if_pos h]
theorem XX{l:List (List UInt8)}{i:Nat}{b:List UInt8}(hb:l[i]? =some b)(h: ¬((fm b).2=0/\((et l i).found=false\/(et l i).new.gen<=(fm b).1.gen))):et l (i+1)={et l i with blank:=(et l i).blank&&pY b}:=by
 rw[et,show l.getD i []=b by simp[List.getD,hb],xH,if_neg h]
structure VV where
 ak:CV
 at_:List Int
 gen:Nat
 last:Int
 deriving DecidableEq
def XY:CV:=⟨0,0,[],0,false,[]⟩
def mA:VV:=⟨XY,[],0,0⟩
def vv(v:cf):VV:=⟨cv v.ak,v.at_.xs,v.gen.toNat,v.last⟩
def se(c:CV):Bool:=bq c&&decide (4<=(c.blocks.length:Int))&&decide (2<=c.ae)&&decide (24<=c.size)
theorem B7{c:CV}:se c=true↔bq c=true/\4<=(c.blocks.length:Int)/\2<=c.ae/\24<=c.size:=by simp only[se,anc,decide_eq_true_eq,and_assoc]
def zN(c:CV)(k:Int):List UInt8:=(aM c (k/c.ae)).ae.getD (k%c.ae).toNat []
def vC(c:CV)(k:Int):Bool:=decide (2<=k/c.ae)&&decide (k/c.ae<(c.blocks.length:Int))&&decide (k%c.ae<(aM c (k/c.ae)).used)
theorem ET{c:CV}{k:Int}:vC c k=true↔2<=k/c.ae/\k/c.ae<(c.blocks.length:Int)/\k%c.ae<(aM c (k/c.ae)).used:=by simp only[vC,anc,decide_eq_true_eq,and_assoc]
def OI(p:PV×Int)(id:Int):Bool:=decide (p.2=0)&&decide (p.1.kind=1)&&decide (p.1.id=id)
def zO(c:CV)(id n:Int):Bool:=vC c (n -1)&&OI (dm (zN c (n -1))) id
theorem XZ(c:CV):{BY c c.bj with off:=c.off}=c:=by
 rw[BY];split<;>rfl
def tX(c:CV)(l:List Int)(i:Nat):Bool:=decide (l.getD i 0=0)||(!(l.take i).contains (l.getD i 0)&&zO c (i:Int) (l.getD i 0))
def vD(c:CV)(l:List Int):Bool:=(List.range l.length).all (tX c l)
theorem IK{c:CV}{l:List Int}:vD c l=true↔ ∀i,i<l.length->tX c l i=true:=by simp only[vD,apC,aqi]
def jB(l:List Int)(i:Nat):Int->Option Unit:=fun x=>if x≠0/\x∈l.take i then some ()else none
theorem B8{l:List Int}{i:Nat}{x:Int}:(jB l i x).isSome=decide (x≠0/\x∈l.take i):=by
 unfold jB;split<;>simp_all
theorem OJ{l:List Int}:(fun _=>none)=jB l 0:=by
 funext x;simp[jB]
theorem OK{l:List Int}{i:Nat}(h:l[i]? =some 0):jB l (i+1)=jB l i:=by
 funext x
 unfold jB;rw[aps,h]
 by_cases hx:x=0
 ·
  simp[hx]
 simp[hx]
theorem OL{l:List Int}{i:Nat}{y:Int}(h:l[i]? =some y)(hy:y≠0):(fun z=>if z=y then some ()else jB l i z)=jB l (i+1):=by
 funext x
 unfold jB;rw[aps,h]
 by_cases hx:x=y
 ·
  subst hx;simp[hy]
 simp[hx]
theorem xI{l:List Int}{i:Nat}{y:Int}(h:l[i]? =some y):l.getD i 0=y:=by simp[List.getD,h]
def ff(l:List (Sl (Sl UInt8))):List (Sl UInt8):=(l.map Sl.xs).flatten
theorem EU{l:List (Sl (Sl UInt8))}{i:Nat}{x:Sl (Sl UInt8)}(h:l[i]? =some x):ff (l.take (i+1))=ff (l.take i)++x.xs:=by
 rw[ff,aps,h];simp[ff]
theorem X0(l:List (Sl (Sl UInt8)))(i:Nat):(ff (l.take i)).length<=(ff l).length:=by
 have e:ff l=ff (l.take i)++ff (l.drop i):=by
  unfold ff;rw[←arA,←ap6,apH]
 rw[e,af0];omega
class OM(w0:World)(l:List (Sl UInt8)):Prop where
 h: ∀y∈l,Deep.dJ (hp w0) y
variable {w0:World}{L:List aj}
instance aV.row{x:Sv}{l:List (Sl UInt8)}{i:Nat}[q:di L x (bU (τ:=UInt8)) 1 l i][m:OM w0 l]:aV w0 L (⟨x,l⟩:Sl (Sl UInt8)):=
 ⟨fun w hw=>⟨(hw.get q.h).1,fun y hy=>Deep.mono w0 w y (m.h y hy) hw.below⟩⟩
def fy(c:CV):Int×RV×Int:=gp ((aM c 0).ae++(aM c 1).ae)
def tY(c:CV):Bool:=decide ((fy c).1%c.ae<(aM c ((fy c).1/c.ae)).used)&&vD c (fy c).2.1.at_
def bJ(c:CV):VV×Int:=
 if se c=false then(mA,1)
 else if c.off=true then(mA,7)
 else if(fy c).2.2≠0 then(mA,(fy c).2.2)
 else if tY c=false then(mA,2)
 else(⟨c,(fy c).2.1.at_,(fy c).2.1.gen,(fy c).1/c.ae⟩,0)
theorem ON(l:List (List UInt8)): ∀k,k<=l.length->(et l k).at_=0\/(0<=(et l k).at_/\(et l k).at_<k)
 |0,_=> .inl rfl
 |k+1,h=>by
  have:=ON l k (by omega);rw[et,xH];split
  ·
   exact .inr ⟨by simp only;omega,by simp only;omega⟩
  simp only;omega
theorem OO{l:List (List UInt8)}(h:0<l.length):0<=(gp l).1/\(gp l).1<l.length:=by
 have:=ON l l.length (apm _);rw[gp];split
 ·
  simp only;omega
 split<;>(simp only;omega)
theorem X1(b:List UInt8): ∀x∈pZ b,0<=x/\x<=65535:=by
 intro x hx;obtain⟨i,_,rfl⟩:=aqr.1 hx;have:=(w7 (b.getD (2*i) 0) (b.getD (2*i+1) 0)).toNat_lt;simp only[qR];omega
theorem X2(b:List UInt8): ∀x∈(fm b).1.at_,0<=x/\x<=65535:=by
 rw[fm];split
 ·
  simp[gH]
 split
 ·
  simp[gH]
 split
 ·
  simp[gH]
 exact X1 _
theorem OP(l:List (List UInt8)): ∀k,∀x∈(et l k).new.at_,0<=x/\x<=65535
 |0=>by simp[et,gH]
 |k+1=>by
  have:=OP l k;rw[et,xH];split
  ·
   exact X2 _
  exact this
theorem OQ(l:List (List UInt8)): ∀x∈(gp l).2.1.at_,0<=x/\x<=65535:=by
 rw[gp];split
 ·
  exact OP _ _
 split<;>simp[gH]
theorem IL(a b:Sl (Sl UInt8)):aL (ff [a,b])=aL a.xs++aL b.xs:=by simp[aL,ff]
theorem IM{c:Cp}{i:Nat}{B:Bk}(h:c.blocks.xs[i]? =some B):aM (cv c) (i:Int)=bv B:=by
 rw[←xG];simp[List.getD,h]
theorem X3(b:List UInt8):(fm b).1.at_.length<=65536:=by
 have h:=IH b;rw[fm];split
 ·
  simp[gH]
 split
 ·
  simp[gH]
 split
 ·
  simp[gH]
 simp only[IJ];omega
theorem OR(l:List (List UInt8)): ∀k,(et l k).new.at_.length<=65536
 |0=>by simp[et,gH]
 |k+1=>by
  have:=OR l k;rw[et,xH];split
  ·
   exact X3 _
  exact this
theorem X4(l:List (List UInt8)):(gp l).2.1.at_.length<=65536:=by
 rw[gp];split
 ·
  exact OR _ _
 split<;>simp[gH]
theorem OS(c:CV):(bJ c).1.at_.length<=65536:=by
 have h:=X4 ((aM c 0).ae++(aM c 1).ae);rw[bJ];split
 ·
  simp[mA]
 split
 ·
  simp[mA]
 split
 ·
  simp[mA]
 split
 ·
  simp[mA]
 exact h
theorem IN{c:CV}(h:(bJ c).2=0):se c=true:=by
 cases hb:se c with
 |true=>rfl
 |false=>rw[bJ,if_pos hb]at h;cases h
def p0(x:VV):Bool:=decide ((bJ {x.ak with off:=false}).2=0)&&decide ((bJ {x.ak with off:=false}).1.gen=x.gen)&&decide ((bJ {x.ak with off:=false}).1.last=x.last)&&decide ((bJ {x.ak with off:=false}).1.at_=x.at_)
theorem X5{w0 w:World}{L:List aj}(h:Mem w0 L w):Mem w0 (fz fY::L) w:=
 EF (d:=fY) (Mem.freeze (es:=[]) _ ⟨dh.nil _ _ _,fun x hx=>by cases hx⟩ (fun k hk=>by
  rcases hk with⟨cr,_⟩|⟨x,hx,_⟩
  ·
   exact absurd rfl cr
  cases hx) (Ov (s:=Sv.none) Sv.yX rfl h))
class OT(a:Cp)(b:outParam Cp):Prop where
 h:a=b
instance aV.akT{v:cf}{c:Cp}[e:OT v.ak c][q1:aV w0 L c][q2:aV w0 L v.at_]:aV w0 L v:=
 ⟨fun w hw=>⟨by rw[e.h];exact q1.h w hw,q2.h w hw⟩⟩
def ll(c:CV)(n:Int):List UInt8:=if(dm (zN c (n -1))).2=0 then(dm (zN c (n -1))).1.body else[]
theorem IP{c:CV}(h:(bJ c).2=0):se c=true/\tY c=true/\bJ c=(⟨c,(fy c).2.1.at_,(fy c).2.1.gen,(fy c).1/c.ae⟩,0):=by
 have hb:=IN h
 by_cases h1:c.off=true
 ·
  rw[bJ,if_neg (by rw[hb];simp),if_pos h1]at h;cases h
 by_cases h2:(fy c).2.2≠0
 ·
  rw[bJ,if_neg (by rw[hb];simp),if_neg h1,if_pos h2]at h;exact absurd h h2
 cases h3:tY c with
 |false=>rw[bJ,if_neg (by rw[hb];simp),if_neg h1,if_neg h2,if_pos h3]at h;cases h
 |true=>exact⟨hb,rfl,by rw[bJ,if_neg (by rw[hb];simp),if_neg h1,if_neg h2,if_neg (by rw[h3];simp)]⟩
theorem EV{x:VV}(h:p0 x=true):bq x.ak=true/\vD x.ak x.at_=true/\ ∀y∈x.at_,0<=y/\y<=65535:=by
 simp only[p0,anc,decide_eq_true_eq]at h;obtain⟨⟨⟨h1,h2⟩,h3⟩,h4⟩:=h;obtain⟨hb,hl,hf⟩:=IP h1;rw[hf]at h4;simp only at h4;simp only[tY,anc,decide_eq_true_eq]at hl;rw[h4]at hl;refine⟨(B7.1 hb).1,hl.2,?_⟩;rw[←h4];exact OQ _
theorem OU{x:VV}(h:p0 x=true){i:Nat}{y:Int}(hy:x.at_[i]? =some y)(h0:y≠0):1<=y/\y<=1000000/\vC x.ak (y -1)=true:=by
 obtain⟨h1,h2,h3⟩:=EV h;have hr:=h3 y (alM hy);have hp:=IK.1 h2 i (ad2.1 hy).1;rw[tX,xI hy]at hp;simp only[aqz,decide_eq_true_eq,anc]at hp;rcases hp with hp|hp
 ·
  exact absurd hp h0
 have hn:=hp.2;rw[zO,anc]at hn;exact⟨by omega,by omega,hn.1⟩
def vE(l:List Int)(j:Nat):Bool:=decide (l.getD j 0≠0)&& !(l.take j).contains (l.getD j 0)
def sf(ae:Int)(l:List Int)(k i:Nat):Nat:=((List.range k).filter fun j=>vE l j&&decide ((l.getD j 0 -1)/ae=(i:Int)+2)).length
def vF(b:BV)(live:Nat):aJ:=⟨live,b.used,b.bB,b.bad⟩
def jC(c:CV)(l:List Int)(k:Nat):List aJ:=(List.range (c.blocks.length -2)).map fun i:Nat=>vF (aM c ((i:Int)+2)) (sf c.ae l k i)
def iG(c:CV)(l:List Int):List aJ:=jC c l l.length
theorem zP(c:CV)(l:List Int)(k:Nat):(jC c l k).length=c.blocks.length -2:=by simp[jC]
theorem IQ(ae:Int)(l:List Int)(k i:Nat):sf ae l (k+1) i=sf ae l k i+(if vE l k&&decide ((l.getD k 0 -1)/ae=(i:Int)+2)then 1 else 0):=by
 rw[sf,aq9,apN,af0,sf];congr 1;simp only[apS,arQ];split<;>rfl
theorem X6{c:CV}{l:List Int}{k:Nat}(h:vE l k=false):jC c l (k+1)=jC c l k:=by
 refine aq7 fun i _=>?_;rw[IQ,h];simp
theorem X7{l:List Int}{i:Nat}{y:Int}(h:l[i]? =some y)(hy:y≠0/\y∈l.take i):jB l (i+1)=jB l i:=by
 funext x
 unfold jB;rw[aps,h]
 by_cases hx:x=y
 ·
  subst hx;simp[hy.1,hy.2]
 simp[hx]
theorem X8{c:CV}{l:List Int}{k i:Nat}{x:aJ}(h:vE l k=true)(hi:(l.getD k 0 -1)/c.ae=(i:Int)+2)(hx:(jC c l k)[i]? =some x):jC c l (k+1)=(jC c l k).set i {x with live:=x.live+1}:=by
 have dF:i<c.blocks.length -2:=by have:=(ad2.1 hx).1;rwa [zP]at this
 have jh:x=vF (aM c ((i:Int)+2)) (sf c.ae l k i):=by
  rw[jC,apG,ark dF]at hx;exact(api hx).symm
 refine ap2 fun j=>?_;rw[aqe]
 by_cases hj:i=j
 ·
  subst hj;rw[if_pos rfl,if_pos (by rw[zP];exact dF),jC,apG,ark dF,aqh,IQ,h,hi,jh];simp[vF]
 rw[if_neg hj,jC,jC,apG,apG];rcases apo j (c.blocks.length -2)with gU|gU
 ·
  rw[ark gU,aqh,aqh,IQ,h,hi];simp only[aqw];rw[decide_eq_false (by omega)];simp
 rw[apt (by simpa using gU)];rfl
def ax(l:List (Sl Int)):List Int:=(l.map Sl.xs).flatten
theorem OV{l:List (Sl Int)}{i:Nat}{x:Sl Int}(h:l[i]? =some x):ax (l.take (i+1))=ax (l.take i)++x.xs:=by
 rw[ax,aps,h];simp[ax]
theorem X9{l:List (Sl Int)}{i j:Nat}{x:Sl Int}{y:Int}(h:l[i]? =some x)(hy:x.xs[j]? =some y):(ax l)[(ax (l.take i)).length+j]? =some y:=by
 have hj:=(ad2.1 hy).1;have e:ax l=ax (l.take (i+1))++ax (l.drop (i+1)):=by
  unfold ax;rw[←arA,←ap6,apH]
 rw[e,OV h,apw (by rw[af0];omega),apx (by omega),aqv,hy]
def vG(c:CV)(l:List Int):Prop:=(bq c=true/\l.length<=1000000)/\2<=c.blocks.length/\ ∀n∈l,n=0\/(1<=n/\n<=1000000/\2<=(n -1)/c.ae/\(n -1)/c.ae<(c.blocks.length:Int))
theorem Ya(c:CV)(l:List Int):jC c l 0=(List.range (c.blocks.length -2)).map fun i:Nat=>vF (aM c ((i:Int)+2)) 0:=by
 refine aq7 fun i _=>?_;simp[sf]
theorem OW(ae:Int)(l:List Int)(k i:Nat):sf ae l k i<=k:=by
 rw[sf];exact arv (ard _ _) (by simp)
theorem Yb{c:CV}{l:List Int}{k i:Nat}{z:aJ}(h:(jC c l k)[i]? =some z):0<=z.live/\z.live<=k:=by
 rw[jC,apG,aqf]at h;obtain⟨j,_,rfl⟩:=h;have:=OW c.ae l k j;simp only[vF];omega
def xJ(a b:Int):Int:=if a<b then -1 else if b<a then 1 else 0
def sg(p:Int)(x:aJ):Bool:= !x.bad&&decide (x.used<p)
def sh(x:aJ):Bool:= !x.bad&&decide (x.live=0)&&decide (0<x.used)
def B9(p:Int)(x:aJ):Bool:=if x.bad=true then decide (0<x.live)else decide (x.used=p)&&decide (0<x.live)&&decide (x.live<p)
def IS(a b:aJ):Int:=xJ b.used a.used
def Ca(a b:aJ):Int:=xJ a.bB b.bB
def IT(a b:aJ):Int:=xJ a.live b.live
def zQ(a b:aJ):Int:=if a.bad=b.bad then 0 else if a.bad=true then -1 else 1
def vH(p:Int)(x:aJ):Bool:=decide (0<=x.live)&&decide (x.live<=x.used)&&decide (x.used<=p)&&decide (0<=x.bB)&&decide (x.bB<=eo)
theorem zR{p:Int}{x:aJ}:vH p x=true↔0<=x.live/\x.live<=x.used/\x.used<=p/\0<=x.bB/\x.bB<=eo:=by
 simp only[vH,anc,decide_eq_true_eq,and_assoc]
def oW(l:List aJ)(p:Int):Bool:=decide (1<=(l.length:Int))&&decide ((l.length:Int)<=32)&&decide (1<=p)&&decide (p<=16)&&l.all (vH p)
theorem Cb{l:List aJ}{p:Int}:oW l p=true↔1<=(l.length:Int)/\(l.length:Int)<=32/\1<=p/\p<=16/\ ∀x∈l,vH p x=true:=by
 simp only[oW,anc,decide_eq_true_eq,and_assoc,apC]
def si(a b:aJ):List (aJ->aJ->Int)->Bool
 |[]=>false
 |o::r=>if o a b≠0 then decide (o a b<0)else si a b r
def zS(l:List aJ)(dG:aJ->Bool)(os:List (aJ->aJ->Int))(i:Nat)(s:Int×Bool):Int×Bool:=
 if dG (l.getD i ik)=true/\(s.2=false\/si (l.getD i ik) (l.getD s.1.toNat ik) os=true)then((i:Int),true)else s
def gQ(l:List aJ)(dG:aJ->Bool)(os:List (aJ->aJ->Int)):Nat->Int×Bool
 |0=>(0,false)
 |k+1=>zS l dG os k (gQ l dG os k)
def fS(l:List aJ)(p:Int)(dG:aJ->Bool)(os:List (aJ->aJ->Int)):Int×Bool:=
 if oW l p=true then gQ l dG os l.length else(0,false)
def fZ(l:List aJ)(p:Int):Int×Bool:=fS l p (sg p) [IS,Ca]
def gI(l:List aJ)(p:Int):Int×Bool:=fS l p sh [Ca]
def xK(l:List aJ)(p:Int):Int×Bool:=fS l p (B9 p) [zQ,IT,Ca]
def mB(p:Int)(x:aJ):Int:=if sh x=true then p else if sg p x=true then p -x.used else 0
def mC:List Int->Int
 |[]=>0
 |x::r=>x+mC r
def EW(l:List aJ)(p:Int):Int:=if oW l p=true then mC (l.map (mB p))else 0
theorem Yc(a b:List Int):mC (a++b)=mC a+mC b:=by
 induction a with
 |nil=>simp[mC]
 |cons x r ih=>simp only[aqs,mC,ih];omega
theorem IU(l:List aJ)(dG:aJ->Bool)(os:List (aJ->aJ->Int)): ∀k,0<=(gQ l dG os k).1/\(gQ l dG os k).1<=k/\((gQ l dG os k).2=true->(gQ l dG os k).1<k/\dG (l.getD (gQ l dG os k).1.toNat ik)=true)
 |0=>⟨by simp[gQ],by simp[gQ],fun h=>by simp[gQ]at h⟩
 |k+1=>by
  obtain⟨h1,h2,h3⟩:=IU l dG os k;rw[gQ,zS];split
  ·
   rename_i h;exact⟨by simp only;omega,by simp only;omega,fun _=>⟨by simp only;omega,by simpa using h.1⟩⟩
  exact⟨h1,by omega,fun h=>⟨by have:=(h3 h).1;omega,(h3 h).2⟩⟩
theorem OX{l:List aJ}{dG:aJ->Bool}{os:List (aJ->aJ->Int)}: ∀{k},(gQ l dG os k).2=false-> ∀i,i<k->dG (l.getD i ik)=false
 |0,_,i,hi=>by omega
 |k+1,h,i,hi=>by
  rw[gQ,zS]at h;split at h
  ·
   cases h
  rename_i hn
  by_cases e:i=k
  ·
   subst e
   cases hr:dG (l.getD i ik)with
   |false=>rfl
   |true=>exact absurd ⟨hr, .inl h⟩ hn
  exact OX h i (by omega)
theorem EX{l:List aJ}{p:Int}{dG:aJ->Bool}{os:List (aJ->aJ->Int)}(h:(fS l p dG os).2=true):oW l p=true/\0<=(fS l p dG os).1/\(fS l p dG os).1<l.length/\dG (l.getD (fS l p dG os).1.toNat ik)=true:=by
 unfold fS at h⊢;split at h
 ·
  rename_i hw;rw[if_pos hw];obtain⟨h1,h2,h3⟩:=IU l dG os l.length;exact⟨hw,h1,(h3 h).1,(h3 h).2⟩
 cases h
theorem OY{l:List aJ}{p:Int}{dG:aJ->Bool}{os:List (aJ->aJ->Int)}(hw:oW l p=true)(h:(fS l p dG os).2=false): ∀x∈l,dG x=false:=fun x hx=>by
 unfold fS at h;rw[if_pos hw]at h;obtain⟨i,hi⟩:=aqj hx;have dF:=(ad2.1 hi).1;have:=OX h i dF;rwa [show l.getD i ik=x by simp[List.getD,hi]]at this
theorem drop_at{α:Type}{l:List α}{i:Nat}{e:α}(he:l[i]? =some e):l.drop i=e::l.drop (i+1):=by
 obtain⟨hi,rfl⟩:=ad2.1 he;rw[arX]
theorem Yd{p:Int}{x:aJ}(h:vH p x=true)(hp:1<=p):0<=mB p x/\mB p x<=p:=by
 obtain⟨h1,h2,h3,_⟩:=zR.1 h;rw[mB];split
 ·
  omega
 split<;>omega
theorem OZ(p:Int): ∀l:List aJ,(∀x∈l,vH p x=true)->1<=p->0<=mC (l.map (mB p))/\mC (l.map (mB p))<=(l.length:Int)*p
 |[],_,_=>by simp[mC]
 |x::r,h,hp=>by
  have h1:=OZ p r (fun y hy=>h y (apL _ hy)) hp;have h2:=Yd (h x apu) hp;rw[apY,mC,apj,Int.natCast_add,Int.add_mul];omega
theorem room_le{n:Nat}{p:Int}(h:n<=32)(h1:1<=p)(h2:p<=16):(n:Int)*p<=512:=by
 have:(n:Int)*p<=32*16:=ar2 (by omega) h2 (by omega) (by omega);omega
structure fo(c d:CV):Prop where
 ae:d.ae=c.ae
 size:d.size=c.size
 len:d.blocks.length=c.blocks.length
theorem fo.gJ(c:CV):fo c c:=⟨rfl,rfl,rfl⟩
theorem fo.trans{c d e:CV}(h:fo c d)(g:fo d e):fo c e:=⟨g.ae.trans h.ae,g.size.trans h.size,g.len.trans h.len⟩
theorem Ye(c:CV)(b g:Int)(p:List UInt8):fo c (nA c b g p):=by
 rw[nA];split
 ·
  exact⟨rfl,rfl,by simp[rY]⟩
 exact .gJ c
theorem Yf(c:CV)(b:Int):fo c (nB c b):=by
 rw[nB];split
 ·
  exact⟨rfl,rfl,by simp[vz]⟩
 exact .gJ c
theorem Yg(c:CV)(b:Int):fo c (qQ c b):=by
 rw[qQ];split
 ·
  exact⟨rfl,rfl,by simp⟩
 exact .gJ c
theorem IV{c:CV}(h:bq c=true){o:Int}{f:Bool}(h0:0<=o)(h1:o<=eo){i:Nat}{B:BV}(hB:oT c.ae c.size B=true):bq {c with ops:=o,off:=f,blocks:=c.blocks.set i B}=true:=by
 obtain⟨k1,k2,k3,k4,k5⟩:=eW.1 h;refine eW.2 ⟨by simpa using k1,h0,h1,k4,fun b hb=>?_⟩;rcases aqd hb with hb|rfl
 ·
  exact k5 b hb
 exact hB
theorem O0{c:CV}(h:bq c=true)(b g:Int)(p:List UInt8):bq (nA c b g p)=true:=by
 rw[nA];split
 ·
  rename_i hk;obtain⟨k1,k2,k3,k4⟩:=hk;obtain⟨j1,j2,j3,j4,j5⟩:=qP.1 k1;obtain⟨o1,o2,o3,o4,o5,o6⟩:=gP.1 (xD j1);have:=(eW.1 h).2.1;refine IV h (by omega) (by omega) (gP.2 ⟨by simpa using o1,by simp only;omega,by simp only;omega,o4,o5,fun x hx=>?_⟩);rcases aqd hx with hx|rfl
  ·
   exact o6 x hx
  rw[zA];split
  ·
   simpa[cU]using j4
  exact j4
 exact h
theorem O1{c:CV}(h:bq c=true)(b:Int):bq (nB c b)=true:=by
 rw[nB];split
 ·
  rename_i hk;obtain⟨k1,k2,k3⟩:=hk;obtain⟨j1,j2,j3⟩:=zB.1 k1;obtain⟨o1,o2,o3,o4,o5,o6⟩:=gP.1 (xD j1);have:=(eW.1 h).2.1;have hs:=kQ.1 (eW.1 h).1;have hl:(vw c (aM c b).ae).length=(aM c b).ae.length:=by rw[vw];split<;>simp
  refine IV h (by omega) (by omega) (gP.2 ⟨by rw[hl];exact o1,?_,?_,by simp only;omega,by simp only;omega,fun x hx=>?_⟩)
  ·
   simp only;split<;>omega
  ·
   simp only;split<;>omega
  rw[vw]at hx;split at hx
  ·
   obtain⟨y,hy,rfl⟩:=aqr.1 hx;simpa[cU]using o6 y hy
  obtain⟨y,hy,rfl⟩:=aqr.1 hx;simp only[gX,ap5];omega
 exact h
theorem Yh{c:CV}(h:bq c=true)(b:Int):bq (qQ c b)=true:=by
 rw[qQ];split
 ·
  rename_i hk;have hh:lU c b=true:=by
   rw[rZ]at hk;split at hk
   ·
    assumption
   cases hk
  obtain⟨o1,o2,o3,o4,o5,o6⟩:=gP.1 (xD hh);have k:=eW.1 h;exact IV (o:=c.ops) (f:=c.off) h k.2.1 k.2.2.1 (gP.2 ⟨o1,o2,o3,o4,o5,o6⟩)
 exact h
def gq(c:CV)(b:Int):Int:=if(aM c b).bad=true then 0 else c.ae -(aM c b).used
def mD(c:CV)(b e:Int):CV:=if e=9 then qQ c b else c
def cn(c:CV)(b:Int)(p:List UInt8):Int:=my c b (aM c b).used p
def dr(c:CV)(b:Int)(p:List UInt8):CV:=mD (nA c b (aM c b).used p) b (cn c b p)
def jD(c:CV)(b:Int):CV:=mD (nB c b) b (fk c b)
def jE(c:CV):List UInt8:=(eX ⟨1,0,0,[]⟩ c.size).1
def jF:Nat->CV->Int->CV×Int
 |0,c,b=>(jD c b,fk c b)
 |n+1,c,b=>if cn c b (jE c)≠0 then(dr c b (jE c),cn c b (jE c))else jF n (dr c b (jE c)) b
def eD(c:CV)(b:Int):CV×Int:=jF (gq c b).toNat c b
theorem O2{c:CV}(h:bq c=true)(b e:Int):bq (mD c b e)=true:=by
 rw[mD];split
 ·
  exact Yh h b
 exact h
theorem O3(c:CV)(b e:Int):fo c (mD c b e):=by
 rw[mD];split
 ·
  exact Yg c b
 exact .gJ c
theorem mE{c:CV}(h:bq c=true)(b:Int)(p:List UInt8):bq (dr c b p)=true:=O2 (O0 h _ _ _) _ _
theorem nG(c:CV)(b:Int)(p:List UInt8):fo c (dr c b p):=(Ye _ _ _ _).trans (O3 _ _ _)
theorem IW{c:CV}(h:bq c=true)(b:Int):bq (jD c b)=true:=O2 (O1 h _) _ _
theorem IX(c:CV)(b:Int):fo c (jD c b):=(Yf _ _).trans (O3 _ _ _)
theorem O4: ∀(n:Nat) {c:CV} (b:Int),bq c=true->bq (jF n c b).1=true/\fo c (jF n c b).1
 |0,c,b,h=>⟨IW h b,IX c b⟩
 |n+1,c,b,h=>by
  rw[jF];split
  ·
   exact⟨mE h _ _,nG _ _ _⟩
  have:=O4 n b (mE h b (jE c));exact⟨this.1,(nG _ _ _).trans this.2⟩
theorem Cc{c:CV}(b:Int)(h:bq c=true):bq (eD c b).1=true/\fo c (eD c b).1:=O4 _ b h
theorem zT{c:CV}{b:Int}{p:List UInt8}(h:cn c b p=0):tT c b (aM c b).used p=true/\c.off=false/\(aM c b).bad=false/\(bM c).2=false/\dr c b p=rY c b (aM c b).used p:=by
 have h0:=h;rw[cn,my]at h
 by_cases h1:tT c b (aM c b).used p=true
 ·
  rw[if_pos h1]at h
  by_cases h2:c.off=true
  ·
   rw[if_pos h2]at h;cases h
  rw[if_neg h2]at h
  by_cases h3:(aM c b).bad=true\/(aM c b).used≠(aM c b).used
  ·
   rw[if_pos h3]at h;cases h
  rw[if_neg h3]at h;have uY:(aM c b).bad=false:=by
   cases hb:(aM c b).bad with
   |false=>rfl
   |true=>exact absurd (.inl hb) h3
  by_cases h4:(bM c).2=true
  ·
   rw[if_pos h4,oU]at h;split at h<;>cases h
  refine⟨h1,by simpa using h2,uY,by simpa using h4,?_⟩;rw[dr,mD,h0,if_neg (by decide),nA,if_pos ⟨h1,by simpa using h2,uY,rfl⟩]
 rw[if_neg h1]at h;cases h
theorem IY{c:CV}{b:Int}(h:lU c b=true){o:Int}{f:Bool}{B:BV}:aM {c with ops:=o,off:=f,blocks:=c.blocks.set b.toNat B} b=B:=by
 obtain⟨_,h2,h3⟩:=ny.1 h;simp only[aM,List.getD,apJ (show b.toNat<c.blocks.length by omega),Option.getD_some]
theorem O5{c:CV}{b:Int}{p:List UInt8}(h:cn c b p=0):gq (dr c b p) b=gq c b -1:=by
 obtain⟨h1,h2,h3,h4,h5⟩:=zT h;have hh:=(qP.1 h1).1;rw[h5,gq,gq,rY,IY hh];simp only[h3];simp only[aqp,if_false];omega
theorem Yi{c:CV}{b:Int}(h:0<gq c b):eD c b=if cn c b (jE c)≠0 then(dr c b (jE c),cn c b (jE c))else eD (dr c b (jE c)) b:=by
 obtain⟨n,hn⟩: ∃n,(gq c b).toNat=n+1:=⟨(gq c b).toNat -1,by omega⟩;rw[eD,hn,jF];split
 ·
  rfl
 rename_i h0;have tE:cn c b (jE c)=0:=by simpa using h0
 rw[eD,O5 tE,show(gq c b -1).toNat=n by omega]
theorem Yj{c:CV}{b:Int}(h: ¬0<gq c b):eD c b=(jD c b,fk c b):=by
 rw[eD,show(gq c b).toNat=0 by omega];rfl
theorem EY(c:CV)(b e:Int):(mD c b e).ops=c.ops:=by
 rw[mD];split
 ·
  rw[qQ];split<;>rfl
 rfl
theorem Yk(c:CV)(b g:Int)(p:List UInt8):c.ops<=(nA c b g p).ops:=by
 rw[nA];split
 ·
  simp only[rY];omega
 omega
theorem Ym(c:CV)(b:Int):c.ops<=(nB c b).ops:=by
 rw[nB];split
 ·
  simp only[vz];omega
 omega
theorem vI{c:CV}{b:Int}{p:List UInt8}(hb:(aM c b).bad=false)(he:cn c b p=9\/cn c b p=0):(dr c b p).ops=c.ops+1:=by
 rw[dr,EY,nA];rw[cn,my]at he
 by_cases h1:tT c b (aM c b).used p=true
 ·
  rw[if_pos h1]at he
  by_cases h2:c.off=true
  ·
   rw[if_pos h2]at he;omega
  rw[if_pos ⟨h1,by simpa using h2,hb,rfl⟩];rfl
 rw[if_neg h1]at he;omega
theorem Yn{c:CV}{b:Int}(hb:(aM c b).bad=false)(he:fk c b=9\/fk c b=0):(jD c b).ops=c.ops+1:=by
 rw[jD,EY,nB];rw[fk]at he
 by_cases h1:tU c b=true
 ·
  rw[if_pos h1]at he
  by_cases h2:c.off=true
  ·
   rw[if_pos h2]at he;omega
  rw[if_pos ⟨h1,by simpa using h2,hb⟩];rfl
 rw[if_neg h1]at he;omega
theorem Yo{c:CV}{b:Int}{p:List UInt8}(h:cn c b p=0):(aM (dr c b p) b).bad=false:=by
 obtain⟨h1,h2,h3,h4,h5⟩:=zT h;rw[h5,rY,IY (qP.1 h1).1];exact h3
theorem xL(c:CV)(b:Int)(p:List UInt8):c.ops<=(dr c b p).ops:=by rw[dr,EY];exact Yk _ _ _ _
theorem O6(c:CV)(b:Int):c.ops<=(jD c b).ops:=by rw[jD,EY];exact Ym _ _
theorem zU: ∀(n:Nat) (c:CV) (b:Int),c.ops<=(jF n c b).1.ops
 |0,c,b=>O6 c b
 |n+1,c,b=>by
  rw[jF];split
  ·
   exact xL _ _ _
  have:=zU n (dr c b (jE c)) b;have:=xL c b (jE c);omega
theorem O7: ∀(n:Nat) {c:CV} {b:Int},(aM c b).bad=false->(jF n c b).2=9\/(jF n c b).2=0->c.ops<(jF n c b).1.ops
 |0,c,b,hb,he=>by have:=Yn hb he;simp only[jF];omega
 |n+1,c,b,hb,he=>by
  rw[jF]at he⊢
  by_cases h0:cn c b (jE c)≠0
  ·
   rw[if_pos h0]at he⊢;have:=vI hb (p:=jE c) (he.imp id fun h=>h);simp only;omega
  rw[if_neg h0]at he⊢;have tE:cn c b (jE c)=0:=by simpa using h0
  have:=O7 n (Yo tE) he;have:=xL c b (jE c);omega
theorem EZ{c:CV}{b:Int}(hb:(aM c b).bad=false)(he:(eD c b).2=9\/(eD c b).2=0):c.ops<(eD c b).1.ops:=O7 _ hb he
def bT:aJ:=⟨0,0,0,true⟩
def oX(x:aJ):aJ:=if x.bad=true then bT else x
def aS(c:CV)(fl:List Int):List aJ:=(iG c fl).map oX
def lW(R:aJ->Bool)(x:aJ):aJ:=if x.bad=true\/R x=false then bT else x
def cA(R:aJ->Bool)(l:List aJ):List aJ:=l.map (lW R)
theorem qS(c:CV)(fl:List Int):(aS c fl).length=c.blocks.length -2:=by rw[aS,apQ,iG,zP]
theorem E3(R:aJ->Bool)(l:List aJ):(cA R l).length=l.length:=by simp[cA]
structure WV where
 v:VV
 beyond:Bool
 deriving DecidableEq
def WV.on(x:WV)(c:CV):WV:={x with v:={x.v with ak:=c}}
theorem sj{c:Cp}{b:Int}{B:Bk}(h:c.blocks.xs[b.toNat]? =some B):aM (cv c) b=bv B:=by
 rw[←xG];simp[List.getD,h]
def mF(c:CV):Nat:=(c.blocks.filter fun b=>b.bad).length
def tZ(p:List UInt8):Nat:=if(fm p).2=0 then(fm p).1.gen else 0
def sk(l:List (List UInt8)):Nat:=l.foldl (fun m p=>max m (tZ p)) 0
def ou(c:CV)(b:Int):Nat:=sk (aM c b).ae
theorem Yp{l:List (List UInt8)}{i:Nat}{p:List UInt8}(h:l[i]? =some p):sk (l.take (i+1))=max (sk (l.take i)) (tZ p):=by
 rw[sk,aps,h];simp[sk]
theorem O8(b:List UInt8):(dm b).1.gen<281474976710656:=by
 have:=IE b;rw[dm];split
 ·
  simp[jV]
 split
 ·
  simp[jV]
 split
 ·
  simp[jV]
 split
 ·
  simp[jV]
 split
 ·
  simp[jV]
 exact this
theorem O9(p:List UInt8):tZ p<281474976710656:=by
 rw[tZ];split
 ·
  rw[fm];split
  ·
   simp[gH]
  split
  ·
   simp[gH]
  split
  ·
   simp[gH]
  exact O8 p
 omega
theorem IZ(l:List (List UInt8)):sk l<281474976710656:=by
 have: ∀(l:List (List UInt8)) (m:Nat),m<281474976710656->l.foldl (fun m p=>max m (tZ p)) m<281474976710656:=by
  intro l
  induction l with
  |nil=>intro m h;exact h
  |cons p r ih=>
   intro m h;have:=O9 p;exact ih _ (Nat.max_lt.2 ⟨h,this⟩)
 exact this l 0 (by omega)
def Cd(c:CV)(b:Int):Bool:= !(aM c b).bad&&(decide (0<(aM c b).used)||(decide (b<2)&&decide (0<ou c b)))
def fT(c:CV)(b:Int):Nat:=max 1 (ou c (1 -b)+(1 -b).toNat)
def xM(c:CV)(last:Int):Int:=if(aM c (1 -last)).bad=true then gq c last else if(aM c last).bad=true/\0<gq c (1 -last)then gq c (1 -last)else c.ae
def Ce(g:Nat):Bool:=decide (281474976710656<=g+2)
def lX(e:Int):Int:=if e=9 then 0 else e
theorem Pa{f:aJ->aJ}{l:List aJ}{i:Nat}{x:aJ}(h:l[i]? =some x):((l.take i).map f++l.drop i).set i (f x)=(l.take (i+1)).map f++l.drop (i+1):=by
 have hi:=(ad2.1 h).1;have hl:((l.take i).map f).length=i:=by rw[apQ,apk];omega
 rw[aq0 _ _ (by omega),hl,aqM,drop_at h,aq1,aps,h];simp
theorem Pb{f:aJ->aJ}{l:List aJ}{i:Nat}{x:aJ}(h:l[i]? =some x)(hf:f x=x):(l.take i).map f++l.drop i=(l.take (i+1)).map f++l.drop (i+1):=by
 rw[drop_at h,aps,h];simp[hf]
theorem Pc{f:aJ->aJ}{l:List aJ}{i:Nat}{x:aJ}(h:l[i]? =some x):((l.take i).map f++l.drop i)[i]? =some x:=by
 have hi:=(ad2.1 h).1;have hl:((l.take i).map f).length=i:=by rw[apQ,apk];omega
 rw[apx (by omega),hl,aqM,apU,aqk,h]
theorem Yq{l:List BV}{i:Nat}{x:BV}(h:l[i]? =some x):((l.take (i+1)).filter fun b=>b.bad).length=((l.take i).filter fun b=>b.bad).length+(if x.bad=true then 1 else 0):=by
 rw[aps,h,apN,af0];congr 1;simp only[arU,apS,arQ];split<;>simp_all
def gZ(c:CV)(l:List Int):Prop:= ∀n∈l,n=0\/(1<=n/\2<=(n -1)/c.ae/\(n -1)/c.ae<(c.blocks.length:Int))
theorem gZ.jW{c d:CV}{l:List Int}(h:gZ c l)(g:fo c d):gZ d l:=fun n hn=>by
  rcases h n hn with h|h
  ·exact .inl h
  ·exact .inr (by rw[g.ae,g.len];exact h)
theorem gZ.append{c:CV}{a b:List Int}(h:gZ c a)(g:gZ c b):gZ c (a++b):=fun n hn=>(apv.1 hn).elim (h n) (g n)
theorem ln{c:CV}(h:bq c=true):1<=(c.blocks.length:Int)/\(c.blocks.length:Int)<=32/\1<=c.ae/\c.ae<=16/\1<=c.size/\c.size<=256:=kQ.1 (eW.1 h).1
theorem Pd{n p b:Int}(hp:1<=p)(fU:p<=16)(hb:b<=32)(h:(n -1)/p<b):n<=512:=by
  have h1:n -1=p*((n -1)/p)+(n -1)%p:=(Int.mul_ediv_add_emod (n -1) p).symm;have h2:=Int.emod_lt_of_pos (n -1) (show 0<p by omega);have h3:(n -1)/p<=31:=by omega
  have h4:p*((n -1)/p)<=p*31:=Int.mul_le_mul_of_nonneg_left h3 (by omega);omega
theorem gZ.kn{c:CV}{l:List Int}(h:gZ c l)(hk:bq c=true)(h2:2<=c.blocks.length)(hl:l.length<=1000000):vG c l:=
  ⟨⟨hk,hl⟩,h2,fun n hn=>by
    rcases h n hn with h|h
    ·exact .inl h
    ·have hd:=ln hk
     have:=Pd (n:=n) hd.2.2.1 hd.2.2.2.1 hd.2.1 h.2.2;exact .inr ⟨h.1,by omega,h.2.1,h.2.2⟩⟩
theorem Pe{c:CV}{fl:List Int}{i:Nat}(hi:i<c.blocks.length -2):(aS c fl)[i]? =some (oX (vF (aM c ((i:Int)+2)) (sf c.ae fl fl.length i))):=by
  rw[aS,iG,jC,apG,apG,ark hi];rfl
theorem E4{c:CV}{fl:List Int}{i:Nat}{x:aJ}(h:(aS c fl)[i]? =some x):x.bad=(aM c ((i:Int)+2)).bad:=by
  have hi:=(ad2.1 h).1;rw[qS]at hi;rw[Pe hi]at h;obtain rfl:=api h;rw[oX];split
  ·rename_i hb;exact hb.symm
  ·rfl
theorem Cf{c:CV}(hk:bq c=true){b:Int}(h0:0<=b)(h1:b<c.blocks.length):oT c.ae c.size (aM c b)=true:=xD (ny.2 ⟨hk,h0,h1⟩)
structure zV(c:CV)(n:Nat)(x:aJ):Prop where
  Yr:0<=x.live
  Ys:x.live<=n
  E5:0<=x.used
  E6:x.used<=c.ae
  Yt:0<=x.bB
  Yu:x.bB<=eo
theorem E7{c:CV}{fl:List Int}(hk:bq c=true){x:aJ}(h:x∈aS c fl):zV c fl.length x:=by
  obtain⟨i,hi⟩:=aqj h;have dF:=(ad2.1 hi).1;rw[qS]at dF;rw[Pe dF]at hi;obtain rfl:=api hi;have hd:=ln hk;have vJ:eo=1099511627776:=rfl;rw[oX];split
  ·exact⟨by simp[bT],by simp[bT],by simp[bT],by simp only[bT];omega,by simp[bT],by simp only[bT];omega⟩
  ·have ho:=gP.1 (Cf hk (b:=(i:Int)+2) (by omega) (by omega))
   have:=OW c.ae fl fl.length i;exact⟨by simp only[vF];omega,by simp only[vF];omega,ho.2.1,ho.2.2.1,ho.2.2.2.1,ho.2.2.2.2.1⟩
theorem zV.bad(c:CV)(hk:bq c=true)(n:Nat):zV c n bT:=by
  have hd:=ln hk;have vJ:eo=1099511627776:=rfl;exact⟨by simp[bT],by simp[bT],by simp[bT],by simp only[bT];omega,by simp[bT],by simp only[bT];omega⟩
theorem Pf{R:aJ->Bool}{l:List aJ}{i:Nat}{x:aJ}(h:(cA R l)[i]? =some x): ∃y,l[i]? =some y/\x=lW R y:=by
  rw[cA,apG,aqf]at h;obtain⟨y,hy,rfl⟩:=h;exact⟨y,hy,rfl⟩
theorem Yv{R:aJ->Bool}{y:aJ}(h:(lW R y).bad=false):lW R y=y/\y.bad=false/\R y=true:=by
  unfold lW at h⊢;split at h
  ·cases h
  ·rename_i hn
   rw[if_neg hn];refine⟨rfl,h,?_⟩
   cases hR:R y with
   |true=>rfl
   |false=>exact absurd (.inr hR) hn
theorem Cg{p:Int}{x:aJ}(h:sg p x=true):x.bad=false/\x.used<p:=by
  simpa[sg]using h
theorem xN{x:aJ}(h:sh x=true):x.bad=false/\x.live=0/\0<x.used:=by
  simpa[sh,and_assoc]using h
theorem E8{R:aJ→Bool}{l:List aJ}{p:Int}{dG:aJ→Bool}{os:List (aJ→aJ→Int)}(hr: ∀x,dG x=true→x.bad=false)(h:(fS (cA R l) p dG os).2=true):
    ∃x,l[(fS (cA R l) p dG os).1.toNat]? =some x/\x.bad=false/\R x=true/\dG x=true/\0<=(fS (cA R l) p dG os).1/\(fS (cA R l) p dG os).1<l.length:=by
  obtain⟨h1,h2,h3,h4⟩:=EX h;rw[E3]at h3;have hi:(cA R l)[(fS (cA R l) p dG os).1.toNat]? =some ((cA R l).getD (fS (cA R l) p dG os).1.toNat ik):=kL (by rw[E3];omega);obtain⟨y,hy,he⟩:=Pf hi;rw[he]at h4;obtain⟨k1,k2,k3⟩:=Yv (hr _ h4);rw[k1]at h4;exact⟨y,hy,k2,k3,h4,h2,h3⟩
def xO(x:aJ):Bool:=decide (0<x.live)
def jX(x:aJ):Bool:=decide (x.live=0)
def p6(l:List aJ):Nat:=(l.filter fun x=> !x.bad&&decide (x.live=0)).length
def oY(c:CV)(fl:List Int):Int×Bool:=fZ (cA xO (aS c fl)) c.ae
def nH(c:CV)(fl:List Int):Int×Bool:=fZ (cA jX (aS c fl)) c.ae
def oZ(c:CV)(fl:List Int):Int:=(gI (cA jX (aS c fl)) c.ae).1
def bG(c:CV)(fl:List Int)(br:Bool):CV×Int×Int:=
  if(oY c fl).2=true then(c,(oY c fl).1+2,0)
  else if p6 (aS c fl)=0\/(p6 (aS c fl)=1/\br=false)then(c,0,5)
  else if(nH c fl).2=true then(c,(nH c fl).1+2,0)
  else((eD c (oZ c fl+2)).1,oZ c fl+2,(eD c (oZ c fl+2)).2)
theorem Yw{l:List aJ}{i:Nat}{x:aJ}(h:l[i]? =some x):((l.take (i+1)).filter fun z=> !z.bad&&decide (z.live=0)).length=((l.take i).filter fun z=> !z.bad&&decide (z.live=0)).length+(if x.bad=false/\x.live=0 then 1 else 0):=by
  rw[aps,h,apN,af0];congr 1;simp only[arU,apS,arQ];split<;>simp_all
theorem Yx(l:List aJ):(l.filter fun z=> !z.bad&&decide (z.live=0)).length<=l.length:=ard _ _
theorem Pg{c:CV}{fl:List Int}(hk:bq c=true)(h2:3<=c.blocks.length)(hi:p6 (aS c fl)≠0)(hb: ¬(nH c fl).2=true):0<=oZ c fl/\oZ c fl<(c.blocks.length:Int) -2/\(aM c (oZ c fl+2)).bad=false:=by
  have hd:=ln hk;have eO:=qS c fl;have hw:oW (cA jX (aS c fl)) c.ae=true:=Cb.2 ⟨by rw[E3];omega,by rw[E3];omega,by omega,by omega,fun x hx=>by
    obtain⟨i,hi⟩:=aqj hx;obtain⟨y,hy,rfl⟩:=Pf hi;have t:=E7 hk (alM hy);have vJ:eo=1099511627776:=rfl;unfold lW;split
    ·exact zR.2 (by simp only[bT];omega)
    ·rename_i hn
     have hl:y.live=0:=by
        cases hR:jX y with
        |true=>simpa[jX]using hR
        |false=>exact absurd (.inr hR) hn
     exact zR.2 ⟨by omega,by have:=t.E5;omega,t.E6,t.Yt,t.Yu⟩⟩
  have sq:(nH c fl).2=false:=by simpa using hb
  have Yy:=OY hw (show(fS _ _ _ _).2=false from sq);have I0:0<((aS c fl).filter fun x=> !x.bad&&decide (x.live=0)).length:=by rw[p6]at hi;omega
  obtain⟨x,hx⟩:=List.exists_mem_of_length_pos I0;obtain⟨p8,jh⟩:=apD.1 hx;simp only[anc,aqP,decide_eq_true_eq]at jh;have zW:lW jX x=x:=by
    unfold lW;rw[if_neg];rintro(g|g)
    ·rw[jh.1]at g;cases g
    ·rw[show jX x=true by simp[jX,jh.2]]at g;cases g
  have Ph:x∈cA jX (aS c fl):=by
    rw[←zW];exact aqb p8
  have Pj:=Yy x Ph;have t:=E7 hk p8;have Yz:sh x=true:=by
    have: ¬x.used<c.ae:=fun h=>by
      rw[sg,jh.1,decide_eq_true h]at Pj;cases Pj
    simp only[sh,jh.1,Bool.not_false,aqw,anc,decide_eq_true_eq];omega
  have hf:(gI (cA jX (aS c fl)) c.ae).2=true:=by
    cases hq:(gI (cA jX (aS c fl)) c.ae).2 with
    |true=>rfl
    |false=>have:=OY hw hq x Ph;rw[Yz]at this;cases this
  obtain⟨y,hy,k1,_,_,k4,k5⟩:=E8 (fun x h=>(xN h).1) hf;have ji:=E4 hy;change 0<=oZ c fl at k4;change oZ c fl<_ at k5;refine⟨k4,by omega,?_⟩;rw[←k1,ji];congr 2;change _=((oZ c fl).toNat:Int)+2;omega
theorem Pk{c:CV}{fl:List Int}(h:(oY c fl).2=true):0<=(oY c fl).1/\(oY c fl).1<((c.blocks.length -2:Nat):Int)/\(aM c ((oY c fl).1+2)).bad=false:=by
  obtain⟨y,hy,k1,_,_,k4,k5⟩:=E8 (fun x h=>(Cg h).1) h;have ji:=E4 hy;rw[qS]at k5;refine⟨k4,k5,?_⟩;rw[←k1,ji];congr 2;change _=((oY c fl).1.toNat:Int)+2;change 0<=(oY c fl).1 at k4;omega
theorem Pm{c:CV}{fl:List Int}(h:(nH c fl).2=true):0<=(nH c fl).1/\(nH c fl).1<((c.blocks.length -2:Nat):Int)/\(aM c ((nH c fl).1+2)).bad=false:=by
  obtain⟨y,hy,k1,_,_,k4,k5⟩:=E8 (fun x h=>(Cg h).1) h;have ji:=E4 hy;rw[qS]at k5;refine⟨k4,k5,?_⟩;rw[←k1,ji];congr 2;change _=((nH c fl).1.toNat:Int)+2;change 0<=(nH c fl).1 at k4;omega
theorem YA{c:CV}{b:Int}(h:fk c b=0):tU c b=true/\c.off=false/\(aM c b).bad=false/\(bM c).2=false/\jD c b=vz c b:=by
  have h0:=h;rw[fk]at h
  by_cases h1:tU c b=true
  ·rw[if_pos h1]at h
   by_cases h2:c.off=true
   ·rw[if_pos h2]at h;cases h
   ·rw[if_neg h2]at h
    by_cases h3:(aM c b).bad=true
    ·rw[if_pos h3]at h;cases h
    ·rw[if_neg h3]at h
     by_cases h4:(bM c).2=true
     ·rw[if_pos h4,oU]at h
      split at h<;>cases h
     ·refine⟨h1,by simpa using h2,by simpa using h3,by simpa using h4,?_⟩
      rw[jD,mD,h0,if_neg (by decide),nB,if_pos ⟨h1,by simpa using h2,by simpa using h3⟩]
  ·rw[if_neg h1]at h;cases h
theorem Pn{c:CV}{b:Int}(h:fk c b=0):(aM (jD c b) b).bad=false:=by
  obtain⟨h1,h2,h3,h4,h5⟩:=YA h;rw[h5,vz,IY (zB.1 h1).1];exact h3
theorem E9: ∀(n:Nat) {c:CV} {b:Int},(jF n c b).2=0->(aM (jF n c b).1 b).bad=false
  |0,c,b,h=>Pn h
  |n+1,c,b,h=>by
   rw[jF]at h⊢
   by_cases h0:cn c b (jE c)≠0
   ·rw[if_pos h0]at h;exact absurd h h0
   ·rw[if_neg h0]at h⊢;exact E9 n h
theorem Po{c:CV}{fl:List Int}{br:Bool}(hk:bq c=true)(h2:3≤c.blocks.length):bq (bG c fl br).1=true∧fo c (bG c fl br).1∧c.ops≤(bG c fl br).1.ops∧
    ((bG c fl br).2.2=0->2<=(bG c fl br).2.1/\(bG c fl br).2.1<c.blocks.length/\(aM (bG c fl br).1 (bG c fl br).2.1).bad=false)/\((bG c fl br).2.2=9->c.ops<(bG c fl br).1.ops):=by
  rw[bG]
  by_cases h1:(oY c fl).2=true
  ·rw[if_pos h1]
   have:=Pk h1;exact⟨hk, .gJ c,aqD _,fun _=>⟨by simp only;omega,by simp only;omega,this.2.2⟩,fun h=>absurd (show(0:Int)=9 from h) (by decide)⟩
  ·rw[if_neg h1]
   by_cases h3:p6 (aS c fl)=0\/(p6 (aS c fl)=1/\br=false)
   ·rw[if_pos h3]
    exact⟨hk, .gJ c,aqD _,fun h=>absurd (show(5:Int)=0 from h) (by decide),fun h=>absurd (show(5:Int)=9 from h) (by decide)⟩
   ·rw[if_neg h3]
    by_cases h4:(nH c fl).2=true
    ·rw[if_pos h4]
     have:=Pm h4;exact⟨hk, .gJ c,aqD _,fun _=>⟨by simp only;omega,by simp only;omega,this.2.2⟩,fun h=>absurd (show(0:Int)=9 from h) (by decide)⟩
    ·rw[if_neg h4]
     obtain⟨d1,d2,d3⟩:=Pg hk h2 (fun e=>h3 (.inl e)) h4;have hc:=Cc (oZ c fl+2) hk;exact⟨hc.1,hc.2,zU _ _ _,fun h=>⟨by simp only;omega,by simp only;omega,E9 _ h⟩,fun h=>EZ d3 (.inl h)⟩
def kT:Nat->CV->List Int->Bool->List UInt8->CV×Int×Int
  |0,c,_,_,_=>(c,0,0)
  |n+1,c,fl,br,b=>
   if(bG c fl br).2.2=0 then
      (if cn (bG c fl br).1 (bG c fl br).2.1 b=0 then(dr (bG c fl br).1 (bG c fl br).2.1 b,(bG c fl br).2.1*c.ae+(aM (bG c fl br).1 (bG c fl br).2.1).used+1,0)
       else if cn (bG c fl br).1 (bG c fl br).2.1 b≠9 then(dr (bG c fl br).1 (bG c fl br).2.1 b,0,cn (bG c fl br).1 (bG c fl br).2.1 b)
       else kT n (dr (bG c fl br).1 (bG c fl br).2.1 b) fl br b)
   else if(bG c fl br).2.2≠9 then((bG c fl br).1,0,(bG c fl br).2.2)
   else kT n (bG c fl br).1 fl br b
def dQ(c:CV)(fl:List Int)(br:Bool)(p:PV):CV×Int×Int:=
  if(eX p c.size).2≠0 then(c,0,(eX p c.size).2)else kT ((eo -c.ops).toNat+1) c fl br (eX p c.size).1
theorem vK{c:CV}(h:bq c=true):c.ops<=eo:=(eW.1 h).2.2.1
theorem I1: ∀(n:Nat) {c:CV} {fl:List Int} {br:Bool} {b:List UInt8},bq c=true→3≤c.blocks.length→(eo -c.ops).toNat<n→
    bq (kT n c fl br b).1=true/\fo c (kT n c fl br b).1/\c.ops<=(kT n c fl br b).1.ops/\((kT n c fl br b).2.2=0->1<=(kT n c fl br b).2.1/\2<=((kT n c fl br b).2.1 -1)/c.ae/\((kT n c fl br b).2.1 -1)/c.ae<c.blocks.length)
  |0,c,fl,br,b,_,_,hn=>by omega
  |n+1,c,fl,br,b,hk,h2,hn=>by
   obtain⟨f1,f2,f3,f4,f5⟩:=Po (fl:=fl) (br:=br) hk h2;have hd:=ln hk;rw[kT]
   by_cases h0:(bG c fl br).2.2=0
   ·rw[if_pos h0]
    obtain⟨g1,g2,g3⟩:=f4 h0
    by_cases h1:cn (bG c fl br).1 (bG c fl br).2.1 b=0
    ·rw[if_pos h1]
     have hl:=f2.trans (nG (bG c fl br).1 (bG c fl br).2.1 b);have hp:=qP.1 (zT h1).1;rw[f2.ae]at hp;have hu:0<=(aM (bG c fl br).1 (bG c fl br).2.1).used:=hp.2.1;have zX:=hp.2.2.1
     have hq:((bG c fl br).2.1*c.ae+(aM (bG c fl br).1 (bG c fl br).2.1).used+1 -1)/c.ae=(bG c fl br).2.1:=by
          rw[Int.add_sub_cancel,Int.add_comm,Int.add_mul_ediv_right _ _ (by omega),Int.ediv_eq_zero_of_lt hu zX,Int.zero_add]
     refine⟨mE f1 _ _,hl,?_,fun _=>⟨?_,by simp only;rw[hq];exact g1,by simp only;rw[hq];exact g2⟩⟩
     ·have:=xL (bG c fl br).1 (bG c fl br).2.1 b;simp only;omega
     ·have:0<=(bG c fl br).2.1*c.ae:=ar3 (by omega) (by omega)
      simp only;omega
    ·rw[if_neg h1]
     by_cases h9:cn (bG c fl br).1 (bG c fl br).2.1 b≠9
     ·rw[if_pos h9]
      exact⟨mE f1 _ _,f2.trans (nG _ _ _),by have:=xL (bG c fl br).1 (bG c fl br).2.1 b;simp only;omega,fun h=>absurd h h1⟩
     ·rw[if_neg h9]
      have ho:=vI g3 (p:=b) (.inl (by simpa using h9));have bI:=mE f1 (bG c fl br).2.1 b;have hl:=f2.trans (nG (bG c fl br).1 (bG c fl br).2.1 b);have hle:=vK bI;have:=I1 n (fl:=fl) (br:=br) (b:=b) bI (by rw[hl.len];exact h2) (by omega);refine⟨this.1,hl.trans this.2.1,by omega,fun h=>?_⟩;have g:=this.2.2.2 h;rw[hl.ae,hl.len]at g;exact g
   ·rw[if_neg h0]
    by_cases h9:(bG c fl br).2.2≠9
    ·rw[if_pos h9]
     exact⟨f1,f2,f3,fun h=>absurd h h0⟩
    ·rw[if_neg h9]
     have ho:=f5 (by simpa using h9);have hle:=vK f1;have:=I1 n (fl:=fl) (br:=br) (b:=b) f1 (by rw[f2.len];exact h2) (by omega);refine⟨this.1,f2.trans this.2.1,by omega,fun h=>?_⟩;have g:=this.2.2.2 h;rw[f2.ae,f2.len]at g;exact g
theorem Pp{c:CV}{fl:List Int}{br:Bool}{p:PV}(hk:bq c=true)(h2:3≤c.blocks.length):
    bq (dQ c fl br p).1=true/\fo c (dQ c fl br p).1/\c.ops<=(dQ c fl br p).1.ops/\((dQ c fl br p).2.2=0->1<=(dQ c fl br p).2.1/\2<=((dQ c fl br p).2.1 -1)/c.ae/\((dQ c fl br p).2.1 -1)/c.ae<c.blocks.length):=by
  rw[dQ];split
  ·rename_i h;exact⟨hk, .gJ c,aqD _,fun h'=>absurd h' h⟩
  ·exact I1 _ hk h2 (by omega)
def qT(p:Int)(x:aJ):Int:=if x.live=0/\p -x.used=0 then p else p -x.used
def xP(p:Int)(s:Int×Int)(x:aJ):Int×Int:=if x.bad=true then s else(s.1+qT p x,if x.live=0 then max s.2 (qT p x)else s.2)
def fq(p:Int)(l:List aJ):Int×Int:=l.foldl (xP p) (0,0)
def o8(c:CV)(fl:List Int):Int×Int:=((fq c.ae (aS c fl)).1 -(fq c.ae (aS c fl)).2,(fq c.ae (aS c fl)).1)
theorem Pq{p:Int}{l:List aJ}{i:Nat}{x:aJ}(h:l[i]? =some x):fq p (l.take (i+1))=xP p (fq p (l.take i)) x:=by
  rw[fq,aps,h];simp[fq]
theorem YB{c:CV}{n:Nat}{x:aJ}(h:zV c n x)(hk:bq c=true):0<=qT c.ae x/\qT c.ae x<=c.ae:=by
  have hd:=ln hk;have:=h.E5;have:=h.E6;rw[qT];split<;>omega
theorem Pr{c:CV}{n:Nat}(hk:bq c=true)(l:List aJ)(h: ∀x∈l,zV c n x): ∀i,i<=l.length->0<=(fq c.ae (l.take i)).1/\(fq c.ae (l.take i)).1<=16*(i:Int)/\0<=(fq c.ae (l.take i)).2/\(fq c.ae (l.take i)).2<=16
  |0,_=>by simp[fq]
  |i+1,hi=>by
   obtain⟨x,hx⟩:=get_some (xs:=l) (i:=i) (by omega);have ih:=Pr hk l h i (by omega);have hr:=YB (h x (alM hx)) hk;have hd:=ln hk;rw[Pq hx,xP];split
   ·omega
   ·refine⟨by simp only;omega,by simp only;omega,?_,?_⟩
    ·simp only;split<;>omega
    ·simp only;split<;>omega
structure dx(x:WV):Prop where
 ak:bq x.v.ak=true
 len:4<=(x.v.ak.blocks.length:Int)
 ae:2<=x.v.ak.ae
 size:24<=x.v.ak.size
 last:x.v.last=0\/x.v.last=1
 gen:x.v.gen<281474976710656
 ua:gZ x.v.ak x.v.at_
 ub:x.v.at_.length<=64
theorem dx.on{x:WV}(h:dx x){c:CV}(hk:bq c=true)(hl:fo x.v.ak c):dx (x.on c):=
 ⟨hk,by simp only[WV.on];rw[hl.len];exact h.len,by simp only[WV.on];rw[hl.ae];exact h.ae,by simp only[WV.on];rw[hl.size];exact h.size,h.last,h.gen,h.ua.jW hl,h.ub⟩
theorem dx.uc{x:WV}(h:dx x):4<=x.v.ak.blocks.length:=by have:=h.len;omega
def bL(c:CV)(last:Int):CV×Int×Int:=
 if 0<gq c last then(c,last,0)
 else if 0<gq c (1 -last)then(c,1 -last,0)
 else if(aM c (1 -last)).bad=true then(c,0,9)
 else(jD c (1 -last),1 -last,fk c (1 -last))
theorem Ps{c:CV}{b:Int}(h:0<gq c b):(aM c b).bad=false:=by
 rw[gq]at h;split at h
 ·
  omega
 rename_i hn;simpa using hn
theorem Pt{c:CV}{last:Int}(hk:bq c=true)(hl:last=0\/last=1):bq (bL c last).1=true/\fo c (bL c last).1/\c.ops<=(bL c last).1.ops/\
  ((bL c last).2.2=0->((bL c last).2.1=0\/(bL c last).2.1=1)/\(aM (bL c last).1 (bL c last).2.1).bad=false):=by
 rw[bL]
 by_cases h1:0<gq c last
 ·
  rw[if_pos h1];exact⟨hk, .gJ c,aqD _,fun _=>⟨hl,Ps h1⟩⟩
 ·
  rw[if_neg h1]
  by_cases h2:0<gq c (1 -last)
  ·
   rw[if_pos h2];exact⟨hk, .gJ c,aqD _,fun _=>⟨by simp only;omega,Ps h2⟩⟩
  ·
   rw[if_neg h2]
   by_cases h3:(aM c (1 -last)).bad=true
   ·
    rw[if_pos h3];exact⟨hk, .gJ c,aqD _,fun h=>absurd (show(9:Int)=0 from h) (by decide)⟩
   ·
    rw[if_neg h3];exact⟨IW hk _,IX _ _,O6 _ _,fun h=>⟨by simp only;omega,Pn h⟩⟩
def pa:Nat->WV->List Int->List UInt8->WV×Int
 |0,x,_,_=>(x,0)
 |n+1,x,a,b=>
  if(bL x.v.ak x.v.last).2.2≠0 then(x.on (bL x.v.ak x.v.last).1,(bL x.v.ak x.v.last).2.2)
  else if cn (bL x.v.ak x.v.last).1 (bL x.v.ak x.v.last).2.1 b=0 then
   (⟨⟨dr (bL x.v.ak x.v.last).1 (bL x.v.ak x.v.last).2.1 b,a,x.v.gen+1,if ou (dr (bL x.v.ak x.v.last).1 (bL x.v.ak x.v.last).2.1 b) 1=x.v.gen+1 then 1 else(bL x.v.ak x.v.last).2.1⟩,x.beyond⟩,0)
  else if cn (bL x.v.ak x.v.last).1 (bL x.v.ak x.v.last).2.1 b≠9 then
   (x.on (dr (bL x.v.ak x.v.last).1 (bL x.v.ak x.v.last).2.1 b),cn (bL x.v.ak x.v.last).1 (bL x.v.ak x.v.last).2.1 b)
  else pa n (x.on (dr (bL x.v.ak x.v.last).1 (bL x.v.ak x.v.last).2.1 b)) a b
def iP(x:WV)(a:List Int):WV×Int:=
 if(dB ⟨x.v.gen+1,a⟩ x.v.ak.size).2≠0 then(x,(dB ⟨x.v.gen+1,a⟩ x.v.ak.size).2)
 else pa ((eo -x.v.ak.ops).toNat+1) x a (dB ⟨x.v.gen+1,a⟩ x.v.ak.size).1
structure iH(x y:WV):Prop where
 ok:dx y
 jW:fo x.v.ak y.v.ak
 ops:x.v.ak.ops<=y.v.ak.ops
 zY:y.v.at_.length=x.v.at_.length
theorem iH.gJ{x:WV}(h:dx x):iH x x:=⟨h, .gJ _,aqD _,rfl⟩
theorem iH.trans{x y z:WV}(h:iH x y)(g:iH y z):iH x z:=⟨g.ok,h.jW.trans g.jW,Int.le_trans h.ops g.ops,g.zY.trans h.zY⟩
theorem iH.on{x:WV}(h:dx x){c:CV}(hk:bq c=true)(hl:fo x.v.ak c)(ho:x.v.ak.ops<=c.ops):iH x (x.on c):=⟨h.on hk hl,hl,ho,rfl⟩
theorem YC{r:RV}{n:Int}(h:(dB r n).2=0):r.gen<281474976710656/\(r.at_.length:Int)<=lV n:=by
 rw[dB]at h;split at h
 ·
  rename_i hm;have:=B6.1 hm;exact⟨this.2.1,this.2.2.1⟩
 cases h
theorem YD(n:Int):lV n<=64:=by rw[lV];omega
theorem Pu: ∀(n:Nat) {x:WV} {a:List Int} {b:List UInt8},dx x->gZ x.v.ak a->a.length=x.v.at_.length->x.v.gen+1<281474976710656->(eo -x.v.ak.ops).toNat<n->iH x (pa n x a b).1/\((pa n x a b).2=0->x.v.ak.ops<(pa n x a b).1.v.ak.ops)
 |0,x,a,b,_,_,_,_,hn=>by omega
 |n+1,x,a,b,hx,ha,jw,hg,hn=>by
  obtain⟨r1,r2,r3,r4⟩:=Pt (c:=x.v.ak) (last:=x.v.last) hx.ak hx.last;rw[pa]
  by_cases h0:(bL x.v.ak x.v.last).2.2≠0
  ·
   rw[if_pos h0];exact⟨.on hx r1 r2 r3,fun h=>absurd h h0⟩
  rw[if_neg h0];obtain⟨r5,r6⟩:=r4 (by simpa using h0);have ku:=mE r1 (bL x.v.ak x.v.last).2.1 b;have gM:=r2.trans (nG (bL x.v.ak x.v.last).1 (bL x.v.ak x.v.last).2.1 b);have lp:=xL (bL x.v.ak x.v.last).1 (bL x.v.ak x.v.last).2.1 b
  by_cases h1:cn (bL x.v.ak x.v.last).1 (bL x.v.ak x.v.last).2.1 b=0
  ·
   rw[if_pos h1];have ho:=vI r6 (p:=b) (.inr h1);have kE:=hx.on ku gM;refine⟨⟨⟨ku,kE.len,kE.ae,kE.size,?_,hg,ha.jW gM,by simp only;rw[jw];exact hx.ub⟩,gM,by simp only;omega,jw⟩,fun _=>by simp only;omega⟩;simp only;split
   ·
    exact .inr rfl
   exact r5
  rw[if_neg h1]
  by_cases h9:cn (bL x.v.ak x.v.last).1 (bL x.v.ak x.v.last).2.1 b≠9
  ·
   rw[if_pos h9];exact⟨.on hx ku gM (by omega),fun h=>absurd h h1⟩
  rw[if_neg h9];have ho:=vI r6 (p:=b) (.inl (by simpa using h9));have hle:=vK ku;have kE:=hx.on ku gM;have:=Pu n (x:=x.on (dr (bL x.v.ak x.v.last).1 (bL x.v.ak x.v.last).2.1 b)) (a:=a) (b:=b) kE (ha.jW gM) jw hg (by simp only[WV.on];omega);exact⟨(iH.on hx ku gM (by omega)).trans this.1,fun h=>by
   have h2:(dr (bL x.v.ak x.v.last).1 (bL x.v.ak x.v.last).2.1 b).ops<_:=this.2 h;omega⟩
theorem Pv{x:WV}{a:List Int}(hx:dx x)(ha:gZ x.v.ak a)(jw:a.length=x.v.at_.length):iH x (iP x a).1/\((iP x a).2=0->x.v.ak.ops<(iP x a).1.v.ak.ops):=by
 rw[iP];split
 ·
  rename_i h;exact⟨.gJ hx,fun h'=>absurd h' h⟩
 rename_i h;have:=YC (r:=⟨x.v.gen+1,a⟩) (n:=x.v.ak.size) (by simpa using h);exact Pu _ hx ha jw this.1 (by omega)
def lY:Nat->Int->CV->CV×Int
 |0,_,c=>(c,0)
 |n+1,b,c=>if Cd c b=false then lY n (b+1) c
  else if fk c b≠0/\fk c b≠9 then(jD c b,fk c b)else lY n (b+1) (jD c b)
def nI(c:CV)(b:Int)(ids:Nat):List UInt8×Int:=dB ⟨fT c b,List.replicate ids 0⟩ c.size
def Fa(c:CV)(b:Int)(ids:Nat)(g:Nat):VV:=⟨c,List.replicate ids 0,g,b⟩
def vL:Nat->Int->WV->Nat->WV×Int
 |0,_,x,_=>(x,9)
 |n+1,b,x,ids=>
  if(nI x.v.ak b ids).2≠0\/gq x.v.ak b=0 then vL n (b+1) x ids
  else if cn x.v.ak b (nI x.v.ak b ids).1=0 then(⟨Fa (dr x.v.ak b (nI x.v.ak b ids).1) b ids (fT x.v.ak b),x.beyond⟩,0)
  else if cn x.v.ak b (nI x.v.ak b ids).1≠9 then(x.on (dr x.v.ak b (nI x.v.ak b ids).1),cn x.v.ak b (nI x.v.ak b ids).1)
  else vL n (b+1) (x.on (dr x.v.ak b (nI x.v.ak b ids).1)) ids
def qa(x:WV)(ids:Nat):WV×Int:=
 if(lY x.v.ak.blocks.length 0 x.v.ak).2≠0 then(x.on (lY x.v.ak.blocks.length 0 x.v.ak).1,(lY x.v.ak.blocks.length 0 x.v.ak).2)
 else vL 2 0 (x.on (lY x.v.ak.blocks.length 0 x.v.ak).1) ids
def zZ(s:Int×Int)(i:Nat)(x:aJ):Int×Int:=
 if x.bad=true\/x.live=0\/eo<=x.bB then s else if s.2<x.used -x.live then((i:Int),x.used -x.live)else s
def jY(l:List aJ):Nat->Int×Int
 |0=>(0,0)
 |k+1=>zZ (jY l k) k (l.getD k ik)
def jZ(l:List aJ)(p:Int):Int×Bool:=if(xK l p).2=true then((xK l p).1,true)else((jY l l.length).1,decide (0<(jY l l.length).2))
theorem I2(l:List aJ): ∀k,0<=(jY l k).1/\0<=(jY l k).2/\(0<(jY l k).2->(jY l k).1<k)
 |0=>by simp[jY]
 |k+1=>by
  have:=I2 l k;rw[jY,zZ];split
  ·
   exact⟨this.1,this.2.1,fun h=>by have:=this.2.2 h;omega⟩
  split
  ·
   exact⟨by simp only;omega,by simp only;omega,fun _=>by simp only;omega⟩
  exact⟨this.1,this.2.1,fun h=>by have:=this.2.2 h;omega⟩
theorem YE{l:List aJ}{p:Int}(h:(jZ l p).2=true):0<=(jZ l p).1/\(jZ l p).1<l.length:=by
 rw[jZ]at h⊢;split
 ·
  rename_i hv;have:=EX hv;exact⟨this.2.1,this.2.2.1⟩
 rename_i hv;rw[if_neg hv]at h;have:=I2 l l.length;exact⟨this.1,this.2.2 (by simpa using h)⟩
def xQ(x:aJ):Bool:=decide (x.used=0)
def xR(p:Int)(x:aJ):Bool:=decide (x.used=p)
def xS(x:aJ):Bool:=decide (x.bB<eo)
def sr(c:CV)(l:List aJ):Int×Bool:=fZ (cA xQ l) c.ae
def nJ(c:CV)(l:List aJ):Int×Bool:=gI (cA (xR c.ae) l) c.ae
def nK(c:CV)(l:List aJ):Int×Bool:=gI (cA xS l) c.ae
def cR(c:CV)(l:List aJ):CV×Int×Int:=
 if(sr c l).2=true then(c,(sr c l).1+2,0)
 else if(nJ c l).2=true then((eD c ((nJ c l).1+2)).1,(nJ c l).1+2,(eD c ((nJ c l).1+2)).2)
 else if(nK c l).2=true then((eD c ((nK c l).1+2)).1,(nK c l).1+2,(eD c ((nK c l).1+2)).2)
 else(c,0,6)
def kU(c:CV)(l:List aJ):Prop:=l.length=c.blocks.length -2/\ ∀(i:Nat) (x:aJ),l[i]? =some x->x.bad=false->(aM c ((i:Int)+2)).bad=false
theorem I3(c:CV)(fl:List Int):kU c (aS c fl):=⟨qS c fl,fun i x hx hb=>by rw[←E4 hx];exact hb⟩
theorem kU.set{c:CV}{l:List aJ}(h:kU c l)(i:Nat):kU c (l.set i bT):=⟨by rw[ap8];exact h.1,fun j x hx hb=>by
 rw[aqe]at hx;split at hx
 ·
  split at hx
  ·
   obtain rfl:=api hx;cases hb
  cases hx
 exact h.2 j x hx hb⟩
theorem vM{c:CV}{R:aJ->Bool}{l:List aJ}{dG:aJ->Bool}{os:List (aJ->aJ->Int)}(ht:kU c l)(hr: ∀x,dG x=true->x.bad=false)(h:(fS (cA R l) c.ae dG os).2=true):
  0<=(fS (cA R l) c.ae dG os).1/\(fS (cA R l) c.ae dG os).1<((c.blocks.length -2:Nat):Int)/\(aM c ((fS (cA R l) c.ae dG os).1+2)).bad=false:=by
 obtain⟨x,hx,k1,_,_,k4,k5⟩:=E8 hr h;rw[ht.1]at k5;refine⟨k4,k5,?_⟩;have:=ht.2 _ x hx k1;rwa [show(((fS (cA R l) c.ae dG os).1.toNat:Nat):Int)=(fS (cA R l) c.ae dG os).1 by omega]at this
theorem I4{c:CV}{l:List aJ}(hk:bq c=true)(ht:kU c l):bq (cR c l).1=true/\fo c (cR c l).1/\c.ops<=(cR c l).1.ops/\
  ((cR c l).2.2=0->2<=(cR c l).2.1/\(cR c l).2.1<c.blocks.length/\(aM (cR c l).1 (cR c l).2.1).bad=false)/\((cR c l).2.2=9->c.ops<(cR c l).1.ops)/\((cR c l).2.2=6->(cR c l).1=c):=by
 rw[cR];have e6: ∀{b:Int},(eD c b).2≠6:=fun{b}=>by
  have: ∀n {c:CV},(jF n c b).2≠6:=by
   intro n
   induction n with
   |zero=>
    intro c;simp only[jF,fk];split
    ·
     split
     ·
      decide
     ·
      split
      ·
       decide
      ·
       split
       ·
        rw[oU];split<;>decide
       ·
        decide
    ·
     decide
   |succ n ih=>
    intro c;rw[jF];split
    ·
     simp only[cn,my];split
     ·
      split
      ·
       decide
      ·
       split
       ·
        decide
       ·
        split
        ·
         rw[oU];split<;>decide
        ·
         decide
     ·
      decide
    ·
     exact ih
  exact this _
 by_cases h1:(sr c l).2=true
 ·
  rw[if_pos h1];have:=vM ht (fun x h=>(Cg h).1) h1;change 0<=(sr c l).1/\(sr c l).1<_/\(aM c ((sr c l).1+2)).bad=false at this;exact⟨hk, .gJ c,aqD _,fun _=>⟨by simp only;omega,by simp only;omega,this.2.2⟩,fun h=>absurd (show(0:Int)=9 from h) (by decide),fun h=>absurd (show(0:Int)=6 from h) (by decide)⟩
 ·
  rw[if_neg h1]
  by_cases h2:(nJ c l).2=true
  ·
   rw[if_pos h2];have:=vM ht (fun x h=>(xN h).1) h2;change 0<=(nJ c l).1/\(nJ c l).1<_/\(aM c ((nJ c l).1+2)).bad=false at this;have hc:=Cc ((nJ c l).1+2) hk;exact⟨hc.1,hc.2,zU _ _ _,fun h=>⟨by simp only;omega,by simp only;omega,E9 _ h⟩,fun h=>EZ this.2.2 (.inl h),fun h=>absurd h e6⟩
  ·
   rw[if_neg h2]
   by_cases h3:(nK c l).2=true
   ·
    rw[if_pos h3];have:=vM ht (fun x h=>(xN h).1) h3;change 0<=(nK c l).1/\(nK c l).1<_/\(aM c ((nK c l).1+2)).bad=false at this;have hc:=Cc ((nK c l).1+2) hk;exact⟨hc.1,hc.2,zU _ _ _,fun h=>⟨by simp only;omega,by simp only;omega,E9 _ h⟩,fun h=>EZ this.2.2 (.inl h),fun h=>absurd h e6⟩
   ·
    rw[if_neg h3];exact⟨hk, .gJ c,aqD _,fun h=>absurd (show(6:Int)=0 from h) (by decide),fun h=>absurd (show(6:Int)=9 from h) (by decide),fun _=>rfl⟩
def cB(c:CV)(a0 a:List Int)(src tgt:Int):Int×Bool:=
 if tgt<0 then(if(fZ ((aS c (a0++a)).set (src -2).toNat bT) c.ae).2=true then((fZ ((aS c (a0++a)).set (src -2).toNat bT) c.ae).1+2,true)else(0,false))else(tgt,true)
def gu(c:CV)(g id n:Int):List UInt8×Int:=eX ⟨1,id,g.toNat,ll c n⟩ c.size
structure MV where
 c:CV
 a:List Int
 e:Option Int
def eP(v:VV)(src tgt:Int):List Int->Nat->CV->List Int->MV
 |[],_,c,a=>⟨c,a,none⟩
 |n::r,id,c,a=>
  if n=0\/(n -1)/v.ak.ae≠src then eP v src tgt r (id+1) c a
  else if(cB c v.at_ a src tgt).2=false then⟨c,a,some 6⟩
  else if(gu c ((v.gen:Int)+1) id n).2≠0 then⟨c,a,some (gu c ((v.gen:Int)+1) id n).2⟩
  else if cn c (cB c v.at_ a src tgt).1 (gu c ((v.gen:Int)+1) id n).1≠0 then
   ⟨dr c (cB c v.at_ a src tgt).1 (gu c ((v.gen:Int)+1) id n).1,a,some (lX (cn c (cB c v.at_ a src tgt).1 (gu c ((v.gen:Int)+1) id n).1))⟩
  else eP v src tgt r (id+1) (dr c (cB c v.at_ a src tgt).1 (gu c ((v.gen:Int)+1) id n).1) (a.set id ((cB c v.at_ a src tgt).1*v.ak.ae+(aM c (cB c v.at_ a src tgt).1).used+1))
def dD(x:WV)(src tgt:Int):WV×Bool×Int:=
 match(eP x.v src tgt x.v.at_ 0 x.v.ak x.v.at_).e with
 |some e=>(x.on (eP x.v src tgt x.v.at_ 0 x.v.ak x.v.at_).c,false,e)
 |none=>((iP (x.on (eP x.v src tgt x.v.at_ 0 x.v.ak x.v.at_).c) (eP x.v src tgt x.v.at_ 0 x.v.ak x.v.at_).a).1,decide ((iP (x.on (eP x.v src tgt x.v.at_ 0 x.v.ak x.v.at_).c) (eP x.v src tgt x.v.at_ 0 x.v.ak x.v.at_).a).2=0),(iP (x.on (eP x.v src tgt x.v.at_ 0 x.v.ak x.v.at_).c) (eP x.v src tgt x.v.at_ 0 x.v.ak x.v.at_).a).2)
theorem I5{x:WV}{src tgt:Int}{c:CV}{a:List Int}{e:Int}(h:eP x.v src tgt x.v.at_ 0 x.v.ak x.v.at_=⟨c,a,some e⟩):dD x src tgt=(x.on c,false,e):=by
 rw[dD,h]
theorem YF{x:WV}{src tgt:Int}{c:CV}{a:List Int}(h:eP x.v src tgt x.v.at_ 0 x.v.ak x.v.at_=⟨c,a,none⟩):dD x src tgt=((iP (x.on c) a).1,decide ((iP (x.on c) a).2=0),(iP (x.on c) a).2):=by
 rw[dD,h]
theorem YG{c:CV}{a0 a:List Int}{src tgt:Int}(h:(cB c a0 a src tgt).2=true)(ht:0<=tgt->2<=tgt/\tgt<c.blocks.length/\(aM c tgt).bad=false):
  2<=(cB c a0 a src tgt).1/\(cB c a0 a src tgt).1<c.blocks.length/\(aM c (cB c a0 a src tgt).1).bad=false:=by
 rw[cB]at h⊢
 by_cases h1:tgt<0
 ·
  rw[if_pos h1]at h⊢
  by_cases h2:(fZ ((aS c (a0++a)).set (src -2).toNat bT) c.ae).2=true
  ·
   rw[if_pos h2];have hT:=(I3 c (a0++a)).set (src -2).toNat;obtain⟨k1,k2,k3,k4⟩:=EX h2;change 0<=(fZ ((aS c (a0++a)).set (src -2).toNat bT) c.ae).1 at k2;change(fZ ((aS c (a0++a)).set (src -2).toNat bT) c.ae).1<_ at k3;change sg _ (List.getD _ (fZ ((aS c (a0++a)).set (src -2).toNat bT) c.ae).1.toNat _)=true at k4;rw[hT.1]at k3;have hi:((aS c (a0++a)).set (src -2).toNat bT)[(fZ ((aS c (a0++a)).set (src -2).toNat bT) c.ae).1.toNat]? =some _:=kL (d:=ik) (by rw[hT.1];omega);have:=hT.2 _ _ hi (Cg k4).1;rw[show(((fZ ((aS c (a0++a)).set (src -2).toNat bT) c.ae).1.toNat:Nat):Int)=(fZ ((aS c (a0++a)).set (src -2).toNat bT) c.ae).1 by omega]at this;exact⟨by simp only;omega,by simp only;omega,this⟩
  ·
   rw[if_neg h2]at h;cases h
 ·
  rw[if_neg h1];exact ht (by omega)
theorem Fb(c:CV)(b g:Int)(p:List UInt8):my c b g p=0\/my c b g p=1\/my c b g p=7\/my c b g p=9:=by
 rw[my];split
 ·
  split
  ·
   omega
  split
  ·
   omega
  split
  ·
   rw[oU];split<;>omega
  omega
 omega
theorem I6(p:PV)(n:Int):(eX p n).2=0\/(eX p n).2=1:=by
 rw[eX];split<;>simp
theorem Pw{c:CV}{b:Int}{p:List UInt8}(h:cn c b p=0)(b':Int):(aM (dr c b p) b').bad=(aM c b').bad:=by
 obtain⟨h1,h2,h3,h4,h5⟩:=zT h;have hh:=(qP.1 h1).1;obtain⟨_,g2,g3⟩:=ny.1 hh;rw[h5,rY];simp only[aM,List.getD,aqe]
 by_cases e:b.toNat=b'.toNat
 ·
  rw[if_pos e,if_pos (by omega),e];simp
 rw[if_neg e]
theorem I7{v:VV}{src tgt:Int}: ∀(l:List Int) (id:Nat) {c:CV} {a:List Int},bq c=true->fo v.ak c->v.ak.ops<=c.ops->gZ v.ak a->(0<=tgt->2<=tgt/\tgt<c.blocks.length/\(aM c tgt).bad=false)->
  bq (eP v src tgt l id c a).c=true/\fo v.ak (eP v src tgt l id c a).c/\c.ops<=(eP v src tgt l id c a).c.ops/\gZ v.ak (eP v src tgt l id c a).a/\(eP v src tgt l id c a).a.length=a.length/\
   ((eP v src tgt l id c a).e=some 0->c.ops<(eP v src tgt l id c a).c.ops)/\((eP v src tgt l id c a).e=some 6-> ∀b,(aM (eP v src tgt l id c a).c b).bad=(aM c b).bad)
 |[],id,c,a,hk,hl,ho,ha,ht=>⟨hk,hl,aqD _,ha,rfl,fun h=>by simp[eP]at h,fun h=>by simp[eP]at h⟩
 |n::r,id,c,a,hk,hl,ho,ha,ht=>by
  rw[eP]
  by_cases h1:n=0\/(n -1)/v.ak.ae≠src
  ·
   rw[if_pos h1];exact I7 r (id+1) hk hl ho ha ht
  ·
   rw[if_neg h1]
   by_cases h2:(cB c v.at_ a src tgt).2=false
   ·
    rw[if_pos h2];exact⟨hk,hl,aqD _,ha,rfl,fun h=>by simp at h,fun _ _=>rfl⟩
   ·
    rw[if_neg h2];obtain⟨m1,m2,m3⟩:=YG (by simpa using h2) ht
    by_cases h3:(gu c ((v.gen:Int)+1) id n).2≠0
    ·
     rw[if_pos h3];have I8:(gu c ((v.gen:Int)+1) id n).2=1:=(I6 _ _).resolve_left h3;exact⟨hk,hl,aqD _,ha,rfl,fun h=>absurd (api h) h3,fun h=>absurd (I8.symm.trans (api h)) (by decide)⟩
    ·
     rw[if_neg h3]
     by_cases h4:cn c (cB c v.at_ a src tgt).1 (gu c ((v.gen:Int)+1) id n).1≠0
     ·
      rw[if_pos h4];have gF:cn c (cB c v.at_ a src tgt).1 (gu c ((v.gen:Int)+1) id n).1=1\/cn c (cB c v.at_ a src tgt).1 (gu c ((v.gen:Int)+1) id n).1=7\/cn c (cB c v.at_ a src tgt).1 (gu c ((v.gen:Int)+1) id n).1=9:=(Fb _ _ _ _).resolve_left h4;refine⟨mE hk _ _,hl.trans (nG _ _ _),xL _ _ _,ha,rfl,fun h=>?_,fun h=>?_⟩
      ·
       have h:=api h;rw[lX]at h;split at h
       ·
        rename_i h9;have:=vI m3 (.inl h9);simp only;omega
       ·
        exact absurd h h4
      ·
       have h:=api h;rw[lX]at h;split at h
       ·
        cases h
       ·
        omega
     ·
      rw[if_neg h4];have Fc:cn c (cB c v.at_ a src tgt).1 (gu c ((v.gen:Int)+1) id n).1=0:=by simpa using h4
      have ku:=qP.1 (zT Fc).1;have hd:=ln hk;have ot:=hl.trans (nG c (cB c v.at_ a src tgt).1 (gu c ((v.gen:Int)+1) id n).1);have bN:=vI m3 (p:=(gu c ((v.gen:Int)+1) id n).1) (.inr Fc);have YH:v.ak.ae=c.ae:=hl.ae.symm;have ih:=I7 r (id+1) (src:=src) (tgt:=tgt) (mE hk (cB c v.at_ a src tgt).1 (gu c ((v.gen:Int)+1) id n).1) ot (by omega) (a:=a.set id ((cB c v.at_ a src tgt).1*v.ak.ae+(aM c (cB c v.at_ a src tgt).1).used+1)) (fun y hy=>by
       rcases aqd hy with hy|rfl
       ·
        exact ha y hy
       ·
        have hq:((cB c v.at_ a src tgt).1*v.ak.ae+(aM c (cB c v.at_ a src tgt).1).used+1 -1)/v.ak.ae=(cB c v.at_ a src tgt).1:=by
         rw[YH,Int.add_sub_cancel,Int.add_comm,Int.add_mul_ediv_right _ _ (by omega),Int.ediv_eq_zero_of_lt ku.2.1 ku.2.2.1,Int.zero_add]
        have h0:0<=(cB c v.at_ a src tgt).1*v.ak.ae:=ar3 (by omega) (by omega);have:=ku.2.1;exact .inr ⟨by omega,by rw[hq];exact m1,by rw[hq,←hl.len];exact m2⟩) (fun h=>by
       have:=ht h;rw[(nG c _ _).len,Pw Fc];exact this)
      obtain⟨i1,i2,i3,i4,i5,i6,i7⟩:=ih;refine⟨i1,i2,by omega,i4,by rw[i5,ap8],fun h=>by have:=i6 h;omega,fun h b=>?_⟩;rw[i7 h b,Pw Fc]
theorem Px(c:CV)(b:Int):fk c b=0\/fk c b=1\/fk c b=7\/fk c b=9:=by
 rw[fk];split
 ·
  split
  ·
   omega
  split
  ·
   omega
  split
  ·
   rw[oU];split<;>omega
  omega
 omega
theorem YI(c:CV)(l:Int):(bL c l).2.2=0\/(bL c l).2.2=1\/(bL c l).2.2=7\/(bL c l).2.2=9:=by
 rw[bL];split
 ·
  exact .inl rfl
 split
 ·
  exact .inl rfl
 split
 ·
  exact .inr (.inr (.inr rfl))
 exact Px _ _
theorem Py: ∀(n:Nat) (y:WV) (a:List Int) (b:List UInt8),(pa n y a b).2≠6
 |0,y,a,b=>by simp[pa]
 |n+1,y,a,b=>by
  rw[pa];split
  ·
   have:=YI y.v.ak y.v.last;simp only;omega
  split
  ·
   simp
  split
  ·
   have:=Fb (bL y.v.ak y.v.last).1 (bL y.v.ak y.v.last).2.1 (aM (bL y.v.ak y.v.last).1 (bL y.v.ak y.v.last).2.1).used b;simp only[cn];omega
  exact Py n _ _ _
theorem Pz(y:WV)(a:List Int):(iP y a).2≠6:=by
 rw[iP];split
 ·
  rw[dB];split
  ·
   have:=I6 ⟨2,max 0 ((a.length:Int) -1),y.v.gen+1,jA a⟩ y.v.ak.size;simp only;omega
  simp
 exact Py _ _ _ _
theorem I9{x:WV}{src tgt:Int}(hx:dx x)(ht:0<=tgt->2<=tgt/\tgt<x.v.ak.blocks.length/\(aM x.v.ak tgt).bad=false):
  iH x (dD x src tgt).1/\((dD x src tgt).2.2=0->x.v.ak.ops<(dD x src tgt).1.v.ak.ops)/\((dD x src tgt).2.1=true->(dD x src tgt).2.2=0)/\((dD x src tgt).2.1=false/\(dD x src tgt).2.2=6-> ∀b,(aM (dD x src tgt).1.v.ak b).bad=(aM x.v.ak b).bad):=by
 obtain⟨h1,h2,h3,h4,h5,h6,h7⟩:=I7 x.v.at_ 0 (src:=src) hx.ak (.gJ _) (aqD _) hx.ua ht;rw[dD];split
 ·
  rename_i e he;refine⟨.on hx h1 h2 h3,fun h=>h6 (by rw[he];exact congrArg some h),fun h=>absurd (show false=true from h) (by simp),fun h b=>h7 (by rw[he];exact congrArg some h.2) b⟩
 ·
  rename_i he;have kE:=hx.on h1 h2;have hw:=Pv kE (a:=(eP x.v src tgt x.v.at_ 0 x.v.ak x.v.at_).a) (h4.jW h2) h5;refine⟨(iH.on hx h1 h2 h3).trans hw.1,fun h=>?_,fun h=>by simpa using h,fun h=>?_⟩
  ·
   have g:(eP x.v src tgt x.v.at_ 0 x.v.ak x.v.at_).c.ops<_:=hw.2 h;simp only;omega
  ·
   exact absurd h.2 (Pz _ _)
theorem PA: ∀(n:Nat) (c:CV) (b:Int),(jF n c b).2≠6
 |0,c,b=>by have:=Px c b;simp only[jF];omega
 |n+1,c,b=>by
  rw[jF];split
  ·
   have:=Fb c b (aM c b).used (jE c);simp only[cn];omega
  exact PA n _ _
theorem YJ(c:CV)(b:Int):(eD c b).2≠6:=PA _ _ _
def xT(c:CV)(l:List aJ)(i:Int):Bool:=decide ((cR c (l.set i.toNat bT)).2.2=6)&&decide ((l.getD i.toNat ik).live<=EW (l.set i.toNat bT) c.ae)
def dn(c:CV)(l:List aJ)(i:Int):Int×Int:=if xT c l i=true then(-1,0)else(cR c (l.set i.toNat bT)).2
def jj(x:WV)(l:List aJ)(i:Int):WV×Int:=
 if(dn x.v.ak l i).2≠0 then(x.on (cR x.v.ak (l.set i.toNat bT)).1,lX (dn x.v.ak l i).2)
 else if(dD (x.on (cR x.v.ak (l.set i.toNat bT)).1) (i+2) (dn x.v.ak l i).1).2.1=false\/(l.getD i.toNat ik).used=x.v.ak.ae then
  ((dD (x.on (cR x.v.ak (l.set i.toNat bT)).1) (i+2) (dn x.v.ak l i).1).1,(dD (x.on (cR x.v.ak (l.set i.toNat bT)).1) (i+2) (dn x.v.ak l i).1).2.2)
 else((dD (x.on (cR x.v.ak (l.set i.toNat bT)).1) (i+2) (dn x.v.ak l i).1).1.on (eD (dD (x.on (cR x.v.ak (l.set i.toNat bT)).1) (i+2) (dn x.v.ak l i).1).1.v.ak (i+2)).1,
  lX (eD (dD (x.on (cR x.v.ak (l.set i.toNat bT)).1) (i+2) (dn x.v.ak l i).1).1.v.ak (i+2)).2)
theorem PB{e:Int}(h:lX e=0):e=0\/e=9:=by
 rw[lX]at h;split at h
 ·
  exact .inr (by assumption)
 exact .inl h
theorem Ja{e:Int}(h:lX e=6):e=6:=by
 rw[lX]at h;split at h
 ·
  cases h
 exact h
theorem Jb{c:CV}{l:List aJ}{i:Int}(hk:bq c=true)(ht:kU c l):(dn c l i).2=0->0<=(dn c l i).1->2<=(dn c l i).1/\(dn c l i).1<c.blocks.length/\(aM (cR c (l.set i.toNat bT)).1 (dn c l i).1).bad=false:=by
 intro h h0;rw[dn]at h h0⊢;split at h
 ·
  rename_i ha;rw[if_pos ha]at h0;exact absurd (show(0:Int)<= -1 from h0) (by decide)
 rename_i ha;rw[if_neg ha];exact(I4 hk (ht.set i.toNat)).2.2.2.1 h
theorem YK{x:WV}{src tgt:Int}(hx:dx x)(ht:0<=tgt->2<=tgt/\tgt<x.v.ak.blocks.length/\(aM x.v.ak tgt).bad=false):dx (dD x src tgt).1/\fo x.v.ak (dD x src tgt).1.v.ak:=
 ⟨(I9 hx ht).1.ok,(I9 hx ht).1.jW⟩
theorem PC{x:WV}{l:List aJ}{i:Int}(hx:dx x)(ht:kU x.v.ak l):
  iH x (jj x l i).1/\((jj x l i).2=0->x.v.ak.ops<(jj x l i).1.v.ak.ops)/\((jj x l i).2=6-> ∀b,(aM (jj x l i).1.v.ak b).bad=(aM x.v.ak b).bad):=by
 obtain⟨t1,t2,t3,t4,t5,t6⟩:=I4 hx.ak (ht.set i.toNat);have hn:=iH.on hx t1 t2 t3;rw[jj]
 by_cases h0:(dn x.v.ak l i).2≠0
 ·
  rw[if_pos h0];have he:(dn x.v.ak l i).2=(cR x.v.ak (l.set i.toNat bT)).2.2:=by
   rw[dn]at h0⊢;split at h0
   ·
    exact absurd rfl h0
   ·
    rename_i ha;rw[if_neg ha]
  refine⟨hn,fun h=>?_,fun h b=>?_⟩
  ·
   rcases PB h with g|g
   ·
    exact absurd g h0
   ·
    exact t5 (he▸g)
  ·
   have:=t6 (he▸Ja h);simp only[WV.on];rw[this]
 ·
  rw[if_neg h0];have tE:(dn x.v.ak l i).2=0:=by simpa using h0
  have hr:=Jb (i:=i) hx.ak ht tE;obtain⟨m1,m2,m3,m4⟩:=I9 (x:=x.on (cR x.v.ak (l.set i.toNat bT)).1) (src:=i+2) (tgt:=(dn x.v.ak l i).1) hn.ok (fun h=>by
   have:=hr h;exact⟨this.1,by simp only[WV.on];rw[t2.len];exact this.2.1,this.2.2⟩)
  have hb:(dn x.v.ak l i).2=0->(cR x.v.ak (l.set i.toNat bT)).2.2=6->(cR x.v.ak (l.set i.toNat bT)).1=x.v.ak:=fun _ h=>t6 h
  by_cases h1:(dD (x.on (cR x.v.ak (l.set i.toNat bT)).1) (i+2) (dn x.v.ak l i).1).2.1=false\/(l.getD i.toNat ik).used=x.v.ak.ae
  ·
   rw[if_pos h1];refine⟨hn.trans m1,fun h=>?_,fun h b=>?_⟩
   ·
    have g:(cR x.v.ak (l.set i.toNat bT)).1.ops<_:=m2 h;simp only;omega
   ·
    have hf:(dD (x.on (cR x.v.ak (l.set i.toNat bT)).1) (i+2) (dn x.v.ak l i).1).2.1=false:=by
     cases hq:(dD (x.on (cR x.v.ak (l.set i.toNat bT)).1) (i+2) (dn x.v.ak l i).1).2.1 with
     |false=>rfl
     |true=>have:=m3 hq;exact absurd (this.symm.trans h) (by decide)
    rw[m4 ⟨hf,h⟩ b]
    by_cases ha:xT x.v.ak l i=true
    ·
     simp only[xT,anc,decide_eq_true_eq]at ha;simp only[WV.on];rw[t6 ha.1]
    ·
     exact absurd h (YL (by
      have:(dn x.v.ak l i).1=(cR x.v.ak (l.set i.toNat bT)).2.1:=by rw[dn,if_neg ha]
      have g:(cR x.v.ak (l.set i.toNat bT)).2.2=0:=by
       rw[dn,if_neg ha]at tE;exact tE
      have:=(t4 g).1;omega))
  ·
   rw[if_neg h1];have hm:(dD (x.on (cR x.v.ak (l.set i.toNat bT)).1) (i+2) (dn x.v.ak l i).1).2.1=true:=by
    cases hq:(dD (x.on (cR x.v.ak (l.set i.toNat bT)).1) (i+2) (dn x.v.ak l i).1).2.1 with
    |true=>rfl
    |false=>exact absurd (.inl hq) h1
   have hz:=m2 (m3 hm);have hc:=Cc (i+2) m1.ok.ak;have ho:=zU (gq (dD (x.on (cR x.v.ak (l.set i.toNat bT)).1) (i+2) (dn x.v.ak l i).1).1.v.ak (i+2)).toNat (dD (x.on (cR x.v.ak (l.set i.toNat bT)).1) (i+2) (dn x.v.ak l i).1).1.v.ak (i+2);refine⟨(hn.trans m1).trans (.on m1.ok hc.1 hc.2 ho),fun _=>?_,fun h=>absurd (Ja h) (YJ _ _)⟩;have g:(cR x.v.ak (l.set i.toNat bT)).1.ops<_:=hz;have g2:(dD (x.on (cR x.v.ak (l.set i.toNat bT)).1) (i+2) (dn x.v.ak l i).1).1.v.ak.ops<=(eD (dD (x.on (cR x.v.ak (l.set i.toNat bT)).1) (i+2) (dn x.v.ak l i).1).1.v.ak (i+2)).1.ops:=ho;simp only[WV.on]at*;omega
where
 YL {x:WV} {src tgt:Int} (h:0<=tgt):(dD x src tgt).2.2≠6:=by
  have key: ∀(l:List Int) (id:Nat) (c:CV) (a:List Int),(eP x.v src tgt l id c a).e≠some 6:=by
   intro l
   induction l with
   |nil=>intro id c a;simp[eP]
   |cons n r ih=>
    intro id c a;rw[eP];split
    ·
     exact ih _ _ _
    split
    ·
     rename_i h2;rw[cB,if_neg (by omega)]at h2;cases h2
    split
    ·
     rename_i h3;have:=(I6 ⟨1,id,((x.v.gen:Int)+1).toNat,ll c n⟩ c.size).resolve_left h3;intro h;have h:=api h;rw[gu]at h;omega
    split
    ·
     intro h;have h:=Ja (api h);have:=Fb c (cB c x.v.at_ a src tgt).1 (aM c (cB c x.v.at_ a src tgt).1).used (gu c ((x.v.gen:Int)+1) id n).1;rw[cn]at h;omega
    exact ih _ _ _
  rw[dD];split
  ·
   rename_i e he;intro h;exact key _ _ _ _ (by rw[he];exact congrArg some h)
  exact Pz _ _
def qb(p:Int)(x:aJ):Bool:=decide (x.used<p)&&decide (x.bB<eo)
def vN(c:CV)(l:List aJ):Int×Bool:=gI (cA (qb c.ae) l) c.ae
def pb(x:WV)(l:List aJ):WV×Int:=
 if(vN x.v.ak l).2=false then(x,6)else(x.on (eD x.v.ak ((vN x.v.ak l).1+2)).1,lX (eD x.v.ak ((vN x.v.ak l).1+2)).2)
def ud(x:WV):List aJ:=aS x.v.ak x.v.at_
def z1(x:WV):Int×Bool:=jZ (ud x) x.v.ak.ae
def gv(x:WV):WV×Int:=
 if(z1 x).2=true/\Ce x.v.gen=false then
  (if(jj x (ud x) (z1 x).1).2≠6 then jj x (ud x) (z1 x).1 else pb (jj x (ud x) (z1 x).1).1 (ud x))
 else pb x (ud x)
theorem kU.jW{c d:CV}{l:List aJ}(h:kU c l)(hl:fo c d)(hb: ∀b,(aM d b).bad=(aM c b).bad):kU d l:=⟨by rw[h.1,hl.len],fun i x hx jh=>by rw[hb];exact h.2 i x hx jh⟩
theorem PD{x:WV}{l:List aJ}(hx:dx x)(ht:kU x.v.ak l):iH x (pb x l).1/\((pb x l).2=0->x.v.ak.ops<(pb x l).1.v.ak.ops):=by
 rw[pb];split
 ·
  exact⟨.gJ hx,fun h=>absurd (show(6:Int)=0 from h) (by decide)⟩
 rename_i h;have hd:=vM ht (fun x h=>(xN h).1) (show(vN x.v.ak l).2=true by simpa using h);change 0<=(vN x.v.ak l).1/\(vN x.v.ak l).1<_/\(aM x.v.ak ((vN x.v.ak l).1+2)).bad=false at hd;have hc:=Cc ((vN x.v.ak l).1+2) hx.ak;exact⟨.on hx hc.1 hc.2 (zU _ _ _),fun h=>EZ hd.2.2 (PB h).symm⟩
theorem PE{x:WV}(hx:dx x):iH x (gv x).1/\((gv x).2=0->x.v.ak.ops<(gv x).1.v.ak.ops):=by
 have ht:kU x.v.ak (ud x):=I3 _ _;rw[gv];split
 ·
  obtain⟨r1,r2,r3⟩:=PC (i:=(z1 x).1) hx ht;split
  ·
   exact⟨r1,r2⟩
  rename_i h6;have YM:(jj x (ud x) (z1 x).1).2=6:=by simpa using h6
  have:=PD r1.ok (ht.jW r1.jW (r3 YM));exact⟨r1.trans this.1,fun h=>by have:=this.2 h;have:=r1.ops;omega⟩
 exact PD hx ht
def xU:Nat->WV->Int->WV×Int
 |0,x,_=>(x,0)
 |n+1,x,need=>
  if need<=(o8 x.v.ak x.v.at_).1 then(x,0)
  else if need<=(o8 x.v.ak x.v.at_).2/\xM x.v.ak x.v.last<2 then({x with beyond:=true},0)
  else if(gv x).2=0 then xU n (gv x).1 need
  else if(gv x).2≠6 then gv x
  else if need<=(o8 x.v.ak x.v.at_).2 then({(gv x).1 with beyond:=true},0)
  else((gv x).1,5)
def pc(x:WV)(need:Int):WV×Int:=xU ((eo -x.v.ak.ops).toNat+1) x need
theorem dx.by{x:WV}(h:dx x)(b:Bool):dx {x with beyond:=b}:=⟨h.ak,h.len,h.ae,h.size,h.last,h.gen,h.ua,h.ub⟩
theorem iH.by{x y:WV}(h:iH x y)(b:Bool):iH x {y with beyond:=b}:=⟨h.ok.by b,h.jW,h.ops,h.zY⟩
theorem PF: ∀(n:Nat) {x:WV} {need:Int},dx x->iH x (xU n x need).1
 |0,x,need,hx=> .gJ hx
 |n+1,x,need,hx=>by
  have hc:=PE hx;rw[xU];split
  ·
   exact .gJ hx
  split
  ·
   exact(iH.gJ hx).by true
  split
  ·
   exact hc.1.trans (PF n hc.1.ok)
  split
  ·
   exact hc.1
  split
  ·
   exact hc.1.by true
  exact hc.1
theorem YN{x:WV}{need:Int}(hx:dx x):iH x (pc x need).1:=PF _ hx
def bt(x:It):Int×List UInt8:=(x.id,x.body.xs)
def z6(l:List (Int×List UInt8)):Nat:=(l.filter fun x=>decide (0<x.2.length)).length
theorem YO{l:List (Int×List UInt8)}{i:Nat}{x:Int×List UInt8}(h:l[i]? =some x):((l.take (i+1)).filter fun x=>decide (0<x.2.length)).length=((l.take i).filter fun x=>decide (0<x.2.length)).length+(if 0<x.2.length then 1 else 0):=by
 rw[aps,h,apN,af0];congr 1;simp only[arU,apS,arQ];split<;>simp_all
def jG(v:VV)(x:Int×List UInt8):PV:=⟨1,x.1,v.gen+1,x.2⟩
def ov(v:VV)(br:Bool):List (Int×List UInt8)->CV->List Int->CV×List Int×Int
 |[],c,a=>(c,a,0)
 |x::r,c,a=>
  if x.2.length=0 then ov v br r c (a.set x.1.toNat 0)
  else if(dQ c (v.at_++a) br (jG v x)).2.2≠0 then((dQ c (v.at_++a) br (jG v x)).1,a,(dQ c (v.at_++a) br (jG v x)).2.2)
  else ov v br r (dQ c (v.at_++a) br (jG v x)).1 (a.set x.1.toNat (dQ c (v.at_++a) br (jG v x)).2.1)
def kV(x:WV)(l:List (Int×List UInt8)):WV×Int:=pc {x with beyond:=false} (z6 l)
def ue(x:WV)(l:List (Int×List UInt8)):CV×List Int×Int:=ov (kV x l).1.v (kV x l).1.beyond l (kV x l).1.v.ak (kV x l).1.v.at_
def j6(x:WV)(l:List (Int×List UInt8)):WV×Int:=
 if(kV x l).2≠0 then kV x l
 else if(ue x l).2.2≠0 then((kV x l).1.on (ue x l).1,(ue x l).2.2)
 else iP ((kV x l).1.on (ue x l).1) (ue x l).2.1
theorem Jc{v:VV}{br:Bool}: ∀(l:List (Int×List UInt8)) {c:CV} {a:List Int},bq c=true->3<=c.blocks.length->gZ c a->
  bq (ov v br l c a).1=true/\fo c (ov v br l c a).1/\c.ops<=(ov v br l c a).1.ops/\gZ c (ov v br l c a).2.1/\(ov v br l c a).2.1.length=a.length
 |[],c,a,hk,h2,ha=>⟨hk, .gJ c,aqD _,ha,rfl⟩
 |x::r,c,a,hk,h2,ha=>by
  rw[ov];split
  ·
   have:=Jc r (v:=v) (br:=br) hk h2 (a:=a.set x.1.toNat 0) (fun y hy=>by
    rcases aqd hy with hy|rfl
    ·
     exact ha y hy
    ·
     exact .inl rfl)
   rwa [ap8]at this
  ·
   obtain⟨p1,p2,p3,p4⟩:=Pp (fl:=v.at_++a) (br:=br) (p:=jG v x) hk h2;split
   ·
    exact⟨p1,p2,p3,ha,rfl⟩
   ·
    rename_i h0;have p5:=p4 (by simpa using h0);have:=Jc r (v:=v) (br:=br) p1 (by rw[p2.len];exact h2) (a:=a.set x.1.toNat (dQ c (v.at_++a) br (jG v x)).2.1) (fun y hy=>by
     rw[p2.ae,p2.len];rcases aqd hy with hy|rfl
     ·
      exact ha y hy
     ·
      exact .inr p5)
    obtain⟨i1,i2,i3,i4,i5⟩:=this;refine⟨i1,p2.trans i2,by omega,fun y hy=>?_,by rw[i5,ap8]⟩;have:=i4 y hy;rwa [p2.ae,p2.len]at this
theorem PG{x:WV}{l:List (Int×List UInt8)}(hx:dx x):iH x (kV x l).1:=by
 have:=YN (need:=z6 l) (hx.by false);exact⟨this.ok,this.jW,this.ops,this.zY⟩
theorem YP{x:WV}{l:List (Int×List UInt8)}(hx:dx x):iH x (j6 x l).1:=by
 have hs:=PG (l:=l) hx;rw[j6];split
 ·
  exact hs
 have hl:=hs.ok.uc;obtain⟨i1,i2,i3,i4,i5⟩:=Jc (v:=(kV x l).1.v) (br:=(kV x l).1.beyond) l hs.ok.ak (by omega) hs.ok.ua;have kE:=hs.trans (.on hs.ok i1 i2 i3);split
 ·
  exact kE
 exact kE.trans (Pv kE.ok (i4.jW i2) i5).1
def su:Nat->WV->List (Int×List UInt8)->WV×Int
 |0,x,_=>(x,0)
 |n+1,x,l=>if(j6 x l).2=5/\mF x.v.ak<mF (j6 x l).1.v.ak then su n (j6 x l).1 l else j6 x l
theorem YQ(c:CV):mF c<=c.blocks.length:=ard _ _
def vO(v:VV)(x:Int×List UInt8):Bool:=decide (0<=x.1)&&decide (x.1<(v.at_.length:Int))&&decide ((x.2.length:Int)<=fI v.ak.size)
def vP(v:VV)(l:List (Int×List UInt8))(i:Nat):Bool:=vO v (l.getD i (0,[]))&& !((l.take i).map Prod.fst).contains (l.getD i (0,[])).1
def sC(v:VV)(l:List (Int×List UInt8)):Bool:=(List.range l.length).all (vP v l)
theorem Jd{v:VV}{l:List (Int×List UInt8)}:sC v l=true↔ ∀i,i<l.length->vP v l i=true:=by simp only[sC,apC,aqi]
def sD(l:List Int)(i:Nat):Int->Option Unit:=fun x=>if x∈l.take i then some ()else none
theorem PH{l:List Int}{i:Nat}{x:Int}:(sD l i x).isSome=decide (x∈l.take i):=by
 unfold sD;split<;>simp_all
theorem YR{l:List Int}:(fun _=>none)=sD l 0:=by
 funext x;simp[sD]
theorem YS{l:List Int}{i:Nat}{y:Int}(h:l[i]? =some y):(fun z=>if z=y then some ()else sD l i z)=sD l (i+1):=by
 funext x
 unfold sD;rw[aps,h]
 by_cases hx:x=y
 ·
  subst hx;simp
 simp[hx]
def iq(v:VV)(l:List (Int×List UInt8)):VV×Int:=
 if ¬(p0 v=true/\v.gen<281474976710655/\sC v l=true)then(v,1)
 else if v.ak.off=true then(v,7)
 else((su (v.ak.blocks.length+1) ⟨v,false⟩ l).1.v,(su (v.ak.blocks.length+1) ⟨v,false⟩ l).2)
def xV(b p:Int):Int:=if b<4\/32<b\/p<1\/16<p then 0 else(b -4)*p
def mG(c:CV)(ids:Int):WV×Int:=qa ⟨⟨c,[],0,0⟩,false⟩ ids.toNat
def nL(c:CV)(ids:Int):VV×Int:=
 if ¬(se c=true/\1<=ids/\ids<=lV c.size)then(⟨c,[],0,0⟩,1)
 else if c.off=true then(⟨c,[],0,0⟩,7)
 else if(mG c ids).2≠0 then(⟨(mG c ids).1.v.ak,[],0,0⟩,(mG c ids).2)
 else((mG c ids).1.v,0)
theorem YT{b:List UInt8}:(fm b).1.at_.length<=64/\(fm b).1.gen<281474976710656:=by
 rw[fm];split
 ·
  simp[gH]
 rename_i h1;split
 ·
  simp[gH]
 rename_i h2;split
 ·
  simp[gH]
 rename_i h3;have hf:vB (dm b).1=true:=by simpa using h3
 simp only[vB,anc,decide_eq_true_eq]at hf;refine⟨?_,O8 b⟩;have hid:(dm b).1.id<64:=by
  have lZ:(dm b).2=0:=by simpa using h1
  rw[dm]at lZ h2⊢
  by_cases g1:sa b.length=false
  ·
   rw[if_pos g1]at lZ;cases lZ
  rw[if_neg g1]at lZ h2⊢
  by_cases g2:pY b=true
  ·
   rw[if_pos g2]at h2;exact absurd rfl h2
  rw[if_neg g2]at lZ h2⊢
  by_cases g3:de (ER b)≠pT (nF b)
  ·
   rw[if_pos g3]at lZ;cases lZ
  rw[if_neg g3]at lZ h2⊢
  by_cases g4:sd b=false
  ·
   rw[if_pos g4]at lZ;cases lZ
  rw[if_neg g4]at lZ h2⊢;have g5:sd b=true:=by simpa using g4
  simp only[sd,anc]at g5;have:=(OC.1 g5.2).2.2.2.1;split
  ·
   simp[jV]
  exact this
 simp only[IJ];omega
theorem PI(l:List (List UInt8)): ∀k,(et l k).new.at_.length<=64/\(et l k).new.gen<281474976710656
 |0=>by simp[et,gH]
 |k+1=>by
  rw[et,xH];split
  ·
   exact YT
  exact PI l k
theorem YU(l:List (List UInt8)):(gp l).2.1.at_.length<=64/\(gp l).2.1.gen<281474976710656:=by
 rw[gp];split
 ·
  exact PI _ _
 split<;>simp[gH]
theorem YV{v:VV}{b:Bool}(h:p0 v=true):dx ⟨v,b⟩:=by
 have hr:=EV h;have ha:= @OU v h;simp only[p0,anc,decide_eq_true_eq]at h;obtain⟨⟨⟨h1,h2⟩,h3⟩,h4⟩:=h;obtain⟨hb,hl,hf⟩:=IP h1;obtain⟨b1,b2,b3,b4⟩:=B7.1 hb;have z7:=YU ((aM {v.ak with off:=false} 0).ae++(aM {v.ak with off:=false} 1).ae)
 rw[hf]at h2 h3 h4;simp only at h2 h3 h4;have hd:=ln hr.1;have ji:4<=(v.ak.blocks.length:Int):=b2;refine⟨hr.1,b2,b3,b4,?_,by rw[←h2];exact z7.2,fun n hn=>?_,by rw[←h4];exact z7.1⟩
 ·
  rw[←h3];have ho0:=gP.1 (Cf hr.1 (b:=0) (by omega) (by omega));have ho1:=gP.1 (Cf hr.1 (b:=1) (by omega) (by omega));have hlen:((aM v.ak 0).ae++(aM v.ak 1).ae).length=(aM v.ak 0).ae.length+(aM v.ak 1).ae.length:=af0;have qU:=OO (l:=(aM v.ak 0).ae++(aM v.ak 1).ae) (by rw[hlen];omega);change 0<=(fy {v.ak with off:=false}).1/\(fy {v.ak with off:=false}).1<_ at qU
  rw[hlen]at qU;have g0:0<=(fy {v.ak with off:=false}).1/v.ak.ae:=arR qU.1 (by omega)
  have g1:(fy {v.ak with off:=false}).1/v.ak.ae<2:=Int.ediv_lt_of_lt_mul (by omega) (by
   have h9:(fy {v.ak with off:=false}).1<(((aM v.ak 0).ae.length+(aM v.ak 1).ae.length:Nat):Int):=qU.2
   omega)
  change(fy {v.ak with off:=false}).1/v.ak.ae=0\/(fy {v.ak with off:=false}).1/v.ak.ae=1
  omega
 by_cases h0:n=0
 ·
  exact .inl h0
 obtain⟨i,hi⟩:=aqj hn;have:=ha hi h0;have hp:=ET.1 this.2.2;exact .inr ⟨this.1,hp.1,hp.2.1⟩
theorem YW{c:CV}(h:(bJ c).2≠0):(bJ c).1=mA:=by
 rw[bJ]at h⊢
 repeat' split
 all_goals first|rfl|(exfalso;simp_all)
theorem YX(c:CV):(if(bJ c).2=0 then(bJ c).1 else mA)=(bJ c).1:=by
 by_cases h:(bJ c).2=0
 ·
  rw[if_pos h]
 rw[if_neg h,YW h]
def uf(t:List Rt)(n id:Nat):List UInt8:=((t.drop (id*n)).take n).flatMap gY
def pd(t:List Rt)(ids n:Nat):List (List UInt8):=(List.range ids).map (uf t n)
def mH(a b:Int):Int:=if a<1\/64<a\/b<20\/240<b then 0 else min (a*(b/20)) 256
def kv(t:List Rt)(ids room:Int):Int:=if bl t=false\/mH ids room=0 then 1 else if mH ids room<t.length then 5 else 0
def lq(t:List Rt)(ids room:Int):List (List UInt8):=if kv t ids room=0 then pd t ids.toNat (room/20).toNat else[]
theorem vQ(t:List Rt)(ids n:Nat):(pd t ids n).length=ids:=by simp[pd]
theorem YY(l:List Rt):(l.flatMap gY).length=20*l.length:=by
 induction l with
 |nil=>rfl
 |cons a l ih=>rw[arZ,af0,ih,r9,apj];omega
theorem YZ(t:List Rt)(n id:Nat):(uf t n id).length=20*min n (t.length -id*n):=by
 rw[uf,YY,apk,apr]
theorem PJ(t:List Rt)(n id:Nat):(uf t n id).length<=20*n:=by rw[YZ];omega
theorem Je{a b:Int}(h: ¬mH a b=0):1<=a/\a<=64/\20<=b/\b<=240/\mH a b=min (a*(b/20)) 256/\1<=b/20/\b/20<=12:=by
 unfold mH at h⊢;split at h
 ·
  exact absurd rfl h
 rename_i hn;rw[if_neg hn];have:1<=b/20/\b/20<=12:=by omega
 exact⟨by omega,by omega,by omega,by omega,rfl,this.1,this.2⟩
theorem Y0{t:List Rt}{r:Rt}{i n id:Nat}(hn:0<n)(hr:t[i]? =some r):uf (t.take (i+1)) n id=uf (t.take i) n id++(if id=i/n then gY r else[]):=by
 have bc:i<t.length:=(ad2.1 hr).1;have e1:t.take (i+1)=t.take i++[r]:=by rw[aps,hr];rfl
 have hd:=arb i n;have hm:=ara i hn;have hc:n*(i/n)=i/n*n:=aqt _ _;unfold uf;have l1:(t.take i).length=i:=by rw[apk];omega
 rw[e1]
 by_cases h1:id=i/n
 ·
  subst h1;have e2:(t.take i++[r]).drop (i/n*n)=(t.take i).drop (i/n*n)++[r]:=List.drop_append_of_le_length (by rw[l1];omega);have e3:((t.take i).drop (i/n*n)++[r]).take n=(t.take i).drop (i/n*n)++[r]:=apy (by rw[af0,apr,l1];simp only[apj,apl];omega);have e4:((t.take i).drop (i/n*n)).take n=(t.take i).drop (i/n*n):=apy (by rw[apr,l1];omega);rw[if_pos rfl,e2,e3,e4];simp
 rw[if_neg h1,apZ];rcases arP h1 with h2|h2
 ·
  have:(id+1)*n<=i/n*n:=apz _ h2;rw[apM]at this;rw[List.drop_append_of_le_length (by rw[l1];omega),List.take_append_of_le_length (by rw[apr,l1];omega)]
 have:(i/n+1)*n<=id*n:=apz _ h2;rw[apM]at this;rw[arW (by rw[af0,l1];simp;omega),arW (by rw[l1];omega)]
theorem Y1{t:List Rt}{r:Rt}{i n ids:Nat}{x:List UInt8}(hn:0<n)(hr:t[i]? =some r)(hx:(pd (t.take i) ids n)[i/n]? =some x):
  pd (t.take (i+1)) ids n=(pd (t.take i) ids n).set (i/n) (x++gY r):=by
 refine ap2 fun j=>?_;rw[aqe];have hk:i/n<ids:=by have:=(ad2.1 hx).1;rwa [vQ]at this
 by_cases hj:j<ids
 ·
  have e: ∀t',(pd t' ids n)[j]? =some (uf t' n j):=fun t'=>by simp[pd,hj]
  rw[e,Y0 hn hr]
  by_cases h:i/n=j
  ·
   subst h;rw[e]at hx;rw[if_pos rfl,if_pos rfl,if_pos (by rw[vQ];exact hk)];rw[api hx]
  ·
   rw[if_neg (fun e=>h e.symm),if_neg h,apZ,e]
 ·
  rw[apt (by rw[vQ];omega),if_neg (by omega),apt (by rw[vQ];omega)]
theorem Y2(t:List Rt)(ids n:Nat):pd (t.take 0) ids n=List.replicate ids []:=by
 refine List.eq_replicate_iff.2 ⟨vQ _ _ _,fun x hx=>?_⟩;obtain⟨j,_,rfl⟩:=aqr.1 hx;simp[uf]
def pe(b:List UInt8):Rt:=⟨⟨if b.getD 0 0=1 then 128 else 32,(b.getD 1 0).toNat,n7 fun i=>(b.getD (2+i) 0).toNat⟩,UInt16.ofNat ((b.getD 18 0).toNat*256+(b.getD 19 0).toNat)⟩
def rd(b:List UInt8):Option Rt:=if b.getD 0 0<=1 then some (pe b)else none
def l0(b:List UInt8):Option (List Rt):=
 if h:b.length<20 then(if b.length=0 then some []else none)
 else match rd (b.take 20),l0 (b.drop 20)with
  |some r,some l=>some (r::l)
  |_,_=>none
termination_by b.length
decreasing_by rw[apr];omega
theorem Y3:l0 []=some []:=by rw[l0];simp
theorem PK{b:List UInt8}(h:20<=b.length):l0 b=(rd (b.take 20)).bind fun r=>(l0 (b.drop 20)).map (r:: ·):=by
 rw[l0,dif_neg (by omega)]
 cases rd (b.take 20)<;>simp
 cases l0 (b.drop 20)<;>simp
theorem PL: ∀(k:Nat) (b:List UInt8),b.length<=k-> ¬b.length%20=0->l0 b=none
 |0,b,h,hm=>by have:b.length=0:=by omega
               rw[this]at hm;simp at hm
 |k+1,b,h,hm=>by
  by_cases h2:b.length<20
  ·
   rw[l0,dif_pos h2,if_neg (fun e=>by rw[e]at hm;simp at hm)]
  rw[PK (by omega),PL k (b.drop 20) (by rw[apr];omega) (by rw[apr];omega)]
  cases rd (b.take 20)<;>rfl
def iI:List (List UInt8)->Option (List Rt)
 |[]=>some []
 |b::r=>(l0 b).bind fun l=>(iI r).map (l++ ·)
theorem Jf: ∀a b:List (List UInt8),iI (a++b)=(iI a).bind fun l=>(iI b).map (l++ ·)
 |[],b=>by simp[iI]
 |x::a,b=>by
  rw[aqs,iI,iI,Jf a b]
  cases l0 x<;>simp
  cases iI a<;>simp
  cases iI b<;>simp
theorem Jg{bs:List (List UInt8)}{i:Nat}{b:List UInt8}(h:bs[i]? =some b):iI (bs.take (i+1))=(iI (bs.take i)).bind fun l=>(l0 b).map (l++ ·):=by
 rw[aps,h,arU,Jf,iI,iI]
 cases iI (bs.take i)with
 |none=>rfl
 |some l=>cases l0 b<;>simp
theorem PM{bs:List (List UInt8)}{i:Nat}(h:iI (bs.take i)=none):iI bs=none:=by
 rw[←apH i bs,Jf,h];rfl
def mI(bs:List (List UInt8)):List Rt:=match iI bs with
 |some t=>if bl t=true then t else[]
 |none=>[]
def pf(bs:List (List UInt8)):Int:=match iI bs with
 |some t=>if bl t=true then 0 else 2
 |none=>2
theorem Fe{bs:List (List UInt8)}(h:iI bs=none):mI bs=[]/\pf bs=2:=by simp[mI,pf,h]
theorem PN{bs:List (List UInt8)}{t:List Rt}(h:iI bs=some t)(hr:bl t=false):mI bs=[]/\pf bs=2:=by simp[mI,pf,h,hr]
theorem PO{bs:List (List UInt8)}{t:List Rt}(h:iI bs=some t)(hr:bl t=true):mI bs=t/\pf bs=0:=by simp[mI,pf,h,hr]
def z8(a b:List (List UInt8))(i:Nat):Option (Int×List UInt8):=if a.getD i []=b.getD i []then none else some ((i:Int),b.getD i [])
def sE(a b:List (List UInt8))(n:Nat):List (Int×List UInt8):=(List.range n).filterMap (z8 a b)
def kW(a b:List (List UInt8)):List (Int×List UInt8):=sE a b (max a.length b.length)
theorem Y4{a b:List (List UInt8)}{n:Nat}(h:a.getD n []=b.getD n []):sE a b (n+1)=sE a b n:=by
 have e:z8 a b n=none:=by rw[z8,if_pos h]
 simp[sE,aq9,e]
theorem Y5{a b:List (List UInt8)}{n:Nat}(h: ¬a.getD n []=b.getD n []):sE a b (n+1)=sE a b n++[((n:Int),b.getD n [])]:=by
 have e:z8 a b n=some ((n:Int),b.getD n []):=by rw[z8,if_neg h]
 simp[sE,aq9,e]
theorem Jh(a b:List (List UInt8))(n:Nat):(sE a b n).length<=n:=by
 have:=List.length_filterMap_le (z8 a b) (List.range n);simpa[sE]using this
def qV(b:List UInt8):Bool:=decide (b.getD 0 0<=1)
def rdv(b:List UInt8):Rt:=if qV b=true then pe b else cP
theorem Y6(b:List UInt8):rd b=if qV b=true then some (pe b)else none:=by simp[rd,qV]
theorem Y7(b:List UInt8):(pe b).bN=w7 (b.getD 18 0) (b.getD 19 0):=rfl
theorem Y8{b:List UInt8}(hb:b.length=20)(v:Int)(hv:v=if b.getD 0 0=1 then 128 else 32):
  (over (((aq cP).setIfInBounds 0 (.int .i64 v)).setIfInBounds 1 (.int .i64 (b.getD 1 0).toNat)) 2 (aF aP ((b.drop 2).take 16)).toArray).setIfInBounds 18 (.int .u16 (w7 (b.getD 18 0) (b.getD 19 0)).toNat)=aq (pe b):=by
 have hk:(aF aP ((b.drop 2).take 16)).toArray.size=16:=by rw[ap1,fX,apk,apr,hb];rfl
 have h0:(aq cP).size=19:=jf _;have hs:2+(aF aP ((b.drop 2).take 16)).toArray.size<=(((aq cP).setIfInBounds 0 (.int .i64 v)).setIfInBounds 1 (.int .i64 (b.getD 1 0).toNat)).size:=by rw[hk];simp[h0]
 refine aqI fun j=>?_;rw[aqa,nf hs,tj hs,hk]
 by_cases B4:18=j
 ·
  subst B4;rw[if_pos rfl,xj,Y7];simp[h0]
 rw[if_neg B4]
 by_cases h2:2<=j/\j<2+16
 ·
  rw[if_pos h2,n8 _ j (by omega),show j=2+(j -2) by omega,pN,ki _ _ (by omega),show 2+(j -2) -2=j -2 by omega];have hg:((b.drop 2).take 16)[j -2]? =some (b.getD j 0):=by
   rw[aqy,if_pos (by omega),apU,show 2+(j -2)=j by omega,List.getD,apF (by omega)];rfl
  have:=ng (enc:=aP) ((b.drop 2).take 16) (j -2) _ hg 0 (by decide);simp only[aqS,aqk]at this;rw[show(aF aP ((b.drop 2).take 16)).toArray[j -2]? =(aF aP ((b.drop 2).take 16))[j -2]?by simp,this];have e:bm (pe b).p.key (j -2)=(b.getD j 0).toNat:=by
   show bm (n7 fun i=>(b.getD (2+i) 0).toNat) (j -2)=_;rw[tu _ _ (by omega),show 2+(j -2)=j by omega];have:=(b.getD j 0).toNat_lt;omega
  rw[e];rfl
 rw[if_neg h2,aqa]
 by_cases h1:1=j
 ·
  subst h1;rw[if_pos rfl,n8 _ 1 (by decide),xi];simp[h0,pe]
 rw[if_neg h1,aqa]
 by_cases hj:0=j
 ·
  subst hj;rw[if_pos rfl,n8 _ 0 (by decide),xf];simp[h0,pe,hv]
 ·
  rw[if_neg hj,aqH (by rw[h0];omega),aqH (by rw[jf];omega)]
theorem PQ{t:List Rt}{ids room:Int}(h:mH ids room=0\/bl t=false):kv t ids room=1/\lq t ids room=[]:=by
 have e:kv t ids room=1:=if_pos h.symm;exact⟨e,by rw[lq,e];rfl⟩
theorem PR{t:List Rt}{ids room:Int}(h: ¬mH ids room=0)(h':bl t=true)(h2:mH ids room<t.length):kv t ids room=5/\lq t ids room=[]:=by
 have e:kv t ids room=5:=by
  rw[kv,if_neg (by simp[h,h']),if_pos h2]
 exact⟨e,by rw[lq,e];rfl⟩
theorem PS{t:List Rt}{ids room:Int}(h: ¬mH ids room=0)(h':bl t=true)(h2: ¬mH ids room<t.length):kv t ids room=0/\lq t ids room=pd t ids.toNat (room/20).toNat:=by
 have e:kv t ids room=0:=by
  rw[kv,if_neg (by simp[h,h']),if_neg h2]
 exact⟨e,by rw[lq,if_pos e]⟩
theorem Y9{s:Sv}{xs:List (Sl UInt8)}{i:Nat}{y:Sl UInt8}:lx (⟨s,xs.set i y⟩:Sl (Sl UInt8))=(xs.map (·.xs)).set i y.xs:=by simp[lx,arx]
def sF(m i:Nat)(nd:Nd)(b:Nat)(a:List Int):Option (List Int):=
 if(nd.sl b).len<0\/4*a.getD i 0+1<(nd.sl b).len then none
 else if nd.nx b=0 then some a
 else if nd.nx b<=(i:Int)\/(m:Int)<=nd.nx b\/a.getD (nd.nx b).toNat 0≠0 then none
 else some (a.set (nd.nx b).toNat (a.getD i 0+1))
def lu(m i:Nat)(nd:Nd):Nat->List Int->Option (List Int)
 |0,a=>some a
 |b+1,a=>(lu m i nd b a).bind (sF m i nd b)
def j7(bits:Int)(ns:List Nd):Nat->Option (List Int)
 |0=>some ((List.replicate ns.length 0).set 0 1)
 |i+1=>(j7 bits ns i).bind fun a=>if a.getD i 0=0\/bits/4<a.getD i 0 then none else lu ns.length i (ns.getD i Nd.zero) 16 a
def j8(bits:Int)(ns:List Nd):Option (List Int):=if(bits=32\/bits=128)/\1<=ns.length/\ns.length<=512 then j7 bits ns ns.length else none
theorem Za{bits:Int}{ns:List Nd}{i:Nat}(h:j7 bits ns i=none): ∀j,i<=j->j7 bits ns j=none:=by
 intro j hj
 induction j with
 |zero=>obtain rfl:i=0:=by omega
        exact h
 |succ j ih=>
  rcases apo j i with h'|h'
  ·
   obtain rfl:i=j+1:=by omega
   exact h
  rw[j7,ih h'];rfl
theorem Zb{m i:Nat}{nd:Nd}{a:List Int}{b:Nat}(h:lu m i nd b a=none): ∀c,b<=c->lu m i nd c a=none:=by
 intro c hc
 induction c with
 |zero=>obtain rfl:b=0:=by omega
        exact h
 |succ c ih=>
  rcases apo c b with h'|h'
  ·
   obtain rfl:b=c+1:=by omega
   exact h
  rw[lu,ih h'];rfl
theorem PT{bits:Int}{ns:List Nd}{i:Nat}(hi:i<=ns.length)(h:j7 bits ns i=none):j8 bits ns=none:=by
 rw[j8];split
 ·
  exact Za h _ hi
 rfl
section
variable {bits:Int} {ns:List Nd} {i:Nat} {a a2:List Int} {nd:Nd}
theorem Zc(hi:i<ns.length)(h:j7 bits ns i=some a)(hx:a.getD i 0=0\/bits/4<a.getD i 0):j8 bits ns=none:=
 PT (i:=i+1) hi (by rw[j7,h,aqN,if_pos hx])
theorem PU{b:Nat}(hi:i<ns.length)(h:j7 bits ns i=some a)(hn:ns[i]? =some nd)(hb:b<16)(h2:lu ns.length i nd b a=some a2)(h3:sF ns.length i nd b a2=none):j8 bits ns=none:=
 PT (i:=i+1) hi (by
  rw[j7,h,aqN];split
  ·
   rfl
  have e:ns.getD i Nd.zero=nd:=by rw[apT,hn];rfl
  rw[e];exact Zb (b:=b+1) (by rw[lu,h2,aqN,h3]) _ hb)
theorem Zd(h:j7 bits ns i=some a)(hn:ns[i]? =some nd)(hx: ¬(a.getD i 0=0\/bits/4<a.getD i 0))(h2:lu ns.length i nd 16 a=some a2):j7 bits ns (i+1)=some a2:=by
 have e:ns.getD i Nd.zero=nd:=by rw[apT,hn];rfl
 rw[j7,h,aqN,if_neg hx,e,h2]
theorem getD_some{α:Type}{xs:List α}{i:Nat}{x d:α}(h:xs[i]? =some x):xs.getD i d=x:=by rw[apT,h];rfl
end
def PW(ns:List Nd):Prop:= ∀(i:Nat) (nd:Nd),ns[i]? =some nd-> ∀b:Nat,b<16->0<=nd.nx b/\nd.nx b<ns.length
theorem Ze{m i:Nat}{nd:Nd}{a a2:List Int}: ∀{n:Nat},lu m i nd n a=some a2-> ∀b,b<n->nd.nx b=0\/(i:Int)<nd.nx b/\nd.nx b<m:=by
 intro n
 induction n generalizing a2 with
 |zero=>intro _ b hb;omega
 |succ n ih=>
  intro h b hb;rw[lu]at h
  cases e:lu m i nd n a with
  |none=>rw[e]at h;cases h
  |some a3=>
   rcases apo b n with h'|h'
   ·
    exact ih e b h'
   obtain rfl:b=n:=by omega
   rw[e,aqN,sF]at h;split at h
   ·
    cases h
   split at h
   ·
    left;assumption
   split at h
   ·
    cases h
   right;omega
theorem Zf{bits:Int}{ns:List Nd}{a:List Int}: ∀{n:Nat},j7 bits ns n=some a-> ∀i nd,i<n->ns[i]? =some nd-> ∀b,b<16->nd.nx b=0\/(i:Int)<nd.nx b/\nd.nx b<ns.length:=by
 intro n
 induction n generalizing a with
 |zero=>intro _ i nd hi;omega
 |succ n ih=>
  intro h i nd hi hn b hb;rw[j7]at h
  cases e:j7 bits ns n with
  |none=>rw[e]at h;cases h
  |some a3=>
   rcases apo i n with h'|h'
   ·
    exact ih e i nd h' hn b hb
   obtain rfl:i=n:=by omega
   rw[e,aqN]at h;split at h
   ·
    cases h
   rw[getD_some hn]at h;exact Ze h b hb
theorem Ff{bits:Int}{ns:List Nd}(h:(j8 bits ns).isSome=true):PW ns/\(bits=32\/bits=128)/\1<=ns.length/\ns.length<=512:=by
 rw[j8]at h;split at h
 ·
  rename_i hc;refine⟨fun i nd hi b hb=>?_,hc⟩;obtain⟨a,ha⟩:=ap9.1 h;have dF:=(ad2.1 hi).1;rcases Zf ha i nd dF hi b hb with h1|h1
  ·
   omega
  omega
 cases h
theorem Zg{m i:Nat}{nd:Nd}{a a2:List Int}: ∀{n:Nat},lu m i nd n a=some a2->a2.getD i 0=a.getD i 0/\ ∀b,b<n->0<=(nd.sl b).len/\(nd.sl b).len<=4*a.getD i 0+1:=by
 intro n
 induction n generalizing a2 with
 |zero=>intro h;rw[lu]at h;exact⟨by rw[api h],fun b hb=>by omega⟩
 |succ n ih=>
  intro h;rw[lu]at h
  cases e:lu m i nd n a with
  |none=>rw[e]at h;cases h
  |some a3=>
   obtain⟨Ji,Zh⟩:=ih e;rw[e,aqN,sF]at h;split at h
   ·
    cases h
   rename_i h1;have ji: ∀b,b<n+1->0<=(nd.sl b).len/\(nd.sl b).len<=4*a.getD i 0+1:=fun b hb=>by
    rcases apo b n with h'|h'
    ·
     exact Zh b h'
    obtain rfl:b=n:=by omega
    rw[←Ji];omega
   split at h
   ·
    exact⟨by rw[←api h];exact Ji,ji⟩
   split at h
   ·
    cases h
   refine⟨?_,ji⟩;rw[←api h,←Ji,apT,apT,aqG (by omega)]
theorem Zi{bits:Int}{ns:List Nd}{a:List Int}: ∀{n:Nat},j7 bits ns n=some a-> ∀(i:Nat) (nd:Nd),i<n->ns[i]? =some nd-> ∀b,b<16->0<=(nd.sl b).len/\(nd.sl b).len<=4*(bits/4)+1:=by
 intro n
 induction n generalizing a with
 |zero=>intro _ i nd hi;omega
 |succ n ih=>
  intro h i nd hi hn b hb;rw[j7]at h
  cases e:j7 bits ns n with
  |none=>rw[e]at h;cases h
  |some a3=>
   rcases apo i n with h'|h'
   ·
    exact ih e i nd h' hn b hb
   obtain rfl:i=n:=by omega
   rw[e,aqN]at h;split at h
   ·
    cases h
   rw[getD_some hn]at h;have:=(Zg h).2 b hb;omega
theorem Zj{bits:Int}{ns:List Nd}(h:(j8 bits ns).isSome=true){i:Nat}{nd:Nd}(hn:ns[i]? =some nd){b:Nat}(hb:b<16):0<=(nd.sl b).len/\(nd.sl b).len<=129:=by
 obtain⟨_,NY,_⟩:=Ff h;rw[j8]at h;split at h
 ·
  obtain⟨a,ha⟩:=ap9.1 h;have:=Zi ha i nd (ad2.1 hn).1 hn b hb;omega
 cases h
def chain(ns:List Nd)(k:Key):Nat->Nat
 |0=>0
 |n+1=>((ns.getD (chain ns k n) Nd.zero).nx (fR k n)).toNat
theorem Fg{ns:List Nd}{k:Key}(h:PW ns)(h0:0<ns.length): ∀n,chain ns k n<ns.length
 |0=>h0
 |n+1=>by
  have ih:=Fg (k:=k) h h0 n;obtain⟨nd,hn⟩: ∃nd,ns[chain ns k n]? =some nd:=⟨ns[chain ns k n],by simp[ih]⟩;have:=h _ nd hn (fR k n) (tG k n);rw[chain,getD_some hn];omega
def Ci(ns:List Nd)(k:Key)(n:Nat):Nat:=((List.range n).find? fun j=>chain ns k (j+1)==0).getD n
theorem Zk{ns:List Nd}{k:Key}{n i:Nat}(hi:i<n)(h: ∀j,j<i->chain ns k (j+1)≠0)(h0:chain ns k (i+1)=0):Ci ns k n=i:=by
 unfold Ci;have:(List.range n).find? (fun j=>chain ns k (j+1)==0)=some i:=by
  rw[List.find?_range_eq_some];exact⟨by simpa using h0,by simpa using hi,fun j hj=>by simpa using h j hj⟩
 rw[this];rfl
theorem Zl{ns:List Nd}{k:Key}{n:Nat}(h: ∀j,j<n->chain ns k (j+1)≠0):Ci ns k n=n:=by
 unfold Ci;have:(List.range n).find? (fun j=>chain ns k (j+1)==0)=none:=by
  rw[List.find?_range_eq_none];intro j hj;simpa using h j hj
 rw[this];rfl
def ug(ns:List Nd)(k:Key)(n:Nat):List Int:=(List.range (n+1)).map fun j=>((chain ns k j:Nat):Int)
theorem Zm(ns:List Nd)(k:Key)(n:Nat):ug ns k (n+1)=ug ns k n++[((chain ns k (n+1):Nat):Int)]:=by simp[ug,aq9]
theorem Cj(ns:List Nd)(k:Key)(n:Nat):(ug ns k n).length=n+1:=by simp[ug]
theorem PX{ns:List Nd}{k:Key}{n i:Nat}(h:i<=n):(ug ns k n)[i]? =some ((chain ns k i:Nat):Int):=by
 simp[ug,show i<n+1 by omega]
def qW(bits:Int)(ns:List Nd)(k:Key):Bool:=(j8 bits ns).isSome&&decide (cV k bits=k)
def lv(bits:Int)(ns:List Nd)(k:Key):List Int:=if qW bits ns k=true then ug ns k (Ci ns k (bits/4).toNat)else[]
def nM(ns:List Nd)(k:Key):Nat->fH
 |0=>fH.no
 |n+1=>let s:=(ns.getD (chain ns k n) Nd.zero).sl (fR k n)
  if(nM ns k n).len<s.len then s else nM ns k n
theorem PY{bits:Int}{ns:List Nd}{k:Key}(h:(j8 bits ns).isSome=true): ∀n,0<=(nM ns k n).len/\(nM ns k n).len<=129
 |0=>by simp[nM,fH.no]
 |n+1=>by
  obtain⟨h1,_,h3,_⟩:=Ff h;have ih:=PY (k:=k) h n;have hl:=Fg (k:=k) h1 (by omega) n;obtain⟨nd,hn⟩: ∃nd,ns[chain ns k n]? =some nd:=⟨ns[chain ns k n],by simp[hl]⟩;have:=Zj h hn (tG k n);simp only[nM,getD_some hn];split<;>omega
theorem PZ{bits:Int}{ns:List Nd}{k:Key}:(lv bits ns k).length=0↔qW bits ns k=false:=by
 unfold lv;split
 ·
  rename_i h;simp[Cj,h]
 rename_i h;simpa using h
theorem Zn{bits:Int}{ns:List Nd}{k:Key}{i:Nat}(h:i<(lv bits ns k).length):(lv bits ns k)[i]? =some ((chain ns k i:Nat):Int):=by
 unfold lv at h⊢;split at h
 ·
  rename_i hk;rw[if_pos hk];rw[Cj]at h;exact PX (by omega)
 simp at h
def xW(bits:Int)(ns:List Nd)(k:Key):fH:=nM ns k (lv bits ns k).length
def qc(bits:Int)(ns:List Nd)(k:Key):Int:=if qW bits ns k=true then(if(xW bits ns k).len=0 then 6 else 0)else 1
def xX(bits:Int)(ns:List Nd)(k:Key):Int:=if qc bits ns k=0 then(xW bits ns k).len -1 else 0
def xY(bits:Int)(ns:List Nd)(k:Key):UInt16:=if qc bits ns k=0 then(xW bits ns k).bN else 0
section
variable {bits:Int} {W:List Wy} {R:List Rt}
end
section
variable {bits:Int} {t:List Rt}
end
def j9(p:Nat->Bool):Nat->Nat->Nat->Nat
 |0,i,_=>i
 |f+1,i,j=>if i<j then(if p ((i+j)/2)=true then j9 p f i ((i+j)/2)else j9 p f ((i+j)/2+1) j)else i
def bs(p:Nat->Bool)(n:Nat):Nat:=j9 p (n+1) 0 n
theorem Fh(p:Nat->Bool): ∀(f g i j:Nat),j -i<f->j -i<g->j9 p f i j=j9 p g i j
 |0,_,_,_,h,_=>by omega
 |_+1,0,_,_,_,h=>by omega
 |f+1,g+1,i,j,h1,h2=>by
  rw[j9,j9];split
  ·
   split
   ·
    exact Fh p f g _ _ (by omega) (by omega)
   exact Fh p f g _ _ (by omega) (by omega)
  rfl
theorem Fi{p:Nat->Bool}{f i j:Nat}(h:i<j)(hf:j -i<f):j9 p f i j=if p ((i+j)/2)=true then j9 p f i ((i+j)/2)else j9 p f ((i+j)/2+1) j:=by
 match f,hf with
 |f+1,hf=>
  rw[j9,if_pos h];split
  ·
   exact Fh p f (f+1) _ _ (by omega) (by omega)
  exact Fh p f (f+1) _ _ (by omega) (by omega)
theorem P0{p:Nat->Bool}{f i j:Nat}(h: ¬i<j)(hf:0<f):j9 p f i j=i:=by
 match f,hf with
 |f+1,_=>rw[j9,if_neg h]
theorem Jj{p:Nat->Bool}{n:Nat}(hm: ∀a b,a<=b->b<n->p a=true->p b=true): ∀(f i j:Nat),j -i<f->i<=j->j<=n->(∀a,a<i->p a=false)->(∀a,j<=a->a<n->p a=true)->
  j9 p f i j<=n/\(∀a,a<j9 p f i j->p a=false)/\ ∀a,j9 p f i j<=a->a<n->p a=true
 |0,_,_,h,_,_,_,_=>by omega
 |f+1,i,j,h,jr,uV,h1,h2=>by
  rw[j9];split
  ·
   rename_i bc;split
   ·
    rename_i hp;exact Jj hm f _ _ (by omega) (by omega) (by omega) h1 fun a ha Zo=>hm _ a ha Zo hp
   ·
    rename_i hp;refine Jj hm f _ _ (by omega) (by omega) uV (fun a ha=>?_) h2
    cases qX:p a with
    |false=>rfl
    |true=>exact absurd (hm a ((i+j)/2) (by omega) (by omega) qX) hp
  ·
   obtain rfl:i=j:=by omega
   exact⟨uV,h1,h2⟩
theorem P1{p:Nat->Bool}{n:Nat}(hm: ∀a b,a<=b->b<n->p a=true->p b=true):bs p n<=n/\(∀a,a<bs p n->p a=false)/\ ∀a,bs p n<=a->a<n->p a=true:=
 Jj hm (n+1) 0 n (by omega) (apE _) (apm _) (fun a ha=>by omega) (fun a h1 h2=>by omega)
def behind(t:List Rt)(q:ba)(j:Nat):Bool:=match t[j]?with
 |some r=> !cC r.p q
 |none=>true
def bW(t:List Rt)(q:ba):Nat:=bs (behind t q) t.length
def gw(t:List Rt)(q:ba):Bool:=match t[bW t q]?with
 |some r=>decide (r.p=q)
 |none=>false
theorem Jk{p:Nat->Bool}: ∀(f i j:Nat),i<=j->j9 p f i j<=j
 |0,_,_,h=>h
 |f+1,i,j,h=>by
  rw[j9];split
  ·
   split
   ·
    exact arv (Jk f _ _ (by omega)) (by omega)
   exact Jk f _ _ (by omega)
  exact h
theorem Jl(t:List Rt)(q:ba):bW t q<=t.length:=Jk _ _ _ (apE _)
theorem P2(t:List Rt)(q:ba):gw t q=(decide (((bW t q:Nat):Int)<(t.length:Int))&&decide ((t.getD (bW t q) cP).p=q)):=by
 rcases apo (bW t q) t.length with h|h
 ·
  have e:t[bW t q]? =some t[bW t q]:=by simp[h]
  rw[gw,e,apT,e];simp[h]
 rw[gw,apt h,decide_eq_false (by omega)];rfl
def Aa(t:List Rt)(k:Key)(bits:Int)(n:Nat):Option Rt:=if gw t ⟨bits,n,cV k n⟩=true then t[bW t ⟨bits,n,cV k n⟩]?else none
def sG(t:List Rt)(k:Key)(bits:Int):Nat->Option Rt
 |0=>Aa t k bits 0
 |n+1=>match Aa t k bits (n+1)with
  |some r=>some r
  |none=>sG t k bits n
def Ab(t:List Rt)(k:Key)(bits:Int):Bool:=bl t&&aZ ⟨bits,bits,k⟩
def Ac(t:List Rt)(k:Key)(bits:Int):Rt:=if Ab t k bits=true then(sG t k bits bits.toNat).getD cP else cP
def Ad(t:List Rt)(k:Key)(bits:Int):Int:=if Ab t k bits=true then(if(sG t k bits bits.toNat).isSome=true then 0 else 6)else 1
theorem Fj{t:List Rt}(h:bl t=true): ∀(i j:Nat) (a b:Rt),i<j->t[i]? =some a->t[j]? =some b->cC a.p b.p=true:=by
 intro i j
 induction j with
 |zero=>intro a b jr;omega
 |succ j ih=>
  intro a b jr ha hb;have gU:=(ad2.1 hb).1;obtain⟨c,hc⟩: ∃c,t[j]? =some c:=⟨t[j],by simp[show j<t.length by omega]⟩;have nN:cC c.p b.p=true:=by
   cases hx:cC c.p b.p with
   |true=>rfl
   |false=>
    have:=DY gU (by rw[Hz hb hc,hx];simp);rw[this]at h;cases h
  rcases apo i j with h1|h1
  ·
   have xZ:=ih a c h1 ha hc;have m1:=rV h (alM ha);have m2:=rV h (alM hb);have m3:=rV h (alM hc);rw[nm m1 m3]at xZ;rw[nm m3 m2]at nN;rw[nm m1 m2];omega
  obtain rfl:i=j:=by omega
  obtain rfl:=api (ha.symm.trans hc);exact nN
theorem kX{p:ba}(h:aZ p=true):cC p p=false:=by
 cases hx:cC p p with
 |false=>rfl
 |true=>rw[nm h h]at hx;omega
theorem P3{t:List Rt}(h:bl t=true){q:ba}(hq:aZ q=true)(a b:Nat)(mU:a<=b)(hb:b<t.length)(ha:behind t q a=true):behind t q b=true:=by
 obtain⟨x,hx⟩: ∃x,t[a]? =some x:=⟨t[a],by simp[show a<t.length by omega]⟩;obtain⟨y,hy⟩: ∃y,t[b]? =some y:=⟨t[b],by simp[hb]⟩;simp only[behind,hx,hy,aqP]at ha⊢;rcases apo a b with h1|h1
 ·
  have hl:=Fj h a b x y h1 hx hy;have m1:=rV h (alM hx);have m2:=rV h (alM hy)
  cases hz:cC y.p q with
  |false=>rfl
  |true=>
   rw[nm m1 m2]at hl;rw[nm m2 hq]at hz;have:cC x.p q=true:=by rw[nm m1 hq];omega
   rw[this]at ha;cases ha
 obtain rfl:a=b:=by omega
 obtain rfl:=api (hx.symm.trans hy);exact ha
theorem Ck{t:List Rt}(h:bl t=true){q:ba}(hq:aZ q=true){r:Rt}(hr:r∈t)(e:r.p=q):t[bW t q]? =some r/\gw t q=true:=by
 obtain⟨h1,h2,h3⟩:=P1 (p:=behind t q) (n:=t.length) fun a b=>P3 h hq a b;obtain⟨i,hi⟩:=ap4.1 hr;have dF:=(ad2.1 hi).1;have e1:bW t q=i:=by
  have P4:behind t q i=true:=by simp only[behind,hi,e,kX hq];rfl
  rcases ar0 (bW t q) i with h4|h4|h4
  ·
   obtain⟨x,hx⟩: ∃x,t[bW t q]? =some x:=⟨t[bW t q],by simp[show bW t q<t.length by omega]⟩;have h5:=h3 (bW t q) (apm _) (by omega);have h6:=Fj h _ _ x r h4 hx hi;simp only[behind,hx]at h5;rw[e]at h6;rw[h6]at h5;cases h5
  ·
   exact h4
  have:=h2 i h4;rw[this]at P4;cases P4
 rw[gw,e1,hi];exact⟨rfl,by simp[e]⟩
theorem sH{t:List Rt}{q:ba}(h:gw t q=true): ∃r∈t,t[bW t q]? =some r/\r.p=q:=by
 rw[gw]at h
 cases e:t[bW t q]?with
 |none=>rw[e]at h;cases h
 |some r=>rw[e]at h;exact⟨r,alM e,rfl,by simpa using h⟩
section
variable {t:List Rt} {k:Key} {bits:Int}
end
structure Ord(t:List Rt):Prop where
 may: ∀r∈t,aZ r.p=true
 less:t.Pairwise fun a b=>cC a.p b.p=true
theorem dM{t:List Rt}(h:bl t=true):Ord t:=⟨fun _ hr=>rV h hr,by
 rw[ap7];intro i j hi hj jr;exact Fj h i j _ _ jr (by simp[hi]) (by simp[hj])⟩
theorem P5{t:List Rt}(h:Ord t)(hl:t.length<=256):bl t=true:=by
 refine ME hl ?_;have key: ∀n,n<=t.length->rN t n=true:=by
  intro n
  induction n with
  |zero=>intro _;rfl
  |succ n ih=>
   intro hn;rw[MC,ih (by omega),aqw];have hi:t[n]? =some t[n]:=by simp[show n<t.length by omega]
   have hm:=h.may _ (alM hi)
   cases n with
   |zero=>rw[MG hi,hm]
   |succ m=>
    have hq:t[m]? =some t[m]:=by simp[show m<t.length by omega]
    rw[Hz hi hq,hm,aqw];exact(ap7.1 h.less) m (m+1) (by omega) (by omega) (by omega)
 exact key _ (apm _)
theorem Ord.sub{s t:List Rt}(h:Ord t)(hs:s.Sublist t):Ord s:=⟨fun r hr=>h.may r (hs.subset hr),h.less.sublist hs⟩
theorem Ord.uniq{t:List Rt}(h:Ord t){a b:Rt}(ha:a∈t)(hb:b∈t)(e:a.p=b.p):a=b:=by
 obtain⟨i,hi,rfl⟩:=aqC ha;obtain⟨j,hj,rfl⟩:=aqC hb;have hp:=ap7.1 h.less;have hm:=h.may _ hb;rcases ar0 i j with h1|h1|h1
 ·
  have:=hp i j hi hj h1;rw[e,kX hm]at this;cases this
 ·
  subst h1;rfl
 have:=hp j i hj hi h1;rw[e,kX hm]at this;cases this
theorem Ord.nodup{t:List Rt}(h:Ord t):t.Nodup:=h.less.imp_of_mem fun{a b} ha _ mU e=>by
 subst e;rw[kX (h.may _ ha)]at mU;cases mU
def Zp(r:Rt)(p:ba):Bool:=decide (r.p≠p)&&UU r.p p
def Zq(t:List Rt)(p:ba):Option Rt:=t.reverse.find? fun r=>Zp r p
def akU(t:List Rt)(r:Rt):Bool:=match Zq t r.p with
 |none=>true
 |some o=> !decide (o.bN=r.bN)
def qd(t:List Rt)(p:ba):Bool:=bl t&&aZ p
def qY(t:List Rt)(p:ba):Option Rt:=if gw t p=true then t[bW t p]?else none
def iQ(t:List Rt)(p:ba):UInt16:=if qd t p=true then((qY t p).getD cP).bN else 0
def hG(t:List Rt)(p:ba):Int:=if qd t p=true then(if(qY t p).isSome=true then 0 else 6)else 1
theorem Zr{t:List Rt}(h:bl t=true){r:Rt}(hr:r∈t):qY t r.p=some r:=by
 obtain⟨h1,h2⟩:=Ck h (rV h hr) hr rfl;rw[qY,if_pos h2,h1]
theorem Jm{t:List Rt}(h:bl t=true){r:Rt}(hr:r∈t):hG t r.p=0/\iQ t r.p=r.bN:=by
 have bI:qd t r.p=true:=by rw[qd,h,rV h hr];rfl
 rw[hG,iQ,if_pos bI,if_pos bI,Zr h hr];exact⟨rfl,rfl⟩
theorem Zs{t:List Rt}(h:bl t=true){p:ba}(he:hG t p=0): ∃r∈t,r.p=p/\iQ t p=r.bN:=by
 unfold hG at he;split at he
 ·
  rename_i bI;split at he
  ·
   rename_i hs;obtain⟨r,hr⟩:=ap9.1 hs;unfold qY at hr;split at hr
   ·
    rename_i hp;obtain⟨q,h1,h2,h3⟩:=sH hp;rw[h2]at hr;cases hr;exact⟨r,h1,h3,by rw[iQ,if_pos bI,qY,if_pos hp,h2];rfl⟩
   cases hr
  cases he
 cases he
structure Ch where
 r:Rt
 gone:Bool
 deriving DecidableEq
def P6:Ch:=⟨cP,false⟩
def eQ(x:Ch):Array Value:=aq x.r++ #[.bool x.gone]
theorem P7(x:Ch):(eQ x).size=20:=by unfold eQ;rw[arG,jf];rfl
theorem Jn(x:Ch)(j:Nat)(h:j<19):(eQ x)[j]? =(aq x.r)[j]? :=by
 unfold eQ;rw[aro (by rw[jf];exact h)]
theorem Zt(x:Ch):(eQ x)[19]? =some (.bool x.gone):=by
 unfold eQ;rw[Array.getElem?_append_right (by rw[jf];omega),jf];rfl
def eE(t:List Rt)(c:Ch):Int:=if aZ c.r.p=true then(if gw t c.r.p=true then 0 else if c.gone=true then 6 else if 256<=t.length then 5 else 0)else 1
def gy(t:List Rt)(c:Ch):List Rt:=
 if eE t c=0 then(if c.gone=true then t.take (bW t c.r.p)++t.drop (bW t c.r.p+1)else if gw t c.r.p=true then t.set (bW t c.r.p) c.r else t.take (bW t c.r.p)++c.r::t.drop (bW t c.r.p))else t
theorem P8{t:List Rt}(h:t.length<=256)(c:Ch):(gy t c).length<=256:=by
 unfold gy;split
 ·
  rename_i he;split
  ·
   simp only[af0,apk,apr];omega
  split
  ·
   simpa using h
  rename_i h1 h2;have:t.length<256:=by
   apply aql;intro hn;unfold eE at he;rw[if_neg h2,if_neg h1,if_pos (show 256<=t.length by omega)]at he;split at he<;>omega
  have hp:=Jl t c.r.p;simp only[af0,apk,apj,apr];omega
 exact h
def kx:List Rt->List Ch->List Rt×Int
 |t,[]=>(t,0)
 |t,c::l=>if eE t c=0 then kx (gy t c) l else(t,eE t c)
theorem P9{t:List Rt}{l:List Ch}{i:Nat}{c:Ch}(hc:l[i]? =some c):kx t (l.drop i)=if eE t c=0 then kx (gy t c) (l.drop (i+1))else(t,eE t c):=by
 obtain⟨hi,rfl⟩:=ad2.1 hc;rw[aqE hi,kx]
def gR(t:List Rt)(l:List Ch):Int:=if bl t=true then(kx t l).2 else 1
def dH(t:List Rt)(l:List Ch):List Rt:=if gR t l=0 then(kx t l).1 else t
end Go.Kb
namespace Go.ay
def sI:Nat->Value->Value->Prop
 |0, .int k _, .int k' _=>k=k'
 |1, .bool _, .bool _=>True
 |2, .string _, .string _=>True
 |_,_,_=>False
def pg:Value->Bool
 | .agg _=>true
 |_=>false
def x7(P:Program)(d:Nat)(t:TypeId)(jk:Bool)(ks:List Nat):Prop:=
 ∀(w:World) (x y:Value),pg x=jk->pg y=jk->x.cells.size=ks.length->y.cells.size=ks.length->
  (∀(i k:Nat),ks[i]? =some k-> ∃u v,x.cells[i]? =some u/\y.cells[i]? =some v/\sI k u v)->
  ∃r:Bool,(Op.equalIn d t x y).run P w= .ok r w/\(r=true↔ ∀i,i<ks.length->x.cells[i]? =y.cells[i]?)
section
variable {P:Program} {d:Nat} {t:TypeId}
theorem cells_one{x:Value}(h:pg x=false):x.cells= #[x]:=by
 cases x<;>simp_all[pg,Value.cells]
theorem Fk{q:IntKind}(hu:P.underlying t=some (.int q)):x7 P (d+1) t false [0]:=fun w x y hx hy _ _ hk=>by
 obtain⟨u,v,h1,h2,h3⟩:=hk 0 0 rfl;rw[cells_one hx]at h1⊢;rw[cells_one hy]at h2⊢;simp at h1 h2;subst h1 h2
 cases x<;>cases y<;>simp only[sI]at h3
 subst h3;exact⟨_,run_equalIn_int w d t _ q _ _ hu,by simp⟩
theorem Zu(hu:P.underlying t=some .bool):x7 P (d+1) t false [1]:=fun w x y hx hy _ _ hk=>by
 obtain⟨u,v,h1,h2,h3⟩:=hk 0 1 rfl;rw[cells_one hx]at h1⊢;rw[cells_one hy]at h2⊢;simp at h1 h2;subst h1 h2
 cases x<;>cases y<;>simp only[sI]at h3
 exact⟨_,run_equalIn_bool' w d t _ _ hu,by simp⟩
theorem Qa{e:TypeId}{jk:Bool}{n:Nat}(hA: ∃de,P.underlying e=some de/\uW de=jk)(hn:(P.info? e).map (·.size)=some n)(h1:jk=false->n=1)
  {xs:Array Value} {off:Nat} (bc:off+n<=xs.size) (hp: ∀i u,off<=i->i<off+n->xs[i]? =some u->pg u=false) (w:World):
  ∃a,(part e xs off).run P w= .ok a w/\pg a=jk/\a.cells.size=n/\ ∀i,i<n->a.cells[i]? =xs[off+i]? :=by
 obtain⟨de,hu,hr⟩:=hA
 cases jk with
 |true=>
  refine⟨.agg (xs.extract off (off+n)),?_,rfl,by simp[Value.cells];omega,fun i hi=>?_⟩
  ·
   simp only[part,Sem.run_bind,Ds w hu,hr,Result.andThen_ok,if_true,kH w hn,Sem.run_pure]
  ·
   simp[Value.cells,Array.getElem?_extract];intro h;omega
 |false=>
  have:=h1 rfl;subst this;have hx:xs[off]? =some xs[off]:=by simp[show off<xs.size by omega]
  have Jo:=hp off _ (apm _) (by omega) hx;refine⟨xs[off],?_,Jo,by rw[cells_one Jo];rfl,fun i hi=>?_⟩
  ·
   simp only[part,Sem.run_bind,Ds w hu,hr,Result.andThen_ok,hx,aqp,if_false,Sem.run_pure]
  ·
   obtain rfl:i=0:=by omega
   rw[cells_one Jo,aqk,hx];rfl
theorem Qb{k:Nat}{u v:Value}(h:sI k u v):pg u=false/\pg v=false:=by
 unfold sI at h;split at h<;>simp_all[pg]
structure ph(P:Program)(d:Nat)(e:TypeId)(jk:Bool)(ks:List Nat):Prop where
 row: ∃de,P.underlying e=some de/\uW de=jk
 size:(P.info? e).map (·.size)=some ks.length
 one:jk=false->ks.length=1
 eq:x7 P d e jk ks
theorem Qc{e:TypeId}{jk:Bool}{ks:List Nat}(he:ph P d e jk ks){xs ys:Array Value}{off:Nat}(hx:off+ks.length<=xs.size)(hy:off+ks.length<=ys.size)
  (hk: ∀(i k:Nat),ks[i]? =some k-> ∃u v,xs[off+i]? =some u/\ys[off+i]? =some v/\sI k u v) (w:World):
  ∃a b r,(part e xs off).run P w= .ok a w/\(part e ys off).run P w= .ok b w/\(Op.equalIn d e a b).run P w= .ok r w/\(r=true↔ ∀i,i<ks.length->xs[off+i]? =ys[off+i]?):=by
 have plain: ∀i,off<=i->i<off+ks.length-> ∃u v k,xs[i]? =some u/\ys[i]? =some v/\sI k u v:=fun i h1 h2=>by
  obtain⟨u,v,h3,h4,h5⟩:=hk (i -off) _ (apF (by omega));rw[show off+(i -off)=i by omega]at h3 h4;exact⟨u,v,_,h3,h4,h5⟩
 obtain⟨a,a1,a2,a3,a4⟩:=Qa he.row he.size he.one hx (fun i u h1 h2 h3=>by
  obtain⟨u',v,k,h4,h5,h6⟩:=plain i h1 h2;rw[h4]at h3;cases h3;exact(Qb h6).1) w
 obtain⟨b,b1,b2,b3,b4⟩:=Qa he.row he.size he.one hy (fun i u h1 h2 h3=>by
  obtain⟨u',v,k,h4,h5,h6⟩:=plain i h1 h2;rw[h5]at h3;cases h3;exact(Qb h6).2) w
 obtain⟨r,r1,r2⟩:=he.eq w a b a2 b2 a3 b3 (fun i k od=>by
  obtain⟨u,v,h1,h2,h3⟩:=hk i k od;have hi:i<ks.length:=(ad2.1 od).1;exact⟨u,v,by rw[a4 i hi];exact h1,by rw[b4 i hi];exact h2,h3⟩)
 refine⟨a,b,r,a1,b1,r1,r2.trans ⟨fun h i hi=>?_,fun h i hi=>?_⟩⟩
 ·
  rw[←a4 i hi,←b4 i hi];exact h i hi
 ·
  rw[a4 i hi,b4 i hi];exact h i hi
theorem Qd{e:TypeId}{jk:Bool}{ks:List Nat}(he:ph P d e jk ks){xs ys:Array Value}(w:World): ∀(is:List Nat),
  (∀j∈is,j*ks.length+ks.length<=xs.size/\j*ks.length+ks.length<=ys.size/\ ∀(i k:Nat),ks[i]? =some k-> ∃u v,xs[j*ks.length+i]? =some u/\ys[j*ks.length+i]? =some v/\sI k u v)->
  ∃r:Bool,(Op.eqItems d e ks.length xs ys is).run P w= .ok r w/\(r=true↔ ∀j∈is,∀i,i<ks.length->xs[j*ks.length+i]? =ys[j*ks.length+i]?)
 |[],_=>⟨true,by simp[Op.eqItems],by simp⟩
 |j::is,h=>by
  obtain⟨h1,h2,h3⟩:=h j (by simp);obtain⟨a,b,r,p1,p2,p3,uh⟩:=Qc he h1 h2 h3 w;obtain⟨r',Jp,Jq⟩:=Qd he w is (fun j' kg=>h j' (by simp[kg]));simp only[Op.eqItems,Sem.run_bind,p1,p2,p3,Result.andThen_ok]
  cases r
  ·
   refine⟨false,by simp,?_⟩;simp only[aqp,false_iff];intro e;exact absurd (uh.2 (e j (by simp))) (by simp)
  ·
   refine⟨r',by simpa using Jp,?_⟩;rw[Jq];have:=uh.1 rfl;constructor
   ·
    intro e j' kg;rcases apn.1 kg with rfl|kg
    ·
     exact this
    ·
     exact e j' kg
   ·
    intro e j' kg;exact e j' (by simp[kg])
theorem zF{ks:List Nat}: ∀{n j i:Nat},j<n->i<ks.length->(List.replicate n ks).flatten[j*ks.length+i]? =ks[i]?
 |0,j,i,h,_=>by omega
 |n+1,0,i,_,hi=>by
  rw[arL,aqx,Nat.zero_mul,apP,apw hi]
 |n+1,j+1,i,h,hi=>by
  rw[arL,aqx,apx (by rw[apM];omega),apM,show j*ks.length+1*ks.length+i -ks.length=j*ks.length+i by omega];exact zF (by omega) hi
theorem Zv{e:TypeId}{n:Nat}{jk:Bool}{ks:List Nat}(hu:P.underlying t=some (.array n e))(he:ph P d e jk ks):x7 P (d+1) t true (List.replicate n ks).flatten:=fun w x y hx hy sx sy hk=>by
 cases x<;>simp only[pg,aqp]at hx
 cases y<;>simp only[pg,aqp]at hy
 rename_i xs ys;simp only[Value.cells]at sx sy hk⊢;have hl:(List.replicate n ks).flatten.length=n*ks.length:=by simp
 rw[hl]at sx sy⊢;obtain⟨i,hi⟩: ∃i,P.info? e=some i:=by
  cases h:P.info? e with
  |none=>have:=he.size;simp[h]at this
  |some i=>exact⟨i,rfl⟩
 have hc:P.cellsOf e=ks.length:=by have:=he.size;simp[Program.cellsOf,hi]at this⊢;exact this
 have bound: ∀j,j<n->j*ks.length+ks.length<=n*ks.length:=fun j hj=>by
  rw[←Nat.succ_mul];exact apz _ hj
 obtain⟨r,hr,uh⟩:=Qd he (xs:=xs) (ys:=ys) w (List.range n) (fun j hj=>by
  have kg:=aqi.1 hj;have:=bound j kg;refine⟨by omega,by omega,fun i k od=>?_⟩;have dF:i<ks.length:=(ad2.1 od).1;exact hk (j*ks.length+i) k (by rw[zF kg dF];exact od))
 refine⟨r,by rw[run_equalIn_array w d xs ys hu hi,hc];exact hr,uh.trans ⟨fun h q hq=>?_,fun h j hj i hi=>?_⟩⟩
 ·
  have I0:0<ks.length:=by
   rcases aqq ks.length with h0|h0
   ·
    rw[h0]at hq;omega
   exact h0
  have h1:q/ks.length<n:=arI (by rw[aqt];exact hq);have h2:=h (q/ks.length) (aqi.2 h1) (q%ks.length) (ara _ I0);rw[Nat.div_add_mod']at h2;exact h2
 have:=bound j (aqi.1 hj);exact h _ (by omega)
def Fl(P:Program)(d:Nat):Nat->List Field->List Nat->Prop
 |_,[],ks=>ks=[]
 |off,f::fs,ks=>f.name≠ "_" ∧f.offset=off∧ ∃jk k1 k2,ks=k1++k2∧ph P d f.type jk k1∧Fl P d (off+k1.length) fs k2
theorem Qe{xs ys:Array Value}(w:World): ∀(fs:List Field) (off:Nat) (ks:List Nat),Fl P d off fs ks->off+ks.length<=xs.size->off+ks.length<=ys.size->
  (∀(i k:Nat),ks[i]? =some k-> ∃u v,xs[off+i]? =some u/\ys[off+i]? =some v/\sI k u v)->
  ∃r:Bool,(Op.eqFields d xs ys fs).run P w= .ok r w/\(r=true↔ ∀i,i<ks.length->xs[off+i]? =ys[off+i]?)
 |[],off,ks,h,_,_,_=>by
  simp only[Fl]at h;subst h;exact⟨true,by simp[Op.eqFields],by simp⟩
 |f::fs,off,ks,h,hx,hy,hk=>by
  obtain⟨hn,ho,jk,k1,k2,rfl,hp,Ea⟩:=h;simp only[af0]at hx hy;obtain⟨a,b,r,p1,p2,p3,uh⟩:=Qc hp (xs:=xs) (ys:=ys) (off:=off) (by omega) (by omega) (fun i k od=>by
   have hi:i<k1.length:=(ad2.1 od).1;exact hk i k (by rw[apw hi];exact od)) w
  obtain⟨r',Jp,Jq⟩:=Qe (xs:=xs) (ys:=ys) w fs (off+k1.length) k2 Ea (by omega) (by omega) (fun i k od=>by
   have:=hk (k1.length+i) k (by rw[apx (by omega)];simpa using od);rw[aqK];exact this)
  subst ho;simp only[Op.eqFields,hn,ne_eq,not_false_eq_true,if_true,Sem.run_bind,p1,p2,p3,Result.andThen_ok]
  cases r
  ·
   refine⟨false,by simp,?_⟩;simp only[aqp,false_iff];intro e;exact absurd (uh.2 fun i hi=>e i (by simp;omega)) (by simp)
  ·
   refine⟨r',by simpa using Jp,?_⟩;rw[Jq];have:=uh.1 rfl;simp only[af0];constructor
   ·
    intro e i hi
    by_cases h1:i<k1.length
    ·
     exact this i h1
    ·
     have:=e (i -k1.length) (by omega);rw[show f.offset+k1.length+(i -k1.length)=f.offset+i by omega]at this;exact this
   ·
    intro e i hi;have:=e (k1.length+i) (by omega);rw[aqK];exact this
theorem Jr{fs:Array Field}{ks:List Nat}(hu:P.underlying t=some (.struct fs))(hp:P.stoodInHeld t=false)(hf:Fl P d 0 fs.toList ks):x7 P (d+1) t true ks:=fun w x y hx hy sx sy hk=>by
 cases x<;>simp only[pg,aqp]at hx
 cases y<;>simp only[pg,aqp]at hy
 rename_i xs ys;simp only[Value.cells]at sx sy hk⊢;have pj:P.fieldsOf t=fs:=by simp[Program.fieldsOf,hu]
 obtain⟨r,hr,uh⟩:=Qe (xs:=xs) (ys:=ys) w fs.toList 0 ks hf (by omega) (by omega) (fun i k od=>by
  have:=hk i k od;simpa using this)
 refine⟨r,?_,by simpa using uh⟩;rw[run_equalIn_struct w d t xs ys (by rw[pj];exact hu) hp,pj];exact hr
theorem x7.val{jk:Bool}{ks:List Nat}(h:x7 P 10000 t jk ks)(hA:jk=true)(hg:P.eqGuardType P.depth t=false){xs ys:Array Value}{r:Bool}(sx:xs.size=ks.length)(sy:ys.size=ks.length)
  (hk: ∀(i k:Nat),ks[i]? =some k-> ∃u v,xs[i]? =some u/\ys[i]? =some v/\sI k u v) (hr:xs=ys↔r=true):wU P t (.agg xs) (.agg ys) r where
 h w:=by
  subst hA;obtain⟨q,h1,h2⟩:=h w (.agg xs) (.agg ys) rfl rfl sx sy hk;have:q=r:=by
   rw[Bool.eq_iff_iff,h2,←hr];simp only[Value.cells];constructor
   ·
    intro e;apply aqI;intro i
    by_cases hi:i<ks.length
    ·
     exact e i hi
    ·
     simp[show ¬i<xs.size by omega,show ¬i<ys.size by omega]
   ·
    rintro rfl i _;rfl
  rw[h1,this]
 plain:=hg
 agg:=⟨xs,ys,rfl,rfl⟩
end
end Go.ay
namespace Go.Proofs.YtkggjjnhnjjokaaGreatDoor
open Go.ay Go.Kb
instance (k:Key):eU (bR k) 16:=⟨fD k,by
 rw[apR];intro v hv;simp only[bR,List.mem_toArray,aqr]at hv;obtain⟨i,_,rfl⟩:=hv;rfl⟩
instance (p:ba):eU (bV p) 18:=⟨oL p,by
 have h:(bR p.key).all (·.oneCell')=true:=(inferInstance:eU (bR p.key) 16).one;rw[bV,Array.all_append,h];simp[Value.oneCell']⟩
instance (p:ba):bK (bV p) 0 (.int .i64 p.bits):=⟨xf p⟩
instance (p:ba):bK (bV p) 1 (.int .i64 p.len):=⟨xi p⟩
instance (p:ba):mn (bV p) 2 16 (bR p.key):=⟨fD _,fun j _=>pN p j⟩
theorem Zw(d:Nat):ph Tryz.prog (d+1) 5 false [0]:=⟨⟨_,Tryz.underlying5,rfl⟩,by kernel_rfl,fun _=>rfl,Fk Tryz.underlying5⟩
theorem Qf(d:Nat):ph Tryz.prog (d+1) 3 false [0]:=⟨⟨_,Tryz.underlying3,rfl⟩,by kernel_rfl,fun _=>rfl,Fk Tryz.underlying3⟩
theorem Qg(d:Nat):ph Tryz.prog (d+1+1) 25 true (List.replicate 16 [0]).flatten:=⟨⟨_,Tryz.underlying25,rfl⟩,by kernel_rfl,(fun h=>by cases h),Zv Tryz.underlying25 (Zw d)⟩
theorem Zx:Tryz.prog.stoodInHeld 32=false:=by kernel_rfl
theorem Qh(d:Nat):ph Tryz.prog (d+1+1+1) 32 true ([0]++([0]++((List.replicate 16 [0]).flatten++[]))):=⟨⟨_,Tryz.underlying32,rfl⟩,by kernel_rfl,(fun h=>by cases h),
 Jr Tryz.underlying32 Zx ⟨by decide,rfl,_,_,_,rfl,Qf _,by decide,rfl,_,_,_,rfl,Qf _,by decide,rfl,_,_,_,rfl,Qg _,rfl⟩⟩
theorem Zy:Tryz.prog.eqGuardType Tryz.prog.depth 25=false:=by kernel_rfl
theorem Zz:Tryz.prog.eqGuardType Tryz.prog.depth 32=false:=by kernel_rfl
instance (a b:Key):wU Tryz.prog 25 (.agg (bR a)) (.agg (bR b)) (decide (a=b)):=
 (Qg 9998).eq.val rfl Zy (fD a) (fD b) (fun i k hk=>by
  have hi:i<16:=(ad2.1 hk).1;have h0:k=0:=by
   have:k∈(List.replicate 16 [0]).flatten:=alM hk;simpa using this
  subst h0;exact⟨_,_,ki a i hi,ki b i hi,rfl⟩) (by rw[decide_eq_true_iff];exact⟨Mu,fun h=>by rw[h]⟩)
instance (a b:ba):wU Tryz.prog 32 (.agg (bV a)) (.agg (bV b)) (decide (a=b)):=
 (Qh 9997).eq.val rfl Zz (oL a) (oL b) (fun i k hk=>by
  have h0:k=0:=by
   have:k∈([0]++([0]++((List.replicate 16 [0]).flatten++[]))):=alM hk;simpa using this
  subst h0;have hi:i<18:=(ad2.1 hk).1
  match i,hi with
  |0,_=>exact⟨_,_,xf a,xf b,rfl⟩
  |1,_=>exact⟨_,_,xi a,xi b,rfl⟩
  |j+2,hi=>rw[Nat.add_comm j 2];exact⟨_,_,(pN a j).trans (ki _ j (by omega)),(pN b j).trans (ki _ j (by omega)),rfl⟩) (by rw[decide_eq_true_iff];exact⟨Mx,fun h=>by rw[h]⟩)
theorem vR:bR 0#128=(List.replicate 16 (Value.int .u8 0)).toArray:=by
 apply arh;simp only[bR];refine List.eq_replicate_iff.2 ⟨by simp,fun v hv=>?_⟩;simp only[aqr]at hv;obtain⟨i,_,rfl⟩:=hv;simp[bm]
instance (n m:Int)(k:Key):lJ Tryz.prog 32 [(0, .int .i64 n),(1, .int .i64 m),(2, .agg (bR k))] (.agg (bV ⟨n,m,k⟩)):=⟨fun w=>by kernel_rfl⟩
instance:dz Tryz.prog 25 (.agg (bR 0#128)):=⟨by rw[vR];kernel_rfl⟩
instance:dz Tryz.prog 32 (.agg (bV ⟨0,0,0#128⟩)):=⟨by unfold bV;rw[vR];kernel_rfl⟩
theorem ZA(n:Int):n5 Tryz.prog 126 [.int .i64 n] (.bool (decide (n=32)||decide (n=128))):=⟨fun w=>by
 refine cw Tryz.func126 rfl Tryz.ntmps126 rfl ?_;refine aT ?_;refine bo rfl rfl rfl (fun hg=>(bf rfl).yl) (bo rfl rfl rfl (fun hg=>(du (aw hg rfl) rfl rfl).yl) (al ?_));refine eM (.inl rfl) (jt rfl rfl) (fun w hw=>?_);exact⟨rfl,hw.sub (apO _)⟩⟩
instance akV(n:Int):n5 Tryz.prog 126 [.int .i64 n] (.bool (decide (n=32)||decide (n=128))):=ZA n
theorem ZB(k:Key)(h:Nat)(hh:h<=16):over (bR 0#128) 0 ((bR k).extract 0 h)=bR (cV k ((8*h:Nat):Int)):=by
 refine Hw (by simp[over,fD];omega) fun i hi=>?_;have hl:((bR k).extract 0 h).size=h:=by simp[fD];omega
 rw[By k (8*h) i hi];simp only[over,hl,apK,apV,apP,aqA]
 by_cases h1:i<h
 ·
  rw[apw (by simp[fD];omega),if_pos oM];have:=ki k i hi;simpa[h1]using this
 rw[apx (by simp[fD];omega),if_neg oM];have h2:(bR 0#128)[i]? =some (.int .u8 ((0:Nat):Int)):=by rw[ki _ i hi];simp[bm]
 simp only[aqO,hl,apU,show h+(i -h)=i by omega];rw[Array.getElem?_toList,h2]
 by_cases h3:8*i<=8*h
 ·
  rw[if_pos h3,show 8 -(8*h -8*i)=8 by omega,Nat.div_eq_of_lt (jv k i),Nat.zero_mul]
 rw[if_neg h3]
theorem ZC(b r:Nat)(hb:b<256)(hr:r<=8):kG .andNot .u8 b ((255/2^r:Nat):Int)=some (.int .u8 ((b/2^(8 -r)*2^(8 -r):Nat):Int)):=by
 have hm:255/2^r<256:=arq (Nat.div_le_self _ _) oM;rw[TR hb hm];have key:b&&&(256 -1 -255/2^r)=b/2^(8 -r)*2^(8 -r):=by
  have e1:255/2^r=2^(8 -r) -1:=by
   match r,hr with
   |0,_|1,_|2,_|3,_|4,_|5,_|6,_|7,_|8,_=>rfl
   |n+9,h=>omega
  rw[e1];apply aru;intro j;have e2:256 -1 -(2^(8 -r) -1)=2^8 -(2^(8 -r) -1+1):=by omega
  rw[Nat.testBit_and,e2,Nat.testBit_two_pow_sub_succ (by have:2^(8 -r)<=2^8:=aqo (by decide) oM;have:=Nat.two_pow_pos (8 -r);omega),Nat.testBit_two_pow_sub_one,Nat.testBit_mul_two_pow,ari]
  by_cases hj:8 -r<=j
  ·
   simp only[hj,show ¬j<8 -r by omega,decide_true,decide_false,Bool.not_false,Bool.and_true,aqw,show j -(8 -r)+(8 -r)=j by omega]
   by_cases h8:j<8
   ·
    simp[h8]
   have:b.testBit j=false:=aqX (ap0 hb (by have:=aqo (n:=2) (by decide) (show 8<=j by omega);simpa using this));simp[this]
  simp[hj,show j<8 -r by omega]
 show some (Value.int .u8 ((b&&&(256 -1 -255/2^r):Nat):Int))=_;rw[key]
theorem ZD(k:Key)(n:Int)(h0:1<=n)(h1:n<128)(h2:0<n%8):(bR (cV k ((8*(n/8).toNat:Nat):Int))).setIfInBounds (n/8).toNat (.int .u8 ((bm k (n/8).toNat/2^(8 -(n%8).toNat)*2^(8 -(n%8).toNat):Nat):Int))=bR (cV k n):=by
 have hb:=jv k (n/8).toNat;rw[UM _ _ _ oM (arq (Nat.div_mul_le_self _ _) hb)];congr 1;refine tt fun i hi=>?_;rw[Hv _ _ _ i hi (arq (Nat.div_mul_le_self _ _) hb),By k _ i hi];have e:cV k n=cV k ((n.toNat:Nat):Int):=by rw[Int.toNat_of_nonneg oM]
 rw[e,By k n.toNat i hi]
 by_cases hj:i=(n/8).toNat
 ·
  rw[if_pos hj,if_neg oM,if_pos oM,hj,show n.toNat -8*(n/8).toNat=(n%8).toNat by omega]
 rw[if_neg hj]
 by_cases bc:i<(n/8).toNat
 ·
  rw[if_pos oM,if_pos oM]
 rw[if_neg oM,if_neg oM,if_neg oM,if_neg oM]
theorem ZE(k:Key)(n:Int)(h0:1<=n)(h2: ¬0<n%8):cV k ((8*(n/8).toNat:Nat):Int)=cV k n:=by
 congr 1;omega
theorem ZF(k:Key)(n:Int):n5 Tryz.prog 22 [.agg (bR k), .int .i64 n] (.agg (bR (cV k n))):=⟨fun w=>by
 refine cz Tryz.func22 rfl Tryz.ntmps22 rfl ?_;refine Gc ?_;refine bH rfl fun b2=>bn fun b4=>au ?_;refine gW rfl (fun h0=>?_) (fun h0=>?_)
 ·
  have h0:=of_decide_eq_true h0;refine au ?_;refine eM (.inl rfl) (DE rfl rfl) (fun w hw=>?_);exact⟨by rw[Mv k n oM],hw.sub (apO _)⟩
 have h0:=of_decide_eq_false h0;refine Gc ?_;refine bn fun b5=>au ?_;refine gW rfl (fun h1=>?_) (fun h1=>?_)
 ·
  have h1:=of_decide_eq_true h1;refine au ?_;refine eM (.inl rfl) (DE rfl rfl) (fun w hw=>?_);exact⟨by rw[DU k n oM],hw.sub (apO _)⟩
 have h1:=of_decide_eq_false h1;refine av ?_;refine ag (lf rfl rfl oM oM) (Gs ?_);refine iN ?_;refine wX 4 [] oK oK ?_;simp only[aqg,apK];refine Gq ?_;refine bx (LC rfl rfl oM oM) (Gq ?_);refine bx (LC rfl rfl oM oM) (u5 (u6 ?_));simp only[aq8,aqB];refine G2 (vs:=(bR k).extract 0 (n/8).toNat) rfl rfl (by have e:Nat.min (n/8).toNat (n/8).toNat=(n/8).toNat:=Nat.min_self _;rw[e,Array.size_extract,fD];omega) (fun w hw j hj=>by rw[Addr.gg,hw.cell (Has.h (b:=b2)),apP];simp at hj;simp[hj]) (TW (eU.one (cs:=bR k)) _ _) (by rw[Array.size_extract,fD,fD];omega) (ZB k _ oM) (av ?_);refine ag (yS rfl rfl oM oM) (aH ?_);refine gW rfl (fun h2=>?_) (fun h2=>?_)
 ·
  have h2:=of_decide_eq_true h2;refine wX 8 [] oK oK ?_;simp only[aqg,apK];refine av ?_;refine bx (oG rfl rfl oM oM) (bx (yP rfl (ki _ _ oM)) (Gq ?_));refine bx (oI (p:=255) rfl rfl (by decide) oM) (bx (du rfl rfl (ZC _ _ (jv _ _) oM)) (bx (oG rfl rfl oM oM) (u5 (u6 ?_))));simp only[aq8,aqB];refine dR rfl rfl (by rw[fD];omega) rfl (ZD k n oM oM h2) (au ?_);refine eM (.inl rfl) (DE rfl rfl) (fun w hw=>?_);exact⟨rfl,hw.sub (apO _)⟩
 have h2:=of_decide_eq_false h2;refine au ?_;refine eM (.inl rfl) (DE rfl rfl) (fun w hw=>?_);exact⟨by rw[ZE k n oM h2],hw.sub (apO _)⟩⟩
instance akW(k:Key)(n:Int):n5 Tryz.prog 22 [.agg (bR k), .int .i64 n] (.agg (bR (cV k n))):=ZF k n
theorem ZG(k:Key)(n:Int):n5 Tryz.prog 125 [.agg (bR k), .int .i64 n] (.int .i64 (ic k n)):=⟨fun w=>by
 refine cz Tryz.func125 rfl Tryz.ntmps125 rfl ?_;refine Gc ?_;refine bH rfl fun b2=>aH ?_;refine bo rfl rfl rfl (fun hg=>(bf rfl).yl) (bo rfl rfl rfl (fun hg=>(du (aw hg rfl) rfl rfl).yl) (av ?_));refine gW rfl (fun h0=>?_) (fun h0=>?_)
 ·
  simp at h0;refine al ?_;refine eM (.inl rfl) (jt rfl rfl) (fun w hw=>?_);exact⟨by rw[UP k n oM],hw.sub (apO _)⟩
 simp at h0;refine av ?_;refine ag (lf rfl rfl oM oM) (ag (oG rfl rfl oM oM) (ag (yP rfl (ki _ _ oM)) (ag (iA rfl (ap0 (jv _ _) (by decide))) (al ?_))));refine ag (yS rfl rfl oM oM) (av ?_);refine gW rfl (fun h1=>?_) (fun h1=>?_)
 ·
  simp at h1;refine av ?_;refine ag (oI rfl rfl (ap0 (jv _ _) (by decide)) oM) (av ?_);refine eM (.inl rfl) (jt rfl rfl) (fun w hw=>?_);exact⟨by rw[US k n oM oM oM];rfl,hw.sub (apO _)⟩
 simp at h1;refine av ?_;refine ag (LG (q:=15) rfl rfl rfl rfl (ap0 (jv _ _) (by decide)) (by decide)) (av ?_);refine eM (.inl rfl) (jt rfl rfl) (fun w hw=>?_);exact⟨by rw[UT k n oM oM oM,←Nat.and_two_pow_sub_one_eq_mod _ 4],hw.sub (apO _)⟩⟩
instance akX(k:Key)(n:Int):n5 Tryz.prog 125 [.agg (bR k), .int .i64 n] (.int .i64 (ic k n)):=ZG k n
theorem ZH(p:ba):n5 Tryz.prog 57 [.agg (bV p)] (.bool (aZ p)):=⟨fun w=>by
 refine cw Tryz.func57 rfl Tryz.ntmps57 rfl ?_;refine Gc ?_;refine bH rfl fun b1=>au ?_;refine dv (yQ rfl) (av ?_);refine bo rfl rfl rfl (fun hg=>(aK (o':=1) rfl rfl).yl) (bo rfl rfl rfl (fun hg=>(bQ (aw hg rfl)).yl) (bo rfl rfl rfl (fun hg=>(du (aw hg rfl) rfl rfl).yl) (av ?_)));refine bo rfl rfl rfl (fun hg=>(aK (o':=1) rfl rfl).yl) (bo rfl rfl rfl (fun hg=>(bQ (aw hg rfl)).yl) (bo rfl rfl rfl (fun hg=>(aK (o':=0) rfl rfl).yl) (bo rfl rfl rfl (fun hg=>(bQ (aw hg rfl)).yl) (bo rfl rfl rfl (fun hg=>(du (aw hg rfl) (aw hg rfl) rfl).yl) (av ?_)))));refine gW rfl (fun h0=>?_) (fun h0=>?_)
 ·
  refine al ?_;refine eM (.inl rfl) (jt rfl rfl) (fun w hw=>?_);refine⟨?_,hw.sub (apO _)⟩;have:aZ p=false:=by unfold aZ;simp at h0⊢;omega
  rw[this]
 refine Gc ?_;refine fA oK oK (Gq ?_);refine bx (gE rfl) (av ?_);refine pI (yQ rfl) (Gq ?_);refine bx (gE rfl) (bx (Dv rfl rfl) (av ?_));refine eM (.inl rfl) (jt rfl rfl) (fun w hw=>?_);refine⟨?_,hw.sub (apO _)⟩;congr 2;unfold aZ;simp at h0⊢;obtain⟨⟨h1,h2⟩,h3⟩:=h0;simp[h2,h3,show p.bits=32\/p.bits=128 by omega]⟩
instance akY(p:ba):n5 Tryz.prog 57 [.agg (bV p)] (.bool (aZ p)):=ZH p
open Go.RowKit
def qZ(k:Key):List Int:=(List.range 16).map fun i=>(bm k i:Int)
theorem Qi(k:Key)(j:Nat)(x:Int)(h:(qZ k)[j]? =some x):j<16/\x=bm k j:=by
 have hl:j<16:=by have:=(ad2.1 h).1;simpa[qZ]using this
 refine⟨hl,?_⟩;simp[qZ,hl]at h;exact h.symm
theorem ZI{x y:UInt8}{xs ys:List UInt8}:Lib.compareBytes (x::xs) (y::ys)=if x.toNat<y.toNat then -1 else if y.toNat<x.toNat then 1 else Lib.compareBytes xs ys:=by
 simp[Lib.compareBytes,UInt8.lt_iff_toNat_lt]
theorem Qj(a b:Key): ∀(n i:Nat),i+n=16->(∀j,j<i->bm a j=bm b j)->
  Lib.compareBytes ((List.range' i n).map fun j=>(bm a j).toUInt8) ((List.range' i n).map fun j=>(bm b j).toUInt8)=pO a b
 |0,i,hi,hs=>by
  have:a=b:=tt fun j hj=>hs j (by omega);subst this;simp[Lib.compareBytes,pO]
 |n+1,i,hi,hs=>by
  have ha:=jv a i;have hb:=jv b i;rw[List.range'_succ,apY,apY,ZI];have ea:(bm a i).toUInt8.toNat=bm a i:=by simp;omega
  have eb:(bm b i).toUInt8.toNat=bm b i:=by simp;omega
  rw[ea,eb]
  by_cases h1:bm a i<bm b i
  ·
   rw[if_pos h1];have:=Mz (by omega) hs h1;unfold pO;rw[if_pos this]
  ·
   rw[if_neg h1]
   by_cases h2:bm b i<bm a i
   ·
    rw[if_pos h2];have:=Mz (by omega) (fun j hj=>(hs j hj).symm) h2;unfold pO;rw[if_neg (by omega),if_pos this]
   ·
    rw[if_neg h2];exact Qj a b n (i+1) (by omega) fun j hj=>by
     by_cases e:j=i
     ·
      subst e;omega
     ·
      exact hs j (by omega)
theorem Qk(k:Key):(⟨ByteArray.empty.data++(Lib.bytesOf (qZ k)).toArray⟩:ByteArray).data.toList=(List.range' 0 16).map fun j=>(bm k j).toUInt8:=by
 simp[Lib.bytesOf,qZ,List.range_eq_range']
theorem ZJ(a b:Key)(p q:Addr)(c c':Nat)(w:World)(hp: ∀j,j<16->w.cell? (p.add j)=some (.int .u8 (bm a j)))(hq: ∀j,j<16->w.cell? (q.add j)=some (.int .u8 (bm b j))):
  Calls Tryz.prog 66 [.slice (some p) 16 c, .slice (some q) 16 c'].toArray w fun e w'=>e= .returned (.int .i64 (pO a b))/\Mem w [] w':=by
 refine w3 (args:=[_,_]) Tryz.func66 rfl Tryz.ntmps66 rfl ?_;change Cw _ _ _ _ _ [(0, .slice (some p) 16 c),(1, .slice (some q) 16 c')] [];refine Dz ?_;refine DA ?_;refine ag (gN rfl) ?_;refine Dx ?_;refine DC ?_;refine Dz ?_;refine DA ?_;refine ag (bf rfl) ?_;refine ag (bf rfl) ?_;refine ag (v:= .int .i64 (pO a b)) ?_ ?_
 ·
  intro aa w1 ha hw;have oo: ∀j,j<16->w1.cell? (p.add j)=some (.int .u8 (bm a j)):=fun j hj=>by
   rw[←hp j hj];exact hw.below.cell (block_lt_of_cell (hp j hj))
  have ZK: ∀j,j<16->w1.cell? (q.add j)=some (.int .u8 (bm b j)):=fun j hj=>by
   rw[←hq j hj];exact hw.below.cell (block_lt_of_cell (hq j hj))
  have r1:=Lib.run_loadBytesX (P:=Tryz.prog) w1 (qZ a) p .empty (fun j x hx=>by obtain⟨h1,rfl⟩:=Qi a j x hx;exact oo j h1);have r2:=Lib.run_loadBytesX (P:=Tryz.prog) w1 (qZ b) q .empty (fun j x hx=>by obtain⟨h1,rfl⟩:=Qi b j x hx;exact ZK j h1);have l1:(qZ a).length=16:=by simp[qZ]
  have l2:(qZ b).length=16:=by simp[qZ]
  rw[l1]at r1;rw[l2]at r2;have e5:=ha.ev (x:= .tmp 5) (v:= .slice (some p) 16 c) rfl;have e6:=ha.ev (x:= .tmp 6) (v:= .slice (some q) 16 c') rfl;have fN:(callFunc 136 #[.slice (some p) 16 c, .slice (some q) 16 c']).run Tryz.prog w1= .ok (.value (.int .i64 (pO a b))) w1:=by
   rw[run_callFunc_extern Tryz.func136 (by kernel_rfl) (by kernel_rfl) (by kernel_rfl) (e:=Extern.BytealgCompare.compare) (by kernel_rfl)];have:(Extern.BytealgCompare.compare #[.slice (some p) 16 c, .slice (some q) 16 c']).run Tryz.prog w1= .ok (.int .i64 (pO a b)) w1:=by
    change Sem.run Tryz.prog (do pure (goInt (Extern.BytealgCompare.cmp (←Extern.Bytes.bytesOf (.slice (some p) 16 c)) (←Extern.Bytes.bytesOf (.slice (some q) 16 c'))))) w1=_;simp only[Extern.Bytes.bytesOf,Sem.run_bind,r1,r2,Sem.run_pure,Result.andThen];rw[Lib.cmp_eq,Qk,Qk,Qj a b 16 0 rfl (fun j h=>by omega)];rfl
   rw[this];rfl
  simp[execOp,resolve,Act.eval,Deferred.ofValue,invoke]at e5 e6⊢;rw[e5,e6,fN]
 refine ag (gN rfl) ?_;refine Dx ?_;refine DC ?_;refine G4 ?_;refine eM (.inl rfl) (jt rfl rfl) (fun w hw=>?_);exact⟨rfl,hw.sub (apO _)⟩
theorem Ql{w0 w:World}{L:List aj}{b:Nat}{p:ba}{T:TypeId}{i:Nat}(hw:Mem w0 L w)[hh:Has L b (bV p) T i](j:Nat)(hj:j<16):w.cell? ((⟨b,2,none⟩:Addr).add j)=some (.int .u8 (bm p.key j)):=by
 rw[Addr.gg,hw.cell hh.h,pN,ki _ j hj]
theorem Js{p q:ba}(h1:aZ p=true)(h2:aZ q=true):cC p q=(if p.bits≠q.bits then decide (p.bits=32)else if p.key≠q.key then decide (p.key.toNat<q.key.toNat)else decide (p.len<q.len)):=by
 unfold cC;rw[h1,h2];rfl
theorem ZL(p q:ba):n5 Tryz.prog 58 [.agg (bV p), .agg (bV q)] (.bool (cC p q)):=⟨fun w=>by
 refine cz Tryz.func58 rfl Tryz.ntmps58 rfl ?_;refine Gc ?_;refine bH rfl fun b2=>bH rfl fun b3=>al ?_;refine dv (yQ rfl) (av ?_);refine bo rfl rfl rfl (fun hg=>(fW rfl).yl) (bo rfl rfl rfl (fun hg=>yQ (cZ (aw hg rfl) fu)) (bo rfl rfl rfl (fun hg=>(iz (aw hg rfl)).yl) (av ?_)));refine gW rfl (fun h0=>?_) (fun h0=>?_)
 ·
  simp at h0;refine al ?_;refine eM (.inl rfl) (jt rfl rfl) (fun w hw=>?_);refine⟨?_,hw.sub (apO _)⟩;have:cC p q=false:=by unfold cC;cases h1:aZ p<;>cases h2:aZ q<;>simp_all
  rw[this]
 simp at h0;obtain⟨m1,m2⟩:=h0;refine cx ?_;refine gW rfl (fun h1=>?_) (fun h1=>?_)
 ·
  simp at h1;refine aT ?_;refine eM (.inl rfl) (jt rfl rfl) (fun w hw=>?_);exact⟨by rw[Js m1 m2,if_pos h1],hw.sub (apO _)⟩
 simp at h1;refine Gc ?_;refine fA oK oK (Gq ?_);refine bx (wV rfl) (Gq ?_);refine bx (wV rfl) (pI (Du rfl (fun w hw=>ZJ p.key q.key _ _ _ _ w (Ql hw) (Ql hw))) (aH ?_));refine gW rfl (fun h2=>?_) (fun h2=>?_)
 ·
  simp at h2;refine aH ?_;refine eM (.inl rfl) (jt rfl rfl) (fun w hw=>?_);exact⟨by rw[Js m1 m2,if_neg (by simpa using h1),if_pos (fun e=>h2 ((MB _ _).2 e)),decide_eq_decide.2 (UW _ _)],hw.sub (apO _)⟩
 simp at h2;refine dP ?_;refine eM (.inl rfl) (jt rfl rfl) (fun w hw=>?_);exact⟨by rw[Js m1 m2,if_neg (by simpa using h1),if_neg (by simpa using(MB _ _).1 h2)],hw.sub (apO _)⟩⟩
instance akZ(p q:ba):n5 Tryz.prog 58 [.agg (bV p), .agg (bV q)] (.bool (cC p q)):=ZL p q
instance ak0:dz Tryz.prog 22 (.slice none 0 0):=⟨by kernel_rfl⟩
instance ak1:eB Tryz.prog 22 34 19 40:=⟨Tryz.underlying22,by kernel_rfl⟩
instance ak2:eB Tryz.prog 42 32 18 32:=⟨Tryz.underlying42,by kernel_rfl⟩
instance ak3:eB Tryz.prog 45 47 20 48:=⟨Tryz.underlying45,by kernel_rfl⟩
instance ak4:dz Tryz.prog 53 (.slice none 0 0):=⟨by kernel_rfl⟩
instance ak5:eB Tryz.prog 53 5 1 1:=⟨Tryz.underlying53,by kernel_rfl⟩
instance ak6:eB Tryz.prog 56 180 4 48:=⟨Tryz.underlying56,by kernel_rfl⟩
instance ak7:eB Tryz.prog 57 97 4 16:=⟨Tryz.underlying57,by kernel_rfl⟩
instance ak8:eB Tryz.prog 60 3 1 8:=⟨Tryz.underlying60,by kernel_rfl⟩
instance ak9:eB Tryz.prog 122 225 48 384:=⟨Tryz.underlying122,by kernel_rfl⟩
instance ala:eB Tryz.prog 178 53 1 24:=⟨Tryz.underlying178,by kernel_rfl⟩
instance alb:eB Tryz.prog 191 269 2 32:=⟨Tryz.underlying191,by kernel_rfl⟩
instance alc:eB Tryz.prog 287 22 1 24:=⟨Tryz.underlying287,by kernel_rfl⟩
instance ald:eB Tryz.prog 366 60 1 24:=⟨Tryz.underlying366,by kernel_rfl⟩
instance ale:eB Tryz.prog 396 178 1 24:=⟨Tryz.underlying396,by kernel_rfl⟩
instance alf:eB Tryz.prog 399 402 4 32:=⟨Tryz.underlying399,by kernel_rfl⟩
instance alg:eB Tryz.prog 443 433 1 8:=⟨Tryz.underlying443,by kernel_rfl⟩
instance:bk aq 19:=⟨jf,fun r=>by
 have h:(bV r.p).all (·.oneCell')=true:=(inferInstance:eU (bV r.p) 18).one;rw[aq,Array.all_append,h];simp[Value.oneCell']⟩
instance:Deep Rt:=Deep.flat aq 19
instance:fG Rt aq 19:=⟨rfl,fun _=>rfl⟩
instance (r:Rt):eU (aq r) 19:=⟨jf r,bk.one r⟩
instance (r:Rt):mn (aq r) 0 18 (bV r.p):=⟨oL _,fun j hj=>by rw[apP];exact n8 r j hj⟩
instance (r:Rt):bK (aq r) 18 (.int .u16 r.bN.toNat):=⟨xj r⟩
instance (r:Rt):bK (aq r) 0 (.int .i64 r.p.bits):=⟨(n8 r 0 (by decide)).trans (xf r.p)⟩
instance (r:Rt):bK (aq r) 1 (.int .i64 r.p.len):=⟨(n8 r 1 (by decide)).trans (xi r.p)⟩
instance (r:Rt):mn (aq r) 2 16 (bR r.p.key):=⟨fD _,fun j hj=>(n8 r (2+j) (by omega)).trans (pN r.p j)⟩
theorem ZM(d:Nat):ph Tryz.prog (d+1) 27 false [0]:=⟨⟨_,Tryz.underlying27,rfl⟩,by kernel_rfl,fun _=>rfl,Fk Tryz.underlying27⟩
theorem ZN:Tryz.prog.stoodInHeld 34=false:=by kernel_rfl
theorem ZO(d:Nat):ph Tryz.prog (d+1+1+1+1) 34 true (([0]++([0]++((List.replicate 16 [0]).flatten++[])))++([0]++[])):=⟨⟨_,Tryz.underlying34,rfl⟩,by kernel_rfl,(fun h=>by cases h),
 Jr Tryz.underlying34 ZN ⟨by decide,rfl,_,_,_,rfl,Qh _,by decide,rfl,_,_,_,rfl,ZM _,rfl⟩⟩
theorem ZP:Tryz.prog.eqGuardType Tryz.prog.depth 34=false:=by kernel_rfl
instance (a b:Rt):wU Tryz.prog 34 (.agg (aq a)) (.agg (aq b)) (decide (a=b)):=
 (ZO 9996).eq.val rfl ZP (jf a) (jf b) (fun i k hk=>by
  have h0:k=0:=by
   have:k∈(([0]++([0]++((List.replicate 16 [0]).flatten++[])))++([0]++[])):=alM hk;simpa using this
  subst h0;have hi:i<19:=(ad2.1 hk).1
  match i,hi with
  |0,_=>exact⟨_,_,(inferInstance:bK (aq a) 0 _).h,(inferInstance:bK (aq b) 0 _).h,rfl⟩
  |1,_=>exact⟨_,_,(inferInstance:bK (aq a) 1 _).h,(inferInstance:bK (aq b) 1 _).h,rfl⟩
  |j+2,hi=>
   rcases apo j 16 with h|h
   ·
    rw[Nat.add_comm j 2];exact⟨_,_,(n8 a _ (by omega)).trans ((pN a.p j).trans (ki _ j h)),(n8 b _ (by omega)).trans ((pN b.p j).trans (ki _ j h)),rfl⟩
   obtain rfl:j=16:=by omega
   exact⟨_,_,xj a,xj b,rfl⟩) (by rw[decide_eq_true_iff];exact⟨U0,fun h=>by rw[h]⟩)
instance:lJ Tryz.prog 34 [] (.agg (aq cP)):=⟨fun w=>by unfold aq bV cP;rw[vR];kernel_rfl⟩
instance (p:ba)(h:UInt16):lJ Tryz.prog 34 [(0, .agg (bV p)),(1, .int .u16 h.toNat)] (.agg (aq ⟨p,h⟩)):=⟨fun w=>by kernel_rfl⟩
instance:dz Tryz.prog 34 (.agg (aq cP)):=⟨by unfold aq bV cP;rw[vR];kernel_rfl⟩
end Go.Proofs.YtkggjjnhnjjokaaGreatDoor

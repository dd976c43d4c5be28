/- Part of a proof. -/
import Derived.Test.YtkggjjnhnjjokaaGreatDoorF2
import Derived.Test.YtkggjjnhnjjokaaGreatDoorF1
import Derived.DeepKeys
import Derived.Lib.BytesEntry
set_option maxRecDepth 20000
set_option linter.unusedSimpArgs false
set_option linter.unusedVariables false
namespace Go.au
open Go.RowKit
section
variable {α:Type} {enc:α->Array Value} {c:Nat}
theorem VT{P:Program}{t tx ty e:TypeId}{ct:Nat}(ht:eF P t e c ct)[he:bo enc c]{w0 w:World}{L:List ai}{i:Nat}{s:Sv}{xs ys:List α}{x:Value}
  (hw:Mem w0 L w) (hi:L[i]? =some (own enc c s xs)) (hs:Src P c tx x ys.length (aI enc ys) w) (hn:s.nil=false) (mK:s.len+ys.length<=s.cap) (hU:s.len+ys.length<=140737488355328):
  ∃w',(Builtin.append_ #[t,tx] ty #[s.val,x]).run P w= .ok (Sv.val {s with len:=s.len+ys.length}) w'/\Mem w0 (L.set i (own enc c {s with len:=s.len+ys.length} (xs++ys))) w':=by
 obtain⟨r,mJ⟩:=hw.get hi;obtain⟨i',z,aW,aB,bm,cJ,lT⟩:=ht.info;subst bm cJ;have hlen:=r.len;have hle:=r.ok.le;obtain⟨fU,cs,T,fz,fm,eL,ln,nH⟩:=mJ hn;have hmul:(s.len+ys.length)*i'.size<=s.cap*i'.size:=anp _ mK;have dD:(aI enc ys).length=ys.length*i'.size:=gE ys;have iu:s.o+s.len*i'.size+(aI enc ys).toArray.size<=cs.size:=by
  rw[an1,dD];rw[anF]at hmul;omega
 have bw:=Ao (P:=P) s.b (s.o+s.len*i'.size) T fz (aI enc ys) 0 cs w fm ln (by simpa using iu) hs.one;have Ap:(storeCells ⟨s.b,s.o+s.len*i'.size,none⟩ (aI enc ys)).run P w= .ok () (w.setRow s.b (over cs (s.o+s.len*i'.size) (aI enc ys).toArray)):=by
  simpa[over]using bw
 refine⟨w.setRow s.b (over cs (s.o+s.len*i'.size) (aI enc ys).toArray),?_,?_⟩
 ·
  have kp:({s with len:=s.len+ys.length}:Sv).val= .slice (some ⟨s.b,s.o,s.sp⟩) (s.len+ys.length) s.cap:=Sv.gT (s:={s with len:=s.len+ys.length}) hn
  rw[Sv.gT hn,kp,fU];rcases hs.kind with⟨e',hk⟩|hk<;>simp[Builtin.append_,run_underlying ht.dU,run_underlying hk,sizeOf,typeInfo,aW,hs.len,mK,hs.cells,Addr.fS,Ap]
 ·
  have cN:hp (w.setRow s.b (over cs (s.o+s.len*i'.size) (aI enc ys).toArray)) s.b=some (.cells (over cs (s.o+s.len*i'.size) (aI enc ys).toArray) T fz):=setRow_heap w s.b cs _ T fz fm;refine hw.change hi (fun k hk=>hk) (fun k hk=>?_) (by simp[World.setRow]) ⟨rfl,rfl,rfl⟩ ⟨uK ⟨(fun h=>by rw[hn]at h;cases h),mK,by simp only;omega,r.ok.sp⟩ (by simp[hlen]) cN fun k y hy j hj=>?_,fun _=>⟨fU,_,_,_,cN,?_,by rw[mH iu];exact ln,nH⟩⟩
  ·
   exact setRow_other w s.b k _ (fun e=>hk ⟨hn,e⟩)
  ·
   rw[sO iu]
   by_cases hk:k<xs.length
   ·
    rw[if_neg,←r.row k y (by rw[ann hk]at hy;exact hy) j hj]
    ·
     unfold mF;rw[fm]
    ·
     have:(k+1)*i'.size<=s.len*i'.size:=anp _ (by omega);rw[anF]at this;intro h;have:=h.1;simp only at this;omega
   ·
    rw[anr (by omega)]at hy;have wq:=mI (enc:=enc) ys (k -xs.length) y hy j hj;have uL:s.len*i'.size+(k -xs.length)*i'.size=k*i'.size:=by rw[←anF];congr 1;omega
    have aZ:(k -xs.length+1)*i'.size<=ys.length*i'.size:=anp _ (by have:=(ad2.1 hy).1;omega);rw[anF]at aZ;rw[if_pos ⟨by simp only;omega,by rw[an1,dD];simp only;omega⟩,←wq];simp only[aol];congr 1;omega
  ·
   rw[mH iu];exact eL
theorem VU{P:Program}{w0 w:World}{L:List ai}{i:Nat}{s:Sv}{xs ys:List α}[he:bo enc c]{k:Nat}(hw:Mem w0 L w)(hi:L[i]? =some (own enc c s xs))(hn:s.nil=false)(hk:k+ys.length<=xs.length):
  ∃w',(storeCells ⟨s.b,s.o+k*c,none⟩ (aI enc ys)).run P w= .ok () w'/\Mem w0 (L.set i (own enc c s (xs.take k++(ys++xs.drop (k+ys.length))))) w':=by
 obtain⟨r,mJ⟩:=hw.get hi;have hlen:=r.len;have hle:=r.ok.le;obtain⟨fU,cs,T,fz,fm,eL,ln,nH⟩:=mJ hn;have hmul:(k+ys.length)*c<=s.cap*c:=anp _ (by omega);have dD:(aI enc ys).length=ys.length*c:=gE ys;have iu:s.o+k*c+(aI enc ys).toArray.size<=cs.size:=by
  rw[an1,dD];rw[anF]at hmul;omega
 have ry: ∀v∈aI enc ys,v.oneCell'=true:=uJ ys;have bw:=Ao (P:=P) s.b (s.o+k*c) T fz (aI enc ys) 0 cs w fm ln (by simpa using iu) ry;have Ap:(storeCells ⟨s.b,s.o+k*c,none⟩ (aI enc ys)).run P w= .ok () (w.setRow s.b (over cs (s.o+k*c) (aI enc ys).toArray)):=by
  simpa[over]using bw
 refine⟨_,Ap,?_⟩;have cN:hp (w.setRow s.b (over cs (s.o+k*c) (aI enc ys).toArray)) s.b=some (.cells (over cs (s.o+k*c) (aI enc ys).toArray) T fz):=setRow_heap w s.b cs _ T fz fm;have qw:(xs.take k++(ys++xs.drop (k+ys.length))).length=xs.length:=by simp only[af0,anj,ant];omega
 refine hw.change hi (fun k hk=>hk) (fun k hk=>?_) (by simp[World.setRow]) ⟨rfl,rfl,rfl⟩ ⟨uK r.ok (by rw[qw];exact hlen) cN fun m y hy j hj=>?_,fun _=>⟨fU,_,_,_,cN,?_,by rw[mH iu];exact ln,nH⟩⟩
 ·
  exact setRow_other w s.b k _ (fun e=>hk ⟨hn,e⟩)
 ·
  rw[sO iu];rcases anl m k with h1|h1
  ·
   have wY:xs[m]? =some y:=by
    rw[ann (by rw[anj];omega),apg,if_pos h1]at hy;exact hy
   rw[if_neg,←r.row m y wY j hj]
   ·
    unfold mF;rw[fm]
   ·
    have:(m+1)*c<=k*c:=anp _ (by omega);rw[anF]at this;intro h;have:=h.1;omega
  ·
   rcases anl m (k+ys.length)with h2|h2
   ·
    have wY:ys[m -k]? =some y:=by
     rw[anr (by rw[anj];omega),anj,apB (by omega),ann (by omega)]at hy;exact hy
    have wq:=mI (enc:=enc) ys (m -k) y wY j hj;have uL:k*c+(m -k)*c=m*c:=by rw[←anF];congr 1;omega
    have aZ:(m -k+1)*c<=ys.length*c:=anp _ (by omega);rw[anF]at aZ;rw[if_pos ⟨by omega,by rw[an1,dD];omega⟩,←wq];simp only[aol];congr 1;omega
   ·
    have wY:xs[m]? =some y:=by
     rw[anr (by rw[anj];omega),anj,apB (by omega),anr (by omega),aom]at hy;rw[←hy];congr 1;omega
    rw[if_neg,←r.row m y wY j hj]
    ·
     unfold mF;rw[fm]
    ·
     have:(k+ys.length)*c<=m*c:=anp _ h2;rw[anF]at this;intro h;have:=h.2;rw[an1,dD]at this;omega
 ·
  rw[mH iu];exact eL
end
section
variable {P:Program} {N:bO} {w0:World} {env:Env} {L:List ai} {l:List Oper} {Q:Exit->Act->World->Prop} {rest:List Oper} {d:Option Tmp} {ty:TypeId} {ps:String} {af:Array Edge} {gd:Option (Nat×Bool)} {K:Value->List ai->Prop}
variable {α:Type} {enc:α->Array Value} {c:Nat} {s:Sv} {xs ys:List α}
theorem VW{t tx e:TypeId}{x y:Operand}{yv:Value}{ct i:Nat}[ht:eF P t e c ct][he:bo enc c](hx:ev env x=some s.val)(hy:ev env y=some yv)[q:dV L s enc c xs i]
  (hs: ∀w,Mem w0 L w->Src P c tx yv ys.length (aI enc ys) w) (hn:s.nil=false) (mK:s.len+ys.length<=s.cap) (hU:s.len+ys.length<=140737488355328) {L':List ai} [hu:eM L i (own enc c {s with len:=s.len+ys.length} (xs++ys)) L']
  (hk:K (Sv.val {s with len:=s.len+ys.length}) L'):
  gG P N w0 env L ⟨d, .call {callee:= .builtin .append,args:= #[x,y],argTypes:= #[t,tx]},ty,ps,af,gd⟩ K:=
 uX fun a w ha hw=>by
  obtain⟨w',h1,h4⟩:=VT (ty:=ty) ht hw q.h (hs w hw) hn mK hU;refine⟨_,w',L',?_,by rw[←hu.h];exact h4,hk⟩;simp[execOp,ha.ev hx,ha.ev hy,resolve,invoke,builtin,h1,Result.andThen]
theorem VX{t tx e:TypeId}{x y:Operand}{yv:Value}{ct i:Nat}[ht:eF P t e c ct][he:bo enc c](hx:ev env x=some s.val)(hy:ev env y=some yv)[q:dV L s enc c xs i]
  (hs: ∀w,Mem w0 L w->Src P c tx yv ys.length (aI enc ys) w) (hn:s.nil=false) (mK:s.len+ys.length<=s.cap) (hU:s.len+ys.length<=140737488355328) {L':List ai} [hu:eM L i (own enc c {s with len:=s.len+ys.length} (xs++ys)) L']
  (hk:Sq P N w0 l Q rest (bZ env d (Sv.val {s with len:=s.len+ys.length})) L') (hd:cL N d=true:=by rfl):
  Sq P N w0 l Q (⟨d, .call {callee:= .builtin .append,args:= #[x,y],argTypes:= #[t,tx]},ty,ps,af,none⟩::rest) env L:=
 L9 rfl hd (VW hx hy hs hn mK hU hk)
theorem M7{D S rm:Sv}{x y:Operand}{tx fD e:TypeId}{i k:Nat}{ys:List α}[he:bo enc c](hx:ev env x=some D.val)(mS:D.nil=false)(mT:D.sp=none)(oC:D.b=rm.b)(qt:D.o=rm.o+k*c)(hy:ev env y=some S.val)[ht:ez P tx e c][q:dV L rm enc c xs i][hS:Hd w0 L S enc c ys](hc:0<c)(hn:rm.nil=false)(h0:0<ys.length)(hl:ys.length<=D.len)(ji:k+ys.length<=xs.length)
  {L':List ai} [hu:eM L i (own enc c rm (xs.take k++(ys++xs.drop (k+ys.length)))) L'] (hk:K (.int .i64 ys.length) L'):
  gG P N w0 env L ⟨d, .call {callee:= .builtin .copy,args:= #[x,y],argTypes:= #[tx,fD]},ty,ps,af,gd⟩ K:=
 uX fun a w ha hw=>by
  have hs:=hS.h w hw;have AS:=hs.some h0;have kQ:=hs.len;have AT:=hs.ok.sp (by have:=hs.ok.le;omega);rw[Sv.gT mS,mT,oC,qt]at hx;rw[Sv.gT AS,AT]at hy;obtain⟨w',h1,h2⟩:=VU (P:=P) hw q.h hn ji;rw[hu.h]at h2;refine⟨_,w',L',?_,h2,hk⟩;have DM:=run_loadCells_list (P:=P) w ⟨S.b,S.o,none⟩ (aI enc ys) (fun j v hj=>by
   obtain⟨z,hz,hv⟩:=CJ hc hj;rw[Addr.fS,sN,←hv,←hs.row _ z hz (j%c) (aoP _ hc)];congr 1;have:=aoW j c;rw[an0]at this;omega)
  rw[gE]at DM
  cases hq:P.info? e with
  |none=>have:=ht.size;simp[hq]at this
  |some i'=>
   have hi:i'.size=c:=by have:=ht.size;simpa[hq]using this
   have Ad:Nat.min S.len D.len=ys.length:=by rw[kQ];exact apB hl
   have fC:(Builtin.copy_ #[tx,fD] ty #[.slice (some ⟨rm.b,rm.o+k*c,none⟩) D.len D.cap, .slice (some ⟨S.b,S.o,none⟩) S.len S.cap]).run P w= .ok (goInt ys.length) w':=by
    simp[Builtin.copy_,run_underlying ht.dU,Builtin.lenOf,Builtin.firstCells,sizeOf,typeInfo,hq,hi,Ad,DM,h1]
   simp[execOp,ha.ev hx,ha.ev hy,resolve,invoke,builtin,fC,Result.andThen,goInt]
theorem VY{D S rm:Sv}{x y:Operand}{tx fD e:TypeId}{i k:Nat}{ys:List α}[he:bo enc c](hx:ev env x=some D.val)(mS:D.nil=false)(mT:D.sp=none)(oC:D.b=rm.b)(qt:D.o=rm.o+k*c)(hy:ev env y=some S.val)[ht:ez P tx e c][q:dV L rm enc c xs i][hS:Hd w0 L S enc c ys](hc:0<c)(hn:rm.nil=false)(h0:0<ys.length)(hl:ys.length<=D.len)(ji:k+ys.length<=xs.length)
  {L':List ai} [hu:eM L i (own enc c rm (xs.take k++(ys++xs.drop (k+ys.length)))) L'] (hk:Sq P N w0 l Q rest (bZ env d (.int .i64 ys.length)) L') (hd:cL N d=true:=by rfl):
  Sq P N w0 l Q (⟨d, .call {callee:= .builtin .copy,args:= #[x,y],argTypes:= #[tx,fD]},ty,ps,af,none⟩::rest) env L:=
 L9 rfl hd (M7 hx mS mT oC qt hy hc hn h0 hl ji hk)
end
theorem Mem.yN{w0 w:World}{L:List ai}{e:ai}{es:List ai}(h:Mem w0 (e::ai.all es::L) w):Mem w0 (ai.all (es++[e])::L) w:=by
 have h1:Mem w0 (ai.all (e::es)::L) w:=Mem.Vd h;rw[Mem.Au]at h1⊢;exact h1.perm ((List.perm_append_singleton e es).symm.append_right L)
theorem Mem.DN{w0 w:World}{L:List ai}{e e':ai}(hf: ∀k,e'.fp k->e.fp k)(hs:(e.sat fun k=>w.heap[k]?)->e'.sat fun k=>w.heap[k]?)(h:Mem w0 (e::L) w):Mem w0 (e'::L) w:=by
 have hd:=anM.1 h.nD;refine⟨h.below,fun x he=>?_,fun x he k hk=>?_,anM.2 ⟨fun y hy k hk=>hd.1 y hy k (hf k hk),hd.2⟩⟩
 ·
  rcases ank.1 he with rfl|he
  ·
   exact hs (h.sat e (by simp))
  exact h.sat x (by simp[he])
 rcases ank.1 he with rfl|he
 ·
  exact h.iT e (by simp) k (hf k hk)
 exact h.iT x (by simp[he]) k hk
end Go.au
namespace Go.Kb
open Go.au
theorem M8{w0 w:World}{L:List ai}{s rm:Sv}{l:List (List UInt8)}{xs:List (Sl UInt8)}(hx:xs=cV rm 0 l)(hn:rm.nil=false)(h:Mem w0 (own (bQ (τ:=UInt8)) 1 s xs::own aP 1 rm l.flatten::L) w):Mem w0 (eG ⟨s,xs⟩::L) w:=by
 have ht:aL xs=l:=by rw[hx,va]
 have h1:=h.perm (List.Perm.swap _ _ _);have h2:Mem w0 (yL ⟨s,xs⟩::own (bQ (τ:=UInt8)) 1 s xs::L) w:=Mem.DN (fun k hk=>by
  obtain⟨x,qp,rfl⟩:=hk;exact⟨hn,DH rm 0 l x (hx▸qp)⟩) (fun hs=> .inr ⟨rm,hn,by simp only[ht];exact hx,by simp only[ht];exact hs⟩) h1
 exact Mem.wz.2 (h2.perm (List.Perm.swap _ _ _))
theorem VZ{w0 w:World}{L:List ai}{s:Sv}(h:Mem w0 (own (bQ (τ:=UInt8)) 1 s []::L) w):Mem w0 (eG ⟨s,[]⟩::L) w:=by
 refine Mem.wz.2 (Mem.perm (Mem.DN (e:= .emp) (e':=yL ⟨s,[]⟩) (fun k hk=>?_) (fun _=> .inl rfl) (Mem.As.2 h)) (List.Perm.swap _ _ _));obtain⟨x,hx,_⟩:=hk
 cases hx
theorem V0{w0 w:World}{L:List ai}{a:Sl (Sl UInt8)}(cc:a.xs≠[])(h:Mem w0 (eG a::L) w): ∃rm:Sv,(rm.nil=false/\rm.sp=none/\a.xs=cV rm 0 (aL a.xs))/\Mem w0 (own (bQ (τ:=UInt8)) 1 a.sv a.xs::own aP 1 rm (aL a.xs).flatten::L) w:=by
 have h1:=Mem.wz.1 h;have hr:=h1.sat (yL a) (by simp);rcases hr with hr|⟨rm,g1,g2,g3⟩
 ·
  exact absurd hr cc
 refine⟨rm,⟨g1,(g3.2 g1).1,g2⟩,?_⟩;have h2:=h1.perm (List.Perm.swap _ _ _);obtain⟨x,l,Hx⟩:=List.exists_cons_of_ne_nil cc;have hm:x∈a.xs:=by rw[Hx];simp
 have hb:x.sv.b=rm.b:=DH rm 0 _ x (g2▸hm);exact(Mem.DN (e:=yL a) (e':=own aP 1 rm (aL a.xs).flatten) (fun k hk=>⟨x,hm,by rw[hb];exact hk.2⟩) (fun _=>g3) h2).perm (List.Perm.swap _ _ _)
theorem DO: ∀{l:List (List UInt8)} {i:Nat} {q r:List UInt8},l[i]? =some q->r.length=q.length->(l.set i r).flatten=l.flatten.take (l.take i).flatten.length++(r++l.flatten.drop ((l.take i).flatten.length+r.length))
 |y::l,0,q,r,h,hr=>by
  obtain rfl:y=q:=by simpa using h
  simp[hr]
 |y::l,i+1,q,r,h,hr=>by
  have:=DO (l:=l) (i:=i) (q:=q) (r:=r) (by simpa using h) hr;simp only[List.set_cons_succ,aow,this,aoo,af0];rw[List.take_length_add_append,aoD,List.drop_length_add_append,anv]
theorem DP{rm:Sv}: ∀{o:Nat} {l:List (List UInt8)} {i:Nat} {q:List UInt8},l[i]? =some q->(cV rm o l)[i]? =some ⟨win rm (o+(l.take i).flatten.length) (o+(l.take i).flatten.length+q.length),q⟩
 |o,y::l,0,q,h=>by
  obtain rfl:y=q:=by simpa using h
  simp[cV]
 |o,y::l,i+1,q,h=>by
  have:=DP (rm:=rm) (o:=o+y.length) (l:=l) (i:=i) (q:=q) (by simpa using h);simp only[cV,List.getElem?_cons_succ,this,aoo,aow,af0,aoD]
def M9(l:List (List UInt8)):Prop:=l.length<=1000000/\l.flatten.length<=1000000
theorem A3{l:List (List UInt8)}{i:Nat}{q:List UInt8}(h:l[i]? =some q):(l.take (i+1)).flatten.length=(l.take i).flatten.length+q.length:=by
 rw[anq,h];simp
theorem A4(l:List (List UInt8))(i:Nat):(l.take i).flatten.length<=l.flatten.length:=by
 have:l.flatten=(l.take i).flatten++(l.drop i).flatten:=by rw[←List.flatten_append,anO]
 rw[this,af0];omega
theorem V1{rm:Sv}{l:List (List UInt8)}{n i:Nat}{r q:List UInt8}(hn:n=l.length)(hr:r=(l.take i).flatten)(h:l[i]? =some q):(cV rm 0 (l.take i)++List.replicate (n -i) (⟨Sv.none,[]⟩:Sl UInt8)).set i ⟨win rm r.length (r.length+q.length),q⟩=cV rm 0 (l.take (i+1))++List.replicate (n -(i+1)) (⟨Sv.none,[]⟩:Sl UInt8):=by
 have hi:=(ad2.1 h).1;have hl:(cV rm 0 (l.take i)).length=i:=by rw[Hv,anj];omega
 rw[aoU _ _ (by omega),hl,aoI,anq,h,show n -i=n -(i+1)+1 by omega,apN,aoX];simp only[apy];rw[M1,hr,anG,anv,apD]
theorem ng{w0 w:World}{L:List ai}(d:Cp)(h:Mem w0 (own bP 4 d.blocks.sv d.blocks.xs::ai.all (d.blocks.xs.map fun b:Bk=>eG b.ab)::own dG 4 d.bc.sv d.bc.xs::L) w):Mem w0 (fz d::L) w:=
 DK ((M5 (a:=d.bc) ((VR h).perm (List.Perm.swap _ _ _))).perm (List.Perm.swap _ _ _))
theorem Hy{α:Type}{enc:α->Array Value}{c:Nat}{s:Sv}{xs ys:List α}{w0 w:World}{L:List ai}(e:xs.map enc=ys.map enc)(h:Mem w0 (own enc c s xs::L) w):Mem w0 (own enc c s ys::L) w:=
 Mem.DN (e:=own enc c s xs) (fun _ hk=>hk) (fun hs=>⟨⟨hs.1.ok,by have:=congrArg List.length e;simp only[anJ]at this;rw[←this];exact hs.1.len,fun i y hy j hj=>by
  have h1:(xs.map enc)[i]? =(ys.map enc)[i]? :=by rw[e]
  rw[anA,anA,hy]at h1
  cases hx:xs[i]?with
  |none=>rw[hx]at h1;cases h1
  |some x=>
   rw[hx]at h1;have h2:enc x=enc y:=by simpa using h1
   have:=hs.1.row i x hx j hj;rw[h2]at this;exact this⟩,hs.2⟩) h
theorem DQ{w0 w:World}{L:List ai}{s sp rm:Sv}{xs:List Bk}{i:Nat}{B B':Bk}{ps:List (Sl UInt8)}{l:List (List UInt8)}(hi:i<xs.length)(hp:ps.map (fun x=>x.sv)=(cV rm 0 l).map (fun x=>x.sv))(hn:rm.nil=false)(hc:bP B=bP B')(hB:B'.ab=⟨sp,cV rm 0 l⟩)
  (h:Mem w0 (own (bQ (τ:=UInt8)) 1 sp ps::own aP 1 rm l.flatten::own bP 4 s (xs.set i B)::ai.all ((xs.eraseIdx i).map fun b:Bk=>eG b.ab)::L) w):Mem w0 (own bP 4 s (xs.set i B')::ai.all ((xs.set i B').map fun b:Bk=>eG b.ab)::L) w:=by
 have h1:Mem w0 (own (bQ (τ:=UInt8)) 1 sp (cV rm 0 l)::own aP 1 rm l.flatten::own bP 4 s (xs.set i B)::ai.all ((xs.eraseIdx i).map fun b:Bk=>eG b.ab)::L) w:=Hy (by
  have:=congrArg (List.map fun v:Sv=>(#[v.val]:Array Value)) hp;rw[apL,apL]at this;exact this) h
 have h2:=M8 (xs:=cV rm 0 l) rfl hn h1;rw[←hB]at h2;have h3:=Hy (ys:=xs.set i B') (by rw[apn,apn,hc]) (h2.perm (List.Perm.swap _ _ _));have h4:Mem w0 (eG B'.ab::ai.all (((xs.set i B').eraseIdx i).map fun b:Bk=>eG b.ab)::own bP 4 s (xs.set i B')::L) w:=by
  rw[List.eraseIdx_set_eq];exact h3.perm ((List.Perm.swap _ _ _).trans (List.Perm.cons _ (List.Perm.swap _ _ _)))
 have h5:=(Mem.pick (f:=fun b:Bk=>eG b.ab) (xs:=xs.set i B') (i:=i) (x:=B') (by rw[anK hi])).2 h4;exact h5.perm (List.Perm.swap _ _ _)
theorem Na{w0 w:World}{L:List ai}{s:Sv}{xs:List Bk}{i:Nat}{B:Bk}(hB:xs[i]? =some B)(cc:B.ab.xs≠[])(h:Mem w0 (own bP 4 s xs::ai.all (xs.map fun b:Bk=>eG b.ab)::L) w):
  ∃rm:Sv,(rm.nil=false/\rm.sp=none/\B.ab.xs=cV rm 0 (aL B.ab.xs))/\Mem w0 (own (bQ (τ:=UInt8)) 1 B.ab.sv B.ab.xs::own aP 1 rm (aL B.ab.xs).flatten::own bP 4 s xs::ai.all ((xs.eraseIdx i).map fun b:Bk=>eG b.ab)::L) w:=by
 have h1:=(Mem.pick (f:=fun b:Bk=>eG b.ab) hB).1 (h.perm (List.Perm.swap _ _ _));obtain⟨rm,hr,h2⟩:=V0 cc h1;refine⟨rm,hr,h2.perm (List.Perm.cons _ (List.Perm.cons _ (List.Perm.swap _ _ _)))⟩
end Go.Kb
namespace Go.au
section
variable {P:Program} {N:bO} {w0:World} {env:Env} {L:List ai} {d:Option Tmp} {ty:TypeId} {ps:String} {af:Array Edge} {gd:Option (Nat×Bool)} {x y:Operand} {t u:TypeId}
theorem Nb{a b:UInt8}(hx:ev env x=some (.int .u8 a.toNat))(hy:ev env y=some (.int .u8 b.toNat)):
  Ry P N w0 env L ⟨d, .binOp .or t x y u,ty,ps,af,gd⟩ (.int .u8 (a|||b).toNat):=by
 have ha:=a.toNat_lt;have hb:=b.toNat_lt;rw[UInt8.toNat_or];exact yc hx hy rfl rfl (by simp only[nb];omega) (by simp only[nb];omega)
theorem V2: ∀n,n<256->(255^^^n:Nat)=255 -n:=by decide+kernel
theorem V3{p q:Nat}(hp:p<2^nb .u8)(hq:q<2^nb .u8):Op.intBits .xor .u8 (p:Int) (q:Int)=(pure (.int .u8 ((p^^^q:Nat):Int)):Sem Value):=by
 simp only[Op.intBits,yb,BitVec.toNat_xor,aoB,anL (pw hp),anL (pw hq)];rw[og (ao5 hp hq)]
theorem V4{a:UInt8}(hx:ev env x=some (.int .u8 a.toNat)):
  Ry P N w0 env L ⟨d, .unOp .xor t x,ty,ps,af,gd⟩ (.int .u8 (~~~a).toNat):=fun aa w ha _=>by
 have e:(Op.intBits .xor .u8 255 (a.toNat:Int))=(pure (.int .u8 ((~~~a).toNat:Int)):Sem Value):=by
  have h3:=a.toNat_lt;have h4:(~~~a).toNat=255 -a.toNat:=UInt8.toNat_not a;have h5:(255^^^a.toNat:Nat)=255 -a.toNat:=V2 a.toNat h3;have hp:(255:Nat)<2^nb .u8:=by decide
  have hq:a.toNat<2^nb .u8:=h3;have hx:=V3 hp hq;rw[h5]at hx;rw[h4];exact hx
 simp only[execOp,ha.ev hx,Op.unary,Sem.run_bind,Result.andThen];rw[show(if IntKind.u8.signed=true then(-1:Int)else IntKind.u8.max)=255 by decide,e];rfl
end
open Go.RowKit
section
variable {P:Program} {N:bO} {w0:World} {env:Env} {L:List ai} {l:List Oper} {Q:Exit->Act->World->Prop} {rest:List Oper} {d:Option Tmp} {ty:TypeId} {ps:String} {af:Array Edge} {gd:Option (Nat×Bool)} {K:Value->List ai->Prop}
variable {α:Type} {enc:α->Array Value} {c:Nat}
theorem V5{β:Type}{l:List β}{i:Nat}{z:β}(h:l[i]? =some z):l.set i z=l:=by
 obtain⟨hi,rfl⟩:=ad2.1 h;exact List.set_getElem_self hi
theorem V6{D S:Sv}{x y:Operand}{tx fD e:TypeId}(hx:ev env x=some D.val)(hy:ev env y=some S.val)[ht:ez P tx e c][hS:Hd w0 L S enc c []](hk:K (.int .i64 0) L):
  gG P N w0 env L ⟨d, .call {callee:= .builtin .copy,args:= #[x,y],argTypes:= #[tx,fD]},ty,ps,af,gd⟩ K:=
 uX fun a w ha hw=>by
  have hs:=hS.h w hw;have kQ:S.len=0:=hs.len;obtain⟨ad,len,cap,e1⟩:=S.ex;have el:len=S.len:=by
   cases hn:S.nil with
   |true=>rw[Sv.rb hn]at e1;have:=hs.ok.nil hn;cases e1;omega
   |false=>rw[Sv.gT hn]at e1;cases e1;rfl
  obtain⟨Nc,Nf,V7,e2⟩:=D.ex;refine⟨_,w,L,?_,hw,hk⟩
  cases hq:P.info? e with
  |none=>have:=ht.size;simp[hq]at this
  |some i'=>
   rw[e1]at hy;rw[e2]at hx;have Li:len=0:=by omega
   have fC:(Builtin.copy_ #[tx,fD] ty #[.slice Nc Nf V7, .slice ad len cap]).run P w= .ok (goInt 0) w:=by
    have DM: ∀v:Addr,(loadCells v 0).run P w= .ok #[] w:=fun v=>by
     have:=run_loadCells_list (P:=P) w v [] (fun j v hj=>by simp at hj);simpa using this
    have bw: ∀v:Addr,(storeCells v []).run P w= .ok () w:=fun v=>rfl
    cases Nc<;>cases ad<;>simp[Builtin.copy_,run_underlying ht.dU,Builtin.lenOf,Builtin.firstCells,sizeOf,typeInfo,hq,Li,DM,bw]
   simp[execOp,ha.ev hx,ha.ev hy,resolve,invoke,builtin,fC,Result.andThen,goInt]
theorem Hz{D S rm:Sv}{x y:Operand}{tx fD e:TypeId}{i k:Nat}{xs ys:List α}[he:bo enc c](hx:ev env x=some D.val)(mS:D.nil=false)(mT:D.sp=none)(oC:D.b=rm.b)(qt:D.o=rm.o+k*c)(hy:ev env y=some S.val)[ht:ez P tx e c][q:dV L rm enc c xs i][hS:Hd w0 L S enc c ys](hc:0<c)(hn:rm.nil=false)(hl:ys.length<=D.len)(ji:k+ys.length<=xs.length)
  {L':List ai} [hu:eM L i (own enc c rm (xs.take k++(ys++xs.drop (k+ys.length)))) L'] (hk:K (.int .i64 ys.length) L'):
  gG P N w0 env L ⟨d, .call {callee:= .builtin .copy,args:= #[x,y],argTypes:= #[tx,fD]},ty,ps,af,gd⟩ K:=by
 by_cases h0:ys=[]
 ·
  subst h0;have e1:xs.take k++([]++xs.drop (k+([]:List α).length))=xs:=by simp
  have e2:L'=L:=by
   rw[←hu.h,e1];exact V5 q.h
  exact V6 (c:=c) (enc:=enc) hx hy (by rw[e2]at hk;exact hk)
 ·
  exact M7 hx mS mT oC qt hy hc hn (apd.2 h0) hl ji hk
end
end Go.au
namespace Go.Kb
open Go.au
def fX(c:Cp):Prop:=c.blocks.xs.length<=1000000/\c.bc.xs.length<=1000000/\ ∀b∈c.blocks.xs,M9 (aL b.ab.xs)
theorem yO{α:Type}{l:List α}{i:Nat}{z:α}(h:l[i]? =some z):l.set i z=l:=by
 obtain⟨hi,rfl⟩:=ad2.1 h;exact List.set_getElem_self hi
theorem wZ(l:List Bk)(i:Nat)(b:Bk):ia (l.set i b)=(ia l).set i (bv b):=by simp[ia,apn]
theorem V8{zs:List Bk}{i:Nat}{z z':Bk}(h:zs[i]? =some z):((zs.take i).map fun b:Bk=>eG b.ab)++[eG z'.ab]=((zs.set i z').take (i+1)).map fun b:Bk=>eG b.ab:=by
 have hi:=(ad2.1 h).1;rw[anq,anK hi,apr (anm _),an2];rfl
theorem V9{c:CV}(h: ∀f∈c.bc,f.op≠c.ops):bE c=(yK,false):=by
 have:c.bc.find? (fun f=>decide (f.op=c.ops))=none:=aph.2 fun f hf=>by simpa using h f hf
 rw[bE,this]
theorem Wa{c:CV}{i:Nat}{f:Ft}(hf:c.bc[i]? =some f)(h: ∀j g,j<i->c.bc[j]? =some g->g.op≠c.ops)(he:f.op=c.ops):bE c=(f,f.cut||f.fail):=by
 have:c.bc.find? (fun f=>decide (f.op=c.ops))=some f:=by
  rw[List.find?_eq_some_iff_getElem];obtain⟨hi,rfl⟩:=ad2.1 hf;exact⟨by simpa using he,i,hi,rfl,fun j hj=>by
   simpa using h j (c.bc[j]'(by omega)) hj (anC (by omega))⟩
 rw[bE,this]
theorem Ng: ∀l:List (List UInt8),(∀x∈l,x.length<=256)->(l.map List.length).sum<=l.length*256
 |[],_=>by simp
 |x::l,hl=>by
  have h1:=Ng l fun y hy=>hl y (anI _ hy);have h2:=hl x ano;simp only[anX,List.sum_cons,ang];omega
theorem rK{c:Cp}(h:bl (cv c)=true):fX c:=by
 obtain⟨h1,h2,h3,h4,h5⟩:=eP.1 h;obtain⟨s1,s2,s3,s4,s5,s6⟩:=kz.1 h1;simp only[cv,fW]at*;refine⟨by omega,by omega,fun b hb=>?_⟩;have g:=gy.1 (h5 (bv b) (an6 hb));simp only[bv]at g;have hf:(aL b.ab.xs).flatten.length<=(aL b.ab.xs).length*256:=by
  rw[List.length_flatten];exact Ng _ fun x hx=>by have:=g.2.2.2.2.2 x hx;omega
 exact⟨by omega,by omega⟩
theorem HA{rm:Sv}: ∀{o:Nat} {l l':List (List UInt8)},l.map List.length=l'.map List.length->(cV rm o l).map (fun x=>x.sv)=(cV rm o l').map (fun x=>x.sv)
 |_,[],[],_=>rfl
 |_,[],_::_,h=>by simp at h
 |_,_::_,[],h=>by simp at h
 |o,p::l,p'::l',h=>by
  simp only[anX,apC]at h;have:=HA (rm:=rm) (o:=o+p'.length) h.2;simp only[cV,anX,h.1,this]
theorem Wb{rm:Sv}{l:List (List UInt8)}{i:Nat}{q r:List UInt8}(h:l[i]? =some q)(hr:r.length=q.length):(cV rm 0 l).map (fun x=>x.sv)=(cV rm 0 (l.set i r)).map (fun x=>x.sv):=HA (by
 rw[apn,hr,yO];rw[anA,h];rfl)
theorem yP: ∀{l:List (List UInt8)} {i j:Nat} {q:List UInt8},l[i]? =some q->j<q.length->l.flatten[(l.take i).flatten.length+j]? =q[j]?
 |y::l,0,j,q,h,hj=>by
  obtain rfl:y=q:=by simpa using h
  simp only[anP,ap5,anh,anG,aow];rw[ann hj]
 |y::l,i+1,j,q,h,hj=>by
  have:=yP (l:=l) (i:=i) (j:=j) (q:=q) (by simpa using h) hj;simp only[aoo,aow,af0];rw[aoD,anr (by omega),aoE,this]
theorem Nh: ∀{l:List (List UInt8)} {i j:Nat} {q:List UInt8} {v:UInt8},l[i]? =some q->j<q.length->l.flatten.set ((l.take i).flatten.length+j) v=(l.set i (q.set j v)).flatten
 |y::l,0,j,q,v,h,hj=>by
  obtain rfl:y=q:=by simpa using h
  simp only[anP,ap5,anh,anG,aow,aoX];rw[List.set_append_left _ _ hj]
 |y::l,i+1,j,q,v,h,hj=>by
  have:=Nh (l:=l) (i:=i) (j:=j) (q:=q) (v:=v) (by simpa using h) hj;simp only[aoo,aow,af0,List.set_cons_succ];rw[aoD,aoU _ _ (by omega),aoE,this]
theorem HB{l:List (List UInt8)}{i:Nat}{r:List UInt8}:(l.set i r).take i=l.take i:=apr (anm _)
theorem yQ{rm:Sv}{lo n:Nat}(h:0<n):(win rm lo (lo+n)).o=rm.o+lo:=by
 simp only[win];rw[if_neg (by omega)]
theorem DR{rm:Sv}{lo n:Nat}(hn:rm.nil=false)(hs:rm.sp=none)(hb:n<=1000000):(win rm lo (lo+n)).Ok:=
 ⟨fun h=>absurd (hn.symm.trans h) (by decide),anm _,by simp only[win];omega,fun _=>hs⟩
theorem Ni{c:CV}{x:Cp}{B:Bk}{b g:Int}{q:List UInt8}{rm:Sv}{off:Bool}(hx:cv x=c)(hB:bv B=aA c b):
  cv ⟨x.ab,x.size,⟨x.blocks.sv,x.blocks.xs.set b.toNat ⟨⟨B.ab.sv,cV rm 0 ((aL B.ab.xs).set g.toNat q)⟩,B.used+1,B.bj,B.bad⟩⟩,x.ops+1,off,x.bc⟩={c with ops:=c.ops+1,off:=off,blocks:=c.blocks.set b.toNat {aA c b with used:=(aA c b).used+1,ab:=(aA c b).ab.set g.toNat q}}:=by
 subst hx;rw[←hB];simp only[cv,wZ,bv,va]
theorem Wc{m:UInt8}{xs:List UInt8}{i:Nat}{z:UInt8}(h:xs[i]? =some z):(cP m (xs.take i)++xs.drop i).set i (z|||m)=cP m (xs.take (i+1))++xs.drop (i+1):=by
 have hi:=(ad2.1 h).1;have hl:(cP m (xs.take i)).length=i:=by rw[cP,anJ,anj];omega
 rw[aoU _ _ (by omega),hl,aoI,ao2 hi,aoX,anq,h,cP,cP,an2,anv];rfl
theorem Nj{m:UInt8}{xs:List UInt8}{i:Nat}(h:i<xs.length):(cP m (xs.take i)++xs.drop i)[i]? =xs[i]? :=by
 have hl:(cP m (xs.take i)).length=i:=by rw[cP,anJ,anj];omega
 rw[anr (by omega),hl,aoI,aom,an3]
theorem HC{m:UInt8}{xs:List UInt8}{i:Nat}(h:i<=xs.length):(cP m (xs.take i)++xs.drop i).length=xs.length:=by
 rw[cP,af0,anJ,anj,ant];omega
theorem Nk{T:List (List UInt8)}{g i:Nat}{q xs:List UInt8}{m z:UInt8}(hq:T[g]? =some q)(hz:xs[i]? =some z):(T.set g (cP m (xs.take (i+1))++xs.drop (i+1))).flatten=(T.set g (cP m (xs.take i)++xs.drop i)).flatten.set ((T.take g).flatten.length+i) (z|||m):=by
 have hg:=(ad2.1 hq).1;have hi:=(ad2.1 hz).1;have h1:=Nh (l:=T.set g (cP m (xs.take i)++xs.drop i)) (i:=g) (j:=i) (v:=z|||m) (anK hg) (by rw[HC (by omega)];exact hi);rw[HB]at h1;rw[h1,List.set_set,Wc hz]
def mixed(f:List UInt8->List UInt8)(T:List (List UInt8))(k:Nat):List (List UInt8):=(T.take k).map f++T.drop k
theorem Nl{f:List UInt8->List UInt8}{T:List (List UInt8)}:mixed f T 0=T:=by simp[mixed]
theorem Nn{f:List UInt8->List UInt8}{T:List (List UInt8)}{k:Nat}(h:T.length<=k):mixed f T k=T.map f:=by
 rw[mixed,anx h,apV h,anN]
theorem A5{f:List UInt8->List UInt8}{T:List (List UInt8)}{k:Nat}{q:List UInt8}(h:T[k]? =some q):(mixed f T k)[k]? =some q:=by
 have hk:=(ad2.1 h).1;have hl:((T.take k).map f).length=k:=by rw[anJ,anj];omega
 rw[mixed,anr (by omega),hl,aoI,aom,an3,h]
theorem HD{f:List UInt8->List UInt8}{T:List (List UInt8)}{k:Nat}{q:List UInt8}(h:T[k]? =some q):(mixed f T k).set k (f q)=mixed f T (k+1):=by
 have hk:=(ad2.1 h).1;have hl:((T.take k).map f).length=k:=by rw[anJ,anj];omega
 obtain⟨_,rfl⟩:=ad2.1 h;rw[mixed,aoU _ _ (by omega),hl,aoI,ao2 hk,aoX,mixed,anq,anC hk,an2,anv];rfl
theorem DS{f:List UInt8->List UInt8}{T:List (List UInt8)}{k:Nat}(hf: ∀x∈T,(f x).length=x.length)(hk:k<=T.length):((mixed f T k).take k).flatten.length=(T.take k).flatten.length:=by
 have hl:((T.take k).map f).length=k:=by rw[anJ,anj];omega
 rw[mixed,List.take_append_of_le_length (by omega),anx (by omega),List.length_flatten,List.length_flatten,apL];congr 1;exact aoS fun x hx=>hf x (apj hx)
theorem Wd{f:List UInt8->List UInt8}{T:List (List UInt8)}{k n:Nat}{q:List UInt8}(hq:T[k]? =some q)(hf: ∀x∈T,(f x).length=x.length)(he:f q=List.replicate n 255)(hn:n=q.length):(mixed f T (k+1)).flatten=(mixed f T k).flatten.take (T.take k).flatten.length++(List.replicate n 255++(mixed f T k).flatten.drop ((T.take k).flatten.length+n)):=by
 have hk:=(ad2.1 hq).1;rw[←HD hq,DO (A5 hq) (by rw[he,anZ,hn]),DS hf (by omega),he,anZ]
theorem We{rm:Sv}{f:List UInt8->List UInt8}{T:List (List UInt8)}(hf: ∀x∈T,(f x).length=x.length):(cV rm 0 T).map (fun x=>x.sv)=(cV rm 0 (T.map f)).map (fun x=>x.sv):=HA (by
 rw[apL];exact(aoS fun x hx=>(hf x hx)).symm)
theorem Wf{rm:Sv}{lo n:Nat}(hn:rm.nil=false)(hs:rm.sp=none)(h:0<n):(win rm lo (lo+n)).val= .slice (some ⟨rm.b,rm.o+lo,none⟩) n n:=by
 rw[Sv.gT (s:=win rm lo (lo+n)) hn,show(win rm lo (lo+n)).sp=rm.sp from rfl,hs,yQ h,show(win rm lo (lo+n)).len=n from aoE ..,show(win rm lo (lo+n)).cap=n from aoE ..];rfl
theorem w3{c:Cp}{b:Int}:bv (c.blocks.xs.getD b.toNat oD)=aA (cv c) b:=by
 simp only[aA,cv,ia,anU,anA]
 cases c.blocks.xs[b.toNat]? <;>rfl
theorem pI{c:Cp}{b:Int}(h:kA (cv c) b=true):0<=b/\b.toNat<c.blocks.xs.length:=by
 obtain⟨_,h2,h3⟩:=kB.1 h;simp only[cv,fW]at h3;exact⟨h2,by omega⟩
theorem No{c:CV}{x:Cp}{B:Bk}{b u:Int}{l:List (List UInt8)}{rm:Sv}{off:Bool}(hx:cv x=c)(hB:bv B=aA c b):
  cv ⟨x.ab,x.size,⟨x.blocks.sv,x.blocks.xs.set b.toNat ⟨⟨B.ab.sv,cV rm 0 l⟩,u,B.bj+1,B.bad⟩⟩,x.ops+1,off,x.bc⟩={c with ops:=c.ops+1,off:=off,blocks:=c.blocks.set b.toNat {aA c b with used:=u,bj:=(aA c b).bj+1,ab:=l}}:=by
 subst hx;rw[←hB];simp only[cv,wZ,bv,va]
theorem Wg{xs:List Bk}{i:Nat}{B B':Bk}(h:xs[i]? =some B)(hp:B'.ab=B.ab):((xs.set i B').map fun b:Bk=>eG b.ab)=xs.map fun b:Bk=>eG b.ab:=by
 rw[apn,hp];refine yO ?_;rw[anA,h];rfl
theorem Wh{c:CV}{x:Cp}{B:Bk}{b:Int}(hx:cv x=c)(hB:bv B=aA c b):
  cv ⟨x.ab,x.size,⟨x.blocks.sv,x.blocks.xs.set b.toNat ⟨B.ab,B.used,B.bj,true⟩⟩,x.ops,x.off,x.bc⟩={c with blocks:=c.blocks.set b.toNat {aA c b with bad:=true}}:=by
 subst hx;rw[←hB];simp only[cv,wZ,bv]
theorem HE{w0 w:World}{L:List ai}{s:Sv}{xs:List (Sl UInt8)}(h:Mem w0 (own (bQ (τ:=UInt8)) 1 s xs::ai.all (xs.map fun p:Sl UInt8=>fz p)::L) w):Mem w0 (fz (⟨s,xs⟩:Sl (Sl UInt8))::L) w:=by
 have hs:=h.sat (own (bQ (τ:=UInt8)) 1 s xs) (by simp);have ha:=h.sat (ai.all (xs.map fun p:Sl UInt8=>fz p)) (by simp);refine Mem.freeze (es:=[own (bQ (τ:=UInt8)) 1 s xs,ai.all (xs.map fun p:Sl UInt8=>fz p)]) _ ⟨hs.1,fun x hx=>ai.Av ha (fz x) (an6 hx)⟩ (fun k hk=>?_) h;rcases hk with⟨cc,rfl⟩|⟨x,hx,hk⟩
 ·
  exact⟨_,by simp,A1 hs.1 cc⟩
 exact⟨ai.all (xs.map fun p:Sl UInt8=>fz p),by simp,ai.DI (an6 (f:=fun p:Sl UInt8=>fz p) hx) hk⟩
theorem Np{w0 w:World}{L:List ai}{s:Sv}{xs:List Bk}(h:Mem w0 (own bP 4 s xs::ai.all (xs.map fun b:Bk=>fz b.ab)::L) w):Mem w0 (fz (⟨s,xs⟩:Sl Bk)::L) w:=by
 have hs:=h.sat (own bP 4 s xs) (by simp);have ha:=h.sat (ai.all (xs.map fun b:Bk=>fz b.ab)) (by simp);refine Mem.freeze (es:=[own bP 4 s xs,ai.all (xs.map fun b:Bk=>fz b.ab)]) _ ⟨hs.1,fun x hx=>ai.Av ha (fz x.ab) (an6 (f:=fun b:Bk=>fz b.ab) hx)⟩ (fun k hk=>?_) h;rcases hk with⟨cc,rfl⟩|⟨x,hx,hk⟩
 ·
  exact⟨_,by simp,A1 hs.1 cc⟩
 exact⟨ai.all (xs.map fun b:Bk=>fz b.ab),by simp,ai.DI (an6 (f:=fun b:Bk=>fz b.ab) hx) hk⟩
theorem Nq{w0 w:World}{L:List ai}{s:Sv}(hs:s.Ok)(hl:s.len=0)(h:Mem w0 L w):Mem w0 (fz (⟨s,[]⟩:Sl Ft)::L) w:=
 Mem.freeze (es:=[]) _ ⟨⟨hs,hl,fun i x hx=>by cases hx⟩,fun x hx=>by cases hx⟩ (fun k hk=>by
  rcases hk with⟨cc,_⟩|⟨x,hx,_⟩
  ·
   exact absurd rfl cc
  cases hx) h
theorem Nr{w0 w:World}{L:List ai}{d:Cp}(hf:d.bc=⟨Sv.none,[]⟩)(h:Mem w0 (own bP 4 d.blocks.sv d.blocks.xs::ai.all (d.blocks.xs.map fun b:Bk=>fz b.ab)::L) w):Mem w0 (fz d::L) w:=by
 have h1:=Nq (s:=Sv.none) Sv.Am rfl (Np h);rw[←hf]at h1;exact DK (h1.perm (List.Perm.swap _ _ _))
theorem Ns{zs:List Bk}{i:Nat}{z z':Bk}(h:zs[i]? =some z):((zs.take i).map fun b:Bk=>fz b.ab)++[fz z'.ab]=((zs.set i z').take (i+1)).map fun b:Bk=>fz b.ab:=by
 have hi:=(ad2.1 h).1;rw[anq,anK hi,apr (anm _),an2];rfl
theorem HF{zs:List (Sl UInt8)}{i:Nat}{z z':Sl UInt8}(h:zs[i]? =some z):((zs.take i).map fun b:Sl UInt8=>fz b)++[fz z']=((zs.set i z').take (i+1)).map fun b:Sl UInt8=>fz b:=by
 have hi:=(ad2.1 h).1;rw[anq,anK hi,apr (anm _),an2];rfl
theorem DT{α β:Type}{f:α->β}{zs:List α}{i:Nat}{z z':α}(h:zs[i]? =some z):((zs.set i z').take (i+1)).map f=(zs.take i).map f++[f z']:=by
 have hi:=(ad2.1 h).1;rw[anq,anK hi,apr (anm _),an2];rfl
theorem DU{b n:Nat}(h:n<=1000000):(⟨false,b,0,n,n,none⟩:Sv).Ok:=⟨fun h=>(by cases h),anm _,by simp only;omega,fun _=>rfl⟩
end Go.Kb
namespace Go.au
theorem Nt{P:Program}{N:bO}{w0:World}{env:Env}{L:List ai}{Q:Exit->Act->World->Prop}{c:Code}{X:Type}{pr:X->Prop}(Lx:X->List ai)(h: ∀w,Mem w0 L w-> ∃x,pr x/\Mem w0 (Lx x) w)(hk: ∀x,pr x->Cw P N w0 Q c env (Lx x)):Cw P N w0 Q c env L:=fun a w ha hw=>by
 obtain⟨x,h1,h2⟩:=h w hw;exact hk x h1 a w ha h2
end Go.au
namespace Go.Kb
open Go.au
structure eA where
 kind:Int
 id:Int
 gen:UInt64
 body:Sl UInt8
def cD(x:eA):Array Value:= #[.int .i64 x.kind, .int .i64 x.id, .int .u64 x.gen.toNat,x.body.sv.val]
instance:bo cD 4:=⟨fun _=>rfl,fun x=>by
 simp only[cD,aoR,aoZ,ao8,Sv.one,tg,th,aoT]⟩
instance (x:eA):eZ (cD x) 4:=⟨rfl,bo.one x⟩
instance (x:eA):bT (cD x) 0 (.int .i64 x.kind):=⟨rfl⟩
instance (x:eA):bT (cD x) 1 (.int .i64 x.id):=⟨rfl⟩
instance (x:eA):bT (cD x) 2 (.int .u64 x.gen.toNat):=⟨rfl⟩
instance (x:eA):bT (cD x) 3 (x.body.sv.val):=⟨rfl⟩
instance:Deep eA where
 c:=4
 cells:=cD
 size:=bo.size
 one:=bo.one
 dO h x:=Deep.dO h x.body
 bU x:=Deep.bU x.body
 iW h x hs:=Deep.iW h x.body hs
 mono w w' x hg hb:=Deep.mono w w' x.body hg hb
variable {w0:World}{L:List ai}
instance{x:eA}[q:aS w0 L x]:aS w0 L x.body:=⟨fun w hw=>(q.h w hw)⟩
instance{kind:Int}{id:Int}{gen:UInt64}{body:Sl UInt8}[q0:aS w0 L body]:aS w0 L (eA.mk kind id gen body):=⟨fun w hw=>q0.h w hw⟩
def nh:eA:=⟨0,0,0,⟨Sv.none,[]⟩⟩
structure cW where
 gen:UInt64
 at_:Sl Int
def dQ(x:cW):Array Value:= #[.int .u64 x.gen.toNat,x.at_.sv.val]
instance:bo dQ 2:=⟨fun _=>rfl,fun x=>by
 simp only[dQ,aoR,aoZ,ao8,Sv.one,tg,th,aoT]⟩
instance (x:cW):eZ (dQ x) 2:=⟨rfl,bo.one x⟩
instance (x:cW):bT (dQ x) 0 (.int .u64 x.gen.toNat):=⟨rfl⟩
instance (x:cW):bT (dQ x) 1 (x.at_.sv.val):=⟨rfl⟩
instance:Deep cW where
 c:=2
 cells:=dQ
 size:=bo.size
 one:=bo.one
 dO h x:=Deep.dO h x.at_
 bU x:=Deep.bU x.at_
 iW h x hs:=Deep.iW h x.at_ hs
 mono w w' x hg hb:=Deep.mono w w' x.at_ hg hb
instance{x:cW}[q:aS w0 L x]:aS w0 L x.at_:=⟨fun w hw=>(q.h w hw)⟩
instance{gen:UInt64}{at_:Sl Int}[q0:aS w0 L at_]:aS w0 L (cW.mk gen at_):=⟨fun w hw=>q0.h w hw⟩
def kC:cW:=⟨0,⟨Sv.none,[]⟩⟩
structure aG where
 live:Int
 used:Int
 bj:Int
 bad:Bool
 deriving DecidableEq
def bB(x:aG):Array Value:= #[.int .i64 x.live, .int .i64 x.used, .int .i64 x.bj, .bool x.bad]
instance:bo bB 4:=⟨fun _=>rfl,fun x=>by
 simp only[bB,aoR,aoZ,ao8,Sv.one,tg,th,aoT]⟩
instance (x:aG):eZ (bB x) 4:=⟨rfl,bo.one x⟩
instance (x:aG):bT (bB x) 0 (.int .i64 x.live):=⟨rfl⟩
instance (x:aG):bT (bB x) 1 (.int .i64 x.used):=⟨rfl⟩
instance (x:aG):bT (bB x) 2 (.int .i64 x.bj):=⟨rfl⟩
instance (x:aG):bT (bB x) 3 (.bool x.bad):=⟨rfl⟩
def gX:aG:=⟨0,0,0,false⟩
structure bV where
 aj:Cp
 at_:Sl Int
 gen:UInt64
 last:Int
def bX(x:bV):Array Value:= #[.int .i64 x.aj.ab, .int .i64 x.aj.size,x.aj.blocks.sv.val, .int .i64 x.aj.ops, .bool x.aj.off,x.aj.bc.sv.val,x.at_.sv.val, .int .u64 x.gen.toNat, .int .i64 x.last]
instance:bo bX 9:=⟨fun _=>rfl,fun x=>by
 simp only[bX,aoR,aoZ,ao8,Sv.one,tg,th,aoT]⟩
instance (x:bV):eZ (bX x) 9:=⟨rfl,bo.one x⟩
instance (x:bV):bT (bX x) 0 (.int .i64 x.aj.ab):=⟨rfl⟩
instance (x:bV):bT (bX x) 1 (.int .i64 x.aj.size):=⟨rfl⟩
instance (x:bV):bT (bX x) 2 (x.aj.blocks.sv.val):=⟨rfl⟩
instance (x:bV):bT (bX x) 4 (.bool x.aj.off):=⟨rfl⟩
instance (x:bV):bT (bX x) 6 (x.at_.sv.val):=⟨rfl⟩
instance (x:bV):bT (bX x) 7 (.int .u64 x.gen.toNat):=⟨rfl⟩
instance (x:bV):bT (bX x) 8 (.int .i64 x.last):=⟨rfl⟩
instance (x:bV):lQ (bX x) 0 6 (aR x.aj):=⟨rfl,fun j hj=>by
 match j,hj with
 |0,_=>rfl
 |1,_=>rfl
 |2,_=>rfl
 |3,_=>rfl
 |4,_=>rfl
 |5,_=>rfl⟩
instance:Deep bV where
 c:=9
 cells:=bX
 size:=bo.size
 one:=bo.one
 dO h x:=Deep.dO h x.aj/\Deep.dO h x.at_
 bU x:= .two (Deep.bU x.aj) (Deep.bU x.at_)
 iW h x hs:=⟨Deep.iW h x.aj hs.1,Deep.iW h x.at_ hs.2.1⟩
 mono w w' x hg hb:=⟨Deep.mono w w' x.aj hg.1 hb,Deep.mono w w' x.at_ hg.2 hb⟩
instance:fq bV where
 reach x k:=fq.reach x.aj k\/fq.reach x.at_ k
 congr h h' x e hg:=⟨fq.congr h h' x.aj (fun k hk=>e k (.inl hk)) hg.1,fq.congr h h' x.at_ (fun k hk=>e k (.inr hk)) hg.2⟩
instance{x:bV}[q:aS w0 L x]:aS w0 L x.aj:=⟨fun w hw=>(q.h w hw).1⟩
instance{x:bV}[q:aS w0 L x]:aS w0 L x.at_:=⟨fun w hw=>(q.h w hw).2⟩
instance{aj:Cp}{at_:Sl Int}{gen:UInt64}{last:Int}[q0:aS w0 L aj][q1:aS w0 L at_]:aS w0 L (bV.mk aj at_ gen last):=⟨fun w hw=>⟨q0.h w hw,q1.h w hw⟩⟩
def kD:bV:=⟨fM,⟨Sv.none,[]⟩,0,0⟩
structure aO where
 aE:bV
 beyond:Bool
def aN(x:aO):Array Value:= #[.int .i64 x.aE.aj.ab, .int .i64 x.aE.aj.size,x.aE.aj.blocks.sv.val, .int .i64 x.aE.aj.ops, .bool x.aE.aj.off,x.aE.aj.bc.sv.val,x.aE.at_.sv.val, .int .u64 x.aE.gen.toNat, .int .i64 x.aE.last, .bool x.beyond]
instance (x:aO):bT (aN x) 0 (.int .i64 x.aE.aj.ab):=⟨rfl⟩
instance (x:aO):bT (aN x) 1 (.int .i64 x.aE.aj.size):=⟨rfl⟩
instance (x:aO):bT (aN x) 2 (x.aE.aj.blocks.sv.val):=⟨rfl⟩
instance (x:aO):bT (aN x) 6 (x.aE.at_.sv.val):=⟨rfl⟩
instance (x:aO):bT (aN x) 7 (.int .u64 x.aE.gen.toNat):=⟨rfl⟩
instance (x:aO):bT (aN x) 8 (.int .i64 x.aE.last):=⟨rfl⟩
instance (x:aO):bT (aN x) 9 (.bool x.beyond):=⟨rfl⟩
instance (x:aO):lQ (aN x) 0 9 (bX x.aE):=⟨rfl,fun j hj=>by
 match j,hj with
 |0,_=>rfl
 |1,_=>rfl
 |2,_=>rfl
 |3,_=>rfl
 |4,_=>rfl
 |5,_=>rfl
 |6,_=>rfl
 |7,_=>rfl
 |8,_=>rfl⟩
instance (x:aO):lQ (aN x) 0 6 (aR x.aE.aj):=⟨rfl,fun j hj=>by
 match j,hj with
 |0,_=>rfl
 |1,_=>rfl
 |2,_=>rfl
 |3,_=>rfl
 |4,_=>rfl
 |5,_=>rfl⟩
structure iA where
 w:aG
 ab:Int
 deriving DecidableEq
def eT(x:iA):Array Value:= #[.int .i64 x.w.live, .int .i64 x.w.used, .int .i64 x.w.bj, .bool x.w.bad, .int .i64 x.ab]
instance:bo eT 5:=⟨fun _=>rfl,fun x=>by
 simp only[eT,aoR,aoZ,ao8,Sv.one,tg,th,aoT]⟩
instance (x:iA):eZ (eT x) 5:=⟨rfl,bo.one x⟩
instance (x:iA):bT (eT x) 0 (.int .i64 x.w.live):=⟨rfl⟩
instance (x:iA):bT (eT x) 1 (.int .i64 x.w.used):=⟨rfl⟩
instance (x:iA):bT (eT x) 2 (.int .i64 x.w.bj):=⟨rfl⟩
instance (x:iA):bT (eT x) 3 (.bool x.w.bad):=⟨rfl⟩
instance (x:iA):bT (eT x) 4 (.int .i64 x.ab):=⟨rfl⟩
def Wi:iA:=⟨gX,0⟩
end Go.Kb
namespace Go.au
open Go.Kb
section
variable {P:Program} {N:bO} {w0:World} {env:Env} {L:List ai} {d:Option Tmp} {ty:TypeId} {ps:String} {af:Array Edge} {gd:Option (Nat×Bool)}
theorem Wj{p:Nat}(h:p<2^32):4294967295^^^p=4294967295 -p:=by
 have e:(BitVec.allOnes 32^^^BitVec.ofNat 32 p).toNat=(~~~(BitVec.ofNat 32 p)).toNat:=by rw[BitVec.allOnes_xor]
 rw[BitVec.toNat_xor,BitVec.toNat_not,BitVec.toNat_allOnes,aoB,anL h]at e;simpa using e
theorem Nu{x:Operand}{a:Int}{p:Nat}{t:TypeId}(hx:ev env x=some (.int .u32 a))(ea:a=(p:Int))(hp:p<2^32):
  Ry P N w0 env L ⟨d, .unOp .xor t x,ty,ps,af,gd⟩ (.int .u32 ((4294967295 -p:Nat):Int)):=fun a w ha _=>by
 subst ea;have h1:(Op.intBits .xor .u32 4294967295 (p:Int)).run P w= .ok (.int .u32 ((4294967295 -p:Nat):Int)) w:=by
  have e2:(BitVec.ofInt 32 4294967295^^^BitVec.ofInt 32 (p:Int)).toNat=4294967295 -p:=by
   rw[yb,BitVec.toNat_xor,aoB,anL hp,←Wj hp];rfl
  show Sem.run P (pure (Value.int .u32 (IntKind.u32.wrap ((BitVec.ofInt 32 4294967295^^^BitVec.ofInt 32 (p:Int)).toNat:Int)))) w=_;rw[e2,og (k:= .u32) (by show 4294967295 -p<4294967296;omega)];rfl
 have h2:Op.unary .xor (.int .u32 (p:Int))=Op.intBits .xor .u32 4294967295 (p:Int):=rfl;simp only[execOp,ha.ev hx,h2,Sem.run_bind,h1,Sem.run_pure,Result.andThen]
theorem Wk{x y:Operand}{p:Nat}{a:Int}{k':IntKind}{t u:TypeId}(hx:ev env x=some (.int .u64 a))(hy:ev env y=some (.int k' 8))(ea:a=(p:Int))(hp:p*256<2^64):
  Ry P N w0 env L ⟨d, .binOp .shl t x y u,ty,ps,af,gd⟩ (.int .u64 ((p*256:Nat):Int)):=by
 subst ea;have h:=CB (P:=P) (N:=N) (w0:=w0) (L:=L) (d:=d) (ty:=ty) (ps:=ps) (af:=af) (gd:=gd) (t:=t) (u:=u) hx hy (by decide);have e:IntKind.u64.wrap ((p:Int)*2^min (Int.toNat 8) IntKind.u64.bits)=((p*256:Nat):Int):=by
  have e1:(p:Int)*2^min (Int.toNat 8) IntKind.u64.bits=((p*256:Nat):Int):=by
   rw[show(2:Int)^min (Int.toNat 8) IntKind.u64.bits=256 from by decide];omega
  rw[e1];exact og hp
 rw[e]at h;exact h
theorem Wl{n many i:Nat}(h:i<many):(List.replicate (many -i) (0:UInt8)++be n i).set (many -1 -i) (b8 (n/256^i))=List.replicate (many -(i+1)) 0++be n (i+1):=by
 rw[List.set_append_left _ _ (by simp;omega)];have e:List.replicate (many -i) (0:UInt8)=List.replicate (many -(i+1)) 0++[0]:=by
  rw[show many -i=many -(i+1)+1 by omega,List.replicate_succ',]
 rw[e,aoU _ _ (by simp;omega)];simp only[anZ,show many -1 -i -(many -(i+1))=0 by omega,aoX,anv];rfl
end
end Go.au
namespace Go.Kb
open Go.au
def dx(n:Int):UInt8:=b8 (n%256).toNat
theorem yR(n:Int):IntKind.u8.wrap n=((dx n).toNat:Int):=by
 unfold dx;rw[yk];simp[IntKind.wrap,IntKind.bits,IntKind.signed];omega
def gY(r:Rt):List UInt8:=
 [if r.p.bits=128 then 1 else 0,dx r.p.len]++(List.range 16).map (fun i=>b8 (aU r.p.key i))++[b8 (r.hop.toNat/256),b8 r.hop.toNat]
theorem rL(r:Rt):(gY r).length=20:=by simp[gY]
theorem Wm(r:Rt):(gY r)[0]? =some (if r.p.bits=128 then 1 else 0):=by simp[gY]
theorem Wn(r:Rt):(gY r)[1]? =some (dx r.p.len):=by simp[gY]
theorem Wo(r:Rt)(i:Nat)(h:i<16):(gY r)[2+i]? =some (b8 (aU r.p.key i)):=by
 unfold gY;rw[anv,anr (by simp),ann (by simp;omega)];simp[h]
theorem Wp(r:Rt):(gY r)[18]? =some (b8 (r.hop.toNat/256)):=by simp[gY]
theorem Wq(r:Rt):(gY r)[19]? =some (b8 r.hop.toNat):=by simp[gY]
theorem Nv(r:Rt){yS:Array Value}(h0:yS.size=20)(hz:yS[0]? =some (.int .u8 (if r.p.bits=128 then 1 else 0:Nat))):
  (((over (yS.setIfInBounds 1 (.int .u8 (dx r.p.len).toNat)) 2 (aY r.p.key)).setIfInBounds 18 (.int .u8 (b8 (r.hop.toNat/256)).toNat)).setIfInBounds 19 (.int .u8 (b8 r.hop.toNat).toNat))=(aI aP (gY r)).toArray:=by
 have hs:(over (yS.setIfInBounds 1 (.int .u8 (dx r.p.len).toNat)) 2 (aY r.p.key)).size=20:=by rw[mH (by simp[fg,h0])];simpa using h0
 refine aoG fun j=>?_;have hf: ∀b,(gY r)[j]? =some b->(aI aP (gY r)).toArray[j]? =some (.int .u8 b.toNat):=fun b hb=>by
  have:=mI (enc:=aP) (gY r) j b hb 0 (by decide);simp only[aoy,an3]at this;simpa[aP]using this
 have hk:2+(aY r.p.key).size<=(yS.setIfInBounds 1 (.int .u8 (dx r.p.len).toNat)).size:=by simp[fg,h0]
 rw[anY,anY]
 by_cases Nw:19=j
 ·
  subst Nw;rw[hf _ (Wq r)];simp[hs]
 by_cases A6:18=j
 ·
  subst A6;rw[hf _ (Wp r)];simp[hs]
 rw[if_neg Nw,if_neg A6,sO hk,fg]
 by_cases h2:2<=j/\j<2+16
 ·
  rw[if_pos h2,gU _ _ (by omega)];have:=Wo r (j -2) (by omega);rw[show 2+(j -2)=j by omega]at this;rw[hf _ this,yk];have:=fE r.p.key (j -2);rw[anL this]
 rw[if_neg h2,anY]
 by_cases h1:1=j
 ·
  subst h1;rw[hf _ (Wn r)];simp[h0]
 rw[if_neg h1]
 by_cases hj:j=0
 ·
  subst hj;rw[hz,hf _ (Wm r)];split<;>rfl
 ·
  have e1:yS[j]? =none:=by simp;omega
  rw[e1];have:(aI aP (gY r)).length=20:=by rw[gE,rL]
  simp;omega
structure PV where
 kind:Int
 id:Int
 gen:Nat
 body:List UInt8
 deriving DecidableEq
def jF:PV:=⟨0,0,0,[]⟩
def cr(p:eA):PV:=⟨p.kind,p.id,p.gen.toNat,p.body.xs⟩
def rM(n:Int):Bool:=decide (24<=n)&&decide (n<=256)
theorem A7{n:Int}:rM n=true↔24<=n/\n<=256:=by simp only[rM,anc,decide_eq_true_eq]
def fy(n:Int):Int:=if rM n=true then n -16 else 0
def yT(p:PV)(n:Int):Bool:=rM n&&(decide (p.kind=1)||decide (p.kind=2))&&decide (0<=p.id)&&decide (p.id<64)&&decide (p.gen<281474976710656)&&decide ((p.body.length:Int)<=fy n)
theorem Nx{p:PV}{n:Int}:yT p n=true↔rM n=true/\(p.kind=1\/p.kind=2)/\0<=p.id/\p.id<64/\p.gen<281474976710656/\(p.body.length:Int)<=fy n:=by
 simp only[yT,anc,aog,decide_eq_true_eq,and_assoc]
def pJ(b:List UInt8):Bool:=b.all fun x=>decide (x=255)
theorem Ny{b:List UInt8}:pJ b=true↔ ∀x∈b,x=255:=by simp only[pJ,anw,decide_eq_true_eq]
def ni(p:PV)(n:Nat):List UInt8:=[dx p.kind,dx p.id]++be p.gen 6++be p.body.length 2++p.body++List.replicate (n -4 -10 -p.body.length) 0
def eQ(p:PV)(n:Int):List UInt8×Int:=if yT p n=true then(ni p n.toNat++be (pF (ni p n.toNat)) 4,0)else([],1)
def yU(b:List UInt8):PV:=⟨(b.getD 0 0).toNat,(b.getD 1 0).toNat,de ((b.drop 2).take (8 -2)),[]⟩
def jl(b:List UInt8):Nat:=de ((b.drop 8).take (10 -8))
def nj(b:List UInt8):List UInt8:=(b.drop 0).take (b.length -4 -0)
def DV(b:List UInt8):List UInt8:=(b.drop (b.length -4)).take (b.length -(b.length -4))
def oI(b:List UInt8):List UInt8:=((nj b).drop (10+jl b)).take ((nj b).length -(10+jl b))
def yV(b:List UInt8):Bool:=b.all fun x=>decide (x=0)
theorem Nz{b:List UInt8}:yV b=true↔ ∀x∈b,x=0:=by simp only[yV,anw,decide_eq_true_eq]
def rN(b:List UInt8):Bool:=decide ((jl b:Int)<=fy b.length)&&yT (yU b) b.length
def di(b:List UInt8):PV×Int:=
 if rM b.length=false then(jF,3)
 else if pJ b=true then(jF,0)
 else if de (DV b)≠pF (nj b)then(jF,4)
 else if rN b=false then(jF,2)
 else if yV (oI b)=false then(jF,2)
 else({yU b with body:=(b.drop 10).take (10+jl b -10)},0)
theorem NA(b:List UInt8):jl b<65536:=by
 have h:=Mx ((b.drop 8).take (10 -8));have h2:((b.drop 8).take (10 -8)).length<=2:=by rw[anj];omega
 have h3:=an9 (show 0<256 by decide) h2;rw[jl];omega
theorem HG(b:List UInt8):de ((b.drop 2).take (8 -2))<281474976710656:=by
 have h:=Mx ((b.drop 2).take (8 -2));have h2:((b.drop 2).take (8 -2)).length<=6:=by rw[anj];omega
 have h3:=an9 (show 0<256 by decide) h2;omega
def tl(b:List UInt8):eA:=⟨(b.getD 0 0).toNat,(b.getD 1 0).toNat,UInt64.ofNat (de ((b.drop 2).take (8 -2))),⟨Sv.none,[]⟩⟩
theorem NB(b:List UInt8):(UInt64.ofNat (de ((b.drop 2).take (8 -2)))).toNat=de ((b.drop 2).take (8 -2)):=by
 have:=HG b;rw[UInt64.toNat_ofNat'];omega
theorem NC(b:List UInt8)(s:Sv)(l:List UInt8):cr {tl b with body:=⟨s,l⟩}={yU b with body:=l}:=by
 simp only[cr,tl,NB];rfl
theorem HH(b:List UInt8):cr (tl b)=yU b:=NC b Sv.none []
theorem Ws(b:List UInt8):(nj b).length=b.length -4:=by rw[nj,anj,ant];omega
theorem Wt{M:Nat}{k d:UInt8}(h:2<=M):((List.replicate M (0:UInt8)).set 0 k).set 1 d=[k,d]++List.replicate (M -2) 0:=by
 obtain⟨m,rfl⟩: ∃m,M=m+2:=⟨M -2,by omega⟩;simp[apN]
theorem HI{A Y:List UInt8}{k N:Nat}(hk:k=A.length):(A++List.replicate N 0).take k++(Y++(A++List.replicate N 0).drop (k+Y.length))=A++Y++List.replicate (N -Y.length) 0:=by
 subst hk;rw[List.take_left',List.drop_append,apV (by omega),aoE,List.drop_replicate,anR,anv];rfl
theorem Wu{p:PV}{n:Nat}(h:p.body.length+14<=n):(ni p n).length=n -4:=by
 simp only[ni,af0,lq,anZ,ang,anh];omega
theorem HJ(b:List UInt8):(di b).1.body.length<=65536:=by
 have h:=NA b;rw[di];split
 ·
  simp[jF]
 split
 ·
  simp[jF]
 split
 ·
  simp[jF]
 split
 ·
  simp[jF]
 split
 ·
  simp[jF]
 simp only[anj];omega
structure RV where
 gen:Nat
 at_:List Int
 deriving DecidableEq
def gz:RV:=⟨0,[]⟩
def da(r:cW):RV:=⟨r.gen.toNat,r.at_.xs⟩
def lE(n:Int):Int:=min 64 (fy n/2)
def yW(x:Int):Bool:=decide (0<=x)&&decide (x<=65535)
theorem HK{x:Int}:yW x=true↔0<=x/\x<=65535:=by simp only[yW,anc,decide_eq_true_eq]
def tm(r:RV)(n:Int):Bool:= !decide (fy n=0)&&decide (r.gen<281474976710656)&&decide ((r.at_.length:Int)<=lE n)&&r.at_.all yW
theorem A8{r:RV}{n:Int}:tm r n=true↔fy n≠0/\r.gen<281474976710656/\(r.at_.length:Int)<=lE n/\ ∀x∈r.at_,yW x=true:=by
 simp only[tm,anc,aov,decide_eq_true_eq,decide_eq_false_iff_not,and_assoc,anw,ne_eq]
def qx(b:List UInt8)(i:Nat):Int:=((wy (b.getD (2*i) 0) (b.getD (2*i+1) 0)).toNat:Int)
def pK(b:List UInt8):List Int:=(List.range (b.length/2)).map (qx b)
def ve(p:PV):Bool:=decide (p.kind=2)&&decide (p.body.length%2=0)&&decide (p.id=max 0 ((p.body.length/2:Nat) -1:Int))
def fc(b:List UInt8):RV×Int:=
 if(di b).2≠0 then(gz,(di b).2)
 else if(di b).1.kind=0 then(gz,6)
 else if ve (di b).1=false then(gz,2)
 else(⟨(di b).1.gen,pK (di b).1.body⟩,0)
def DW(x:Int):List UInt8:=[dx (x/256),dx x]
def jm(l:List Int):List UInt8:=(l.map DW).flatten
def dy(r:RV)(n:Int):List UInt8×Int:=if tm r n=true then eQ ⟨2,max 0 ((r.at_.length:Int) -1),r.gen,jm r.at_⟩ n else([],1)
theorem Wv{b:List UInt8}{i:Nat}(h:i<b.length/2):(pK b).take (i+1)=(pK b).take i++[qx b i]:=by
 rw[anq,pK,anA,aoK h];rfl
theorem HL(b:List UInt8):(pK b).length=b.length/2:=by simp[pK]
theorem Ww{l:List Int}{i:Nat}{x:Int}(h:l[i]? =some x):jm (l.take (i+1))=jm (l.take i)++DW x:=by
 simp[jm,anq,h]
theorem Wx(l:List Int):(jm l).length=2*l.length:=by
 induction l with
 |nil=>rfl
 |cons x l ih=>
  have:jm (x::l)=DW x++jm l:=by simp[jm]
  rw[this,af0,ih];simp only[DW,ang,anh];omega
structure NS where
 at_:Int
 new:RV
 found:Bool
 blank:Bool
 deriving DecidableEq
def w4(s:NS)(i:Nat)(b:List UInt8):NS:=
 if(fc b).2=0/\(s.found=false\/s.new.gen<=(fc b).1.gen)then⟨i,(fc b).1,true,s.blank&&pJ b⟩else{s with blank:=s.blank&&pJ b}
def dY(l:List (List UInt8)):Nat->NS
 |0=>⟨0,gz,false,true⟩
 |k+1=>w4 (dY l k) k (l.getD k [])
def fY(l:List (List UInt8)):Int×RV×Int:=
 if(dY l l.length).found=true then((dY l l.length).at_,(dY l l.length).new,0)else if(dY l l.length).blank=true then(0,gz,6)else(0,gz,2)
theorem Wz{l:List (List UInt8)}{i:Nat}{b:List UInt8}(hb:l[i]? =some b)(h:(fc b).2=0/\((dY l i).found=false\/(dY l i).new.gen<=(fc b).1.gen)):dY l (i+1)=⟨i,(fc b).1,true,(dY l i).blank&&pJ b⟩:=by
 rw[dY,show l.getD i []=b by simp[List.getD,hb],w4,if_pos h]
theorem WA{l:List (List UInt8)}{i:Nat}{b:List UInt8}(hb:l[i]? =some b)(h: ¬((fc b).2=0/\((dY l i).found=false\/(dY l i).new.gen<=(fc b).1.gen))):dY l (i+1)={dY l i with blank:=(dY l i).blank&&pJ b}:=by
 rw[dY,show l.getD i []=b by simp[List.getD,hb],w4,if_neg h]
structure VV where
 aj:CV
 at_:List Int
 gen:Nat
 last:Int
 deriving DecidableEq
def WB:CV:=⟨0,0,[],0,false,[]⟩
def l5:VV:=⟨WB,[],0,0⟩
def vv(v:bV):VV:=⟨cv v.aj,v.at_.xs,v.gen.toNat,v.last⟩
def oJ(c:CV):Bool:=bl c&&decide (4<=(c.blocks.length:Int))&&decide (2<=c.ab)&&decide (24<=c.size)
theorem tn{c:CV}:oJ c=true↔bl c=true/\4<=(c.blocks.length:Int)/\2<=c.ab/\24<=c.size:=by simp only[oJ,anc,decide_eq_true_eq,and_assoc]
def yX(c:CV)(k:Int):List UInt8:=(aA c (k/c.ab)).ab.getD (k%c.ab).toNat []
def tp(c:CV)(k:Int):Bool:=decide (2<=k/c.ab)&&decide (k/c.ab<(c.blocks.length:Int))&&decide (k%c.ab<(aA c (k/c.ab)).used)
theorem A9{c:CV}{k:Int}:tp c k=true↔2<=k/c.ab/\k/c.ab<(c.blocks.length:Int)/\k%c.ab<(aA c (k/c.ab)).used:=by simp only[tp,anc,decide_eq_true_eq,and_assoc]
def ND(p:PV×Int)(id:Int):Bool:=decide (p.2=0)&&decide (p.1.kind=1)&&decide (p.1.id=id)
def yY(c:CV)(id n:Int):Bool:=tp c (n -1)&&ND (di (yX c (n -1))) id
theorem WC(c:CV):{A2 c c.bc with off:=c.off}=c:=by
 rw[A2];split<;>rfl
def tq(c:CV)(l:List Int)(i:Nat):Bool:=decide (l.getD i 0=0)||(!(l.take i).contains (l.getD i 0)&&yY c (i:Int) (l.getD i 0))
def vf(c:CV)(l:List Int):Bool:=(List.range l.length).all (tq c l)
theorem HM{c:CV}{l:List Int}:vf c l=true↔ ∀i,i<l.length->tq c l i=true:=by simp only[vf,anw,an5]
def jo(l:List Int)(i:Nat):Int->Option Unit:=fun x=>if x≠0/\x∈l.take i then some ()else none
theorem Ba{l:List Int}{i:Nat}{x:Int}:(jo l i x).isSome=decide (x≠0/\x∈l.take i):=by
 unfold jo;split<;>simp_all
theorem NF{l:List Int}:(fun _=>none)=jo l 0:=by
 funext x;simp[jo]
theorem NG{l:List Int}{i:Nat}(h:l[i]? =some 0):jo l (i+1)=jo l i:=by
 funext x
 unfold jo;rw[anq,h]
 by_cases hx:x=0
 ·
  simp[hx]
 simp[hx]
theorem NH{l:List Int}{i:Nat}{y:Int}(h:l[i]? =some y)(hy:y≠0):(fun z=>if z=y then some ()else jo l i z)=jo l (i+1):=by
 funext x
 unfold jo;rw[anq,h]
 by_cases hx:x=y
 ·
  subst hx;simp[hy]
 simp[hx]
theorem tr{l:List Int}{i:Nat}{y:Int}(h:l[i]? =some y):l.getD i 0=y:=by simp[List.getD,h]
def eU(l:List (Sl (Sl UInt8))):List (Sl UInt8):=(l.map Sl.xs).flatten
theorem DX{l:List (Sl (Sl UInt8))}{i:Nat}{x:Sl (Sl UInt8)}(h:l[i]? =some x):eU (l.take (i+1))=eU (l.take i)++x.xs:=by
 rw[eU,anq,h];simp[eU]
theorem WD(l:List (Sl (Sl UInt8)))(i:Nat):(eU (l.take i)).length<=(eU l).length:=by
 have e:eU l=eU (l.take i)++eU (l.drop i):=by
  unfold eU;rw[←List.flatten_append,←an2,anO]
 rw[e,af0];omega
class NI(w0:World)(l:List (Sl UInt8)):Prop where
 h: ∀y∈l,Deep.dO (hp w0) y
variable {w0:World}{L:List ai}
instance aS.row{x:Sv}{l:List (Sl UInt8)}{i:Nat}[q:dV L x (bQ (τ:=UInt8)) 1 l i][m:NI w0 l]:aS w0 L (⟨x,l⟩:Sl (Sl UInt8)):=
 ⟨fun w hw=>⟨(hw.get q.h).1,fun y hy=>Deep.mono w0 w y (m.h y hy) hw.below⟩⟩
def fh(c:CV):Int×RV×Int:=fY ((aA c 0).ab++(aA c 1).ab)
def tt(c:CV):Bool:=decide ((fh c).1%c.ab<(aA c ((fh c).1/c.ab)).used)&&vf c (fh c).2.1.at_
def bL(c:CV):VV×Int:=
 if oJ c=false then(l5,1)
 else if c.off=true then(l5,7)
 else if(fh c).2.2≠0 then(l5,(fh c).2.2)
 else if tt c=false then(l5,2)
 else(⟨c,(fh c).2.1.at_,(fh c).2.1.gen,(fh c).1/c.ab⟩,0)
theorem NJ(l:List (List UInt8)): ∀k,k<=l.length->(dY l k).at_=0\/(0<=(dY l k).at_/\(dY l k).at_<k)
 |0,_=> .inl rfl
 |k+1,h=>by
  have:=NJ l k (by omega);rw[dY,w4];split
  ·
   exact .inr ⟨by simp only;omega,by simp only;omega⟩
  simp only;omega
theorem NK{l:List (List UInt8)}(h:0<l.length):0<=(fY l).1/\(fY l).1<l.length:=by
 have:=NJ l l.length (anm _);rw[fY];split
 ·
  simp only;omega
 split<;>(simp only;omega)
theorem WE(b:List UInt8): ∀x∈pK b,0<=x/\x<=65535:=by
 intro x hx;obtain⟨i,_,rfl⟩:=aoC.1 hx;have:=(wy (b.getD (2*i) 0) (b.getD (2*i+1) 0)).toNat_lt;simp only[qx];omega
theorem WG(b:List UInt8): ∀x∈(fc b).1.at_,0<=x/\x<=65535:=by
 rw[fc];split
 ·
  simp[gz]
 split
 ·
  simp[gz]
 split
 ·
  simp[gz]
 exact WE _
theorem NL(l:List (List UInt8)): ∀k,∀x∈(dY l k).new.at_,0<=x/\x<=65535
 |0=>by simp[dY,gz]
 |k+1=>by
  have:=NL l k;rw[dY,w4];split
  ·
   exact WG _
  exact this
theorem NM(l:List (List UInt8)): ∀x∈(fY l).2.1.at_,0<=x/\x<=65535:=by
 rw[fY];split
 ·
  exact NL _ _
 split<;>simp[gz]
theorem HN(a b:Sl (Sl UInt8)):aL (eU [a,b])=aL a.xs++aL b.xs:=by simp[aL,eU]
theorem HO{c:Cp}{i:Nat}{B:Bk}(h:c.blocks.xs[i]? =some B):aA (cv c) (i:Int)=bv B:=by
 rw[←w3];simp[List.getD,h]
theorem WH(b:List UInt8):(fc b).1.at_.length<=65536:=by
 have h:=HJ b;rw[fc];split
 ·
  simp[gz]
 split
 ·
  simp[gz]
 split
 ·
  simp[gz]
 simp only[HL];omega
theorem NO(l:List (List UInt8)): ∀k,(dY l k).new.at_.length<=65536
 |0=>by simp[dY,gz]
 |k+1=>by
  have:=NO l k;rw[dY,w4];split
  ·
   exact WH _
  exact this
theorem WI(l:List (List UInt8)):(fY l).2.1.at_.length<=65536:=by
 rw[fY];split
 ·
  exact NO _ _
 split<;>simp[gz]
theorem NP(c:CV):(bL c).1.at_.length<=65536:=by
 have h:=WI ((aA c 0).ab++(aA c 1).ab);rw[bL];split
 ·
  simp[l5]
 split
 ·
  simp[l5]
 split
 ·
  simp[l5]
 split
 ·
  simp[l5]
 exact h
theorem HP{c:CV}(h:(bL c).2=0):oJ c=true:=by
 cases hb:oJ c with
 |true=>rfl
 |false=>rw[bL,if_pos hb]at h;cases h
def pM(x:VV):Bool:=decide ((bL {x.aj with off:=false}).2=0)&&decide ((bL {x.aj with off:=false}).1.gen=x.gen)&&decide ((bL {x.aj with off:=false}).1.last=x.last)&&decide ((bL {x.aj with off:=false}).1.at_=x.at_)
theorem WJ{w0 w:World}{L:List ai}(h:Mem w0 L w):Mem w0 (fz fM::L) w:=
 DK (d:=fM) (Mem.freeze (es:=[]) _ ⟨dq.nil _ _ _,fun x hx=>by cases hx⟩ (fun k hk=>by
  rcases hk with⟨cc,_⟩|⟨x,hx,_⟩
  ·
   exact absurd rfl cc
  cases hx) (Nq (s:=Sv.none) Sv.Am rfl h))
class NQ(a:Cp)(b:outParam Cp):Prop where
 h:a=b
instance aS.aiZ{v:bV}{c:Cp}[e:NQ v.aj c][q1:aS w0 L c][q2:aS w0 L v.at_]:aS w0 L v:=
 ⟨fun w hw=>⟨by rw[e.h];exact q1.h w hw,q2.h w hw⟩⟩
def kT(c:CV)(n:Int):List UInt8:=if(di (yX c (n -1))).2=0 then(di (yX c (n -1))).1.body else[]
theorem HQ{c:CV}(h:(bL c).2=0):oJ c=true/\tt c=true/\bL c=(⟨c,(fh c).2.1.at_,(fh c).2.1.gen,(fh c).1/c.ab⟩,0):=by
 have hb:=HP h
 by_cases h1:c.off=true
 ·
  rw[bL,if_neg (by rw[hb];simp),if_pos h1]at h;cases h
 by_cases h2:(fh c).2.2≠0
 ·
  rw[bL,if_neg (by rw[hb];simp),if_neg h1,if_pos h2]at h;exact absurd h h2
 cases h3:tt c with
 |false=>rw[bL,if_neg (by rw[hb];simp),if_neg h1,if_neg h2,if_pos h3]at h;cases h
 |true=>exact⟨hb,rfl,by rw[bL,if_neg (by rw[hb];simp),if_neg h1,if_neg h2,if_neg (by rw[h3];simp)]⟩
theorem DY{x:VV}(h:pM x=true):bl x.aj=true/\vf x.aj x.at_=true/\ ∀y∈x.at_,0<=y/\y<=65535:=by
 simp only[pM,anc,decide_eq_true_eq]at h;obtain⟨⟨⟨h1,h2⟩,h3⟩,h4⟩:=h;obtain⟨hb,hl,hf⟩:=HQ h1;rw[hf]at h4;simp only at h4;simp only[tt,anc,decide_eq_true_eq]at hl;rw[h4]at hl;refine⟨(tn.1 hb).1,hl.2,?_⟩;rw[←h4];exact NM _
theorem NR{x:VV}(h:pM x=true){i:Nat}{y:Int}(hy:x.at_[i]? =some y)(h0:y≠0):1<=y/\y<=1000000/\tp x.aj (y -1)=true:=by
 obtain⟨h1,h2,h3⟩:=DY h;have hr:=h3 y (alM hy);have hp:=HM.1 h2 i (ad2.1 hy).1;rw[tq,tr hy]at hp;simp only[aog,decide_eq_true_eq,anc]at hp;rcases hp with hp|hp
 ·
  exact absurd hp h0
 have hn:=hp.2;rw[yY,anc]at hn;exact⟨by omega,by omega,hn.1⟩
def rO(l:List Int)(j:Nat):Bool:=decide (l.getD j 0≠0)&& !(l.take j).contains (l.getD j 0)
def oL(ab:Int)(l:List Int)(k i:Nat):Nat:=((List.range k).filter fun j=>rO l j&&decide ((l.getD j 0 -1)/ab=(i:Int)+2)).length
def tu(b:BV)(live:Nat):aG:=⟨live,b.used,b.bj,b.bad⟩
def iZ(c:CV)(l:List Int)(k:Nat):List aG:=(List.range (c.blocks.length -2)).map fun i:Nat=>tu (aA c ((i:Int)+2)) (oL c.ab l k i)
def ib(c:CV)(l:List Int):List aG:=iZ c l l.length
theorem yZ(c:CV)(l:List Int)(k:Nat):(iZ c l k).length=c.blocks.length -2:=by simp[iZ]
theorem DZ(ab:Int)(l:List Int)(k i:Nat):oL ab l (k+1) i=oL ab l k i+(if rO l k&&decide ((l.getD k 0 -1)/ab=(i:Int)+2)then 1 else 0):=by
 rw[oL,aoV,aoA,af0,oL];congr 1;simp only[aoj,apz];split<;>rfl
theorem WK{c:CV}{l:List Int}{k:Nat}(h:rO l k=false):iZ c l (k+1)=iZ c l k:=by
 refine aoS fun i _=>?_;rw[DZ,h];simp
theorem WL{l:List Int}{i:Nat}{y:Int}(h:l[i]? =some y)(hy:y≠0/\y∈l.take i):jo l (i+1)=jo l i:=by
 funext x
 unfold jo;rw[anq,h]
 by_cases hx:x=y
 ·
  subst hx;simp[hy.1,hy.2]
 simp[hx]
theorem WM{c:CV}{l:List Int}{k i:Nat}{x:aG}(h:rO l k=true)(hi:(l.getD k 0 -1)/c.ab=(i:Int)+2)(hx:(iZ c l k)[i]? =some x):iZ c l (k+1)=(iZ c l k).set i {x with live:=x.live+1}:=by
 have dP:i<c.blocks.length -2:=by have:=(ad2.1 hx).1;rwa [yZ]at this
 have kE:x=tu (aA c ((i:Int)+2)) (oL c.ab l k i):=by
  rw[iZ,anA,aoK dP]at hx;exact(ani hx).symm
 refine aok fun j=>?_;rw[aof]
 by_cases hj:i=j
 ·
  subst hj;rw[if_pos rfl,if_pos (by rw[yZ];exact dP),iZ,anA,aoK dP,an8,DZ,h,hi,kE];simp[tu]
 rw[if_neg hj,iZ,iZ,anA,anA];rcases anl j (c.blocks.length -2)with gO|gO
 ·
  rw[aoK gO,an8,an8,DZ,h,hi];simp only[aos];rw[decide_eq_false (by omega)];simp
 rw[ans (by simpa using gO)];rfl
def av(l:List (Sl Int)):List Int:=(l.map Sl.xs).flatten
theorem NT{l:List (Sl Int)}{i:Nat}{x:Sl Int}(h:l[i]? =some x):av (l.take (i+1))=av (l.take i)++x.xs:=by
 rw[av,anq,h];simp[av]
theorem WN{l:List (Sl Int)}{i j:Nat}{x:Sl Int}{y:Int}(h:l[i]? =some x)(hy:x.xs[j]? =some y):(av l)[(av (l.take i)).length+j]? =some y:=by
 have hj:=(ad2.1 hy).1;have e:av l=av (l.take (i+1))++av (l.drop (i+1)):=by
  unfold av;rw[←List.flatten_append,←an2,anO]
 rw[e,NT h,ann (by rw[af0];omega),anr (by omega),aoE,hy]
def vg(c:CV)(l:List Int):Prop:=(bl c=true/\l.length<=1000000)/\2<=c.blocks.length/\ ∀n∈l,n=0\/(1<=n/\n<=1000000/\2<=(n -1)/c.ab/\(n -1)/c.ab<(c.blocks.length:Int))
theorem WO(c:CV)(l:List Int):iZ c l 0=(List.range (c.blocks.length -2)).map fun i:Nat=>tu (aA c ((i:Int)+2)) 0:=by
 refine aoS fun i _=>?_;simp[oL]
theorem NU(ab:Int)(l:List Int)(k i:Nat):oL ab l k i<=k:=by
 rw[oL];exact Nat.le_trans (apE _ _) (by simp)
theorem WQ{c:CV}{l:List Int}{k i:Nat}{z:aG}(h:(iZ c l k)[i]? =some z):0<=z.live/\z.live<=k:=by
 rw[iZ,anA,apv]at h;obtain⟨j,_,rfl⟩:=h;have:=NU c.ab l k j;simp only[tu];omega
def w5(a b:Int):Int:=if a<b then -1 else if b<a then 1 else 0
def rP(p:Int)(x:aG):Bool:= !x.bad&&decide (x.used<p)
def rQ(x:aG):Bool:= !x.bad&&decide (x.live=0)&&decide (0<x.used)
def Bb(p:Int)(x:aG):Bool:=if x.bad=true then decide (0<x.live)else decide (x.used=p)&&decide (0<x.live)&&decide (x.live<p)
def HR(a b:aG):Int:=w5 b.used a.used
def Bc(a b:aG):Int:=w5 a.bj b.bj
def HS(a b:aG):Int:=w5 a.live b.live
def y0(a b:aG):Int:=if a.bad=b.bad then 0 else if a.bad=true then -1 else 1
def vh(p:Int)(x:aG):Bool:=decide (0<=x.live)&&decide (x.live<=x.used)&&decide (x.used<=p)&&decide (0<=x.bj)&&decide (x.bj<=dK)
theorem y5{p:Int}{x:aG}:vh p x=true↔0<=x.live/\x.live<=x.used/\x.used<=p/\0<=x.bj/\x.bj<=dK:=by
 simp only[vh,anc,decide_eq_true_eq,and_assoc]
def oN(l:List aG)(p:Int):Bool:=decide (1<=(l.length:Int))&&decide ((l.length:Int)<=32)&&decide (1<=p)&&decide (p<=16)&&l.all (vh p)
theorem Bd{l:List aG}{p:Int}:oN l p=true↔1<=(l.length:Int)/\(l.length:Int)<=32/\1<=p/\p<=16/\ ∀x∈l,vh p x=true:=by
 simp only[oN,anc,decide_eq_true_eq,and_assoc,anw]
def rR(a b:aG):List (aG->aG->Int)->Bool
 |[]=>false
 |o::r=>if o a b≠0 then decide (o a b<0)else rR a b r
def y7(l:List aG)(dA:aG->Bool)(os:List (aG->aG->Int))(i:Nat)(s:Int×Bool):Int×Bool:=
 if dA (l.getD i gX)=true/\(s.2=false\/rR (l.getD i gX) (l.getD s.1.toNat gX) os=true)then((i:Int),true)else s
def gH(l:List aG)(dA:aG->Bool)(os:List (aG->aG->Int)):Nat->Int×Bool
 |0=>(0,false)
 |k+1=>y7 l dA os k (gH l dA os k)
def fH(l:List aG)(p:Int)(dA:aG->Bool)(os:List (aG->aG->Int)):Int×Bool:=
 if oN l p=true then gH l dA os l.length else(0,false)
def fN(l:List aG)(p:Int):Int×Bool:=fH l p (rP p) [HR,Bc]
def gA(l:List aG)(p:Int):Int×Bool:=fH l p rQ [Bc]
def w6(l:List aG)(p:Int):Int×Bool:=fH l p (Bb p) [y0,HS,Bc]
def l6(p:Int)(x:aG):Int:=if rQ x=true then p else if rP p x=true then p -x.used else 0
def l8:List Int->Int
 |[]=>0
 |x::r=>x+l8 r
def D0(l:List aG)(p:Int):Int:=if oN l p=true then l8 (l.map (l6 p))else 0
theorem WR(a b:List Int):l8 (a++b)=l8 a+l8 b:=by
 induction a with
 |nil=>simp[l8]
 |cons x r ih=>simp only[aoq,l8,ih];omega
theorem HT(l:List aG)(dA:aG->Bool)(os:List (aG->aG->Int)): ∀k,0<=(gH l dA os k).1/\(gH l dA os k).1<=k/\((gH l dA os k).2=true->(gH l dA os k).1<k/\dA (l.getD (gH l dA os k).1.toNat gX)=true)
 |0=>⟨by simp[gH],by simp[gH],fun h=>by simp[gH]at h⟩
 |k+1=>by
  obtain⟨h1,h2,h3⟩:=HT l dA os k;rw[gH,y7];split
  ·
   rename_i h;exact⟨by simp only;omega,by simp only;omega,fun _=>⟨by simp only;omega,by simpa using h.1⟩⟩
  exact⟨h1,by omega,fun h=>⟨by have:=(h3 h).1;omega,(h3 h).2⟩⟩
theorem NV{l:List aG}{dA:aG->Bool}{os:List (aG->aG->Int)}: ∀{k},(gH l dA os k).2=false-> ∀i,i<k->dA (l.getD i gX)=false
 |0,_,i,hi=>by omega
 |k+1,h,i,hi=>by
  rw[gH,y7]at h;split at h
  ·
   cases h
  rename_i hn
  by_cases e:i=k
  ·
   subst e
   cases hr:dA (l.getD i gX)with
   |false=>rfl
   |true=>exact absurd ⟨hr, .inl h⟩ hn
  exact NV h i (by omega)
theorem D1{l:List aG}{p:Int}{dA:aG->Bool}{os:List (aG->aG->Int)}(h:(fH l p dA os).2=true):oN l p=true/\0<=(fH l p dA os).1/\(fH l p dA os).1<l.length/\dA (l.getD (fH l p dA os).1.toNat gX)=true:=by
 unfold fH at h⊢;split at h
 ·
  rename_i hw;rw[if_pos hw];obtain⟨h1,h2,h3⟩:=HT l dA os l.length;exact⟨hw,h1,(h3 h).1,(h3 h).2⟩
 cases h
theorem NW{l:List aG}{p:Int}{dA:aG->Bool}{os:List (aG->aG->Int)}(hw:oN l p=true)(h:(fH l p dA os).2=false): ∀x∈l,dA x=false:=fun x hx=>by
 unfold fH at h;rw[if_pos hw]at h;obtain⟨i,hi⟩:=aoi hx;have dP:=(ad2.1 hi).1;have:=NV h i dP;rwa [show l.getD i gX=x by simp[List.getD,hi]]at this
theorem drop_at{α:Type}{l:List α}{i:Nat}{e:α}(he:l[i]? =some e):l.drop i=e::l.drop (i+1):=by
 obtain⟨hi,rfl⟩:=ad2.1 he;rw[apW]
theorem WS{p:Int}{x:aG}(h:vh p x=true)(hp:1<=p):0<=l6 p x/\l6 p x<=p:=by
 obtain⟨h1,h2,h3,_⟩:=y5.1 h;rw[l6];split
 ·
  omega
 split<;>omega
theorem NX(p:Int): ∀l:List aG,(∀x∈l,vh p x=true)->1<=p->0<=l8 (l.map (l6 p))/\l8 (l.map (l6 p))<=(l.length:Int)*p
 |[],_,_=>by simp[l8]
 |x::r,h,hp=>by
  have h1:=NX p r (fun y hy=>h y (anI _ hy)) hp;have h2:=WS (h x ano) hp;rw[anX,l8,ang,Int.natCast_add,Int.add_mul];omega
theorem room_le{n:Nat}{p:Int}(h:n<=32)(h1:1<=p)(h2:p<=16):(n:Int)*p<=512:=by
 have:(n:Int)*p<=32*16:=ap1 (by omega) h2 (by omega) (by omega);omega
structure eV(c d:CV):Prop where
 ab:d.ab=c.ab
 size:d.size=c.size
 len:d.blocks.length=c.blocks.length
theorem eV.gB(c:CV):eV c c:=⟨rfl,rfl,rfl⟩
theorem eV.trans{c d e:CV}(h:eV c d)(g:eV d e):eV c e:=⟨g.ab.trans h.ab,g.size.trans h.size,g.len.trans h.len⟩
theorem WT(c:CV)(b g:Int)(p:List UInt8):eV c (mZ c b g p):=by
 rw[mZ];split
 ·
  exact⟨rfl,rfl,by simp[oH]⟩
 exact .gB c
theorem WU(c:CV)(b:Int):eV c (nf c b):=by
 rw[nf];split
 ·
  exact⟨rfl,rfl,by simp[rI]⟩
 exact .gB c
theorem WW(c:CV)(b:Int):eV c (qv c b):=by
 rw[qv];split
 ·
  exact⟨rfl,rfl,by simp⟩
 exact .gB c
theorem HU{c:CV}(h:bl c=true){o:Int}{f:Bool}(h0:0<=o)(h1:o<=dK){i:Nat}{B:BV}(hB:oG c.ab c.size B=true):bl {c with ops:=o,off:=f,blocks:=c.blocks.set i B}=true:=by
 obtain⟨k1,k2,k3,k4,k5⟩:=eP.1 h;refine eP.2 ⟨by simpa using k1,h0,h1,k4,fun b hb=>?_⟩;rcases anV hb with hb|rfl
 ·
  exact k5 b hb
 exact hB
theorem NY{c:CV}(h:bl c=true)(b g:Int)(p:List UInt8):bl (mZ c b g p)=true:=by
 rw[mZ];split
 ·
  rename_i hk;obtain⟨k1,k2,k3,k4⟩:=hk;obtain⟨j1,j2,j3,j4,j5⟩:=nR.1 k1;obtain⟨o1,o2,o3,o4,o5,o6⟩:=gy.1 (vd j1);have:=(eP.1 h).2.1;refine HU h (by omega) (by omega) (gy.2 ⟨by simpa using o1,by simp only;omega,by simp only;omega,o4,o5,fun x hx=>?_⟩);rcases anV hx with hx|rfl
  ·
   exact o6 x hx
  rw[yM];split
  ·
   simpa[cP]using j4
  exact j4
 exact h
theorem NZ{c:CV}(h:bl c=true)(b:Int):bl (nf c b)=true:=by
 rw[nf];split
 ·
  rename_i hk;obtain⟨k1,k2,k3⟩:=hk;obtain⟨j1,j2,j3⟩:=wX.1 k1;obtain⟨o1,o2,o3,o4,o5,o6⟩:=gy.1 (vd j1);have:=(eP.1 h).2.1;have hs:=kz.1 (eP.1 h).1;have hl:(vb c (aA c b).ab).length=(aA c b).ab.length:=by rw[vb];split<;>simp
  refine HU h (by omega) (by omega) (gy.2 ⟨by rw[hl];exact o1,?_,?_,by simp only;omega,by simp only;omega,fun x hx=>?_⟩)
  ·
   simp only;split<;>omega
  ·
   simp only;split<;>omega
  rw[vb]at hx;split at hx
  ·
   obtain⟨y,hy,rfl⟩:=aoC.1 hx;simpa[cP]using o6 y hy
  obtain⟨y,hy,rfl⟩:=aoC.1 hx;simp only[gW,anZ];omega
 exact h
theorem WX{c:CV}(h:bl c=true)(b:Int):bl (qv c b)=true:=by
 rw[qv];split
 ·
  rename_i hk;have hh:kA c b=true:=by
   rw[rJ]at hk;split at hk
   ·
    assumption
   cases hk
  obtain⟨o1,o2,o3,o4,o5,o6⟩:=gy.1 (vd hh);have k:=eP.1 h;exact HU (o:=c.ops) (f:=c.off) h k.2.1 k.2.2.1 (gy.2 ⟨o1,o2,o3,o4,o5,o6⟩)
 exact h
def fZ(c:CV)(b:Int):Int:=if(aA c b).bad=true then 0 else c.ab -(aA c b).used
def mc(c:CV)(b e:Int):CV:=if e=9 then qv c b else c
def bS(c:CV)(b:Int)(p:List UInt8):Int:=kS c b (aA c b).used p
def cE(c:CV)(b:Int)(p:List UInt8):CV:=mc (mZ c b (aA c b).used p) b (bS c b p)
def gI(c:CV)(b:Int):CV:=mc (nf c b) b (dX c b)
def jq(c:CV):List UInt8:=(eQ ⟨1,0,0,[]⟩ c.size).1
def jr:Nat->CV->Int->CV×Int
 |0,c,b=>(gI c b,dX c b)
 |n+1,c,b=>if bS c b (jq c)≠0 then(cE c b (jq c),bS c b (jq c))else jr n (cE c b (jq c)) b
def eB(c:CV)(b:Int):CV×Int:=jr (fZ c b).toNat c b
theorem N1{c:CV}(h:bl c=true)(b e:Int):bl (mc c b e)=true:=by
 rw[mc];split
 ·
  exact WX h b
 exact h
theorem N2(c:CV)(b e:Int):eV c (mc c b e):=by
 rw[mc];split
 ·
  exact WW c b
 exact .gB c
theorem lF{c:CV}(h:bl c=true)(b:Int)(p:List UInt8):bl (cE c b p)=true:=N1 (NY h _ _ _) _ _
theorem me(c:CV)(b:Int)(p:List UInt8):eV c (cE c b p):=(WT _ _ _ _).trans (N2 _ _ _)
theorem D2{c:CV}(h:bl c=true)(b:Int):bl (gI c b)=true:=N1 (NZ h _) _ _
theorem D3(c:CV)(b:Int):eV c (gI c b):=(WU _ _).trans (N2 _ _ _)
theorem N3: ∀(n:Nat) {c:CV} (b:Int),bl c=true->bl (jr n c b).1=true/\eV c (jr n c b).1
 |0,c,b,h=>⟨D2 h b,D3 c b⟩
 |n+1,c,b,h=>by
  rw[jr];split
  ·
   exact⟨lF h _ _,me _ _ _⟩
  have:=N3 n b (lF h b (jq c));exact⟨this.1,(me _ _ _).trans this.2⟩
theorem Be{c:CV}(b:Int)(h:bl c=true):bl (eB c b).1=true/\eV c (eB c b).1:=N3 _ b h
theorem tv{c:CV}{b:Int}{p:List UInt8}(h:bS c b p=0):rG c b (aA c b).used p=true/\c.off=false/\(aA c b).bad=false/\(bE c).2=false/\cE c b p=oH c b (aA c b).used p:=by
 have h0:=h;rw[bS,kS]at h
 by_cases h1:rG c b (aA c b).used p=true
 ·
  rw[if_pos h1]at h
  by_cases h2:c.off=true
  ·
   rw[if_pos h2]at h;cases h
  rw[if_neg h2]at h
  by_cases h3:(aA c b).bad=true\/(aA c b).used≠(aA c b).used
  ·
   rw[if_pos h3]at h;cases h
  rw[if_neg h3]at h;have uz:(aA c b).bad=false:=by
   cases hb:(aA c b).bad with
   |false=>rfl
   |true=>exact absurd (.inl hb) h3
  by_cases h4:(bE c).2=true
  ·
   rw[if_pos h4,mX]at h;split at h<;>cases h
  refine⟨h1,by simpa using h2,uz,by simpa using h4,?_⟩;rw[cE,mc,h0,if_neg (by decide),mZ,if_pos ⟨h1,by simpa using h2,uz,rfl⟩]
 rw[if_neg h1]at h;cases h
theorem D4{c:CV}{b:Int}(h:kA c b=true){o:Int}{f:Bool}{B:BV}:aA {c with ops:=o,off:=f,blocks:=c.blocks.set b.toNat B} b=B:=by
 obtain⟨_,h2,h3⟩:=kB.1 h;simp only[aA,List.getD,anK (show b.toNat<c.blocks.length by omega),apu]
theorem N4{c:CV}{b:Int}{p:List UInt8}(h:bS c b p=0):fZ (cE c b p) b=fZ c b -1:=by
 obtain⟨h1,h2,h3,h4,h5⟩:=tv h;have hh:=(nR.1 h1).1;rw[h5,fZ,fZ,oH,D4 hh];simp only[h3];simp only[aon,if_false];omega
theorem WY{c:CV}{b:Int}(h:0<fZ c b):eB c b=if bS c b (jq c)≠0 then(cE c b (jq c),bS c b (jq c))else eB (cE c b (jq c)) b:=by
 obtain⟨n,hn⟩: ∃n,(fZ c b).toNat=n+1:=⟨(fZ c b).toNat -1,by omega⟩;rw[eB,hn,jr];split
 ·
  rfl
 rename_i h0;have s0:bS c b (jq c)=0:=by simpa using h0
 rw[eB,N4 s0,show(fZ c b -1).toNat=n by omega]
theorem WZ{c:CV}{b:Int}(h: ¬0<fZ c b):eB c b=(gI c b,dX c b):=by
 rw[eB,show(fZ c b).toNat=0 by omega];rfl
theorem D5(c:CV)(b e:Int):(mc c b e).ops=c.ops:=by
 rw[mc];split
 ·
  rw[qv];split<;>rfl
 rfl
theorem W3(c:CV)(b g:Int)(p:List UInt8):c.ops<=(mZ c b g p).ops:=by
 rw[mZ];split
 ·
  simp only[oH];omega
 omega
theorem W4(c:CV)(b:Int):c.ops<=(nf c b).ops:=by
 rw[nf];split
 ·
  simp only[rI];omega
 omega
theorem vi{c:CV}{b:Int}{p:List UInt8}(hb:(aA c b).bad=false)(he:bS c b p=9\/bS c b p=0):(cE c b p).ops=c.ops+1:=by
 rw[cE,D5,mZ];rw[bS,kS]at he
 by_cases h1:rG c b (aA c b).used p=true
 ·
  rw[if_pos h1]at he
  by_cases h2:c.off=true
  ·
   rw[if_pos h2]at he;omega
  rw[if_pos ⟨h1,by simpa using h2,hb,rfl⟩];rfl
 rw[if_neg h1]at he;omega
theorem W5{c:CV}{b:Int}(hb:(aA c b).bad=false)(he:dX c b=9\/dX c b=0):(gI c b).ops=c.ops+1:=by
 rw[gI,D5,nf];rw[dX]at he
 by_cases h1:rH c b=true
 ·
  rw[if_pos h1]at he
  by_cases h2:c.off=true
  ·
   rw[if_pos h2]at he;omega
  rw[if_pos ⟨h1,by simpa using h2,hb⟩];rfl
 rw[if_neg h1]at he;omega
theorem W6{c:CV}{b:Int}{p:List UInt8}(h:bS c b p=0):(aA (cE c b p) b).bad=false:=by
 obtain⟨h1,h2,h3,h4,h5⟩:=tv h;rw[h5,oH,D4 (nR.1 h1).1];exact h3
theorem w7(c:CV)(b:Int)(p:List UInt8):c.ops<=(cE c b p).ops:=by rw[cE,D5];exact W3 _ _ _ _
theorem N5(c:CV)(b:Int):c.ops<=(gI c b).ops:=by rw[gI,D5];exact W4 _ _
theorem y8: ∀(n:Nat) (c:CV) (b:Int),c.ops<=(jr n c b).1.ops
 |0,c,b=>N5 c b
 |n+1,c,b=>by
  rw[jr];split
  ·
   exact w7 _ _ _
  have:=y8 n (cE c b (jq c)) b;have:=w7 c b (jq c);omega
theorem N6: ∀(n:Nat) {c:CV} {b:Int},(aA c b).bad=false->(jr n c b).2=9\/(jr n c b).2=0->c.ops<(jr n c b).1.ops
 |0,c,b,hb,he=>by have:=W5 hb he;simp only[jr];omega
 |n+1,c,b,hb,he=>by
  rw[jr]at he⊢
  by_cases h0:bS c b (jq c)≠0
  ·
   rw[if_pos h0]at he⊢;have:=vi hb (p:=jq c) (he.imp id fun h=>h);simp only;omega
  rw[if_neg h0]at he⊢;have s0:bS c b (jq c)=0:=by simpa using h0
  have:=N6 n (W6 s0) he;have:=w7 c b (jq c);omega
theorem D6{c:CV}{b:Int}(hb:(aA c b).bad=false)(he:(eB c b).2=9\/(eB c b).2=0):c.ops<(eB c b).1.ops:=N6 _ hb he
def bN:aG:=⟨0,0,0,true⟩
def nS(x:aG):aG:=if x.bad=true then bN else x
def aQ(c:CV)(fl:List Int):List aG:=(ib c fl).map nS
def lG(R:aG->Bool)(x:aG):aG:=if x.bad=true\/R x=false then bN else x
def cj(R:aG->Bool)(l:List aG):List aG:=l.map (lG R)
theorem qy(c:CV)(fl:List Int):(aQ c fl).length=c.blocks.length -2:=by rw[aQ,anJ,ib,yZ]
theorem D7(R:aG->Bool)(l:List aG):(cj R l).length=l.length:=by simp[cj]
structure WV where
 v:VV
 beyond:Bool
 deriving DecidableEq
def WV.on(x:WV)(c:CV):WV:={x with v:={x.v with aj:=c}}
theorem rS{c:Cp}{b:Int}{B:Bk}(h:c.blocks.xs[b.toNat]? =some B):aA (cv c) b=bv B:=by
 rw[←w3];simp[List.getD,h]
def mf(c:CV):Nat:=(c.blocks.filter fun b=>b.bad).length
def tw(p:List UInt8):Nat:=if(fc p).2=0 then(fc p).1.gen else 0
def rT(l:List (List UInt8)):Nat:=l.foldl (fun m p=>max m (tw p)) 0
def nT(c:CV)(b:Int):Nat:=rT (aA c b).ab
theorem W7{l:List (List UInt8)}{i:Nat}{p:List UInt8}(h:l[i]? =some p):rT (l.take (i+1))=max (rT (l.take i)) (tw p):=by
 rw[rT,anq,h];simp[rT]
theorem N7(b:List UInt8):(di b).1.gen<281474976710656:=by
 have:=HG b;rw[di];split
 ·
  simp[jF]
 split
 ·
  simp[jF]
 split
 ·
  simp[jF]
 split
 ·
  simp[jF]
 split
 ·
  simp[jF]
 exact this
theorem N8(p:List UInt8):tw p<281474976710656:=by
 rw[tw];split
 ·
  rw[fc];split
  ·
   simp[gz]
  split
  ·
   simp[gz]
  split
  ·
   simp[gz]
  exact N7 p
 omega
theorem HV(l:List (List UInt8)):rT l<281474976710656:=by
 have: ∀(l:List (List UInt8)) (m:Nat),m<281474976710656->l.foldl (fun m p=>max m (tw p)) m<281474976710656:=by
  intro l
  induction l with
  |nil=>intro m h;exact h
  |cons p r ih=>
   intro m h;have:=N8 p;exact ih _ (Nat.max_lt.2 ⟨h,this⟩)
 exact this l 0 (by omega)
def Bf(c:CV)(b:Int):Bool:= !(aA c b).bad&&(decide (0<(aA c b).used)||(decide (b<2)&&decide (0<nT c b)))
def fI(c:CV)(b:Int):Nat:=max 1 (nT c (1 -b)+(1 -b).toNat)
def w8(c:CV)(last:Int):Int:=if(aA c (1 -last)).bad=true then fZ c last else if(aA c last).bad=true/\0<fZ c (1 -last)then fZ c (1 -last)else c.ab
def Bg(g:Nat):Bool:=decide (281474976710656<=g+2)
def lH(e:Int):Int:=if e=9 then 0 else e
theorem N9{f:aG->aG}{l:List aG}{i:Nat}{x:aG}(h:l[i]? =some x):((l.take i).map f++l.drop i).set i (f x)=(l.take (i+1)).map f++l.drop (i+1):=by
 have hi:=(ad2.1 h).1;have hl:((l.take i).map f).length=i:=by rw[anJ,anj];omega
 rw[aoU _ _ (by omega),hl,aoI,drop_at h,aoX,anq,h];simp
theorem Oa{f:aG->aG}{l:List aG}{i:Nat}{x:aG}(h:l[i]? =some x)(hf:f x=x):(l.take i).map f++l.drop i=(l.take (i+1)).map f++l.drop (i+1):=by
 rw[drop_at h,anq,h];simp[hf]
theorem Ob{f:aG->aG}{l:List aG}{i:Nat}{x:aG}(h:l[i]? =some x):((l.take i).map f++l.drop i)[i]? =some x:=by
 have hi:=(ad2.1 h).1;have hl:((l.take i).map f).length=i:=by rw[anJ,anj];omega
 rw[anr (by omega),hl,aoI,aom,an3,h]
theorem W8{l:List BV}{i:Nat}{x:BV}(h:l[i]? =some x):((l.take (i+1)).filter fun b=>b.bad).length=((l.take i).filter fun b=>b.bad).length+(if x.bad=true then 1 else 0):=by
 rw[anq,h,aoA,af0];congr 1;simp only[apy,aoj,apz];split<;>simp_all
def gZ(c:CV)(l:List Int):Prop:= ∀n∈l,n=0\/(1<=n/\2<=(n -1)/c.ab/\(n -1)/c.ab<(c.blocks.length:Int))
theorem gZ.jG{c d:CV}{l:List Int}(h:gZ c l)(g:eV c d):gZ d l:=fun n hn=>by
  rcases h n hn with h|h
  ·exact .inl h
  ·exact .inr (by rw[g.ab,g.len];exact h)
theorem gZ.append{c:CV}{a b:List Int}(h:gZ c a)(g:gZ c b):gZ c (a++b):=fun n hn=>(anu.1 hn).elim (h n) (g n)
theorem kF{c:CV}(h:bl c=true):1<=(c.blocks.length:Int)/\(c.blocks.length:Int)<=32/\1<=c.ab/\c.ab<=16/\1<=c.size/\c.size<=256:=kz.1 (eP.1 h).1
theorem Oc{n p b:Int}(hp:1<=p)(gJ:p<=16)(hb:b<=32)(h:(n -1)/p<b):n<=512:=by
  have h1:n -1=p*((n -1)/p)+(n -1)%p:=(Int.mul_ediv_add_emod (n -1) p).symm;have h2:=apT (n -1) (show 0<p by omega);have h3:(n -1)/p<=31:=by omega
  have h4:p*((n -1)/p)<=p*31:=Int.mul_le_mul_of_nonneg_left h3 (by omega);omega
theorem gZ.kn{c:CV}{l:List Int}(h:gZ c l)(hk:bl c=true)(h2:2<=c.blocks.length)(hl:l.length<=1000000):vg c l:=
  ⟨⟨hk,hl⟩,h2,fun n hn=>by
    rcases h n hn with h|h
    ·exact .inl h
    ·have hd:=kF hk
     have:=Oc (n:=n) hd.2.2.1 hd.2.2.2.1 hd.2.1 h.2.2;exact .inr ⟨h.1,by omega,h.2.1,h.2.2⟩⟩
theorem Od{c:CV}{fl:List Int}{i:Nat}(hi:i<c.blocks.length -2):(aQ c fl)[i]? =some (nS (tu (aA c ((i:Int)+2)) (oL c.ab fl fl.length i))):=by
  rw[aQ,ib,iZ,anA,anA,aoK hi];rfl
theorem D8{c:CV}{fl:List Int}{i:Nat}{x:aG}(h:(aQ c fl)[i]? =some x):x.bad=(aA c ((i:Int)+2)).bad:=by
  have hi:=(ad2.1 h).1;rw[qy]at hi;rw[Od hi]at h;obtain rfl:=ani h;rw[nS];split
  ·rename_i hb;exact hb.symm
  ·rfl
theorem Bh{c:CV}(hk:bl c=true){b:Int}(h0:0<=b)(h1:b<c.blocks.length):oG c.ab c.size (aA c b)=true:=vd (kB.2 ⟨hk,h0,h1⟩)
structure y9(c:CV)(n:Nat)(x:aG):Prop where
  W9:0<=x.live
  Xa:x.live<=n
  D9:0<=x.used
  Ea:x.used<=c.ab
  Xb:0<=x.bj
  Xc:x.bj<=dK
theorem Eb{c:CV}{fl:List Int}(hk:bl c=true){x:aG}(h:x∈aQ c fl):y9 c fl.length x:=by
  obtain⟨i,hi⟩:=aoi h;have dP:=(ad2.1 hi).1;rw[qy]at dP;rw[Od dP]at hi;obtain rfl:=ani hi;have hd:=kF hk;have vj:dK=1099511627776:=rfl;rw[nS];split
  ·exact⟨by simp[bN],by simp[bN],by simp[bN],by simp only[bN];omega,by simp[bN],by simp only[bN];omega⟩
  ·have ho:=gy.1 (Bh hk (b:=(i:Int)+2) (by omega) (by omega))
   have:=NU c.ab fl fl.length i;exact⟨by simp only[tu];omega,by simp only[tu];omega,ho.2.1,ho.2.2.1,ho.2.2.2.1,ho.2.2.2.2.1⟩
theorem y9.bad(c:CV)(hk:bl c=true)(n:Nat):y9 c n bN:=by
  have hd:=kF hk;have vj:dK=1099511627776:=rfl;exact⟨by simp[bN],by simp[bN],by simp[bN],by simp only[bN];omega,by simp[bN],by simp only[bN];omega⟩
theorem Oe{R:aG->Bool}{l:List aG}{i:Nat}{x:aG}(h:(cj R l)[i]? =some x): ∃y,l[i]? =some y/\x=lG R y:=by
  rw[cj,anA,apv]at h;obtain⟨y,hy,rfl⟩:=h;exact⟨y,hy,rfl⟩
theorem Xd{R:aG->Bool}{y:aG}(h:(lG R y).bad=false):lG R y=y/\y.bad=false/\R y=true:=by
  unfold lG at h⊢;split at h
  ·cases h
  ·rename_i hn
   rw[if_neg hn];refine⟨rfl,h,?_⟩
   cases hR:R y with
   |true=>rfl
   |false=>exact absurd (.inr hR) hn
theorem Bi{p:Int}{x:aG}(h:rP p x=true):x.bad=false/\x.used<p:=by
  simpa[rP]using h
theorem w9{x:aG}(h:rQ x=true):x.bad=false/\x.live=0/\0<x.used:=by
  simpa[rQ,and_assoc]using h
theorem Ec{R:aG→Bool}{l:List aG}{p:Int}{dA:aG→Bool}{os:List (aG→aG→Int)}(hr: ∀x,dA x=true→x.bad=false)(h:(fH (cj R l) p dA os).2=true):
    ∃x,l[(fH (cj R l) p dA os).1.toNat]? =some x/\x.bad=false/\R x=true/\dA x=true/\0<=(fH (cj R l) p dA os).1/\(fH (cj R l) p dA os).1<l.length:=by
  obtain⟨h1,h2,h3,h4⟩:=D1 h;rw[D7]at h3;have hi:(cj R l)[(fH (cj R l) p dA os).1.toNat]? =some ((cj R l).getD (fH (cj R l) p dA os).1.toNat gX):=mL (by rw[D7];omega);obtain⟨y,hy,he⟩:=Oe hi;rw[he]at h4;obtain⟨k1,k2,k3⟩:=Xd (hr _ h4);rw[k1]at h4;exact⟨y,hy,k2,k3,h4,h2,h3⟩
def xd(x:aG):Bool:=decide (0<x.live)
def jH(x:aG):Bool:=decide (x.live=0)
def pN(l:List aG):Nat:=(l.filter fun x=> !x.bad&&decide (x.live=0)).length
def oO(c:CV)(fl:List Int):Int×Bool:=fN (cj xd (aQ c fl)) c.ab
def nk(c:CV)(fl:List Int):Int×Bool:=fN (cj jH (aQ c fl)) c.ab
def oP(c:CV)(fl:List Int):Int:=(gA (cj jH (aQ c fl)) c.ab).1
def bG(c:CV)(fl:List Int)(bq:Bool):CV×Int×Int:=
  if(oO c fl).2=true then(c,(oO c fl).1+2,0)
  else if pN (aQ c fl)=0\/(pN (aQ c fl)=1/\bq=false)then(c,0,5)
  else if(nk c fl).2=true then(c,(nk c fl).1+2,0)
  else((eB c (oP c fl+2)).1,oP c fl+2,(eB c (oP c fl+2)).2)
theorem Xe{l:List aG}{i:Nat}{x:aG}(h:l[i]? =some x):((l.take (i+1)).filter fun z=> !z.bad&&decide (z.live=0)).length=((l.take i).filter fun z=> !z.bad&&decide (z.live=0)).length+(if x.bad=false/\x.live=0 then 1 else 0):=by
  rw[anq,h,aoA,af0];congr 1;simp only[apy,aoj,apz];split<;>simp_all
theorem Xf(l:List aG):(l.filter fun z=> !z.bad&&decide (z.live=0)).length<=l.length:=apE _ _
theorem Of{c:CV}{fl:List Int}(hk:bl c=true)(h2:3<=c.blocks.length)(hi:pN (aQ c fl)≠0)(hb: ¬(nk c fl).2=true):0<=oP c fl/\oP c fl<(c.blocks.length:Int) -2/\(aA c (oP c fl+2)).bad=false:=by
  have hd:=kF hk;have eH:=qy c fl;have hw:oN (cj jH (aQ c fl)) c.ab=true:=Bd.2 ⟨by rw[D7];omega,by rw[D7];omega,by omega,by omega,fun x hx=>by
    obtain⟨i,hi⟩:=aoi hx;obtain⟨y,hy,rfl⟩:=Oe hi;have t:=Eb hk (alM hy);have vj:dK=1099511627776:=rfl;unfold lG;split
    ·exact y5.2 (by simp only[bN];omega)
    ·rename_i hn
     have hl:y.live=0:=by
        cases hR:jH y with
        |true=>simpa[jH]using hR
        |false=>exact absurd (.inr hR) hn
     exact y5.2 ⟨by omega,by have:=t.D9;omega,t.Ea,t.Xb,t.Xc⟩⟩
  have rU:(nk c fl).2=false:=by simpa using hb
  have Xg:=NW hw (show(fH _ _ _ _).2=false from rU);have HW:0<((aQ c fl).filter fun x=> !x.bad&&decide (x.live=0)).length:=by rw[pN]at hi;omega
  obtain⟨x,hx⟩:=List.exists_mem_of_length_pos HW;obtain⟨vl,kE⟩:=anQ.1 hx;simp only[anc,aov,decide_eq_true_eq]at kE;have za:lG jH x=x:=by
    unfold lG;rw[if_neg];rintro(g|g)
    ·rw[kE.1]at g;cases g
    ·rw[show jH x=true by simp[jH,kE.2]]at g;cases g
  have Og:x∈cj jH (aQ c fl):=by
    rw[←za];exact an6 vl
  have Oh:=Xg x Og;have t:=Eb hk vl;have Xh:rQ x=true:=by
    have: ¬x.used<c.ab:=fun h=>by
      rw[rP,kE.1,decide_eq_true h]at Oh;cases Oh
    simp only[rQ,kE.1,Bool.not_false,aos,anc,decide_eq_true_eq];omega
  have hf:(gA (cj jH (aQ c fl)) c.ab).2=true:=by
    cases hq:(gA (cj jH (aQ c fl)) c.ab).2 with
    |true=>rfl
    |false=>have:=NW hw hq x Og;rw[Xh]at this;cases this
  obtain⟨y,hy,k1,_,_,k4,k5⟩:=Ec (fun x h=>(w9 h).1) hf;have nm:=D8 hy;change 0<=oP c fl at k4;change oP c fl<_ at k5;refine⟨k4,by omega,?_⟩;rw[←k1,nm];congr 2;change _=((oP c fl).toNat:Int)+2;omega
theorem Oi{c:CV}{fl:List Int}(h:(oO c fl).2=true):0<=(oO c fl).1/\(oO c fl).1<((c.blocks.length -2:Nat):Int)/\(aA c ((oO c fl).1+2)).bad=false:=by
  obtain⟨y,hy,k1,_,_,k4,k5⟩:=Ec (fun x h=>(Bi h).1) h;have nm:=D8 hy;rw[qy]at k5;refine⟨k4,k5,?_⟩;rw[←k1,nm];congr 2;change _=((oO c fl).1.toNat:Int)+2;change 0<=(oO c fl).1 at k4;omega
theorem Oj{c:CV}{fl:List Int}(h:(nk c fl).2=true):0<=(nk c fl).1/\(nk c fl).1<((c.blocks.length -2:Nat):Int)/\(aA c ((nk c fl).1+2)).bad=false:=by
  obtain⟨y,hy,k1,_,_,k4,k5⟩:=Ec (fun x h=>(Bi h).1) h;have nm:=D8 hy;rw[qy]at k5;refine⟨k4,k5,?_⟩;rw[←k1,nm];congr 2;change _=((nk c fl).1.toNat:Int)+2;change 0<=(nk c fl).1 at k4;omega
theorem Ol{c:CV}{b:Int}(h:dX c b=0):rH c b=true/\c.off=false/\(aA c b).bad=false/\(bE c).2=false/\gI c b=rI c b:=by
  have h0:=h;rw[dX]at h
  by_cases h1:rH c b=true
  ·rw[if_pos h1]at h
   by_cases h2:c.off=true
   ·rw[if_pos h2]at h;cases h
   ·rw[if_neg h2]at h
    by_cases h3:(aA c b).bad=true
    ·rw[if_pos h3]at h;cases h
    ·rw[if_neg h3]at h
     by_cases h4:(bE c).2=true
     ·rw[if_pos h4,mX]at h
      split at h<;>cases h
     ·refine⟨h1,by simpa using h2,by simpa using h3,by simpa using h4,?_⟩
      rw[gI,mc,h0,if_neg (by decide),nf,if_pos ⟨h1,by simpa using h2,by simpa using h3⟩]
  ·rw[if_neg h1]at h;cases h
theorem Om{c:CV}{b:Int}(h:dX c b=0):(aA (gI c b) b).bad=false:=by
  obtain⟨h1,h2,h3,h4,h5⟩:=Ol h;rw[h5,rI,D4 (wX.1 h1).1];exact h3
theorem Ed: ∀(n:Nat) {c:CV} {b:Int},(jr n c b).2=0->(aA (jr n c b).1 b).bad=false
  |0,c,b,h=>Om h
  |n+1,c,b,h=>by
   rw[jr]at h⊢
   by_cases h0:bS c b (jq c)≠0
   ·rw[if_pos h0]at h;exact absurd h h0
   ·rw[if_neg h0]at h⊢;exact Ed n h
theorem On{c:CV}{fl:List Int}{bq:Bool}(hk:bl c=true)(h2:3≤c.blocks.length):bl (bG c fl bq).1=true∧eV c (bG c fl bq).1∧c.ops≤(bG c fl bq).1.ops∧
    ((bG c fl bq).2.2=0->2<=(bG c fl bq).2.1/\(bG c fl bq).2.1<c.blocks.length/\(aA (bG c fl bq).1 (bG c fl bq).2.1).bad=false)/\((bG c fl bq).2.2=9->c.ops<(bG c fl bq).1.ops):=by
  rw[bG]
  by_cases h1:(oO c fl).2=true
  ·rw[if_pos h1]
   have:=Oi h1;exact⟨hk, .gB c,aop _,fun _=>⟨by simp only;omega,by simp only;omega,this.2.2⟩,fun h=>absurd (show(0:Int)=9 from h) (by decide)⟩
  ·rw[if_neg h1]
   by_cases h3:pN (aQ c fl)=0\/(pN (aQ c fl)=1/\bq=false)
   ·rw[if_pos h3]
    exact⟨hk, .gB c,aop _,fun h=>absurd (show(5:Int)=0 from h) (by decide),fun h=>absurd (show(5:Int)=9 from h) (by decide)⟩
   ·rw[if_neg h3]
    by_cases h4:(nk c fl).2=true
    ·rw[if_pos h4]
     have:=Oj h4;exact⟨hk, .gB c,aop _,fun _=>⟨by simp only;omega,by simp only;omega,this.2.2⟩,fun h=>absurd (show(0:Int)=9 from h) (by decide)⟩
    ·rw[if_neg h4]
     obtain⟨d1,d2,d3⟩:=Of hk h2 (fun e=>h3 (.inl e)) h4;have hc:=Be (oP c fl+2) hk;exact⟨hc.1,hc.2,y8 _ _ _,fun h=>⟨by simp only;omega,by simp only;omega,Ed _ h⟩,fun h=>D6 d3 (.inl h)⟩
def kG:Nat->CV->List Int->Bool->List UInt8->CV×Int×Int
  |0,c,_,_,_=>(c,0,0)
  |n+1,c,fl,bq,b=>
   if(bG c fl bq).2.2=0 then
      (if bS (bG c fl bq).1 (bG c fl bq).2.1 b=0 then(cE (bG c fl bq).1 (bG c fl bq).2.1 b,(bG c fl bq).2.1*c.ab+(aA (bG c fl bq).1 (bG c fl bq).2.1).used+1,0)
       else if bS (bG c fl bq).1 (bG c fl bq).2.1 b≠9 then(cE (bG c fl bq).1 (bG c fl bq).2.1 b,0,bS (bG c fl bq).1 (bG c fl bq).2.1 b)
       else kG n (cE (bG c fl bq).1 (bG c fl bq).2.1 b) fl bq b)
   else if(bG c fl bq).2.2≠9 then((bG c fl bq).1,0,(bG c fl bq).2.2)
   else kG n (bG c fl bq).1 fl bq b
def dL(c:CV)(fl:List Int)(bq:Bool)(p:PV):CV×Int×Int:=
  if(eQ p c.size).2≠0 then(c,0,(eQ p c.size).2)else kG ((dK -c.ops).toNat+1) c fl bq (eQ p c.size).1
theorem vm{c:CV}(h:bl c=true):c.ops<=dK:=(eP.1 h).2.2.1
theorem HX: ∀(n:Nat) {c:CV} {fl:List Int} {bq:Bool} {b:List UInt8},bl c=true→3≤c.blocks.length→(dK -c.ops).toNat<n→
    bl (kG n c fl bq b).1=true/\eV c (kG n c fl bq b).1/\c.ops<=(kG n c fl bq b).1.ops/\((kG n c fl bq b).2.2=0->1<=(kG n c fl bq b).2.1/\2<=((kG n c fl bq b).2.1 -1)/c.ab/\((kG n c fl bq b).2.1 -1)/c.ab<c.blocks.length)
  |0,c,fl,bq,b,_,_,hn=>by omega
  |n+1,c,fl,bq,b,hk,h2,hn=>by
   obtain⟨f1,f2,f3,f4,f5⟩:=On (fl:=fl) (bq:=bq) hk h2;have hd:=kF hk;rw[kG]
   by_cases h0:(bG c fl bq).2.2=0
   ·rw[if_pos h0]
    obtain⟨g1,g2,g3⟩:=f4 h0
    by_cases h1:bS (bG c fl bq).1 (bG c fl bq).2.1 b=0
    ·rw[if_pos h1]
     have hl:=f2.trans (me (bG c fl bq).1 (bG c fl bq).2.1 b);have hp:=nR.1 (tv h1).1;rw[f2.ab]at hp;have hu:0<=(aA (bG c fl bq).1 (bG c fl bq).2.1).used:=hp.2.1;have HY:=hp.2.2.1
     have hq:((bG c fl bq).2.1*c.ab+(aA (bG c fl bq).1 (bG c fl bq).2.1).used+1 -1)/c.ab=(bG c fl bq).2.1:=by
          rw[Int.add_sub_cancel,Int.add_comm,apX _ _ (by omega),apY hu HY,Int.zero_add]
     refine⟨lF f1 _ _,hl,?_,fun _=>⟨?_,by simp only;rw[hq];exact g1,by simp only;rw[hq];exact g2⟩⟩
     ·have:=w7 (bG c fl bq).1 (bG c fl bq).2.1 b;simp only;omega
     ·have:0<=(bG c fl bq).2.1*c.ab:=ap2 (by omega) (by omega)
      simp only;omega
    ·rw[if_neg h1]
     by_cases h9:bS (bG c fl bq).1 (bG c fl bq).2.1 b≠9
     ·rw[if_pos h9]
      exact⟨lF f1 _ _,f2.trans (me _ _ _),by have:=w7 (bG c fl bq).1 (bG c fl bq).2.1 b;simp only;omega,fun h=>absurd h h1⟩
     ·rw[if_neg h9]
      have ho:=vi g3 (p:=b) (.inl (by simpa using h9));have bu:=lF f1 (bG c fl bq).2.1 b;have hl:=f2.trans (me (bG c fl bq).1 (bG c fl bq).2.1 b);have hle:=vm bu;have:=HX n (fl:=fl) (bq:=bq) (b:=b) bu (by rw[hl.len];exact h2) (by omega);refine⟨this.1,hl.trans this.2.1,by omega,fun h=>?_⟩;have g:=this.2.2.2 h;rw[hl.ab,hl.len]at g;exact g
   ·rw[if_neg h0]
    by_cases h9:(bG c fl bq).2.2≠9
    ·rw[if_pos h9]
     exact⟨f1,f2,f3,fun h=>absurd h h0⟩
    ·rw[if_neg h9]
     have ho:=f5 (by simpa using h9);have hle:=vm f1;have:=HX n (fl:=fl) (bq:=bq) (b:=b) f1 (by rw[f2.len];exact h2) (by omega);refine⟨this.1,f2.trans this.2.1,by omega,fun h=>?_⟩;have g:=this.2.2.2 h;rw[f2.ab,f2.len]at g;exact g
theorem Oo{c:CV}{fl:List Int}{bq:Bool}{p:PV}(hk:bl c=true)(h2:3≤c.blocks.length):
    bl (dL c fl bq p).1=true/\eV c (dL c fl bq p).1/\c.ops<=(dL c fl bq p).1.ops/\((dL c fl bq p).2.2=0->1<=(dL c fl bq p).2.1/\2<=((dL c fl bq p).2.1 -1)/c.ab/\((dL c fl bq p).2.1 -1)/c.ab<c.blocks.length):=by
  rw[dL];split
  ·rename_i h;exact⟨hk, .gB c,aop _,fun h'=>absurd h' h⟩
  ·exact HX _ hk h2 (by omega)
def qz(p:Int)(x:aG):Int:=if x.live=0/\p -x.used=0 then p else p -x.used
def xe(p:Int)(s:Int×Int)(x:aG):Int×Int:=if x.bad=true then s else(s.1+qz p x,if x.live=0 then max s.2 (qz p x)else s.2)
def fe(p:Int)(l:List aG):Int×Int:=l.foldl (xe p) (0,0)
def oQ(c:CV)(fl:List Int):Int×Int:=((fe c.ab (aQ c fl)).1 -(fe c.ab (aQ c fl)).2,(fe c.ab (aQ c fl)).1)
theorem Oq{p:Int}{l:List aG}{i:Nat}{x:aG}(h:l[i]? =some x):fe p (l.take (i+1))=xe p (fe p (l.take i)) x:=by
  rw[fe,anq,h];simp[fe]
theorem Xi{c:CV}{n:Nat}{x:aG}(h:y9 c n x)(hk:bl c=true):0<=qz c.ab x/\qz c.ab x<=c.ab:=by
  have hd:=kF hk;have:=h.D9;have:=h.Ea;rw[qz];split<;>omega
theorem Ot{c:CV}{n:Nat}(hk:bl c=true)(l:List aG)(h: ∀x∈l,y9 c n x): ∀i,i<=l.length->0<=(fe c.ab (l.take i)).1/\(fe c.ab (l.take i)).1<=16*(i:Int)/\0<=(fe c.ab (l.take i)).2/\(fe c.ab (l.take i)).2<=16
  |0,_=>by simp[fe]
  |i+1,hi=>by
   obtain⟨x,hx⟩:=get_some (xs:=l) (i:=i) (by omega);have ih:=Ot hk l h i (by omega);have hr:=Xi (h x (alM hx)) hk;have hd:=kF hk;rw[Oq hx,xe];split
   ·omega
   ·refine⟨by simp only;omega,by simp only;omega,?_,?_⟩
    ·simp only;split<;>omega
    ·simp only;split<;>omega
structure du(x:WV):Prop where
 aj:bl x.v.aj=true
 len:4<=(x.v.aj.blocks.length:Int)
 ab:2<=x.v.aj.ab
 size:24<=x.v.aj.size
 last:x.v.last=0\/x.v.last=1
 gen:x.v.gen<281474976710656
 tz:gZ x.v.aj x.v.at_
 tA:x.v.at_.length<=64
theorem du.on{x:WV}(h:du x){c:CV}(hk:bl c=true)(hl:eV x.v.aj c):du (x.on c):=
 ⟨hk,by simp only[WV.on];rw[hl.len];exact h.len,by simp only[WV.on];rw[hl.ab];exact h.ab,by simp only[WV.on];rw[hl.size];exact h.size,h.last,h.gen,h.tz.jG hl,h.tA⟩
theorem du.tB{x:WV}(h:du x):4<=x.v.aj.blocks.length:=by have:=h.len;omega
def bH(c:CV)(last:Int):CV×Int×Int:=
 if 0<fZ c last then(c,last,0)
 else if 0<fZ c (1 -last)then(c,1 -last,0)
 else if(aA c (1 -last)).bad=true then(c,0,9)
 else(gI c (1 -last),1 -last,dX c (1 -last))
theorem Ou{c:CV}{b:Int}(h:0<fZ c b):(aA c b).bad=false:=by
 rw[fZ]at h;split at h
 ·
  omega
 rename_i hn;simpa using hn
theorem Ov{c:CV}{last:Int}(hk:bl c=true)(hl:last=0\/last=1):bl (bH c last).1=true/\eV c (bH c last).1/\c.ops<=(bH c last).1.ops/\
  ((bH c last).2.2=0->((bH c last).2.1=0\/(bH c last).2.1=1)/\(aA (bH c last).1 (bH c last).2.1).bad=false):=by
 rw[bH]
 by_cases h1:0<fZ c last
 ·
  rw[if_pos h1];exact⟨hk, .gB c,aop _,fun _=>⟨hl,Ou h1⟩⟩
 ·
  rw[if_neg h1]
  by_cases h2:0<fZ c (1 -last)
  ·
   rw[if_pos h2];exact⟨hk, .gB c,aop _,fun _=>⟨by simp only;omega,Ou h2⟩⟩
  ·
   rw[if_neg h2]
   by_cases h3:(aA c (1 -last)).bad=true
   ·
    rw[if_pos h3];exact⟨hk, .gB c,aop _,fun h=>absurd (show(9:Int)=0 from h) (by decide)⟩
   ·
    rw[if_neg h3];exact⟨D2 hk _,D3 _ _,N5 _ _,fun h=>⟨by simp only;omega,Om h⟩⟩
def oR:Nat->WV->List Int->List UInt8->WV×Int
 |0,x,_,_=>(x,0)
 |n+1,x,a,b=>
  if(bH x.v.aj x.v.last).2.2≠0 then(x.on (bH x.v.aj x.v.last).1,(bH x.v.aj x.v.last).2.2)
  else if bS (bH x.v.aj x.v.last).1 (bH x.v.aj x.v.last).2.1 b=0 then
   (⟨⟨cE (bH x.v.aj x.v.last).1 (bH x.v.aj x.v.last).2.1 b,a,x.v.gen+1,if nT (cE (bH x.v.aj x.v.last).1 (bH x.v.aj x.v.last).2.1 b) 1=x.v.gen+1 then 1 else(bH x.v.aj x.v.last).2.1⟩,x.beyond⟩,0)
  else if bS (bH x.v.aj x.v.last).1 (bH x.v.aj x.v.last).2.1 b≠9 then
   (x.on (cE (bH x.v.aj x.v.last).1 (bH x.v.aj x.v.last).2.1 b),bS (bH x.v.aj x.v.last).1 (bH x.v.aj x.v.last).2.1 b)
  else oR n (x.on (cE (bH x.v.aj x.v.last).1 (bH x.v.aj x.v.last).2.1 b)) a b
def iK(x:WV)(a:List Int):WV×Int:=
 if(dy ⟨x.v.gen+1,a⟩ x.v.aj.size).2≠0 then(x,(dy ⟨x.v.gen+1,a⟩ x.v.aj.size).2)
 else oR ((dK -x.v.aj.ops).toNat+1) x a (dy ⟨x.v.gen+1,a⟩ x.v.aj.size).1
structure iB(x y:WV):Prop where
 ok:du y
 jG:eV x.v.aj y.v.aj
 ops:x.v.aj.ops<=y.v.aj.ops
 zb:y.v.at_.length=x.v.at_.length
theorem iB.gB{x:WV}(h:du x):iB x x:=⟨h, .gB _,aop _,rfl⟩
theorem iB.trans{x y z:WV}(h:iB x y)(g:iB y z):iB x z:=⟨g.ok,h.jG.trans g.jG,Int.le_trans h.ops g.ops,g.zb.trans h.zb⟩
theorem iB.on{x:WV}(h:du x){c:CV}(hk:bl c=true)(hl:eV x.v.aj c)(ho:x.v.aj.ops<=c.ops):iB x (x.on c):=⟨h.on hk hl,hl,ho,rfl⟩
theorem Xj{r:RV}{n:Int}(h:(dy r n).2=0):r.gen<281474976710656/\(r.at_.length:Int)<=lE n:=by
 rw[dy]at h;split at h
 ·
  rename_i hm;have:=A8.1 hm;exact⟨this.2.1,this.2.2.1⟩
 cases h
theorem Xk(n:Int):lE n<=64:=by rw[lE];omega
theorem Ow: ∀(n:Nat) {x:WV} {a:List Int} {b:List UInt8},du x->gZ x.v.aj a->a.length=x.v.at_.length->x.v.gen+1<281474976710656->(dK -x.v.aj.ops).toNat<n->iB x (oR n x a b).1/\((oR n x a b).2=0->x.v.aj.ops<(oR n x a b).1.v.aj.ops)
 |0,x,a,b,_,_,_,_,hn=>by omega
 |n+1,x,a,b,hx,ha,jA,hg,hn=>by
  obtain⟨r1,r2,r3,r4⟩:=Ov (c:=x.v.aj) (last:=x.v.last) hx.aj hx.last;rw[oR]
  by_cases h0:(bH x.v.aj x.v.last).2.2≠0
  ·
   rw[if_pos h0];exact⟨.on hx r1 r2 r3,fun h=>absurd h h0⟩
  rw[if_neg h0];obtain⟨r5,r6⟩:=r4 (by simpa using h0);have ja:=lF r1 (bH x.v.aj x.v.last).2.1 b;have gP:=r2.trans (me (bH x.v.aj x.v.last).1 (bH x.v.aj x.v.last).2.1 b);have kU:=w7 (bH x.v.aj x.v.last).1 (bH x.v.aj x.v.last).2.1 b
  by_cases h1:bS (bH x.v.aj x.v.last).1 (bH x.v.aj x.v.last).2.1 b=0
  ·
   rw[if_pos h1];have ho:=vi r6 (p:=b) (.inr h1);have kg:=hx.on ja gP;refine⟨⟨⟨ja,kg.len,kg.ab,kg.size,?_,hg,ha.jG gP,by simp only;rw[jA];exact hx.tA⟩,gP,by simp only;omega,jA⟩,fun _=>by simp only;omega⟩;simp only;split
   ·
    exact .inr rfl
   exact r5
  rw[if_neg h1]
  by_cases h9:bS (bH x.v.aj x.v.last).1 (bH x.v.aj x.v.last).2.1 b≠9
  ·
   rw[if_pos h9];exact⟨.on hx ja gP (by omega),fun h=>absurd h h1⟩
  rw[if_neg h9];have ho:=vi r6 (p:=b) (.inl (by simpa using h9));have hle:=vm ja;have kg:=hx.on ja gP;have:=Ow n (x:=x.on (cE (bH x.v.aj x.v.last).1 (bH x.v.aj x.v.last).2.1 b)) (a:=a) (b:=b) kg (ha.jG gP) jA hg (by simp only[WV.on];omega);exact⟨(iB.on hx ja gP (by omega)).trans this.1,fun h=>by
   have h2:(cE (bH x.v.aj x.v.last).1 (bH x.v.aj x.v.last).2.1 b).ops<_:=this.2 h;omega⟩
theorem Ox{x:WV}{a:List Int}(hx:du x)(ha:gZ x.v.aj a)(jA:a.length=x.v.at_.length):iB x (iK x a).1/\((iK x a).2=0->x.v.aj.ops<(iK x a).1.v.aj.ops):=by
 rw[iK];split
 ·
  rename_i h;exact⟨.gB hx,fun h'=>absurd h' h⟩
 rename_i h;have:=Xj (r:=⟨x.v.gen+1,a⟩) (n:=x.v.aj.size) (by simpa using h);exact Ow _ hx ha jA this.1 (by omega)
def lI:Nat->Int->CV->CV×Int
 |0,_,c=>(c,0)
 |n+1,b,c=>if Bf c b=false then lI n (b+1) c
  else if dX c b≠0/\dX c b≠9 then(gI c b,dX c b)else lI n (b+1) (gI c b)
def nn(c:CV)(b:Int)(ids:Nat):List UInt8×Int:=dy ⟨fI c b,List.replicate ids 0⟩ c.size
def Ee(c:CV)(b:Int)(ids:Nat)(g:Nat):VV:=⟨c,List.replicate ids 0,g,b⟩
def vn:Nat->Int->WV->Nat->WV×Int
 |0,_,x,_=>(x,9)
 |n+1,b,x,ids=>
  if(nn x.v.aj b ids).2≠0\/fZ x.v.aj b=0 then vn n (b+1) x ids
  else if bS x.v.aj b (nn x.v.aj b ids).1=0 then(⟨Ee (cE x.v.aj b (nn x.v.aj b ids).1) b ids (fI x.v.aj b),x.beyond⟩,0)
  else if bS x.v.aj b (nn x.v.aj b ids).1≠9 then(x.on (cE x.v.aj b (nn x.v.aj b ids).1),bS x.v.aj b (nn x.v.aj b ids).1)
  else vn n (b+1) (x.on (cE x.v.aj b (nn x.v.aj b ids).1)) ids
def pO(x:WV)(ids:Nat):WV×Int:=
 if(lI x.v.aj.blocks.length 0 x.v.aj).2≠0 then(x.on (lI x.v.aj.blocks.length 0 x.v.aj).1,(lI x.v.aj.blocks.length 0 x.v.aj).2)
 else vn 2 0 (x.on (lI x.v.aj.blocks.length 0 x.v.aj).1) ids
def zd(s:Int×Int)(i:Nat)(x:aG):Int×Int:=
 if x.bad=true\/x.live=0\/dK<=x.bj then s else if s.2<x.used -x.live then((i:Int),x.used -x.live)else s
def jI(l:List aG):Nat->Int×Int
 |0=>(0,0)
 |k+1=>zd (jI l k) k (l.getD k gX)
def jJ(l:List aG)(p:Int):Int×Bool:=if(w6 l p).2=true then((w6 l p).1,true)else((jI l l.length).1,decide (0<(jI l l.length).2))
theorem HZ(l:List aG): ∀k,0<=(jI l k).1/\0<=(jI l k).2/\(0<(jI l k).2->(jI l k).1<k)
 |0=>by simp[jI]
 |k+1=>by
  have:=HZ l k;rw[jI,zd];split
  ·
   exact⟨this.1,this.2.1,fun h=>by have:=this.2.2 h;omega⟩
  split
  ·
   exact⟨by simp only;omega,by simp only;omega,fun _=>by simp only;omega⟩
  exact⟨this.1,this.2.1,fun h=>by have:=this.2.2 h;omega⟩
theorem Xl{l:List aG}{p:Int}(h:(jJ l p).2=true):0<=(jJ l p).1/\(jJ l p).1<l.length:=by
 rw[jJ]at h⊢;split
 ·
  rename_i hv;have:=D1 hv;exact⟨this.2.1,this.2.2.1⟩
 rename_i hv;rw[if_neg hv]at h;have:=HZ l l.length;exact⟨this.1,this.2.2 (by simpa using h)⟩
def xf(x:aG):Bool:=decide (x.used=0)
def xh(p:Int)(x:aG):Bool:=decide (x.used=p)
def xi(x:aG):Bool:=decide (x.bj<dK)
def rV(c:CV)(l:List aG):Int×Bool:=fN (cj xf l) c.ab
def np(c:CV)(l:List aG):Int×Bool:=gA (cj (xh c.ab) l) c.ab
def nq(c:CV)(l:List aG):Int×Bool:=gA (cj xi l) c.ab
def cM(c:CV)(l:List aG):CV×Int×Int:=
 if(rV c l).2=true then(c,(rV c l).1+2,0)
 else if(np c l).2=true then((eB c ((np c l).1+2)).1,(np c l).1+2,(eB c ((np c l).1+2)).2)
 else if(nq c l).2=true then((eB c ((nq c l).1+2)).1,(nq c l).1+2,(eB c ((nq c l).1+2)).2)
 else(c,0,6)
def kH(c:CV)(l:List aG):Prop:=l.length=c.blocks.length -2/\ ∀(i:Nat) (x:aG),l[i]? =some x->x.bad=false->(aA c ((i:Int)+2)).bad=false
theorem H2(c:CV)(fl:List Int):kH c (aQ c fl):=⟨qy c fl,fun i x hx hb=>by rw[←D8 hx];exact hb⟩
theorem kH.set{c:CV}{l:List aG}(h:kH c l)(i:Nat):kH c (l.set i bN):=⟨by rw[aoa];exact h.1,fun j x hx hb=>by
 rw[aof]at hx;split at hx
 ·
  split at hx
  ·
   obtain rfl:=ani hx;cases hb
  cases hx
 exact h.2 j x hx hb⟩
theorem vo{c:CV}{R:aG->Bool}{l:List aG}{dA:aG->Bool}{os:List (aG->aG->Int)}(ht:kH c l)(hr: ∀x,dA x=true->x.bad=false)(h:(fH (cj R l) c.ab dA os).2=true):
  0<=(fH (cj R l) c.ab dA os).1/\(fH (cj R l) c.ab dA os).1<((c.blocks.length -2:Nat):Int)/\(aA c ((fH (cj R l) c.ab dA os).1+2)).bad=false:=by
 obtain⟨x,hx,k1,_,_,k4,k5⟩:=Ec hr h;rw[ht.1]at k5;refine⟨k4,k5,?_⟩;have:=ht.2 _ x hx k1;rwa [show(((fH (cj R l) c.ab dA os).1.toNat:Nat):Int)=(fH (cj R l) c.ab dA os).1 by omega]at this
theorem H3{c:CV}{l:List aG}(hk:bl c=true)(ht:kH c l):bl (cM c l).1=true/\eV c (cM c l).1/\c.ops<=(cM c l).1.ops/\
  ((cM c l).2.2=0->2<=(cM c l).2.1/\(cM c l).2.1<c.blocks.length/\(aA (cM c l).1 (cM c l).2.1).bad=false)/\((cM c l).2.2=9->c.ops<(cM c l).1.ops)/\((cM c l).2.2=6->(cM c l).1=c):=by
 rw[cM];have e6: ∀{b:Int},(eB c b).2≠6:=fun{b}=>by
  have: ∀n {c:CV},(jr n c b).2≠6:=by
   intro n
   induction n with
   |zero=>
    intro c;simp only[jr,dX];split
    ·
     split
     ·
      decide
     ·
      split
      ·
       decide
      ·
       split
       ·
        rw[mX];split<;>decide
       ·
        decide
    ·
     decide
   |succ n ih=>
    intro c;rw[jr];split
    ·
     simp only[bS,kS];split
     ·
      split
      ·
       decide
      ·
       split
       ·
        decide
       ·
        split
        ·
         rw[mX];split<;>decide
        ·
         decide
     ·
      decide
    ·
     exact ih
  exact this _
 by_cases h1:(rV c l).2=true
 ·
  rw[if_pos h1];have:=vo ht (fun x h=>(Bi h).1) h1;change 0<=(rV c l).1/\(rV c l).1<_/\(aA c ((rV c l).1+2)).bad=false at this;exact⟨hk, .gB c,aop _,fun _=>⟨by simp only;omega,by simp only;omega,this.2.2⟩,fun h=>absurd (show(0:Int)=9 from h) (by decide),fun h=>absurd (show(0:Int)=6 from h) (by decide)⟩
 ·
  rw[if_neg h1]
  by_cases h2:(np c l).2=true
  ·
   rw[if_pos h2];have:=vo ht (fun x h=>(w9 h).1) h2;change 0<=(np c l).1/\(np c l).1<_/\(aA c ((np c l).1+2)).bad=false at this;have hc:=Be ((np c l).1+2) hk;exact⟨hc.1,hc.2,y8 _ _ _,fun h=>⟨by simp only;omega,by simp only;omega,Ed _ h⟩,fun h=>D6 this.2.2 (.inl h),fun h=>absurd h e6⟩
  ·
   rw[if_neg h2]
   by_cases h3:(nq c l).2=true
   ·
    rw[if_pos h3];have:=vo ht (fun x h=>(w9 h).1) h3;change 0<=(nq c l).1/\(nq c l).1<_/\(aA c ((nq c l).1+2)).bad=false at this;have hc:=Be ((nq c l).1+2) hk;exact⟨hc.1,hc.2,y8 _ _ _,fun h=>⟨by simp only;omega,by simp only;omega,Ed _ h⟩,fun h=>D6 this.2.2 (.inl h),fun h=>absurd h e6⟩
   ·
    rw[if_neg h3];exact⟨hk, .gB c,aop _,fun h=>absurd (show(6:Int)=0 from h) (by decide),fun h=>absurd (show(6:Int)=9 from h) (by decide),fun _=>rfl⟩
def ck(c:CV)(a0 a:List Int)(src tgt:Int):Int×Bool:=
 if tgt<0 then(if(fN ((aQ c (a0++a)).set (src -2).toNat bN) c.ab).2=true then((fN ((aQ c (a0++a)).set (src -2).toNat bN) c.ab).1+2,true)else(0,false))else(tgt,true)
def gg(c:CV)(g id n:Int):List UInt8×Int:=eQ ⟨1,id,g.toNat,kT c n⟩ c.size
structure MV where
 c:CV
 a:List Int
 e:Option Int
def eI(v:VV)(src tgt:Int):List Int->Nat->CV->List Int->MV
 |[],_,c,a=>⟨c,a,none⟩
 |n::r,id,c,a=>
  if n=0\/(n -1)/v.aj.ab≠src then eI v src tgt r (id+1) c a
  else if(ck c v.at_ a src tgt).2=false then⟨c,a,some 6⟩
  else if(gg c ((v.gen:Int)+1) id n).2≠0 then⟨c,a,some (gg c ((v.gen:Int)+1) id n).2⟩
  else if bS c (ck c v.at_ a src tgt).1 (gg c ((v.gen:Int)+1) id n).1≠0 then
   ⟨cE c (ck c v.at_ a src tgt).1 (gg c ((v.gen:Int)+1) id n).1,a,some (lH (bS c (ck c v.at_ a src tgt).1 (gg c ((v.gen:Int)+1) id n).1))⟩
  else eI v src tgt r (id+1) (cE c (ck c v.at_ a src tgt).1 (gg c ((v.gen:Int)+1) id n).1) (a.set id ((ck c v.at_ a src tgt).1*v.aj.ab+(aA c (ck c v.at_ a src tgt).1).used+1))
def dz(x:WV)(src tgt:Int):WV×Bool×Int:=
 match(eI x.v src tgt x.v.at_ 0 x.v.aj x.v.at_).e with
 |some e=>(x.on (eI x.v src tgt x.v.at_ 0 x.v.aj x.v.at_).c,false,e)
 |none=>((iK (x.on (eI x.v src tgt x.v.at_ 0 x.v.aj x.v.at_).c) (eI x.v src tgt x.v.at_ 0 x.v.aj x.v.at_).a).1,decide ((iK (x.on (eI x.v src tgt x.v.at_ 0 x.v.aj x.v.at_).c) (eI x.v src tgt x.v.at_ 0 x.v.aj x.v.at_).a).2=0),(iK (x.on (eI x.v src tgt x.v.at_ 0 x.v.aj x.v.at_).c) (eI x.v src tgt x.v.at_ 0 x.v.aj x.v.at_).a).2)
theorem H4{x:WV}{src tgt:Int}{c:CV}{a:List Int}{e:Int}(h:eI x.v src tgt x.v.at_ 0 x.v.aj x.v.at_=⟨c,a,some e⟩):dz x src tgt=(x.on c,false,e):=by
 rw[dz,h]
theorem Xm{x:WV}{src tgt:Int}{c:CV}{a:List Int}(h:eI x.v src tgt x.v.at_ 0 x.v.aj x.v.at_=⟨c,a,none⟩):dz x src tgt=((iK (x.on c) a).1,decide ((iK (x.on c) a).2=0),(iK (x.on c) a).2):=by
 rw[dz,h]
theorem Xn{c:CV}{a0 a:List Int}{src tgt:Int}(h:(ck c a0 a src tgt).2=true)(ht:0<=tgt->2<=tgt/\tgt<c.blocks.length/\(aA c tgt).bad=false):
  2<=(ck c a0 a src tgt).1/\(ck c a0 a src tgt).1<c.blocks.length/\(aA c (ck c a0 a src tgt).1).bad=false:=by
 rw[ck]at h⊢
 by_cases h1:tgt<0
 ·
  rw[if_pos h1]at h⊢
  by_cases h2:(fN ((aQ c (a0++a)).set (src -2).toNat bN) c.ab).2=true
  ·
   rw[if_pos h2];have hT:=(H2 c (a0++a)).set (src -2).toNat;obtain⟨k1,k2,k3,k4⟩:=D1 h2;change 0<=(fN ((aQ c (a0++a)).set (src -2).toNat bN) c.ab).1 at k2;change(fN ((aQ c (a0++a)).set (src -2).toNat bN) c.ab).1<_ at k3;change rP _ (List.getD _ (fN ((aQ c (a0++a)).set (src -2).toNat bN) c.ab).1.toNat _)=true at k4;rw[hT.1]at k3;have hi:((aQ c (a0++a)).set (src -2).toNat bN)[(fN ((aQ c (a0++a)).set (src -2).toNat bN) c.ab).1.toNat]? =some _:=mL (d:=gX) (by rw[hT.1];omega);have:=hT.2 _ _ hi (Bi k4).1;rw[show(((fN ((aQ c (a0++a)).set (src -2).toNat bN) c.ab).1.toNat:Nat):Int)=(fN ((aQ c (a0++a)).set (src -2).toNat bN) c.ab).1 by omega]at this;exact⟨by simp only;omega,by simp only;omega,this⟩
  ·
   rw[if_neg h2]at h;cases h
 ·
  rw[if_neg h1];exact ht (by omega)
theorem Ef(c:CV)(b g:Int)(p:List UInt8):kS c b g p=0\/kS c b g p=1\/kS c b g p=7\/kS c b g p=9:=by
 rw[kS];split
 ·
  split
  ·
   omega
  split
  ·
   omega
  split
  ·
   rw[mX];split<;>omega
  omega
 omega
theorem H5(p:PV)(n:Int):(eQ p n).2=0\/(eQ p n).2=1:=by
 rw[eQ];split<;>simp
theorem Oy{c:CV}{b:Int}{p:List UInt8}(h:bS c b p=0)(b':Int):(aA (cE c b p) b').bad=(aA c b').bad:=by
 obtain⟨h1,h2,h3,h4,h5⟩:=tv h;have hh:=(nR.1 h1).1;obtain⟨_,g2,g3⟩:=kB.1 hh;rw[h5,oH];simp only[aA,List.getD,aof]
 by_cases e:b.toNat=b'.toNat
 ·
  rw[if_pos e,if_pos (by omega),e];simp
 rw[if_neg e]
theorem H6{v:VV}{src tgt:Int}: ∀(l:List Int) (id:Nat) {c:CV} {a:List Int},bl c=true->eV v.aj c->v.aj.ops<=c.ops->gZ v.aj a->(0<=tgt->2<=tgt/\tgt<c.blocks.length/\(aA c tgt).bad=false)->
  bl (eI v src tgt l id c a).c=true/\eV v.aj (eI v src tgt l id c a).c/\c.ops<=(eI v src tgt l id c a).c.ops/\gZ v.aj (eI v src tgt l id c a).a/\(eI v src tgt l id c a).a.length=a.length/\
   ((eI v src tgt l id c a).e=some 0->c.ops<(eI v src tgt l id c a).c.ops)/\((eI v src tgt l id c a).e=some 6-> ∀b,(aA (eI v src tgt l id c a).c b).bad=(aA c b).bad)
 |[],id,c,a,hk,hl,ho,ha,ht=>⟨hk,hl,aop _,ha,rfl,fun h=>by simp[eI]at h,fun h=>by simp[eI]at h⟩
 |n::r,id,c,a,hk,hl,ho,ha,ht=>by
  rw[eI]
  by_cases h1:n=0\/(n -1)/v.aj.ab≠src
  ·
   rw[if_pos h1];exact H6 r (id+1) hk hl ho ha ht
  ·
   rw[if_neg h1]
   by_cases h2:(ck c v.at_ a src tgt).2=false
   ·
    rw[if_pos h2];exact⟨hk,hl,aop _,ha,rfl,fun h=>by simp at h,fun _ _=>rfl⟩
   ·
    rw[if_neg h2];obtain⟨m1,m2,m3⟩:=Xn (by simpa using h2) ht
    by_cases h3:(gg c ((v.gen:Int)+1) id n).2≠0
    ·
     rw[if_pos h3];have H7:(gg c ((v.gen:Int)+1) id n).2=1:=(H5 _ _).resolve_left h3;exact⟨hk,hl,aop _,ha,rfl,fun h=>absurd (ani h) h3,fun h=>absurd (H7.symm.trans (ani h)) (by decide)⟩
    ·
     rw[if_neg h3]
     by_cases h4:bS c (ck c v.at_ a src tgt).1 (gg c ((v.gen:Int)+1) id n).1≠0
     ·
      rw[if_pos h4];have gv:bS c (ck c v.at_ a src tgt).1 (gg c ((v.gen:Int)+1) id n).1=1\/bS c (ck c v.at_ a src tgt).1 (gg c ((v.gen:Int)+1) id n).1=7\/bS c (ck c v.at_ a src tgt).1 (gg c ((v.gen:Int)+1) id n).1=9:=(Ef _ _ _ _).resolve_left h4;refine⟨lF hk _ _,hl.trans (me _ _ _),w7 _ _ _,ha,rfl,fun h=>?_,fun h=>?_⟩
      ·
       have h:=ani h;rw[lH]at h;split at h
       ·
        rename_i h9;have:=vi m3 (.inl h9);simp only;omega
       ·
        exact absurd h h4
      ·
       have h:=ani h;rw[lH]at h;split at h
       ·
        cases h
       ·
        omega
     ·
      rw[if_neg h4];have Eg:bS c (ck c v.at_ a src tgt).1 (gg c ((v.gen:Int)+1) id n).1=0:=by simpa using h4
      have ja:=nR.1 (tv Eg).1;have hd:=kF hk;have qw:=hl.trans (me c (ck c v.at_ a src tgt).1 (gg c ((v.gen:Int)+1) id n).1);have hop:=vi m3 (p:=(gg c ((v.gen:Int)+1) id n).1) (.inr Eg);have Xo:v.aj.ab=c.ab:=hl.ab.symm;have ih:=H6 r (id+1) (src:=src) (tgt:=tgt) (lF hk (ck c v.at_ a src tgt).1 (gg c ((v.gen:Int)+1) id n).1) qw (by omega) (a:=a.set id ((ck c v.at_ a src tgt).1*v.aj.ab+(aA c (ck c v.at_ a src tgt).1).used+1)) (fun y hy=>by
       rcases anV hy with hy|rfl
       ·
        exact ha y hy
       ·
        have hq:((ck c v.at_ a src tgt).1*v.aj.ab+(aA c (ck c v.at_ a src tgt).1).used+1 -1)/v.aj.ab=(ck c v.at_ a src tgt).1:=by
         rw[Xo,Int.add_sub_cancel,Int.add_comm,apX _ _ (by omega),apY ja.2.1 ja.2.2.1,Int.zero_add]
        have h0:0<=(ck c v.at_ a src tgt).1*v.aj.ab:=ap2 (by omega) (by omega);have:=ja.2.1;exact .inr ⟨by omega,by rw[hq];exact m1,by rw[hq,←hl.len];exact m2⟩) (fun h=>by
       have:=ht h;rw[(me c _ _).len,Oy Eg];exact this)
      obtain⟨i1,i2,i3,i4,i5,i6,i7⟩:=ih;refine⟨i1,i2,by omega,i4,by rw[i5,aoa],fun h=>by have:=i6 h;omega,fun h b=>?_⟩;rw[i7 h b,Oy Eg]
theorem Oz(c:CV)(b:Int):dX c b=0\/dX c b=1\/dX c b=7\/dX c b=9:=by
 rw[dX];split
 ·
  split
  ·
   omega
  split
  ·
   omega
  split
  ·
   rw[mX];split<;>omega
  omega
 omega
theorem Xp(c:CV)(l:Int):(bH c l).2.2=0\/(bH c l).2.2=1\/(bH c l).2.2=7\/(bH c l).2.2=9:=by
 rw[bH];split
 ·
  exact .inl rfl
 split
 ·
  exact .inl rfl
 split
 ·
  exact .inr (.inr (.inr rfl))
 exact Oz _ _
theorem OA: ∀(n:Nat) (y:WV) (a:List Int) (b:List UInt8),(oR n y a b).2≠6
 |0,y,a,b=>by simp[oR]
 |n+1,y,a,b=>by
  rw[oR];split
  ·
   have:=Xp y.v.aj y.v.last;simp only;omega
  split
  ·
   simp
  split
  ·
   have:=Ef (bH y.v.aj y.v.last).1 (bH y.v.aj y.v.last).2.1 (aA (bH y.v.aj y.v.last).1 (bH y.v.aj y.v.last).2.1).used b;simp only[bS];omega
  exact OA n _ _ _
theorem OB(y:WV)(a:List Int):(iK y a).2≠6:=by
 rw[iK];split
 ·
  rw[dy];split
  ·
   have:=H5 ⟨2,max 0 ((a.length:Int) -1),y.v.gen+1,jm a⟩ y.v.aj.size;simp only;omega
  simp
 exact OA _ _ _ _
theorem H8{x:WV}{src tgt:Int}(hx:du x)(ht:0<=tgt->2<=tgt/\tgt<x.v.aj.blocks.length/\(aA x.v.aj tgt).bad=false):
  iB x (dz x src tgt).1/\((dz x src tgt).2.2=0->x.v.aj.ops<(dz x src tgt).1.v.aj.ops)/\((dz x src tgt).2.1=true->(dz x src tgt).2.2=0)/\((dz x src tgt).2.1=false/\(dz x src tgt).2.2=6-> ∀b,(aA (dz x src tgt).1.v.aj b).bad=(aA x.v.aj b).bad):=by
 obtain⟨h1,h2,h3,h4,h5,h6,h7⟩:=H6 x.v.at_ 0 (src:=src) hx.aj (.gB _) (aop _) hx.tz ht;rw[dz];split
 ·
  rename_i e he;refine⟨.on hx h1 h2 h3,fun h=>h6 (by rw[he];exact congrArg some h),fun h=>absurd (show false=true from h) (by simp),fun h b=>h7 (by rw[he];exact congrArg some h.2) b⟩
 ·
  rename_i he;have kg:=hx.on h1 h2;have hw:=Ox kg (a:=(eI x.v src tgt x.v.at_ 0 x.v.aj x.v.at_).a) (h4.jG h2) h5;refine⟨(iB.on hx h1 h2 h3).trans hw.1,fun h=>?_,fun h=>by simpa using h,fun h=>?_⟩
  ·
   have g:(eI x.v src tgt x.v.at_ 0 x.v.aj x.v.at_).c.ops<_:=hw.2 h;simp only;omega
  ·
   exact absurd h.2 (OB _ _)
theorem OC: ∀(n:Nat) (c:CV) (b:Int),(jr n c b).2≠6
 |0,c,b=>by have:=Oz c b;simp only[jr];omega
 |n+1,c,b=>by
  rw[jr];split
  ·
   have:=Ef c b (aA c b).used (jq c);simp only[bS];omega
  exact OC n _ _
theorem Xq(c:CV)(b:Int):(eB c b).2≠6:=OC _ _ _
def xj(c:CV)(l:List aG)(i:Int):Bool:=decide ((cM c (l.set i.toNat bN)).2.2=6)&&decide ((l.getD i.toNat gX).live<=D0 (l.set i.toNat bN) c.ab)
def dj(c:CV)(l:List aG)(i:Int):Int×Int:=if xj c l i=true then(-1,0)else(cM c (l.set i.toNat bN)).2
def jb(x:WV)(l:List aG)(i:Int):WV×Int:=
 if(dj x.v.aj l i).2≠0 then(x.on (cM x.v.aj (l.set i.toNat bN)).1,lH (dj x.v.aj l i).2)
 else if(dz (x.on (cM x.v.aj (l.set i.toNat bN)).1) (i+2) (dj x.v.aj l i).1).2.1=false\/(l.getD i.toNat gX).used=x.v.aj.ab then
  ((dz (x.on (cM x.v.aj (l.set i.toNat bN)).1) (i+2) (dj x.v.aj l i).1).1,(dz (x.on (cM x.v.aj (l.set i.toNat bN)).1) (i+2) (dj x.v.aj l i).1).2.2)
 else((dz (x.on (cM x.v.aj (l.set i.toNat bN)).1) (i+2) (dj x.v.aj l i).1).1.on (eB (dz (x.on (cM x.v.aj (l.set i.toNat bN)).1) (i+2) (dj x.v.aj l i).1).1.v.aj (i+2)).1,
  lH (eB (dz (x.on (cM x.v.aj (l.set i.toNat bN)).1) (i+2) (dj x.v.aj l i).1).1.v.aj (i+2)).2)
theorem OD{e:Int}(h:lH e=0):e=0\/e=9:=by
 rw[lH]at h;split at h
 ·
  exact .inr (by assumption)
 exact .inl h
theorem H9{e:Int}(h:lH e=6):e=6:=by
 rw[lH]at h;split at h
 ·
  cases h
 exact h
theorem Ia{c:CV}{l:List aG}{i:Int}(hk:bl c=true)(ht:kH c l):(dj c l i).2=0->0<=(dj c l i).1->2<=(dj c l i).1/\(dj c l i).1<c.blocks.length/\(aA (cM c (l.set i.toNat bN)).1 (dj c l i).1).bad=false:=by
 intro h h0;rw[dj]at h h0⊢;split at h
 ·
  rename_i ha;rw[if_pos ha]at h0;exact absurd (show(0:Int)<= -1 from h0) (by decide)
 rename_i ha;rw[if_neg ha];exact(H3 hk (ht.set i.toNat)).2.2.2.1 h
theorem Xr{x:WV}{src tgt:Int}(hx:du x)(ht:0<=tgt->2<=tgt/\tgt<x.v.aj.blocks.length/\(aA x.v.aj tgt).bad=false):du (dz x src tgt).1/\eV x.v.aj (dz x src tgt).1.v.aj:=
 ⟨(H8 hx ht).1.ok,(H8 hx ht).1.jG⟩
theorem OE{x:WV}{l:List aG}{i:Int}(hx:du x)(ht:kH x.v.aj l):
  iB x (jb x l i).1/\((jb x l i).2=0->x.v.aj.ops<(jb x l i).1.v.aj.ops)/\((jb x l i).2=6-> ∀b,(aA (jb x l i).1.v.aj b).bad=(aA x.v.aj b).bad):=by
 obtain⟨t1,t2,t3,t4,t5,t6⟩:=H3 hx.aj (ht.set i.toNat);have hn:=iB.on hx t1 t2 t3;rw[jb]
 by_cases h0:(dj x.v.aj l i).2≠0
 ·
  rw[if_pos h0];have he:(dj x.v.aj l i).2=(cM x.v.aj (l.set i.toNat bN)).2.2:=by
   rw[dj]at h0⊢;split at h0
   ·
    exact absurd rfl h0
   ·
    rename_i ha;rw[if_neg ha]
  refine⟨hn,fun h=>?_,fun h b=>?_⟩
  ·
   rcases OD h with g|g
   ·
    exact absurd g h0
   ·
    exact t5 (he▸g)
  ·
   have:=t6 (he▸H9 h);simp only[WV.on];rw[this]
 ·
  rw[if_neg h0];have s0:(dj x.v.aj l i).2=0:=by simpa using h0
  have hr:=Ia (i:=i) hx.aj ht s0;obtain⟨m1,m2,m3,m4⟩:=H8 (x:=x.on (cM x.v.aj (l.set i.toNat bN)).1) (src:=i+2) (tgt:=(dj x.v.aj l i).1) hn.ok (fun h=>by
   have:=hr h;exact⟨this.1,by simp only[WV.on];rw[t2.len];exact this.2.1,this.2.2⟩)
  have hb:(dj x.v.aj l i).2=0->(cM x.v.aj (l.set i.toNat bN)).2.2=6->(cM x.v.aj (l.set i.toNat bN)).1=x.v.aj:=fun _ h=>t6 h
  by_cases h1:(dz (x.on (cM x.v.aj (l.set i.toNat bN)).1) (i+2) (dj x.v.aj l i).1).2.1=false\/(l.getD i.toNat gX).used=x.v.aj.ab
  ·
   rw[if_pos h1];refine⟨hn.trans m1,fun h=>?_,fun h b=>?_⟩
   ·
    have g:(cM x.v.aj (l.set i.toNat bN)).1.ops<_:=m2 h;simp only;omega
   ·
    have hf:(dz (x.on (cM x.v.aj (l.set i.toNat bN)).1) (i+2) (dj x.v.aj l i).1).2.1=false:=by
     cases hq:(dz (x.on (cM x.v.aj (l.set i.toNat bN)).1) (i+2) (dj x.v.aj l i).1).2.1 with
     |false=>rfl
     |true=>have:=m3 hq;exact absurd (this.symm.trans h) (by decide)
    rw[m4 ⟨hf,h⟩ b]
    by_cases ha:xj x.v.aj l i=true
    ·
     simp only[xj,anc,decide_eq_true_eq]at ha;simp only[WV.on];rw[t6 ha.1]
    ·
     exact absurd h (Xs (by
      have:(dj x.v.aj l i).1=(cM x.v.aj (l.set i.toNat bN)).2.1:=by rw[dj,if_neg ha]
      have g:(cM x.v.aj (l.set i.toNat bN)).2.2=0:=by
       rw[dj,if_neg ha]at s0;exact s0
      have:=(t4 g).1;omega))
  ·
   rw[if_neg h1];have hm:(dz (x.on (cM x.v.aj (l.set i.toNat bN)).1) (i+2) (dj x.v.aj l i).1).2.1=true:=by
    cases hq:(dz (x.on (cM x.v.aj (l.set i.toNat bN)).1) (i+2) (dj x.v.aj l i).1).2.1 with
    |true=>rfl
    |false=>exact absurd (.inl hq) h1
   have hz:=m2 (m3 hm);have hc:=Be (i+2) m1.ok.aj;have ho:=y8 (fZ (dz (x.on (cM x.v.aj (l.set i.toNat bN)).1) (i+2) (dj x.v.aj l i).1).1.v.aj (i+2)).toNat (dz (x.on (cM x.v.aj (l.set i.toNat bN)).1) (i+2) (dj x.v.aj l i).1).1.v.aj (i+2);refine⟨(hn.trans m1).trans (.on m1.ok hc.1 hc.2 ho),fun _=>?_,fun h=>absurd (H9 h) (Xq _ _)⟩;have g:(cM x.v.aj (l.set i.toNat bN)).1.ops<_:=hz;have g2:(dz (x.on (cM x.v.aj (l.set i.toNat bN)).1) (i+2) (dj x.v.aj l i).1).1.v.aj.ops<=(eB (dz (x.on (cM x.v.aj (l.set i.toNat bN)).1) (i+2) (dj x.v.aj l i).1).1.v.aj (i+2)).1.ops:=ho;simp only[WV.on]at*;omega
where
 Xs {x:WV} {src tgt:Int} (h:0<=tgt):(dz x src tgt).2.2≠6:=by
  have key: ∀(l:List Int) (id:Nat) (c:CV) (a:List Int),(eI x.v src tgt l id c a).e≠some 6:=by
   intro l
   induction l with
   |nil=>intro id c a;simp[eI]
   |cons n r ih=>
    intro id c a;rw[eI];split
    ·
     exact ih _ _ _
    split
    ·
     rename_i h2;rw[ck,if_neg (by omega)]at h2;cases h2
    split
    ·
     rename_i h3;have:=(H5 ⟨1,id,((x.v.gen:Int)+1).toNat,kT c n⟩ c.size).resolve_left h3;intro h;have h:=ani h;rw[gg]at h;omega
    split
    ·
     intro h;have h:=H9 (ani h);have:=Ef c (ck c x.v.at_ a src tgt).1 (aA c (ck c x.v.at_ a src tgt).1).used (gg c ((x.v.gen:Int)+1) id n).1;rw[bS]at h;omega
    exact ih _ _ _
  rw[dz];split
  ·
   rename_i e he;intro h;exact key _ _ _ _ (by rw[he];exact congrArg some h)
  exact OB _ _
def pP(p:Int)(x:aG):Bool:=decide (x.used<p)&&decide (x.bj<dK)
def vp(c:CV)(l:List aG):Int×Bool:=gA (cj (pP c.ab) l) c.ab
def oS(x:WV)(l:List aG):WV×Int:=
 if(vp x.v.aj l).2=false then(x,6)else(x.on (eB x.v.aj ((vp x.v.aj l).1+2)).1,lH (eB x.v.aj ((vp x.v.aj l).1+2)).2)
def tC(x:WV):List aG:=aQ x.v.aj x.v.at_
def ze(x:WV):Int×Bool:=jJ (tC x) x.v.aj.ab
def gh(x:WV):WV×Int:=
 if(ze x).2=true/\Bg x.v.gen=false then
  (if(jb x (tC x) (ze x).1).2≠6 then jb x (tC x) (ze x).1 else oS (jb x (tC x) (ze x).1).1 (tC x))
 else oS x (tC x)
theorem kH.jG{c d:CV}{l:List aG}(h:kH c l)(hl:eV c d)(hb: ∀b,(aA d b).bad=(aA c b).bad):kH d l:=⟨by rw[h.1,hl.len],fun i x hx kE=>by rw[hb];exact h.2 i x hx kE⟩
theorem OF{x:WV}{l:List aG}(hx:du x)(ht:kH x.v.aj l):iB x (oS x l).1/\((oS x l).2=0->x.v.aj.ops<(oS x l).1.v.aj.ops):=by
 rw[oS];split
 ·
  exact⟨.gB hx,fun h=>absurd (show(6:Int)=0 from h) (by decide)⟩
 rename_i h;have hd:=vo ht (fun x h=>(w9 h).1) (show(vp x.v.aj l).2=true by simpa using h);change 0<=(vp x.v.aj l).1/\(vp x.v.aj l).1<_/\(aA x.v.aj ((vp x.v.aj l).1+2)).bad=false at hd;have hc:=Be ((vp x.v.aj l).1+2) hx.aj;exact⟨.on hx hc.1 hc.2 (y8 _ _ _),fun h=>D6 hd.2.2 (OD h).symm⟩
theorem OG{x:WV}(hx:du x):iB x (gh x).1/\((gh x).2=0->x.v.aj.ops<(gh x).1.v.aj.ops):=by
 have ht:kH x.v.aj (tC x):=H2 _ _;rw[gh];split
 ·
  obtain⟨r1,r2,r3⟩:=OE (i:=(ze x).1) hx ht;split
  ·
   exact⟨r1,r2⟩
  rename_i h6;have Xt:(jb x (tC x) (ze x).1).2=6:=by simpa using h6
  have:=OF r1.ok (ht.jG r1.jG (r3 Xt));exact⟨r1.trans this.1,fun h=>by have:=this.2 h;have:=r1.ops;omega⟩
 exact OF hx ht
def xk:Nat->WV->Int->WV×Int
 |0,x,_=>(x,0)
 |n+1,x,need=>
  if need<=(oQ x.v.aj x.v.at_).1 then(x,0)
  else if need<=(oQ x.v.aj x.v.at_).2/\w8 x.v.aj x.v.last<2 then({x with beyond:=true},0)
  else if(gh x).2=0 then xk n (gh x).1 need
  else if(gh x).2≠6 then gh x
  else if need<=(oQ x.v.aj x.v.at_).2 then({(gh x).1 with beyond:=true},0)
  else((gh x).1,5)
def oT(x:WV)(need:Int):WV×Int:=xk ((dK -x.v.aj.ops).toNat+1) x need
theorem du.by{x:WV}(h:du x)(b:Bool):du {x with beyond:=b}:=⟨h.aj,h.len,h.ab,h.size,h.last,h.gen,h.tz,h.tA⟩
theorem iB.by{x y:WV}(h:iB x y)(b:Bool):iB x {y with beyond:=b}:=⟨h.ok.by b,h.jG,h.ops,h.zb⟩
theorem OH: ∀(n:Nat) {x:WV} {need:Int},du x->iB x (xk n x need).1
 |0,x,need,hx=> .gB hx
 |n+1,x,need,hx=>by
  have hc:=OG hx;rw[xk];split
  ·
   exact .gB hx
  split
  ·
   exact(iB.gB hx).by true
  split
  ·
   exact hc.1.trans (OH n hc.1.ok)
  split
  ·
   exact hc.1
  split
  ·
   exact hc.1.by true
  exact hc.1
theorem Xu{x:WV}{need:Int}(hx:du x):iB x (oT x need).1:=OH _ hx
def br(x:It):Int×List UInt8:=(x.id,x.body.xs)
def zf(l:List (Int×List UInt8)):Nat:=(l.filter fun x=>decide (0<x.2.length)).length
theorem Xv{l:List (Int×List UInt8)}{i:Nat}{x:Int×List UInt8}(h:l[i]? =some x):((l.take (i+1)).filter fun x=>decide (0<x.2.length)).length=((l.take i).filter fun x=>decide (0<x.2.length)).length+(if 0<x.2.length then 1 else 0):=by
 rw[anq,h,aoA,af0];congr 1;simp only[apy,aoj,apz];split<;>simp_all
def jt(v:VV)(x:Int×List UInt8):PV:=⟨1,x.1,v.gen+1,x.2⟩
def nU(v:VV)(bq:Bool):List (Int×List UInt8)->CV->List Int->CV×List Int×Int
 |[],c,a=>(c,a,0)
 |x::r,c,a=>
  if x.2.length=0 then nU v bq r c (a.set x.1.toNat 0)
  else if(dL c (v.at_++a) bq (jt v x)).2.2≠0 then((dL c (v.at_++a) bq (jt v x)).1,a,(dL c (v.at_++a) bq (jt v x)).2.2)
  else nU v bq r (dL c (v.at_++a) bq (jt v x)).1 (a.set x.1.toNat (dL c (v.at_++a) bq (jt v x)).2.1)
def kI(x:WV)(l:List (Int×List UInt8)):WV×Int:=oT {x with beyond:=false} (zf l)
def tD(x:WV)(l:List (Int×List UInt8)):CV×List Int×Int:=nU (kI x l).1.v (kI x l).1.beyond l (kI x l).1.v.aj (kI x l).1.v.at_
def jK(x:WV)(l:List (Int×List UInt8)):WV×Int:=
 if(kI x l).2≠0 then kI x l
 else if(tD x l).2.2≠0 then((kI x l).1.on (tD x l).1,(tD x l).2.2)
 else iK ((kI x l).1.on (tD x l).1) (tD x l).2.1
theorem Ib{v:VV}{bq:Bool}: ∀(l:List (Int×List UInt8)) {c:CV} {a:List Int},bl c=true->3<=c.blocks.length->gZ c a->
  bl (nU v bq l c a).1=true/\eV c (nU v bq l c a).1/\c.ops<=(nU v bq l c a).1.ops/\gZ c (nU v bq l c a).2.1/\(nU v bq l c a).2.1.length=a.length
 |[],c,a,hk,h2,ha=>⟨hk, .gB c,aop _,ha,rfl⟩
 |x::r,c,a,hk,h2,ha=>by
  rw[nU];split
  ·
   have:=Ib r (v:=v) (bq:=bq) hk h2 (a:=a.set x.1.toNat 0) (fun y hy=>by
    rcases anV hy with hy|rfl
    ·
     exact ha y hy
    ·
     exact .inl rfl)
   rwa [aoa]at this
  ·
   obtain⟨p1,p2,p3,p4⟩:=Oo (fl:=v.at_++a) (bq:=bq) (p:=jt v x) hk h2;split
   ·
    exact⟨p1,p2,p3,ha,rfl⟩
   ·
    rename_i h0;have p5:=p4 (by simpa using h0);have:=Ib r (v:=v) (bq:=bq) p1 (by rw[p2.len];exact h2) (a:=a.set x.1.toNat (dL c (v.at_++a) bq (jt v x)).2.1) (fun y hy=>by
     rw[p2.ab,p2.len];rcases anV hy with hy|rfl
     ·
      exact ha y hy
     ·
      exact .inr p5)
    obtain⟨i1,i2,i3,i4,i5⟩:=this;refine⟨i1,p2.trans i2,by omega,fun y hy=>?_,by rw[i5,aoa]⟩;have:=i4 y hy;rwa [p2.ab,p2.len]at this
theorem OI{x:WV}{l:List (Int×List UInt8)}(hx:du x):iB x (kI x l).1:=by
 have:=Xu (need:=zf l) (hx.by false);exact⟨this.ok,this.jG,this.ops,this.zb⟩
theorem Xw{x:WV}{l:List (Int×List UInt8)}(hx:du x):iB x (jK x l).1:=by
 have hs:=OI (l:=l) hx;rw[jK];split
 ·
  exact hs
 have hl:=hs.ok.tB;obtain⟨i1,i2,i3,i4,i5⟩:=Ib (v:=(kI x l).1.v) (bq:=(kI x l).1.beyond) l hs.ok.aj (by omega) hs.ok.tz;have kg:=hs.trans (.on hs.ok i1 i2 i3);split
 ·
  exact kg
 exact kg.trans (Ox kg.ok (i4.jG i2) i5).1
def rW:Nat->WV->List (Int×List UInt8)->WV×Int
 |0,x,_=>(x,0)
 |n+1,x,l=>if(jK x l).2=5/\mf x.v.aj<mf (jK x l).1.v.aj then rW n (jK x l).1 l else jK x l
theorem Xx(c:CV):mf c<=c.blocks.length:=apE _ _
def vq(v:VV)(x:Int×List UInt8):Bool:=decide (0<=x.1)&&decide (x.1<(v.at_.length:Int))&&decide ((x.2.length:Int)<=fy v.aj.size)
def vr(v:VV)(l:List (Int×List UInt8))(i:Nat):Bool:=vq v (l.getD i (0,[]))&& !((l.take i).map Prod.fst).contains (l.getD i (0,[])).1
def rX(v:VV)(l:List (Int×List UInt8)):Bool:=(List.range l.length).all (vr v l)
theorem Ic{v:VV}{l:List (Int×List UInt8)}:rX v l=true↔ ∀i,i<l.length->vr v l i=true:=by simp only[rX,anw,an5]
def rY(l:List Int)(i:Nat):Int->Option Unit:=fun x=>if x∈l.take i then some ()else none
theorem OJ{l:List Int}{i:Nat}{x:Int}:(rY l i x).isSome=decide (x∈l.take i):=by
 unfold rY;split<;>simp_all
theorem Xy{l:List Int}:(fun _=>none)=rY l 0:=by
 funext x;simp[rY]
theorem Xz{l:List Int}{i:Nat}{y:Int}(h:l[i]? =some y):(fun z=>if z=y then some ()else rY l i z)=rY l (i+1):=by
 funext x
 unfold rY;rw[anq,h]
 by_cases hx:x=y
 ·
  subst hx;simp
 simp[hx]
def ic(v:VV)(l:List (Int×List UInt8)):VV×Int:=
 if ¬(pM v=true/\v.gen<281474976710655/\rX v l=true)then(v,1)
 else if v.aj.off=true then(v,7)
 else((rW (v.aj.blocks.length+1) ⟨v,false⟩ l).1.v,(rW (v.aj.blocks.length+1) ⟨v,false⟩ l).2)
def xm(b p:Int):Int:=if b<4\/32<b\/p<1\/16<p then 0 else(b -4)*p
def mg(c:CV)(ids:Int):WV×Int:=pO ⟨⟨c,[],0,0⟩,false⟩ ids.toNat
def nr(c:CV)(ids:Int):VV×Int:=
 if ¬(oJ c=true/\1<=ids/\ids<=lE c.size)then(⟨c,[],0,0⟩,1)
 else if c.off=true then(⟨c,[],0,0⟩,7)
 else if(mg c ids).2≠0 then(⟨(mg c ids).1.v.aj,[],0,0⟩,(mg c ids).2)
 else((mg c ids).1.v,0)
theorem XA{b:List UInt8}:(fc b).1.at_.length<=64/\(fc b).1.gen<281474976710656:=by
 rw[fc];split
 ·
  simp[gz]
 rename_i h1;split
 ·
  simp[gz]
 rename_i h2;split
 ·
  simp[gz]
 rename_i h3;have hf:ve (di b).1=true:=by simpa using h3
 simp only[ve,anc,decide_eq_true_eq]at hf;refine⟨?_,N7 b⟩;have hid:(di b).1.id<64:=by
  have qA:(di b).2=0:=by simpa using h1
  rw[di]at qA h2⊢
  by_cases g1:rM b.length=false
  ·
   rw[if_pos g1]at qA;cases qA
  rw[if_neg g1]at qA h2⊢
  by_cases g2:pJ b=true
  ·
   rw[if_pos g2]at h2;exact absurd rfl h2
  rw[if_neg g2]at qA h2⊢
  by_cases g3:de (DV b)≠pF (nj b)
  ·
   rw[if_pos g3]at qA;cases qA
  rw[if_neg g3]at qA h2⊢
  by_cases g4:rN b=false
  ·
   rw[if_pos g4]at qA;cases qA
  rw[if_neg g4]at qA h2⊢;have g5:rN b=true:=by simpa using g4
  simp only[rN,anc]at g5;have:=(Nx.1 g5.2).2.2.2.1;split
  ·
   simp[jF]
  exact this
 simp only[HL];omega
theorem OK(l:List (List UInt8)): ∀k,(dY l k).new.at_.length<=64/\(dY l k).new.gen<281474976710656
 |0=>by simp[dY,gz]
 |k+1=>by
  rw[dY,w4];split
  ·
   exact XA
  exact OK l k
theorem XB(l:List (List UInt8)):(fY l).2.1.at_.length<=64/\(fY l).2.1.gen<281474976710656:=by
 rw[fY];split
 ·
  exact OK _ _
 split<;>simp[gz]
theorem XC{v:VV}{b:Bool}(h:pM v=true):du ⟨v,b⟩:=by
 have hr:=DY h;have ha:= @NR v h;simp only[pM,anc,decide_eq_true_eq]at h;obtain⟨⟨⟨h1,h2⟩,h3⟩,h4⟩:=h;obtain⟨hb,hl,hf⟩:=HQ h1;obtain⟨b1,b2,b3,b4⟩:=tn.1 hb;have zg:=XB ((aA {v.aj with off:=false} 0).ab++(aA {v.aj with off:=false} 1).ab)
 rw[hf]at h2 h3 h4;simp only at h2 h3 h4;have hd:=kF hr.1;have nm:4<=(v.aj.blocks.length:Int):=b2;refine⟨hr.1,b2,b3,b4,?_,by rw[←h2];exact zg.2,fun n hn=>?_,by rw[←h4];exact zg.1⟩
 ·
  rw[←h3];have ho0:=gy.1 (Bh hr.1 (b:=0) (by omega) (by omega));have ho1:=gy.1 (Bh hr.1 (b:=1) (by omega) (by omega));have hlen:((aA v.aj 0).ab++(aA v.aj 1).ab).length=(aA v.aj 0).ab.length+(aA v.aj 1).ab.length:=af0;have nV:=NK (l:=(aA v.aj 0).ab++(aA v.aj 1).ab) (by rw[hlen];omega);change 0<=(fh {v.aj with off:=false}).1/\(fh {v.aj with off:=false}).1<_ at nV
  rw[hlen]at nV;have g0:0<=(fh {v.aj with off:=false}).1/v.aj.ab:=apR nV.1 (by omega)
  have g1:(fh {v.aj with off:=false}).1/v.aj.ab<2:=Int.ediv_lt_of_lt_mul (by omega) (by
   have h9:(fh {v.aj with off:=false}).1<(((aA v.aj 0).ab.length+(aA v.aj 1).ab.length:Nat):Int):=nV.2
   omega)
  change(fh {v.aj with off:=false}).1/v.aj.ab=0\/(fh {v.aj with off:=false}).1/v.aj.ab=1
  omega
 by_cases h0:n=0
 ·
  exact .inl h0
 obtain⟨i,hi⟩:=aoi hn;have:=ha hi h0;have hp:=A9.1 this.2.2;exact .inr ⟨this.1,hp.1,hp.2.1⟩
theorem XD{c:CV}(h:(bL c).2≠0):(bL c).1=l5:=by
 rw[bL]at h⊢
 repeat' split
 all_goals first|rfl|(exfalso;simp_all)
theorem XE(c:CV):(if(bL c).2=0 then(bL c).1 else l5)=(bL c).1:=by
 by_cases h:(bL c).2=0
 ·
  rw[if_pos h]
 rw[if_neg h,XD h]
def tE(t:List Rt)(n id:Nat):List UInt8:=((t.drop (id*n)).take n).flatMap gY
def oU(t:List Rt)(ids n:Nat):List (List UInt8):=(List.range ids).map (tE t n)
def mh(a b:Int):Int:=if a<1\/64<a\/b<20\/240<b then 0 else min (a*(b/20)) 256
def j7(t:List Rt)(ids room:Int):Int:=if bM t=false\/mh ids room=0 then 1 else if mh ids room<t.length then 5 else 0
def kV(t:List Rt)(ids room:Int):List (List UInt8):=if j7 t ids room=0 then oU t ids.toNat (room/20).toNat else[]
theorem vt(t:List Rt)(ids n:Nat):(oU t ids n).length=ids:=by simp[oU]
theorem XF(l:List Rt):(l.flatMap gY).length=20*l.length:=by
 induction l with
 |nil=>rfl
 |cons a l ih=>rw[apZ,af0,ih,rL,ang];omega
theorem XG(t:List Rt)(n id:Nat):(tE t n id).length=20*min n (t.length -id*n):=by
 rw[tE,XF,anj,ant]
theorem OL(t:List Rt)(n id:Nat):(tE t n id).length<=20*n:=by rw[XG];omega
theorem Ie{a b:Int}(h: ¬mh a b=0):1<=a/\a<=64/\20<=b/\b<=240/\mh a b=min (a*(b/20)) 256/\1<=b/20/\b/20<=12:=by
 unfold mh at h⊢;split at h
 ·
  exact absurd rfl h
 rename_i hn;rw[if_neg hn];have:1<=b/20/\b/20<=12:=by omega
 exact⟨by omega,by omega,by omega,by omega,rfl,this.1,this.2⟩
theorem XH{t:List Rt}{r:Rt}{i n id:Nat}(hn:0<n)(hr:t[i]? =some r):tE (t.take (i+1)) n id=tE (t.take i) n id++(if id=i/n then gY r else[]):=by
 have aZ:i<t.length:=(ad2.1 hr).1;have e1:t.take (i+1)=t.take i++[r]:=by rw[anq,hr];rfl
 have hd:=aoW i n;have hm:=aoP i hn;have hc:n*(i/n)=i/n*n:=an0 _ _;unfold tE;have l1:(t.take i).length=i:=by rw[anj];omega
 rw[e1]
 by_cases h1:id=i/n
 ·
  subst h1;have e2:(t.take i++[r]).drop (i/n*n)=(t.take i).drop (i/n*n)++[r]:=List.drop_append_of_le_length (by rw[l1];omega);have e3:((t.take i).drop (i/n*n)++[r]).take n=(t.take i).drop (i/n*n)++[r]:=anx (by rw[af0,ant,l1];simp only[ang,anh];omega);have e4:((t.take i).drop (i/n*n)).take n=(t.take i).drop (i/n*n):=anx (by rw[ant,l1];omega);rw[if_pos rfl,e2,e3,e4];simp
 rw[if_neg h1,anN];rcases apQ h1 with h2|h2
 ·
  have:(id+1)*n<=i/n*n:=anp _ h2;rw[anF]at this;rw[List.drop_append_of_le_length (by rw[l1];omega),List.take_append_of_le_length (by rw[ant,l1];omega)]
 have:(i/n+1)*n<=id*n:=anp _ h2;rw[anF]at this;rw[apV (by rw[af0,l1];simp;omega),apV (by rw[l1];omega)]
theorem XI{t:List Rt}{r:Rt}{i n ids:Nat}{x:List UInt8}(hn:0<n)(hr:t[i]? =some r)(hx:(oU (t.take i) ids n)[i/n]? =some x):
  oU (t.take (i+1)) ids n=(oU (t.take i) ids n).set (i/n) (x++gY r):=by
 refine aok fun j=>?_;rw[aof];have hk:i/n<ids:=by have:=(ad2.1 hx).1;rwa [vt]at this
 by_cases hj:j<ids
 ·
  have e: ∀t',(oU t' ids n)[j]? =some (tE t' n j):=fun t'=>by simp[oU,hj]
  rw[e,XH hn hr]
  by_cases h:i/n=j
  ·
   subst h;rw[e]at hx;rw[if_pos rfl,if_pos rfl,if_pos (by rw[vt];exact hk)];rw[ani hx]
  ·
   rw[if_neg (fun e=>h e.symm),if_neg h,anN,e]
 ·
  rw[ans (by rw[vt];omega),if_neg (by omega),ans (by rw[vt];omega)]
theorem XJ(t:List Rt)(ids n:Nat):oU (t.take 0) ids n=List.replicate ids []:=by
 refine List.eq_replicate_iff.2 ⟨vt _ _ _,fun x hx=>?_⟩;obtain⟨j,_,rfl⟩:=aoC.1 hx;simp[tE]
def oV(b:List UInt8):Rt:=⟨⟨if b.getD 0 0=1 then 128 else 32,(b.getD 1 0).toNat,nI fun i=>(b.getD (2+i) 0).toNat⟩,UInt16.ofNat ((b.getD 18 0).toNat*256+(b.getD 19 0).toNat)⟩
def rd(b:List UInt8):Option Rt:=if b.getD 0 0<=1 then some (oV b)else none
def lJ(b:List UInt8):Option (List Rt):=
 if h:b.length<20 then(if b.length=0 then some []else none)
 else match rd (b.take 20),lJ (b.drop 20)with
  |some r,some l=>some (r::l)
  |_,_=>none
termination_by b.length
decreasing_by rw[ant];omega
theorem XK:lJ []=some []:=by rw[lJ];simp
theorem OM{b:List UInt8}(h:20<=b.length):lJ b=(rd (b.take 20)).bind fun r=>(lJ (b.drop 20)).map (r:: ·):=by
 rw[lJ,dif_neg (by omega)]
 cases rd (b.take 20)<;>simp
 cases lJ (b.drop 20)<;>simp
theorem ON: ∀(k:Nat) (b:List UInt8),b.length<=k-> ¬b.length%20=0->lJ b=none
 |0,b,h,hm=>by have:b.length=0:=by omega
               rw[this]at hm;simp at hm
 |k+1,b,h,hm=>by
  by_cases h2:b.length<20
  ·
   rw[lJ,dif_pos h2,if_neg (fun e=>by rw[e]at hm;simp at hm)]
  rw[OM (by omega),ON k (b.drop 20) (by rw[ant];omega) (by rw[ant];omega)]
  cases rd (b.take 20)<;>rfl
def iC:List (List UInt8)->Option (List Rt)
 |[]=>some []
 |b::r=>(lJ b).bind fun l=>(iC r).map (l++ ·)
theorem Ig: ∀a b:List (List UInt8),iC (a++b)=(iC a).bind fun l=>(iC b).map (l++ ·)
 |[],b=>by simp[iC]
 |x::a,b=>by
  rw[aoq,iC,iC,Ig a b]
  cases lJ x<;>simp
  cases iC a<;>simp
  cases iC b<;>simp
theorem Ih{bs:List (List UInt8)}{i:Nat}{b:List UInt8}(h:bs[i]? =some b):iC (bs.take (i+1))=(iC (bs.take i)).bind fun l=>(lJ b).map (l++ ·):=by
 rw[anq,h,apy,Ig,iC,iC]
 cases iC (bs.take i)with
 |none=>rfl
 |some l=>cases lJ b<;>simp
theorem OO{bs:List (List UInt8)}{i:Nat}(h:iC (bs.take i)=none):iC bs=none:=by
 rw[←anO i bs,Ig,h];rfl
def mi(bs:List (List UInt8)):List Rt:=match iC bs with
 |some t=>if bM t=true then t else[]
 |none=>[]
def oW(bs:List (List UInt8)):Int:=match iC bs with
 |some t=>if bM t=true then 0 else 2
 |none=>2
theorem Eh{bs:List (List UInt8)}(h:iC bs=none):mi bs=[]/\oW bs=2:=by simp[mi,oW,h]
theorem OP{bs:List (List UInt8)}{t:List Rt}(h:iC bs=some t)(hr:bM t=false):mi bs=[]/\oW bs=2:=by simp[mi,oW,h,hr]
theorem OQ{bs:List (List UInt8)}{t:List Rt}(h:iC bs=some t)(hr:bM t=true):mi bs=t/\oW bs=0:=by simp[mi,oW,h,hr]
def zh(a b:List (List UInt8))(i:Nat):Option (Int×List UInt8):=if a.getD i []=b.getD i []then none else some ((i:Int),b.getD i [])
def rZ(a b:List (List UInt8))(n:Nat):List (Int×List UInt8):=(List.range n).filterMap (zh a b)
def kJ(a b:List (List UInt8)):List (Int×List UInt8):=rZ a b (max a.length b.length)
theorem XL{a b:List (List UInt8)}{n:Nat}(h:a.getD n []=b.getD n []):rZ a b (n+1)=rZ a b n:=by
 have e:zh a b n=none:=by rw[zh,if_pos h]
 simp[rZ,aoV,e]
theorem XM{a b:List (List UInt8)}{n:Nat}(h: ¬a.getD n []=b.getD n []):rZ a b (n+1)=rZ a b n++[((n:Int),b.getD n [])]:=by
 have e:zh a b n=some ((n:Int),b.getD n []):=by rw[zh,if_neg h]
 simp[rZ,aoV,e]
theorem Ii(a b:List (List UInt8))(n:Nat):(rZ a b n).length<=n:=by
 have:=List.length_filterMap_le (zh a b) (List.range n);simpa[rZ]using this
def qB(b:List UInt8):Bool:=decide (b.getD 0 0<=1)
def rdv(b:List UInt8):Rt:=if qB b=true then oV b else c8
theorem XN(b:List UInt8):rd b=if qB b=true then some (oV b)else none:=by simp[rd,qB]
theorem XO(b:List UInt8):(oV b).hop=wy (b.getD 18 0) (b.getD 19 0):=rfl
theorem XP{b:List UInt8}(hb:b.length=20)(v:Int)(hv:v=if b.getD 0 0=1 then 128 else 32):
  (over (((ao c8).setIfInBounds 0 (.int .i64 v)).setIfInBounds 1 (.int .i64 (b.getD 1 0).toNat)) 2 (aI aP ((b.drop 2).take 16)).toArray).setIfInBounds 18 (.int .u16 (wy (b.getD 18 0) (b.getD 19 0)).toNat)=ao (oV b):=by
 have hk:(aI aP ((b.drop 2).take 16)).toArray.size=16:=by rw[an1,gE,anj,ant,hb];rfl
 have h0:(ao c8).size=19:=jU _;have hs:2+(aI aP ((b.drop 2).take 16)).toArray.size<=(((ao c8).setIfInBounds 0 (.int .i64 v)).setIfInBounds 1 (.int .i64 (b.getD 1 0).toNat)).size:=by rw[hk];simp[h0]
 refine aoG fun j=>?_;rw[anY,mH hs,sO hs,hk]
 by_cases A6:18=j
 ·
  subst A6;rw[if_pos rfl,yr,XO];simp[h0]
 rw[if_neg A6]
 by_cases h2:2<=j/\j<2+16
 ·
  rw[if_pos h2,nJ _ j (by omega),show j=2+(j -2) by omega,pA,gU _ _ (by omega),show 2+(j -2) -2=j -2 by omega];have hg:((b.drop 2).take 16)[j -2]? =some (b.getD j 0):=by
   rw[apg,if_pos (by omega),aom,show 2+(j -2)=j by omega,List.getD,anC (by omega)];rfl
  have:=mI (enc:=aP) ((b.drop 2).take 16) (j -2) _ hg 0 (by decide);simp only[aoy,an3]at this;rw[show(aI aP ((b.drop 2).take 16)).toArray[j -2]? =(aI aP ((b.drop 2).take 16))[j -2]?by simp,this];have e:aU (oV b).p.key (j -2)=(b.getD j 0).toNat:=by
   show aU (nI fun i=>(b.getD (2+i) 0).toNat) (j -2)=_;rw[sU _ _ (by omega),show 2+(j -2)=j by omega];have:=(b.getD j 0).toNat_lt;omega
  rw[e];rfl
 rw[if_neg h2,anY]
 by_cases h1:1=j
 ·
  subst h1;rw[if_pos rfl,nJ _ 1 (by decide),wG];simp[h0,oV]
 rw[if_neg h1,anY]
 by_cases hj:0=j
 ·
  subst hj;rw[if_pos rfl,nJ _ 0 (by decide),wF];simp[h0,oV,hv]
 ·
  rw[if_neg hj,aoF (by rw[h0];omega),aoF (by rw[jU];omega)]
theorem OR{t:List Rt}{ids room:Int}(h:mh ids room=0\/bM t=false):j7 t ids room=1/\kV t ids room=[]:=by
 have e:j7 t ids room=1:=if_pos h.symm;exact⟨e,by rw[kV,e];rfl⟩
theorem OS{t:List Rt}{ids room:Int}(h: ¬mh ids room=0)(h':bM t=true)(h2:mh ids room<t.length):j7 t ids room=5/\kV t ids room=[]:=by
 have e:j7 t ids room=5:=by
  rw[j7,if_neg (by simp[h,h']),if_pos h2]
 exact⟨e,by rw[kV,e];rfl⟩
theorem OT{t:List Rt}{ids room:Int}(h: ¬mh ids room=0)(h':bM t=true)(h2: ¬mh ids room<t.length):j7 t ids room=0/\kV t ids room=oU t ids.toNat (room/20).toNat:=by
 have e:j7 t ids room=0:=by
  rw[j7,if_neg (by simp[h,h']),if_neg h2]
 exact⟨e,by rw[kV,if_pos e]⟩
theorem XQ{s:Sv}{xs:List (Sl UInt8)}{i:Nat}{y:Sl UInt8}:lx (⟨s,xs.set i y⟩:Sl (Sl UInt8))=(xs.map (·.xs)).set i y.xs:=by simp[lx,apn]
def r8(m i:Nat)(nd:Nd)(b:Nat)(a:List Int):Option (List Int):=
 if(nd.sl b).len<0\/4*a.getD i 0+1<(nd.sl b).len then none
 else if nd.nx b=0 then some a
 else if nd.nx b<=(i:Int)\/(m:Int)<=nd.nx b\/a.getD (nd.nx b).toNat 0≠0 then none
 else some (a.set (nd.nx b).toNat (a.getD i 0+1))
def kW(m i:Nat)(nd:Nd):Nat->List Int->Option (List Int)
 |0,a=>some a
 |b+1,a=>(kW m i nd b a).bind (r8 m i nd b)
def jL(bits:Int)(ns:List Nd):Nat->Option (List Int)
 |0=>some ((List.replicate ns.length 0).set 0 1)
 |i+1=>(jL bits ns i).bind fun a=>if a.getD i 0=0\/bits/4<a.getD i 0 then none else kW ns.length i (ns.getD i Nd.zero) 16 a
def jM(bits:Int)(ns:List Nd):Option (List Int):=if(bits=32\/bits=128)/\1<=ns.length/\ns.length<=512 then jL bits ns ns.length else none
theorem XR{bits:Int}{ns:List Nd}{i:Nat}(h:jL bits ns i=none): ∀j,i<=j->jL bits ns j=none:=by
 intro j hj
 induction j with
 |zero=>obtain rfl:i=0:=by omega
        exact h
 |succ j ih=>
  rcases anl j i with h'|h'
  ·
   obtain rfl:i=j+1:=by omega
   exact h
  rw[jL,ih h'];rfl
theorem XS{m i:Nat}{nd:Nd}{a:List Int}{b:Nat}(h:kW m i nd b a=none): ∀c,b<=c->kW m i nd c a=none:=by
 intro c hc
 induction c with
 |zero=>obtain rfl:b=0:=by omega
        exact h
 |succ c ih=>
  rcases anl c b with h'|h'
  ·
   obtain rfl:b=c+1:=by omega
   exact h
  rw[kW,ih h'];rfl
theorem OU{bits:Int}{ns:List Nd}{i:Nat}(hi:i<=ns.length)(h:jL bits ns i=none):jM bits ns=none:=by
 rw[jM];split
 ·
  exact XR h _ hi
 rfl
section
variable {bits:Int} {ns:List Nd} {i:Nat} {a a2:List Int} {nd:Nd}
theorem XT(hi:i<ns.length)(h:jL bits ns i=some a)(hx:a.getD i 0=0\/bits/4<a.getD i 0):jM bits ns=none:=
 OU (i:=i+1) hi (by rw[jL,h,aoJ,if_pos hx])
theorem OV{b:Nat}(hi:i<ns.length)(h:jL bits ns i=some a)(hn:ns[i]? =some nd)(hb:b<16)(h2:kW ns.length i nd b a=some a2)(h3:r8 ns.length i nd b a2=none):jM bits ns=none:=
 OU (i:=i+1) hi (by
  rw[jL,h,aoJ];split
  ·
   rfl
  have e:ns.getD i Nd.zero=nd:=by rw[anU,hn];rfl
  rw[e];exact XS (b:=b+1) (by rw[kW,h2,aoJ,h3]) _ hb)
theorem XU(h:jL bits ns i=some a)(hn:ns[i]? =some nd)(hx: ¬(a.getD i 0=0\/bits/4<a.getD i 0))(h2:kW ns.length i nd 16 a=some a2):jL bits ns (i+1)=some a2:=by
 have e:ns.getD i Nd.zero=nd:=by rw[anU,hn];rfl
 rw[jL,h,aoJ,if_neg hx,e,h2]
theorem getD_some{α:Type}{xs:List α}{i:Nat}{x d:α}(h:xs[i]? =some x):xs.getD i d=x:=by rw[anU,h];rfl
end
def OW(ns:List Nd):Prop:= ∀(i:Nat) (nd:Nd),ns[i]? =some nd-> ∀b:Nat,b<16->0<=nd.nx b/\nd.nx b<ns.length
theorem XV{m i:Nat}{nd:Nd}{a a2:List Int}: ∀{n:Nat},kW m i nd n a=some a2-> ∀b,b<n->nd.nx b=0\/(i:Int)<nd.nx b/\nd.nx b<m:=by
 intro n
 induction n generalizing a2 with
 |zero=>intro _ b hb;omega
 |succ n ih=>
  intro h b hb;rw[kW]at h
  cases e:kW m i nd n a with
  |none=>rw[e]at h;cases h
  |some a3=>
   rcases anl b n with h'|h'
   ·
    exact ih e b h'
   obtain rfl:b=n:=by omega
   rw[e,aoJ,r8]at h;split at h
   ·
    cases h
   split at h
   ·
    left;assumption
   split at h
   ·
    cases h
   right;omega
theorem XW{bits:Int}{ns:List Nd}{a:List Int}: ∀{n:Nat},jL bits ns n=some a-> ∀i nd,i<n->ns[i]? =some nd-> ∀b,b<16->nd.nx b=0\/(i:Int)<nd.nx b/\nd.nx b<ns.length:=by
 intro n
 induction n generalizing a with
 |zero=>intro _ i nd hi;omega
 |succ n ih=>
  intro h i nd hi hn b hb;rw[jL]at h
  cases e:jL bits ns n with
  |none=>rw[e]at h;cases h
  |some a3=>
   rcases anl i n with h'|h'
   ·
    exact ih e i nd h' hn b hb
   obtain rfl:i=n:=by omega
   rw[e,aoJ]at h;split at h
   ·
    cases h
   rw[getD_some hn]at h;exact XV h b hb
theorem Ei{bits:Int}{ns:List Nd}(h:(jM bits ns).isSome=true):OW ns/\(bits=32\/bits=128)/\1<=ns.length/\ns.length<=512:=by
 rw[jM]at h;split at h
 ·
  rename_i hc;refine⟨fun i nd hi b hb=>?_,hc⟩;obtain⟨a,ha⟩:=an4.1 h;have dP:=(ad2.1 hi).1;rcases XW ha i nd dP hi b hb with h1|h1
  ·
   omega
  omega
 cases h
theorem XX{m i:Nat}{nd:Nd}{a a2:List Int}: ∀{n:Nat},kW m i nd n a=some a2->a2.getD i 0=a.getD i 0/\ ∀b,b<n->0<=(nd.sl b).len/\(nd.sl b).len<=4*a.getD i 0+1:=by
 intro n
 induction n generalizing a2 with
 |zero=>intro h;rw[kW]at h;exact⟨by rw[ani h],fun b hb=>by omega⟩
 |succ n ih=>
  intro h;rw[kW]at h
  cases e:kW m i nd n a with
  |none=>rw[e]at h;cases h
  |some a3=>
   obtain⟨Ij,XY⟩:=ih e;rw[e,aoJ,r8]at h;split at h
   ·
    cases h
   rename_i h1;have nm: ∀b,b<n+1->0<=(nd.sl b).len/\(nd.sl b).len<=4*a.getD i 0+1:=fun b hb=>by
    rcases anl b n with h'|h'
    ·
     exact XY b h'
    obtain rfl:b=n:=by omega
    rw[←Ij];omega
   split at h
   ·
    exact⟨by rw[←ani h];exact Ij,nm⟩
   split at h
   ·
    cases h
   refine⟨?_,nm⟩;rw[←ani h,←Ij,anU,anU,aox (by omega)]
theorem XZ{bits:Int}{ns:List Nd}{a:List Int}: ∀{n:Nat},jL bits ns n=some a-> ∀(i:Nat) (nd:Nd),i<n->ns[i]? =some nd-> ∀b,b<16->0<=(nd.sl b).len/\(nd.sl b).len<=4*(bits/4)+1:=by
 intro n
 induction n generalizing a with
 |zero=>intro _ i nd hi;omega
 |succ n ih=>
  intro h i nd hi hn b hb;rw[jL]at h
  cases e:jL bits ns n with
  |none=>rw[e]at h;cases h
  |some a3=>
   rcases anl i n with h'|h'
   ·
    exact ih e i nd h' hn b hb
   obtain rfl:i=n:=by omega
   rw[e,aoJ]at h;split at h
   ·
    cases h
   rw[getD_some hn]at h;have:=(XX h).2 b hb;omega
theorem X0{bits:Int}{ns:List Nd}(h:(jM bits ns).isSome=true){i:Nat}{nd:Nd}(hn:ns[i]? =some nd){b:Nat}(hb:b<16):0<=(nd.sl b).len/\(nd.sl b).len<=129:=by
 obtain⟨_,DD,_⟩:=Ei h;rw[jM]at h;split at h
 ·
  obtain⟨a,ha⟩:=an4.1 h;have:=XZ ha i nd (ad2.1 hn).1 hn b hb;omega
 cases h
def chain(ns:List Nd)(k:Key):Nat->Nat
 |0=>0
 |n+1=>((ns.getD (chain ns k n) Nd.zero).nx (fG k n)).toNat
theorem Ej{ns:List Nd}{k:Key}(h:OW ns)(h0:0<ns.length): ∀n,chain ns k n<ns.length
 |0=>h0
 |n+1=>by
  have ih:=Ej (k:=k) h h0 n;obtain⟨nd,hn⟩: ∃nd,ns[chain ns k n]? =some nd:=⟨ns[chain ns k n],by simp[ih]⟩;have:=h _ nd hn (fG k n) (s9 k n);rw[chain,getD_some hn];omega
def Bj(ns:List Nd)(k:Key)(n:Nat):Nat:=((List.range n).find? fun j=>chain ns k (j+1)==0).getD n
theorem X1{ns:List Nd}{k:Key}{n i:Nat}(hi:i<n)(h: ∀j,j<i->chain ns k (j+1)≠0)(h0:chain ns k (i+1)=0):Bj ns k n=i:=by
 unfold Bj;have:(List.range n).find? (fun j=>chain ns k (j+1)==0)=some i:=by
  rw[List.find?_range_eq_some];exact⟨by simpa using h0,by simpa using hi,fun j hj=>by simpa using h j hj⟩
 rw[this];rfl
theorem X2{ns:List Nd}{k:Key}{n:Nat}(h: ∀j,j<n->chain ns k (j+1)≠0):Bj ns k n=n:=by
 unfold Bj;have:(List.range n).find? (fun j=>chain ns k (j+1)==0)=none:=by
  rw[List.find?_range_eq_none];intro j hj;simpa using h j hj
 rw[this];rfl
def tF(ns:List Nd)(k:Key)(n:Nat):List Int:=(List.range (n+1)).map fun j=>((chain ns k j:Nat):Int)
theorem X3(ns:List Nd)(k:Key)(n:Nat):tF ns k (n+1)=tF ns k n++[((chain ns k (n+1):Nat):Int)]:=by simp[tF,aoV]
theorem Bm(ns:List Nd)(k:Key)(n:Nat):(tF ns k n).length=n+1:=by simp[tF]
theorem OX{ns:List Nd}{k:Key}{n i:Nat}(h:i<=n):(tF ns k n)[i]? =some ((chain ns k i:Nat):Int):=by
 simp[tF,show i<n+1 by omega]
def qC(bits:Int)(ns:List Nd)(k:Key):Bool:=(jM bits ns).isSome&&decide (bA k bits=k)
def kX(bits:Int)(ns:List Nd)(k:Key):List Int:=if qC bits ns k=true then tF ns k (Bj ns k (bits/4).toNat)else[]
def nt(ns:List Nd)(k:Key):Nat->fx
 |0=>fx.no
 |n+1=>let s:=(ns.getD (chain ns k n) Nd.zero).sl (fG k n)
  if(nt ns k n).len<s.len then s else nt ns k n
theorem OY{bits:Int}{ns:List Nd}{k:Key}(h:(jM bits ns).isSome=true): ∀n,0<=(nt ns k n).len/\(nt ns k n).len<=129
 |0=>by simp[nt,fx.no]
 |n+1=>by
  obtain⟨h1,_,h3,_⟩:=Ei h;have ih:=OY (k:=k) h n;have hl:=Ej (k:=k) h1 (by omega) n;obtain⟨nd,hn⟩: ∃nd,ns[chain ns k n]? =some nd:=⟨ns[chain ns k n],by simp[hl]⟩;have:=X0 h hn (s9 k n);simp only[nt,getD_some hn];split<;>omega
theorem OZ{bits:Int}{ns:List Nd}{k:Key}:(kX bits ns k).length=0↔qC bits ns k=false:=by
 unfold kX;split
 ·
  rename_i h;simp[Bm,h]
 rename_i h;simpa using h
theorem X4{bits:Int}{ns:List Nd}{k:Key}{i:Nat}(h:i<(kX bits ns k).length):(kX bits ns k)[i]? =some ((chain ns k i:Nat):Int):=by
 unfold kX at h⊢;split at h
 ·
  rename_i hk;rw[if_pos hk];rw[Bm]at h;exact OX (by omega)
 simp at h
def xn(bits:Int)(ns:List Nd)(k:Key):fx:=nt ns k (kX bits ns k).length
def pQ(bits:Int)(ns:List Nd)(k:Key):Int:=if qC bits ns k=true then(if(xn bits ns k).len=0 then 6 else 0)else 1
def xo(bits:Int)(ns:List Nd)(k:Key):Int:=if pQ bits ns k=0 then(xn bits ns k).len -1 else 0
def xp(bits:Int)(ns:List Nd)(k:Key):UInt16:=if pQ bits ns k=0 then(xn bits ns k).hop else 0
section
variable {bits:Int} {W:List Wy} {R:List Rt}
end
section
variable {bits:Int} {t:List Rt}
end
def j8(p:Nat->Bool):Nat->Nat->Nat->Nat
 |0,i,_=>i
 |f+1,i,j=>if i<j then(if p ((i+j)/2)=true then j8 p f i ((i+j)/2)else j8 p f ((i+j)/2+1) j)else i
def bs(p:Nat->Bool)(n:Nat):Nat:=j8 p (n+1) 0 n
theorem Ek(p:Nat->Bool): ∀(f g i j:Nat),j -i<f->j -i<g->j8 p f i j=j8 p g i j
 |0,_,_,_,h,_=>by omega
 |_+1,0,_,_,_,h=>by omega
 |f+1,g+1,i,j,h1,h2=>by
  rw[j8,j8];split
  ·
   split
   ·
    exact Ek p f g _ _ (by omega) (by omega)
   exact Ek p f g _ _ (by omega) (by omega)
  rfl
theorem O0{p:Nat->Bool}{f i j:Nat}(h:i<j)(hf:j -i<f):j8 p f i j=if p ((i+j)/2)=true then j8 p f i ((i+j)/2)else j8 p f ((i+j)/2+1) j:=by
 match f,hf with
 |f+1,hf=>
  rw[j8,if_pos h];split
  ·
   exact Ek p f (f+1) _ _ (by omega) (by omega)
  exact Ek p f (f+1) _ _ (by omega) (by omega)
theorem X5{p:Nat->Bool}{f i j:Nat}(h: ¬i<j)(hf:0<f):j8 p f i j=i:=by
 match f,hf with
 |f+1,_=>rw[j8,if_neg h]
theorem Ik{p:Nat->Bool}{n:Nat}(hm: ∀a b,a<=b->b<n->p a=true->p b=true): ∀(f i j:Nat),j -i<f->i<=j->j<=n->(∀a,a<i->p a=false)->(∀a,j<=a->a<n->p a=true)->
  j8 p f i j<=n/\(∀a,a<j8 p f i j->p a=false)/\ ∀a,j8 p f i j<=a->a<n->p a=true
 |0,_,_,h,_,_,_,_=>by omega
 |f+1,i,j,h,lN,uw,h1,h2=>by
  rw[j8];split
  ·
   rename_i aZ;split
   ·
    rename_i hp;exact Ik hm f _ _ (by omega) (by omega) (by omega) h1 fun a ha X6=>hm _ a ha X6 hp
   ·
    rename_i hp;refine Ik hm f _ _ (by omega) (by omega) uw (fun a ha=>?_) h2
    cases qD:p a with
    |false=>rfl
    |true=>exact absurd (hm a ((i+j)/2) (by omega) (by omega) qD) hp
  ·
   obtain rfl:i=j:=by omega
   exact⟨uw,h1,h2⟩
theorem O1{p:Nat->Bool}{n:Nat}(hm: ∀a b,a<=b->b<n->p a=true->p b=true):bs p n<=n/\(∀a,a<bs p n->p a=false)/\ ∀a,bs p n<=a->a<n->p a=true:=
 Ik hm (n+1) 0 n (by omega) (anH _) (anm _) (fun a ha=>by omega) (fun a h1 h2=>by omega)
def behind(t:List Rt)(q:aJ)(j:Nat):Bool:=match t[j]?with
 |some r=> !dr r.p q
 |none=>true
def cf(t:List Rt)(q:aJ):Nat:=bs (behind t q) t.length
def iL(t:List Rt)(q:aJ):Bool:=match t[cf t q]?with
 |some r=>decide (r.p=q)
 |none=>false
theorem Il{p:Nat->Bool}: ∀(f i j:Nat),i<=j->j8 p f i j<=j
 |0,_,_,h=>h
 |f+1,i,j,h=>by
  rw[j8];split
  ·
   split
   ·
    exact Nat.le_trans (Il f _ _ (by omega)) (by omega)
   exact Il f _ _ (by omega)
  exact h
theorem Im(t:List Rt)(q:aJ):cf t q<=t.length:=Il _ _ _ (anH _)
theorem X7(t:List Rt)(q:aJ):iL t q=(decide (((cf t q:Nat):Int)<(t.length:Int))&&decide ((t.getD (cf t q) c8).p=q)):=by
 rcases anl (cf t q) t.length with h|h
 ·
  have e:t[cf t q]? =some t[cf t q]:=by simp[h]
  rw[iL,e,anU,e];simp[h]
 rw[iL,ans h,decide_eq_false (by omega)];rfl
def qE(t:List Rt)(k:Key)(bits:Int)(n:Nat):Option Rt:=if iL t ⟨bits,n,bA k n⟩=true then t[cf t ⟨bits,n,bA k n⟩]?else none
def mj(t:List Rt)(k:Key)(bits:Int):Nat->Option Rt
 |0=>qE t k bits 0
 |n+1=>match qE t k bits (n+1)with
  |some r=>some r
  |none=>mj t k bits n
def qF(t:List Rt)(k:Key)(bits:Int):Bool:=bM t&&bg ⟨bits,bits,k⟩
def ie(t:List Rt)(k:Key)(bits:Int):Rt:=if qF t k bits=true then(mj t k bits bits.toNat).getD c8 else c8
def jN(t:List Rt)(k:Key)(bits:Int):Int:=if qF t k bits=true then(if(mj t k bits bits.toNat).isSome=true then 0 else 6)else 1
theorem El{t:List Rt}(h:bM t=true): ∀(i j:Nat) (a b:Rt),i<j->t[i]? =some a->t[j]? =some b->dr a.p b.p=true:=by
 intro i j
 induction j with
 |zero=>intro a b lN;omega
 |succ j ih=>
  intro a b lN ha hb;have gO:=(ad2.1 hb).1;obtain⟨c,hc⟩: ∃c,t[j]? =some c:=⟨t[j],by simp[show j<t.length by omega]⟩;have nu:dr c.p b.p=true:=by
   cases hx:dr c.p b.p with
   |true=>rfl
   |false=>
    have:=C6 gO (by rw[GH hb hc,hx];simp);rw[this]at h;cases h
  rcases anl i j with h1|h1
  ·
   have X8:=ih a c h1 ha hc;have m1:=rD h (alM ha);have m2:=rD h (alM hb);have m3:=rD h (alM hc);rw[mO m1 m3]at X8;rw[mO m3 m2]at nu;rw[mO m1 m2];omega
  obtain rfl:i=j:=by omega
  obtain rfl:=ani (ha.symm.trans hc);exact nu
theorem nv{p:aJ}(h:bg p=true):dr p p=false:=by
 cases hx:dr p p with
 |false=>rfl
 |true=>rw[mO h h]at hx;omega
theorem O2{t:List Rt}(h:bM t=true){q:aJ}(hq:bg q=true)(a b:Nat)(sD:a<=b)(hb:b<t.length)(ha:behind t q a=true):behind t q b=true:=by
 obtain⟨x,hx⟩: ∃x,t[a]? =some x:=⟨t[a],by simp[show a<t.length by omega]⟩;obtain⟨y,hy⟩: ∃y,t[b]? =some y:=⟨t[b],by simp[hb]⟩;simp only[behind,hx,hy,aov]at ha⊢;rcases anl a b with h1|h1
 ·
  have hl:=El h a b x y h1 hx hy;have m1:=rD h (alM hx);have m2:=rD h (alM hy)
  cases hz:dr y.p q with
  |false=>rfl
  |true=>
   rw[mO m1 m2]at hl;rw[mO m2 hq]at hz;have:dr x.p q=true:=by rw[mO m1 hq];omega
   rw[this]at ha;cases ha
 obtain rfl:a=b:=by omega
 obtain rfl:=ani (hx.symm.trans hy);exact ha
theorem Bn{t:List Rt}(h:bM t=true){q:aJ}(hq:bg q=true){r:Rt}(hr:r∈t)(e:r.p=q):t[cf t q]? =some r/\iL t q=true:=by
 obtain⟨h1,h2,h3⟩:=O1 (p:=behind t q) (n:=t.length) fun a b=>O2 h hq a b;obtain⟨i,hi⟩:=aot.1 hr;have dP:=(ad2.1 hi).1;have e1:cf t q=i:=by
  have O3:behind t q i=true:=by simp only[behind,hi,e,nv hq];rfl
  rcases apb (cf t q) i with h4|h4|h4
  ·
   obtain⟨x,hx⟩: ∃x,t[cf t q]? =some x:=⟨t[cf t q],by simp[show cf t q<t.length by omega]⟩;have h5:=h3 (cf t q) (anm _) (by omega);have h6:=El h _ _ x r h4 hx hi;simp only[behind,hx]at h5;rw[e]at h6;rw[h6]at h5;cases h5
  ·
   exact h4
  have:=h2 i h4;rw[this]at O3;cases O3
 rw[iL,e1,hi];exact⟨rfl,by simp[e]⟩
theorem tG{t:List Rt}{q:aJ}(h:iL t q=true): ∃r∈t,t[cf t q]? =some r/\r.p=q:=by
 rw[iL]at h
 cases e:t[cf t q]?with
 |none=>rw[e]at h;cases h
 |some r=>rw[e]at h;exact⟨r,alM e,rfl,by simpa using h⟩
section
variable {t:List Rt} {k:Key} {bits:Int}
theorem O4(hb:bits=32\/bits=128){n:Nat}(hn:(n:Int)<=bits):bg ⟨bits,n,bA k n⟩=true:=
 (dW _).2 ⟨hb,by simp,hn,by simp only;rw[C0];congr 1;omega⟩
theorem Bp(h:bM t=true)(hb:bits=32\/bits=128){n:Nat}(hn:(n:Int)<=bits){r:Rt}:qE t k bits n=some r↔r∈t/\r.p=⟨bits,n,bA k n⟩:=by
 constructor
 ·
  intro e;unfold qE at e;split at e
  ·
   rename_i hp;obtain⟨r',h1,h2,h3⟩:=tG hp;rw[h2]at e;obtain rfl:=ani e;exact⟨h1,h3⟩
  cases e
 rintro⟨h1,h2⟩;obtain⟨h3,h4⟩:=Bn h (O4 hb hn) h1 h2;rw[qE,if_pos h4,h3]
theorem O5(h:bM t=true)(hb:bits=32\/bits=128): ∀{n:Nat} {r:Rt},(n:Int)<=bits->mj t k bits n=some r->r∈t/\(∃m:Nat,m<=n/\r.p=⟨bits,m,bA k m⟩)/\ ∀q∈t,∀m:Nat,m<=n->q.p=⟨bits,m,bA k m⟩->q.p.len<=r.p.len
 |0,r,hn,e=>by
  obtain⟨h1,h2⟩:=(Bp h hb hn).1 e;exact⟨h1,⟨0,anm _,h2⟩,fun q _ m hm hq=>by rw[hq,h2];simp;omega⟩
 |n+1,r,hn,e=>by
  rw[mj]at e
  cases hx:qE t k bits (n+1)with
  |some r'=>
   rw[hx]at e;obtain rfl:=ani e;obtain⟨h1,h2⟩:=(Bp h hb hn).1 hx;exact⟨h1,⟨n+1,anm _,h2⟩,fun q _ m hm hq=>by rw[hq,h2];simp;omega⟩
  |none=>
   rw[hx]at e;obtain⟨h1,⟨m,hm,h2⟩,h3⟩:=O5 h hb (by omega) e;refine⟨h1,⟨m,by omega,h2⟩,fun q hq m' MT e'=>?_⟩;rcases anl n m' with h4|h4
   ·
    obtain rfl:m'=n+1:=by omega
    rw[(Bp h hb hn).2 ⟨hq,e'⟩]at hx;cases hx
   exact h3 q hq m' h4 e'
theorem O6(h:bM t=true)(hb:bits=32\/bits=128): ∀{n:Nat},(n:Int)<=bits->mj t k bits n=none-> ∀q∈t,∀m:Nat,m<=n->q.p≠⟨bits,m,bA k m⟩
 |0,hn,e=>fun q hq m hm e'=>by
  obtain rfl:m=0:=by omega
  rw[mj,(Bp h hb hn).2 ⟨hq,e'⟩]at e;cases e
 |n+1,hn,e=>fun q hq m hm e'=>by
  rw[mj]at e
  cases hx:qE t k bits (n+1)with
  |some r'=>rw[hx]at e;cases e
  |none=>
   rw[hx]at e;rcases anl n m with h4|h4
   ·
    obtain rfl:m=n+1:=by omega
    rw[(Bp h hb hn).2 ⟨hq,e'⟩]at hx;cases hx
   exact O6 h hb (by omega) e q hq m h4 e'
theorem O7{r:Rt}(DD:r.p.bits=bits)(hf:lu r.p k=true): ∃m:Nat,(m:Int)<=bits/\r.p=⟨bits,m,bA k m⟩:=by
 obtain⟨h1,_,h3⟩:=(kv _ _).1 hf;obtain⟨_,h4,h5,_⟩:=(dW _).1 h1;refine⟨r.p.len.toNat,by omega,?_⟩;obtain⟨⟨b,l,q⟩,hop⟩:=r;simp only at*;have:((l.toNat:Nat):Int)=l:=by omega
 rw[this,h3,DD]
theorem X9(hb:bits=32\/bits=128)(hk:bA k bits=k){r:Rt}{m:Nat}(hm:(m:Int)<=bits)(e:r.p=⟨bits,m,bA k m⟩):r.p.bits=bits/\lu r.p k=true:=by
 refine⟨by rw[e],(kv _ _).2 ⟨by rw[e];exact O4 hb hm,by rw[e];exact hk,by rw[e]⟩⟩
end
structure Ord(t:List Rt):Prop where
 may: ∀r∈t,bg r.p=true
 less:t.Pairwise fun a b=>dr a.p b.p=true
theorem ju{t:List Rt}(h:bM t=true):Ord t:=⟨fun _ hr=>rD h hr,by
 rw[aod];intro i j hi hj lN;exact El h i j _ _ lN (by simp[hi]) (by simp[hj])⟩
theorem O8{t:List Rt}(h:Ord t)(hl:t.length<=256):bM t=true:=by
 refine Lt hl ?_;have key: ∀n,n<=t.length->rr t n=true:=by
  intro n
  induction n with
  |zero=>intro _;rfl
  |succ n ih=>
   intro hn;rw[Ls,ih (by omega),aos];have hi:t[n]? =some t[n]:=by simp[show n<t.length by omega]
   have hm:=h.may _ (alM hi)
   cases n with
   |zero=>rw[Lv hi,hm]
   |succ m=>
    have hq:t[m]? =some t[m]:=by simp[show m<t.length by omega]
    rw[GH hi hq,hm,aos];exact(aod.1 h.less) m (m+1) (by omega) (by omega) (by omega)
 exact key _ (anm _)
theorem Ord.sub{s t:List Rt}(h:Ord t)(hs:s.Sublist t):Ord s:=⟨fun r hr=>h.may r (hs.subset hr),h.less.sublist hs⟩
theorem Ord.uniq{t:List Rt}(h:Ord t){a b:Rt}(ha:a∈t)(hb:b∈t)(e:a.p=b.p):a=b:=by
 obtain⟨i,hi,rfl⟩:=aoc ha;obtain⟨j,hj,rfl⟩:=aoc hb;have hp:=aod.1 h.less;have hm:=h.may _ hb;rcases apb i j with h1|h1|h1
 ·
  have:=hp i j hi hj h1;rw[e,nv hm]at this;cases this
 ·
  subst h1;rfl
 have:=hp j i hj hi h1;rw[e,nv hm]at this;cases this
theorem Ord.nodup{t:List Rt}(h:Ord t):t.Nodup:=h.less.imp_of_mem fun{a b} ha _ sD e=>by
 subst e;rw[nv (h.may _ ha)]at sD;cases sD
def r9(r:Rt)(p:aJ):Bool:=decide (r.p≠p)&&iX r.p p
theorem Io{r:Rt}{p:aJ}:r9 r p=true↔r.p≠p/\iX r.p p=true:=by simp[r9]
def jO(t:List Rt)(p:aJ):Option Rt:=t.reverse.find? fun r=>r9 r p
theorem O9{t:List Rt}{p:aJ}:jO t p=none↔ ∀r∈t,r9 r p=false:=by
 rw[jO,aph];simp
def gK(k:Key)(bits:Int)(r:Rt):Bool:=decide (r.p.bits=bits)&&lu r.p k
def Pa(t:List Rt)(k:Key)(bits:Int):List Rt:=t.filter (gK k bits)
def xq(t:List Rt)(r:Rt):Bool:=match jO t r.p with
 |none=>true
 |some o=> !decide (o.hop=r.hop)
def Pb(t:List Rt):List Rt:=t.filter (xq t)
def vu(t:List Rt)(r:Rt):Bool:=(jO t r.p).isNone
def Ip(t:List Rt):List Rt:=t.filter (vu t)
theorem Ya{us bs:List Rt}{r:Rt}{p:aJ}(hc:r9 r p=true)(h: ∀b∈bs,r9 b p=false):jO (us++r::bs) p=some r:=by
 rw[jO,List.find?_eq_some_iff_append];exact⟨hc,bs.reverse,us.reverse,by simp,fun b hb=>by rw[h b (by simpa using hb)];rfl⟩
theorem Yb{t:List Rt}{p:aJ}{k:Nat}(hk:k<t.length)(h: ∀j,j<k->r9 (t.getD (t.length -1 -j) c8) p=false)(hc:r9 (t.getD (t.length -1 -k) c8) p=true):jO t p=some (t.getD (t.length -1 -k) c8):=by
 have hi:t.length -1 -k<t.length:=by omega
 have e:t=t.take (t.length -1 -k)++t.getD (t.length -1 -k) c8::t.drop (t.length -1 -k+1):=by
  have:t.getD (t.length -1 -k) c8=t[t.length -1 -k]:=by simp[List.getD,hi]
  rw[this,apW,anO]
 have:=Ya (us:=t.take (t.length -1 -k)) (bs:=t.drop (t.length -1 -k+1)) hc fun b hb=>by
  obtain⟨j,hj,rfl⟩:=aoc hb;rw[ant]at hj;have:=h (t.length -1 -(t.length -1 -k+1+j)) (by omega);rw[show t.length -1 -(t.length -1 -(t.length -1 -k+1+j))=t.length -1 -k+1+j by omega]at this;rw[List.getElem_drop];simpa[List.getD,show t.length -1 -k+1+j<t.length by omega]using this
 rw[←e]at this;exact this
theorem Yc{t:List Rt}{p:aJ}(h: ∀j,j<t.length->r9 (t.getD (t.length -1 -j) c8) p=false):jO t p=none:=O9.2 fun r hr=>by
 obtain⟨j,hj,rfl⟩:=aoc hr;have:=h (t.length -1 -j) (by omega);rw[show t.length -1 -(t.length -1 -j)=j by omega]at this;simpa[List.getD,hj]using this
theorem zj{α:Type}{f:α->Bool}{t:List α}{i:Nat}{r:α}(hr:t[i]? =some r):(t.take (i+1)).filter f=(t.take i).filter f++if f r=true then[r]else[]:=by
 rw[anq,hr,aoA];congr 1;simp only[apy,aoj,apz]
def Iq(t:List Rt)(k:Key)(bits:Int):List Rt:=if jN t k bits=1 then[]else Pa t k bits
def Ir(t:List Rt):List Rt:=if bM t=true then Pb t else t
def zk(t:List Rt):List Rt:=if bM t=true then Ip t else[]
def vw(t:List Rt)(p:aJ):Bool:=bM t&&bg p
def xr(t:List Rt)(p:aJ):Option Rt:=if iL t p=true then t[cf t p]?else none
def xt(t:List Rt)(p:aJ):UInt16:=if vw t p=true then((xr t p).getD c8).hop else 0
def tH(t:List Rt)(p:aJ):Int:=if vw t p=true then(if(xr t p).isSome=true then 0 else 6)else 1
theorem Yd{t:List Rt}(h:bM t=true){r:Rt}(hr:r∈t):xr t r.p=some r:=by
 obtain⟨h1,h2⟩:=Bn h (rD h hr) hr rfl;rw[xr,if_pos h2,h1]
theorem Pc{t:List Rt}(h:bM t=true){r:Rt}(hr:r∈t):tH t r.p=0/\xt t r.p=r.hop:=by
 have bu:vw t r.p=true:=by rw[vw,h,rD h hr];rfl
 rw[tH,xt,if_pos bu,if_pos bu,Yd h hr];exact⟨rfl,rfl⟩
theorem Ye{t:List Rt}(h:bM t=true){p:aJ}(he:tH t p=0): ∃r∈t,r.p=p/\xt t p=r.hop:=by
 unfold tH at he;split at he
 ·
  rename_i bu;split at he
  ·
   rename_i hs;obtain⟨r,hr⟩:=an4.1 hs;unfold xr at hr;split at hr
   ·
    rename_i hp;obtain⟨q,h1,h2,h3⟩:=tG hp;rw[h2]at hr;cases hr;exact⟨r,h1,h3,by rw[xt,if_pos bu,xr,if_pos hp,h2];rfl⟩
   cases hr
  cases he
 cases he
structure Ch where
 r:Rt
 gone:Bool
 deriving DecidableEq
def Pd:Ch:=⟨c8,false⟩
def gk(x:Ch):Array Value:=ao x.r++ #[.bool x.gone]
theorem Pe(x:Ch):(gk x).size=20:=by unfold gk;rw[apF,jU];rfl
theorem Pf(x:Ch)(j:Nat)(h:j<19):(gk x)[j]? =(ao x.r)[j]? :=by
 unfold gk;rw[ape (by rw[jU];exact h)]
theorem Yf(x:Ch):(gk x)[19]? =some (.bool x.gone):=by
 unfold gk;rw[Array.getElem?_append_right (by rw[jU];omega),jU];rfl
def dH(t:List Rt)(c:Ch):Int:=if bg c.r.p=true then(if iL t c.r.p=true then 0 else if c.gone=true then 6 else if 256<=t.length then 5 else 0)else 1
def fO(t:List Rt)(c:Ch):List Rt:=
 if dH t c=0 then(if c.gone=true then t.take (cf t c.r.p)++t.drop (cf t c.r.p+1)else if iL t c.r.p=true then t.set (cf t c.r.p) c.r else t.take (cf t c.r.p)++c.r::t.drop (cf t c.r.p))else t
theorem Pg{t:List Rt}(h:t.length<=256)(c:Ch):(fO t c).length<=256:=by
 unfold fO;split
 ·
  rename_i he;split
  ·
   simp only[af0,anj,ant];omega
  split
  ·
   simpa using h
  rename_i h1 h2;have:t.length<256:=by
   apply aob;intro hn;unfold dH at he;rw[if_neg h2,if_neg h1,if_pos (show 256<=t.length by omega)]at he;split at he<;>omega
  have hp:=Im t c.r.p;simp only[af0,anj,ang,ant];omega
 exact h
def jc:List Rt->List Ch->List Rt×Int
 |t,[]=>(t,0)
 |t,c::l=>if dH t c=0 then jc (fO t c) l else(t,dH t c)
theorem Ph{t:List Rt}{l:List Ch}{i:Nat}{c:Ch}(hc:l[i]? =some c):jc t (l.drop i)=if dH t c=0 then jc (fO t c) (l.drop (i+1))else(t,dH t c):=by
 obtain⟨hi,rfl⟩:=ad2.1 hc;rw[ao2 hi,jc]
def eC(t:List Rt)(l:List Ch):Int:=if bM t=true then(jc t l).2 else 1
def cT(t:List Rt)(l:List Ch):List Rt:=if eC t l=0 then(jc t l).1 else t
end Go.Kb
namespace Go.au
def tI:Nat->Value->Value->Prop
 |0, .int k _, .int k' _=>k=k'
 |1, .bool _, .bool _=>True
 |2, .string _, .string _=>True
 |_,_,_=>False
def oX:Value->Bool
 | .agg _=>true
 |_=>false
def zl(P:Program)(d:Nat)(t:TypeId)(jd:Bool)(ks:List Nat):Prop:=
 ∀(w:World) (x y:Value),oX x=jd->oX y=jd->x.cells.size=ks.length->y.cells.size=ks.length->
  (∀(i k:Nat),ks[i]? =some k-> ∃u v,x.cells[i]? =some u/\y.cells[i]? =some v/\tI k u v)->
  ∃r:Bool,(Op.equalIn d t x y).run P w= .ok r w/\(r=true↔ ∀i,i<ks.length->x.cells[i]? =y.cells[i]?)
section
variable {P:Program} {d:Nat} {t:TypeId}
theorem cells_one{x:Value}(h:oX x=false):x.cells= #[x]:=by
 cases x<;>simp_all[oX,Value.cells]
theorem Is{q:IntKind}(hu:P.underlying t=some (.int q)):zl P (d+1) t false [0]:=fun w x y hx hy _ _ hk=>by
 obtain⟨u,v,h1,h2,h3⟩:=hk 0 0 rfl;rw[cells_one hx]at h1⊢;rw[cells_one hy]at h2⊢;simp at h1 h2;subst h1 h2
 cases x<;>cases y<;>simp only[tI]at h3
 subst h3;exact⟨_,run_equalIn_int w d t _ q _ _ hu,by simp⟩
theorem Pj{e:TypeId}{jd:Bool}{n:Nat}(hA: ∃de,P.underlying e=some de/\ux de=jd)(hn:(P.info? e).map (·.size)=some n)(h1:jd=false->n=1)
  {xs:Array Value} {off:Nat} (aZ:off+n<=xs.size) (hp: ∀i u,off<=i->i<off+n->xs[i]? =some u->oX u=false) (w:World):
  ∃a,(part e xs off).run P w= .ok a w/\oX a=jd/\a.cells.size=n/\ ∀i,i<n->a.cells[i]? =xs[off+i]? :=by
 obtain⟨de,hu,hr⟩:=hA
 cases jd with
 |true=>
  refine⟨.agg (xs.extract off (off+n)),?_,rfl,by simp[Value.cells];omega,fun i hi=>?_⟩
  ·
   simp only[part,Sem.run_bind,CA w hu,hr,Result.andThen_ok,if_true,ki w hn,Sem.run_pure]
  ·
   simp[Value.cells,Array.getElem?_extract];intro h;omega
 |false=>
  have:=h1 rfl;subst this;have hx:xs[off]? =some xs[off]:=by simp[show off<xs.size by omega]
  have Iu:=hp off _ (anm _) (by omega) hx;refine⟨xs[off],?_,Iu,by rw[cells_one Iu];rfl,fun i hi=>?_⟩
  ·
   simp only[part,Sem.run_bind,CA w hu,hr,Result.andThen_ok,hx,aon,if_false,Sem.run_pure]
  ·
   obtain rfl:i=0:=by omega
   rw[cells_one Iu,an3,hx];rfl
theorem Pk{k:Nat}{u v:Value}(h:tI k u v):oX u=false/\oX v=false:=by
 unfold tI at h;split at h<;>simp_all[oX]
structure sa(P:Program)(d:Nat)(e:TypeId)(jd:Bool)(ks:List Nat):Prop where
 row: ∃de,P.underlying e=some de/\ux de=jd
 size:(P.info? e).map (·.size)=some ks.length
 one:jd=false->ks.length=1
 eq:zl P d e jd ks
theorem Pl{e:TypeId}{jd:Bool}{ks:List Nat}(he:sa P d e jd ks){xs ys:Array Value}{off:Nat}(hx:off+ks.length<=xs.size)(hy:off+ks.length<=ys.size)
  (hk: ∀(i k:Nat),ks[i]? =some k-> ∃u v,xs[off+i]? =some u/\ys[off+i]? =some v/\tI k u v) (w:World):
  ∃a b r,(part e xs off).run P w= .ok a w/\(part e ys off).run P w= .ok b w/\(Op.equalIn d e a b).run P w= .ok r w/\(r=true↔ ∀i,i<ks.length->xs[off+i]? =ys[off+i]?):=by
 have plain: ∀i,off<=i->i<off+ks.length-> ∃u v k,xs[i]? =some u/\ys[i]? =some v/\tI k u v:=fun i h1 h2=>by
  obtain⟨u,v,h3,h4,h5⟩:=hk (i -off) _ (anC (by omega));rw[show off+(i -off)=i by omega]at h3 h4;exact⟨u,v,_,h3,h4,h5⟩
 obtain⟨a,a1,a2,a3,a4⟩:=Pj he.row he.size he.one hx (fun i u h1 h2 h3=>by
  obtain⟨u',v,k,h4,h5,h6⟩:=plain i h1 h2;rw[h4]at h3;cases h3;exact(Pk h6).1) w
 obtain⟨b,b1,b2,b3,b4⟩:=Pj he.row he.size he.one hy (fun i u h1 h2 h3=>by
  obtain⟨u',v,k,h4,h5,h6⟩:=plain i h1 h2;rw[h5]at h3;cases h3;exact(Pk h6).2) w
 obtain⟨r,r1,r2⟩:=he.eq w a b a2 b2 a3 b3 (fun i k nN=>by
  obtain⟨u,v,h1,h2,h3⟩:=hk i k nN;have hi:i<ks.length:=(ad2.1 nN).1;exact⟨u,v,by rw[a4 i hi];exact h1,by rw[b4 i hi];exact h2,h3⟩)
 refine⟨a,b,r,a1,b1,r1,r2.trans ⟨fun h i hi=>?_,fun h i hi=>?_⟩⟩
 ·
  rw[←a4 i hi,←b4 i hi];exact h i hi
 ·
  rw[a4 i hi,b4 i hi];exact h i hi
theorem Pm{e:TypeId}{jd:Bool}{ks:List Nat}(he:sa P d e jd ks){xs ys:Array Value}(w:World): ∀(is:List Nat),
  (∀j∈is,j*ks.length+ks.length<=xs.size/\j*ks.length+ks.length<=ys.size/\ ∀(i k:Nat),ks[i]? =some k-> ∃u v,xs[j*ks.length+i]? =some u/\ys[j*ks.length+i]? =some v/\tI k u v)->
  ∃r:Bool,(Op.eqItems d e ks.length xs ys is).run P w= .ok r w/\(r=true↔ ∀j∈is,∀i,i<ks.length->xs[j*ks.length+i]? =ys[j*ks.length+i]?)
 |[],_=>⟨true,by simp[Op.eqItems],by simp⟩
 |j::is,h=>by
  obtain⟨h1,h2,h3⟩:=h j (by simp);obtain⟨a,b,r,p1,p2,p3,tJ⟩:=Pl he h1 h2 h3 w;obtain⟨r',Iv,Iw⟩:=Pm he w is (fun j' jw=>h j' (by simp[jw]));simp only[Op.eqItems,Sem.run_bind,p1,p2,p3,Result.andThen_ok]
  cases r
  ·
   refine⟨false,by simp,?_⟩;simp only[aon,false_iff];intro e;exact absurd (tJ.2 (e j (by simp))) (by simp)
  ·
   refine⟨r',by simpa using Iv,?_⟩;rw[Iw];have:=tJ.1 rfl;constructor
   ·
    intro e j' jw;rcases ank.1 jw with rfl|jw
    ·
     exact this
    ·
     exact e j' jw
   ·
    intro e j' jw;exact e j' (by simp[jw])
theorem yP{ks:List Nat}: ∀{n j i:Nat},j<n->i<ks.length->(List.replicate n ks).flatten[j*ks.length+i]? =ks[i]?
 |0,j,i,h,_=>by omega
 |n+1,0,i,_,hi=>by
  rw[apN,aow,Nat.zero_mul,anG,ann hi]
 |n+1,j+1,i,h,hi=>by
  rw[apN,aow,anr (by rw[anF];omega),anF,show j*ks.length+1*ks.length+i -ks.length=j*ks.length+i by omega];exact yP (by omega) hi
theorem Yg{e:TypeId}{n:Nat}{jd:Bool}{ks:List Nat}(hu:P.underlying t=some (.array n e))(he:sa P d e jd ks):zl P (d+1) t true (List.replicate n ks).flatten:=fun w x y hx hy sx sy hk=>by
 cases x<;>simp only[oX,aon]at hx
 cases y<;>simp only[oX,aon]at hy
 rename_i xs ys;simp only[Value.cells]at sx sy hk⊢;have hl:(List.replicate n ks).flatten.length=n*ks.length:=by simp
 rw[hl]at sx sy⊢;obtain⟨i,hi⟩: ∃i,P.info? e=some i:=by
  cases h:P.info? e with
  |none=>have:=he.size;simp[h]at this
  |some i=>exact⟨i,rfl⟩
 have hc:P.cellsOf e=ks.length:=by have:=he.size;simp[Program.cellsOf,hi]at this⊢;exact this
 have bound: ∀j,j<n->j*ks.length+ks.length<=n*ks.length:=fun j hj=>by
  rw[←Nat.succ_mul];exact anp _ hj
 obtain⟨r,hr,tJ⟩:=Pm he (xs:=xs) (ys:=ys) w (List.range n) (fun j hj=>by
  have jw:=an5.1 hj;have:=bound j jw;refine⟨by omega,by omega,fun i k nN=>?_⟩;have dP:i<ks.length:=(ad2.1 nN).1;exact hk (j*ks.length+i) k (by rw[yP jw dP];exact nN))
 refine⟨r,by rw[run_equalIn_array w d xs ys hu hi,hc];exact hr,tJ.trans ⟨fun h q hq=>?_,fun h j hj i hi=>?_⟩⟩
 ·
  have HW:0<ks.length:=by
   rcases aor ks.length with h0|h0
   ·
    rw[h0]at hq;omega
   exact h0
  have h1:q/ks.length<n:=apJ (by rw[an0];exact hq);have h2:=h (q/ks.length) (an5.2 h1) (q%ks.length) (aoP _ HW);rw[Nat.div_add_mod']at h2;exact h2
 have:=bound j (an5.1 hj);exact h _ (by omega)
def Em(P:Program)(d:Nat):Nat->List Field->List Nat->Prop
 |_,[],ks=>ks=[]
 |off,f::fs,ks=>f.name≠ "_" ∧f.offset=off∧ ∃jd k1 k2,ks=k1++k2∧sa P d f.type jd k1∧Em P d (off+k1.length) fs k2
theorem Pn{xs ys:Array Value}(w:World): ∀(fs:List Field) (off:Nat) (ks:List Nat),Em P d off fs ks->off+ks.length<=xs.size->off+ks.length<=ys.size->
  (∀(i k:Nat),ks[i]? =some k-> ∃u v,xs[off+i]? =some u/\ys[off+i]? =some v/\tI k u v)->
  ∃r:Bool,(Op.eqFields d xs ys fs).run P w= .ok r w/\(r=true↔ ∀i,i<ks.length->xs[off+i]? =ys[off+i]?)
 |[],off,ks,h,_,_,_=>by
  simp only[Em]at h;subst h;exact⟨true,by simp[Op.eqFields],by simp⟩
 |f::fs,off,ks,h,hx,hy,hk=>by
  obtain⟨hn,ho,jd,k1,k2,rfl,hp,Dg⟩:=h;simp only[af0]at hx hy;obtain⟨a,b,r,p1,p2,p3,tJ⟩:=Pl hp (xs:=xs) (ys:=ys) (off:=off) (by omega) (by omega) (fun i k nN=>by
   have hi:i<k1.length:=(ad2.1 nN).1;exact hk i k (by rw[ann hi];exact nN)) w
  obtain⟨r',Iv,Iw⟩:=Pn (xs:=xs) (ys:=ys) w fs (off+k1.length) k2 Dg (by omega) (by omega) (fun i k nN=>by
   have:=hk (k1.length+i) k (by rw[anr (by omega)];simpa using nN);rw[aoD];exact this)
  subst ho;simp only[Op.eqFields,hn,ne_eq,not_false_eq_true,if_true,Sem.run_bind,p1,p2,p3,Result.andThen_ok]
  cases r
  ·
   refine⟨false,by simp,?_⟩;simp only[aon,false_iff];intro e;exact absurd (tJ.2 fun i hi=>e i (by simp;omega)) (by simp)
  ·
   refine⟨r',by simpa using Iv,?_⟩;rw[Iw];have:=tJ.1 rfl;simp only[af0];constructor
   ·
    intro e i hi
    by_cases h1:i<k1.length
    ·
     exact this i h1
    ·
     have:=e (i -k1.length) (by omega);rw[show f.offset+k1.length+(i -k1.length)=f.offset+i by omega]at this;exact this
   ·
    intro e i hi;have:=e (k1.length+i) (by omega);rw[aoD];exact this
theorem Po{fs:Array Field}{ks:List Nat}(hu:P.underlying t=some (.struct fs))(hp:P.stoodInHeld t=false)(hf:Em P d 0 fs.toList ks):zl P (d+1) t true ks:=fun w x y hx hy sx sy hk=>by
 cases x<;>simp only[oX,aon]at hx
 cases y<;>simp only[oX,aon]at hy
 rename_i xs ys;simp only[Value.cells]at sx sy hk⊢;have oY:P.fieldsOf t=fs:=by simp[Program.fieldsOf,hu]
 obtain⟨r,hr,tJ⟩:=Pn (xs:=xs) (ys:=ys) w fs.toList 0 ks hf (by omega) (by omega) (fun i k nN=>by
  have:=hk i k nN;simpa using this)
 refine⟨r,?_,by simpa using tJ⟩;rw[run_equalIn_struct w d t xs ys (by rw[oY];exact hu) hp,oY];exact hr
theorem zl.val{jd:Bool}{ks:List Nat}(h:zl P 10000 t jd ks)(hA:jd=true)(hg:P.eqGuardType P.depth t=false){xs ys:Array Value}{r:Bool}(sx:xs.size=ks.length)(sy:ys.size=ks.length)
  (hk: ∀(i k:Nat),ks[i]? =some k-> ∃u v,xs[i]? =some u/\ys[i]? =some v/\tI k u v) (hr:xs=ys↔r=true):xY P t (.agg xs) (.agg ys) r where
 h w:=by
  subst hA;obtain⟨q,h1,h2⟩:=h w (.agg xs) (.agg ys) rfl rfl sx sy hk;have:q=r:=by
   rw[apk,h2,←hr];simp only[Value.cells];constructor
   ·
    intro e;apply aoG;intro i
    by_cases hi:i<ks.length
    ·
     exact e i hi
    ·
     simp[show ¬i<xs.size by omega,show ¬i<ys.size by omega]
   ·
    rintro rfl i _;rfl
  rw[h1,this]
 plain:=hg
 agg:=⟨xs,ys,rfl,rfl⟩
end
end Go.au
namespace Go.Proofs.YtkggjjnhnjjokaaGreatDoor
open Go.au Go.Kb
instance (k:Key):eZ (aY k) 16:=⟨fg k,by
 rw[anS];intro v hv;simp only[aY,List.mem_toArray,aoC]at hv;obtain⟨i,_,rfl⟩:=hv;rfl⟩
instance (p:aJ):eZ (aT p) 18:=⟨ku p,by
 have h:(aY p.key).all (·.oneCell')=true:=(inferInstance:eZ (aY p.key) 16).one;rw[aT,Array.all_append,h];simp[Value.oneCell']⟩
instance (p:aJ):bT (aT p) 0 (.int .i64 p.bits):=⟨wF p⟩
instance (p:aJ):bT (aT p) 1 (.int .i64 p.len):=⟨wG p⟩
instance (p:aJ):lQ (aT p) 2 16 (aY p.key):=⟨fg _,fun j _=>pA p j⟩
theorem Yh(d:Nat):sa Tryz.prog (d+1) 5 false [0]:=⟨⟨_,Tryz.underlying5,rfl⟩,by kernel_rfl,fun _=>rfl,Is Tryz.underlying5⟩
theorem Pp(d:Nat):sa Tryz.prog (d+1) 3 false [0]:=⟨⟨_,Tryz.underlying3,rfl⟩,by kernel_rfl,fun _=>rfl,Is Tryz.underlying3⟩
theorem Pq(d:Nat):sa Tryz.prog (d+1+1) 25 true (List.replicate 16 [0]).flatten:=⟨⟨_,Tryz.underlying25,rfl⟩,by kernel_rfl,(fun h=>by cases h),Yg Tryz.underlying25 (Yh d)⟩
theorem Yi:Tryz.prog.stoodInHeld 32=false:=by kernel_rfl
theorem Pr(d:Nat):sa Tryz.prog (d+1+1+1) 32 true ([0]++([0]++((List.replicate 16 [0]).flatten++[]))):=⟨⟨_,Tryz.underlying32,rfl⟩,by kernel_rfl,(fun h=>by cases h),
 Po Tryz.underlying32 Yi ⟨by decide,rfl,_,_,_,rfl,Pp _,by decide,rfl,_,_,_,rfl,Pp _,by decide,rfl,_,_,_,rfl,Pq _,rfl⟩⟩
theorem Yj:Tryz.prog.eqGuardType Tryz.prog.depth 25=false:=by kernel_rfl
theorem Yk:Tryz.prog.eqGuardType Tryz.prog.depth 32=false:=by kernel_rfl
instance (a b:Key):xY Tryz.prog 25 (.agg (aY a)) (.agg (aY b)) (decide (a=b)):=
 (Pq 9998).eq.val rfl Yj (fg a) (fg b) (fun i k hk=>by
  have hi:i<16:=(ad2.1 hk).1;have h0:k=0:=by
   have:k∈(List.replicate 16 [0]).flatten:=alM hk;simpa using this
  subst h0;exact⟨_,_,gU a i hi,gU b i hi,rfl⟩) (by rw[decide_eq_true_iff];exact⟨Le,fun h=>by rw[h]⟩)
instance (a b:aJ):xY Tryz.prog 32 (.agg (aT a)) (.agg (aT b)) (decide (a=b)):=
 (Pr 9997).eq.val rfl Yk (ku a) (ku b) (fun i k hk=>by
  have h0:k=0:=by
   have:k∈([0]++([0]++((List.replicate 16 [0]).flatten++[]))):=alM hk;simpa using this
  subst h0;have hi:i<18:=(ad2.1 hk).1
  match i,hi with
  |0,_=>exact⟨_,_,wF a,wF b,rfl⟩
  |1,_=>exact⟨_,_,wG a,wG b,rfl⟩
  |j+2,hi=>rw[Nat.add_comm j 2];exact⟨_,_,(pA a j).trans (gU _ j (by omega)),(pA b j).trans (gU _ j (by omega)),rfl⟩) (by rw[decide_eq_true_iff];exact⟨Lk,fun h=>by rw[h]⟩)
theorem tK:aY 0#128=(List.replicate 16 (Value.int .u8 0)).toArray:=by
 apply apI;simp only[aY];refine List.eq_replicate_iff.2 ⟨by simp,fun v hv=>?_⟩;simp only[aoC]at hv;obtain⟨i,_,rfl⟩:=hv;simp[aU]
instance (n m:Int)(k:Key):nF Tryz.prog 32 [(0, .int .i64 n),(1, .int .i64 m),(2, .agg (aY k))] (.agg (aT ⟨n,m,k⟩)):=⟨fun w=>by kernel_rfl⟩
instance:dB Tryz.prog 25 (.agg (aY 0#128)):=⟨by rw[tK];kernel_rfl⟩
instance:dB Tryz.prog 32 (.agg (aT ⟨0,0,0#128⟩)):=⟨by unfold aT;rw[tK];kernel_rfl⟩
theorem Ym(s:ByteArray)(hs:(List.range 256).all (fun j=>(s[j]?).map (·.toNat)==some (len8 j))=true)(x:Nat)(hx:x<256):(s[(x:Int).toNat]?).map (·.toNat)=some (len8 x):=by
 have:=anw.1 hs x (an5.2 hx);simpa using this
theorem Yn(n:Int):jj Tryz.prog 126 [.int .i64 n] (.bool (decide (n=32)||decide (n=128))):=⟨fun w=>by
 refine cd Tryz.func126 rfl Tryz.ntmps126 rfl ?_;refine aX ?_;refine bk rfl rfl rfl (fun hg=>(aK rfl).yl) (bk rfl rfl rfl (fun hg=>(cQ (aw hg rfl) rfl rfl).yl) (ak ?_));refine dn (.inl rfl) (fT rfl rfl) (fun w hw=>?_);exact⟨rfl,hw.sub (anz _)⟩⟩
instance ai0(n:Int):jj Tryz.prog 126 [.int .i64 n] (.bool (decide (n=32)||decide (n=128))):=Yn n
theorem Yo(k:Key)(h:Nat)(hh:h<=16):over (aY 0#128) 0 ((aY k).extract 0 h)=aY (bA k ((8*h:Nat):Int)):=by
 refine GF (by simp[over,fg];omega) fun i hi=>?_;have hl:((aY k).extract 0 h).size=h:=by simp[fg];omega
 rw[AB k (8*h) i hi];simp only[over,hl,anP,anR,anG,aol]
 by_cases h1:i<h
 ·
  rw[ann (by simp[fg];omega),if_pos oM];have:=gU k i hi;simpa[h1]using this
 rw[anr (by simp[fg];omega),if_neg oM];have h2:(aY 0#128)[i]? =some (.int .u8 ((0:Nat):Int)):=by rw[gU _ i hi];simp[aU]
 simp only[ao0,hl,aom,show h+(i -h)=i by omega];rw[Array.getElem?_toList,h2]
 by_cases h3:8*i<=8*h
 ·
  rw[if_pos h3,show 8 -(8*h -8*i)=8 by omega,Nat.div_eq_of_lt (fE k i),Nat.zero_mul]
 rw[if_neg h3]
theorem Yp(b r:Nat)(hb:b<256)(hr:r<=8):kh .andNot .u8 b ((255/2^r:Nat):Int)=some (.int .u8 ((b/2^(8 -r)*2^(8 -r):Nat):Int)):=by
 have hm:255/2^r<256:=ao6 (Nat.div_le_self _ _) oM;rw[SC hb hm];have key:b&&&(256 -1 -255/2^r)=b/2^(8 -r)*2^(8 -r):=by
  have e1:255/2^r=2^(8 -r) -1:=by
   match r,hr with
   |0,_|1,_|2,_|3,_|4,_|5,_|6,_|7,_|8,_=>rfl
   |n+9,h=>omega
  rw[e1];apply aoY;intro j;have e2:256 -1 -(2^(8 -r) -1)=2^8 -(2^(8 -r) -1+1):=by omega
  rw[Nat.testBit_and,e2,Nat.testBit_two_pow_sub_succ (by have:2^(8 -r)<=2^8:=an9 (by decide) oM;have:=Nat.two_pow_pos (8 -r);omega),Nat.testBit_two_pow_sub_one,Nat.testBit_mul_two_pow,apa]
  by_cases hj:8 -r<=j
  ·
   simp only[hj,show ¬j<8 -r by omega,decide_true,decide_false,Bool.not_false,Bool.and_true,aos,show j -(8 -r)+(8 -r)=j by omega]
   by_cases h8:j<8
   ·
    simp[h8]
   have:b.testBit j=false:=aoz (anW hb (by have:=an9 (n:=2) (by decide) (show 8<=j by omega);simpa using this));simp[this]
  simp[hj,show j<8 -r by omega]
 show some (Value.int .u8 ((b&&&(256 -1 -255/2^r):Nat):Int))=_;rw[key]
theorem Yq(k:Key)(n:Int)(h0:1<=n)(h1:n<128)(h2:0<n%8):(aY (bA k ((8*(n/8).toNat:Nat):Int))).setIfInBounds (n/8).toNat (.int .u8 ((aU k (n/8).toNat/2^(8 -(n%8).toNat)*2^(8 -(n%8).toNat):Nat):Int))=aY (bA k n):=by
 have hb:=fE k (n/8).toNat;rw[Ld _ _ _ oM (ao6 (Nat.div_mul_le_self _ _) hb)];congr 1;refine rp fun i hi=>?_;rw[CZ _ _ _ i hi (ao6 (Nat.div_mul_le_self _ _) hb),AB k _ i hi];have e:bA k n=bA k ((n.toNat:Nat):Int):=by rw[Int.toNat_of_nonneg oM]
 rw[e,AB k n.toNat i hi]
 by_cases hj:i=(n/8).toNat
 ·
  rw[if_pos hj,if_neg oM,if_pos oM,hj,show n.toNat -8*(n/8).toNat=(n%8).toNat by omega]
 rw[if_neg hj]
 by_cases aZ:i<(n/8).toNat
 ·
  rw[if_pos oM,if_pos oM]
 rw[if_neg oM,if_neg oM,if_neg oM,if_neg oM]
theorem Yr(k:Key)(n:Int)(h0:1<=n)(h2: ¬0<n%8):bA k ((8*(n/8).toNat:Nat):Int)=bA k n:=by
 congr 1;omega
theorem Ys(k:Key)(n:Int):jj Tryz.prog 22 [.agg (aY k), .int .i64 n] (.agg (aY (bA k n))):=⟨fun w=>by
 refine cq Tryz.func22 rfl Tryz.ntmps22 rfl ?_;refine Gc ?_;refine bx rfl fun b2=>ba fun b4=>aq ?_;refine dJ rfl (fun h0=>?_) (fun h0=>?_)
 ·
  have h0:=of_decide_eq_true h0;refine aq ?_;refine dn (.inl rfl) (CG rfl rfl) (fun w hw=>?_);exact⟨by rw[Lf k n oM],hw.sub (anz _)⟩
 have h0:=of_decide_eq_false h0;refine Gc ?_;refine ba fun b5=>aq ?_;refine dJ rfl (fun h1=>?_) (fun h1=>?_)
 ·
  have h1:=of_decide_eq_true h1;refine aq ?_;refine dn (.inl rfl) (CG rfl rfl) (fun w hw=>?_);exact⟨by rw[AA k n oM],hw.sub (anz _)⟩
 have h1:=of_decide_eq_false h1;refine ar ?_;refine ae (kl rfl rfl oM oM) (Gs ?_);refine jC ?_;refine wo 4 [] oK oK ?_;simp only[aoo,anP];refine Gq ?_;refine bn (Kz rfl rfl oM oM) (Gq ?_);refine bn (Kz rfl rfl oM oM) (uD (uE ?_));simp only[ao1,aoO];refine FQ (vs:=(aY k).extract 0 (n/8).toNat) rfl rfl (by have e:Nat.min (n/8).toNat (n/8).toNat=(n/8).toNat:=Nat.min_self _;rw[e,Array.size_extract,fg];omega) (fun w hw j hj=>by rw[Addr.fS,hw.cell (Has.h (b:=b2)),anG];simp at hj;simp[hj]) (SG (eZ.one (cs:=aY k)) _ _) (by rw[Array.size_extract,fg,fg];omega) (Yo k _ oM) (ar ?_);refine ae (wm rfl rfl oM oM) (aM ?_);refine dJ rfl (fun h2=>?_) (fun h2=>?_)
 ·
  have h2:=of_decide_eq_true h2;refine wo 8 [] oK oK ?_;simp only[aoo,anP];refine ar ?_;refine bn (kj rfl rfl oM oM) (bn (qe rfl (gU _ _ oM)) (Gq ?_));refine bn (sL (p:=255) rfl rfl (by decide) oM) (bn (cQ rfl rfl (Yp _ _ (fE _ _) oM)) (bn (kj rfl rfl oM oM) (uD (uE ?_))));simp only[ao1,aoO];refine dN rfl rfl (by rw[fg];omega) rfl (Yq k n oM oM h2) (aq ?_);refine dn (.inl rfl) (CG rfl rfl) (fun w hw=>?_);exact⟨rfl,hw.sub (anz _)⟩
 have h2:=of_decide_eq_false h2;refine aq ?_;refine dn (.inl rfl) (CG rfl rfl) (fun w hw=>?_);exact⟨by rw[Yr k n oM h2],hw.sub (anz _)⟩⟩
instance ai1(k:Key)(n:Int):jj Tryz.prog 22 [.agg (aY k), .int .i64 n] (.agg (aY (bA k n))):=Ys k n
theorem Yt(x:Nat)(hx:x<256):jj Tryz.prog 239 [.int .u8 x] (.int .i64 (len8 x)):=⟨fun w=>by
 refine cd Tryz.func239 rfl Tryz.ntmps239 rfl ?_;refine aq ?_;refine ae (KC Tryz.underlying9 rfl rfl (Int.natCast_nonneg _) (Ym _ (by decide+kernel) x hx)) (ae (lR rfl (ao6 (C3 x hx) (by decide))) (ar ?_));refine dn (.inl rfl) (fT rfl rfl) (fun w hw=>?_);exact⟨rfl,hw.sub (anz _)⟩⟩
theorem Yu(x:Nat)(hx:x<256):jj Tryz.prog 203 [.int .u8 x] (.int .i64 (8 -len8 x:Int)):=⟨fun w=>by
 have hl:=C3 x hx;refine cd Tryz.func203 rfl Tryz.ntmps203 rfl ?_;refine aq ?_;refine c6 (ya rfl (fun w _=>(Yt x hx).h w)) (ak ?_);refine dn (.inl rfl) (fT rfl rfl) (fun w hw=>?_);exact⟨rfl,hw.sub (anz _)⟩⟩
theorem Yv(a b:Key):jj Tryz.prog 145 [.agg (aY a), .agg (aY b)] (.int .i64 (uR a b)):=⟨fun w=>by
 refine cq Tryz.func145 rfl Tryz.ntmps145 rfl ?_;refine Gc ?_;refine bx rfl fun b2=>bx rfl fun b3=>aq ?_;refine bI (X:=Int) (fun i=>[(6, .int .i64 i),(2, .pointer (some ⟨b2,0,none⟩)),(3, .pointer (some ⟨b3,0,none⟩))]) (fun i=>[an b3 (aY b) 25,an b2 (aY a) 25]) (fun i=>0<=i/\i<=16/\ ∀j:Nat,(j:Int)<i->aU a j=aU b j) (fun i=>(16 -i).toNat) 0 ⟨by omega,by omega,fun j h=>by omega⟩ sb (fun w hw=>hw) ?_;rintro i ⟨wh,aW,hs⟩;refine ak ?_;refine dJ rfl (fun h0=>?_) (fun h0=>?_)
 ·
  have h0:=of_decide_eq_true h0;refine aq ?_;refine eS oK oK (Gq ?_);refine bn (kj rfl rfl oM oM) (bn (qe rfl (gU _ _ oM)) (Gq ?_));refine bn (kj rfl rfl oM oM) (bn (qe rfl (gU _ _ oM)) (ar ?_));refine dJ rfl (fun h1=>?_) (fun h1=>?_)
  ·
   simp at h1;have hx:=ao5 (n:=8) (fE a i.toNat) (fE b i.toNat);have hl:=C3 _ hx;refine Gi ?_;refine eS oK oK (Gq ?_);refine bn (od rfl rfl oM) (Gq ?_);refine bn (kj rfl rfl oM oM) (bn (qe rfl (gU _ _ oM)) (Gq ?_));refine bn (kj rfl rfl oM oM) (bn (qe rfl (gU _ _ oM)) (bn (FK rfl rfl rfl rfl (fE _ _) (fE _ _)) (lS (ya rfl (fun w _=>(Yu _ (ao5 (n:=8) (fE a i.toNat) (fE b i.toNat))).h w)) (ak ?_))));refine dn (.inl rfl) (fT rfl rfl) (fun w hw=>?_);exact⟨by rw[Ty (i:=i.toNat) oM (fun j hj=>hs j oM) oM,Int.toNat_of_nonneg wh],hw.sub (anz _)⟩
  simp at h1;refine ak ?_;refine Gi ?_;exact bb (i+1) ⟨by omega,by omega,fun j hj=>if e:(j:Int)=i then(by rw[show j=i.toNat by omega];omega)else hs j oM⟩ oM sb (fun w hw=>hw)
 have h0:=of_decide_eq_false h0;refine ak ?_;refine dn (.inl rfl) (fT rfl rfl) (fun w hw=>?_);exact⟨by rw[Tz (fun j hj=>hs j oM)],hw.sub (anz _)⟩⟩
instance ai2(a b:Key):jj Tryz.prog 145 [.agg (aY a), .agg (aY b)] (.int .i64 (uR a b)):=Yv a b
theorem Yw(k:Key)(n:Int):jj Tryz.prog 125 [.agg (aY k), .int .i64 n] (.int .i64 (hO k n)):=⟨fun w=>by
 refine cq Tryz.func125 rfl Tryz.ntmps125 rfl ?_;refine Gc ?_;refine bx rfl fun b2=>aM ?_;refine bk rfl rfl rfl (fun hg=>(aK rfl).yl) (bk rfl rfl rfl (fun hg=>(cQ (aw hg rfl) rfl rfl).yl) (ar ?_));refine dJ rfl (fun h0=>?_) (fun h0=>?_)
 ·
  simp at h0;refine ak ?_;refine dn (.inl rfl) (fT rfl rfl) (fun w hw=>?_);exact⟨by rw[TA k n oM],hw.sub (anz _)⟩
 simp at h0;refine ar ?_;refine ae (kl rfl rfl oM oM) (ae (kj rfl rfl oM oM) (ae (qe rfl (gU _ _ oM)) (ae (lR rfl (anW (fE _ _) (by decide))) (ak ?_))));refine ae (wm rfl rfl oM oM) (ar ?_);refine dJ rfl (fun h1=>?_) (fun h1=>?_)
 ·
  simp at h1;refine ar ?_;refine ae (sL rfl rfl (anW (fE _ _) (by decide)) oM) (ar ?_);refine dn (.inl rfl) (fT rfl rfl) (fun w hw=>?_);exact⟨by rw[TD k n oM oM oM];rfl,hw.sub (anz _)⟩
 simp at h1;refine ar ?_;refine ae (KB (q:=15) rfl rfl rfl rfl (anW (fE _ _) (by decide)) (by decide)) (ar ?_);refine dn (.inl rfl) (fT rfl rfl) (fun w hw=>?_);exact⟨by rw[TE k n oM oM oM,←Nat.and_two_pow_sub_one_eq_mod _ 4],hw.sub (anz _)⟩⟩
instance ai3(k:Key)(n:Int):jj Tryz.prog 125 [.agg (aY k), .int .i64 n] (.int .i64 (hO k n)):=Yw k n
theorem Yx(p:aJ):jj Tryz.prog 57 [.agg (aT p)] (.bool (bg p)):=⟨fun w=>by
 refine cd Tryz.func57 rfl Tryz.ntmps57 rfl ?_;refine Gc ?_;refine bx rfl fun b1=>aq ?_;refine c6 (pt rfl) (ar ?_);refine bk rfl rfl rfl (fun hg=>(aH (o':=1) rfl rfl).yl) (bk rfl rfl rfl (fun hg=>(bC (aw hg rfl)).yl) (bk rfl rfl rfl (fun hg=>(cQ (aw hg rfl) rfl rfl).yl) (ar ?_)));refine bk rfl rfl rfl (fun hg=>(aH (o':=1) rfl rfl).yl) (bk rfl rfl rfl (fun hg=>(bC (aw hg rfl)).yl) (bk rfl rfl rfl (fun hg=>(aH (o':=0) rfl rfl).yl) (bk rfl rfl rfl (fun hg=>(bC (aw hg rfl)).yl) (bk rfl rfl rfl (fun hg=>(cQ (aw hg rfl) (aw hg rfl) rfl).yl) (ar ?_)))));refine dJ rfl (fun h0=>?_) (fun h0=>?_)
 ·
  refine ak ?_;refine dn (.inl rfl) (fT rfl rfl) (fun w hw=>?_);refine⟨?_,hw.sub (anz _)⟩;have:bg p=false:=by unfold bg;simp at h0⊢;omega
  rw[this]
 refine Gc ?_;refine eS oK oK (Gq ?_);refine bn (fa rfl) (ar ?_);refine lS (pt rfl) (Gq ?_);refine bn (fa rfl) (bn (Kw rfl rfl) (ar ?_));refine dn (.inl rfl) (fT rfl rfl) (fun w hw=>?_);refine⟨?_,hw.sub (anz _)⟩;congr 2;unfold bg;simp at h0⊢;obtain⟨⟨h1,h2⟩,h3⟩:=h0;simp[h2,h3,show p.bits=32\/p.bits=128 by omega]⟩
instance ai4(p:aJ):jj Tryz.prog 57 [.agg (aT p)] (.bool (bg p)):=Yx p
theorem Yy(p:aJ)(k:Key):jj Tryz.prog 77 [.agg (aT p), .agg (aY k)] (.bool (lu p k)):=⟨fun w=>by
 refine cq Tryz.func77 rfl Tryz.ntmps77 rfl ?_;refine Gc ?_;refine bx rfl fun b2=>bx rfl fun b3=>ar ?_;refine eS oK oK (Gq ?_);refine lS (pt rfl) (ar ?_);refine dm rfl rfl rfl (fun hg=>(dw rfl).yl) (dm rfl rfl rfl (fun hg=>(aH (o':=0) rfl rfl).yl) (dm rfl rfl rfl (fun hg=>(bC (aw hg rfl)).yl) (dm rfl rfl rfl (fun hg=>pt (cF (aw hg rfl) (cF (aw hg rfl) eX))) (dm rfl rfl rfl (fun hg=>(dw rfl).yl) (dm rfl rfl rfl (fun hg=>(uA (aw hg rfl) (aw hg rfl)).yl) (ar ?_))))));refine dJ rfl (fun h0=>?_) (fun h0=>?_)
 ·
  refine ak ?_;refine dn (.inl rfl) (fT rfl rfl) (fun w hw=>?_);refine⟨?_,hw.sub (anz _)⟩;have:lu p k=false:=by rw[←apt,kv];rintro⟨h1,h2,_⟩;simp[h1,h2]at h0
  rw[this]
 refine Gc ?_;refine eS oK oK (Gq ?_);refine bn (fa rfl) (Gq ?_);refine lS (pt rfl) (aM ?_);refine dn (.inl rfl) (fT rfl rfl) (fun w hw=>?_);refine⟨?_,hw.sub (anz _)⟩;congr 2;simp at h0;obtain⟨h1,h2⟩:=h0;obtain⟨h3,h4,h5,h6⟩:=(dW p).1 h1;rw[apk,kv,decide_eq_true_iff,Tw oM,h6];exact⟨fun h=>⟨h1,h2,h.symm⟩,fun h=>h.2.2.symm⟩⟩
instance ai5(p:aJ)(k:Key):jj Tryz.prog 77 [.agg (aT p), .agg (aY k)] (.bool (lu p k)):=Yy p k
theorem Yz(p q:aJ):jj Tryz.prog 71 [.agg (aT p), .agg (aT q)] (.bool (iX p q)):=⟨fun w=>by
 refine cq Tryz.func71 rfl Tryz.ntmps71 rfl ?_;refine Gc ?_;refine bx rfl fun b2=>bx rfl fun b3=>ak ?_;refine c6 (pt rfl) (ar ?_);refine bk rfl rfl rfl (fun hg=>(dw rfl).yl) (bk rfl rfl rfl (fun hg=>pt (cF (aw hg rfl) eX)) (bk rfl rfl rfl (fun hg=>(gS (aw hg rfl)).yl) (ar ?_)));refine bk rfl rfl rfl (fun hg=>(aH (o':=0) rfl rfl).yl) (bk rfl rfl rfl (fun hg=>(bC (aw hg rfl)).yl) (bk rfl rfl rfl (fun hg=>(aH (o':=0) rfl rfl).yl) (bk rfl rfl rfl (fun hg=>(bC (aw hg rfl)).yl) (bk rfl rfl rfl (fun hg=>(cQ (aw hg rfl) (aw hg rfl) rfl).yl) (ar ?_)))));refine bk rfl rfl rfl (fun hg=>(aH (o':=1) rfl rfl).yl) (bk rfl rfl rfl (fun hg=>(bC (aw hg rfl)).yl) (bk rfl rfl rfl (fun hg=>(aH (o':=1) rfl rfl).yl) (bk rfl rfl rfl (fun hg=>(bC (aw hg rfl)).yl) (bk rfl rfl rfl (fun hg=>(cQ (aw hg rfl) (aw hg rfl) rfl).yl) (ar ?_)))));refine dJ rfl (fun h0=>?_) (fun h0=>?_)
 ·
  refine ak ?_;refine dn (.inl rfl) (fT rfl rfl) (fun w hw=>?_);refine⟨?_,hw.sub (anz _)⟩;have:iX p q=false:=by unfold iX;simp at h0⊢;intro h1 h2 h3 h4;simp[h1,h2,h3]at h0;omega
  rw[this]
 refine ak ?_;refine ae (fa rfl) (c6 (pt rfl) (ar ?_));refine dn (.inl rfl) (fT rfl rfl) (fun w hw=>?_);refine⟨?_,hw.sub (anz _)⟩;congr 2;simp at h0;obtain⟨⟨⟨h1,h2⟩,h3⟩,h4⟩:=h0;obtain⟨q1,q2,q3,q4⟩:=(dW q).1 h2;rw[apk,kv,oz];have h5:bA q.key p.bits=q.key:=(wE _ _).2 fun i hi hb=>(wE _ _).1 q4 i hi oM;exact⟨fun h=>⟨h1,h2,h3,h4,h.2.2⟩,fun h=>⟨h1,h5,h.2.2.2.2⟩⟩⟩
instance ai6(p q:aJ):jj Tryz.prog 71 [.agg (aT p), .agg (aT q)] (.bool (iX p q)):=Yz p q
open Go.RowKit
def qG(k:Key):List Int:=(List.range 16).map fun i=>(aU k i:Int)
theorem Ps(k:Key)(j:Nat)(x:Int)(h:(qG k)[j]? =some x):j<16/\x=aU k j:=by
 have hl:j<16:=by have:=(ad2.1 h).1;simpa[qG]using this
 refine⟨hl,?_⟩;simp[qG,hl]at h;exact h.symm
theorem YA{x y:UInt8}{xs ys:List UInt8}:Lib.compareBytes (x::xs) (y::ys)=if x.toNat<y.toNat then -1 else if y.toNat<x.toNat then 1 else Lib.compareBytes xs ys:=by
 simp[Lib.compareBytes,UInt8.lt_iff_toNat_lt]
theorem Pt(a b:Key): ∀(n i:Nat),i+n=16->(∀j,j<i->aU a j=aU b j)->
  Lib.compareBytes ((List.range' i n).map fun j=>(aU a j).toUInt8) ((List.range' i n).map fun j=>(aU b j).toUInt8)=lv a b
 |0,i,hi,hs=>by
  have:a=b:=rp fun j hj=>hs j (by omega);subst this;simp[Lib.compareBytes,lv]
 |n+1,i,hi,hs=>by
  have ha:=fE a i;have hb:=fE b i;rw[List.range'_succ,anX,anX,YA];have ea:(aU a i).toUInt8.toNat=aU a i:=by simp;omega
  have eb:(aU b i).toUInt8.toNat=aU b i:=by simp;omega
  rw[ea,eb]
  by_cases h1:aU a i<aU b i
  ·
   rw[if_pos h1];have:=Lm (by omega) hs h1;unfold lv;rw[if_pos this]
  ·
   rw[if_neg h1]
   by_cases h2:aU b i<aU a i
   ·
    rw[if_pos h2];have:=Lm (by omega) (fun j hj=>(hs j hj).symm) h2;unfold lv;rw[if_neg (by omega),if_pos this]
   ·
    rw[if_neg h2];exact Pt a b n (i+1) (by omega) fun j hj=>by
     by_cases e:j=i
     ·
      subst e;omega
     ·
      exact hs j (by omega)
theorem Pu(k:Key):(⟨ByteArray.empty.data++(Lib.bytesOf (qG k)).toArray⟩:ByteArray).data.toList=(List.range' 0 16).map fun j=>(aU k j).toUInt8:=by
 simp[Lib.bytesOf,qG,List.range_eq_range']
theorem Pv(a b:Key)(p q:Addr)(c c':Nat)(w:World)(hp: ∀j,j<16->w.cell? (p.add j)=some (.int .u8 (aU a j)))(hq: ∀j,j<16->w.cell? (q.add j)=some (.int .u8 (aU b j))):
  Calls Tryz.prog 66 [.slice (some p) 16 c, .slice (some q) 16 c'].toArray w fun e w'=>e= .returned (.int .i64 (lv a b))/\Mem w [] w':=by
 refine ou (args:=[_,_]) Tryz.func66 rfl Tryz.ntmps66 rfl ?_;change Cw _ _ _ _ _ [(0, .slice (some p) 16 c),(1, .slice (some q) 16 c')] [];refine cH ?_;refine cS ?_;refine ae (c0 rfl) ?_;refine cR ?_;refine cn ?_;refine cH ?_;refine cS ?_;refine ae (aK rfl) ?_;refine ae (aK rfl) ?_;refine ae (v:= .int .i64 (lv a b)) ?_ ?_
 ·
  intro aa w1 ha hw;have nP: ∀j,j<16->w1.cell? (p.add j)=some (.int .u8 (aU a j)):=fun j hj=>by
   rw[←hp j hj];exact hw.below.cell (block_lt_of_cell (hp j hj))
  have YB: ∀j,j<16->w1.cell? (q.add j)=some (.int .u8 (aU b j)):=fun j hj=>by
   rw[←hq j hj];exact hw.below.cell (block_lt_of_cell (hq j hj))
  have r1:=Lib.run_loadBytesX (P:=Tryz.prog) w1 (qG a) p .empty (fun j x hx=>by obtain⟨h1,rfl⟩:=Ps a j x hx;exact nP j h1);have r2:=Lib.run_loadBytesX (P:=Tryz.prog) w1 (qG b) q .empty (fun j x hx=>by obtain⟨h1,rfl⟩:=Ps b j x hx;exact YB j h1);have l1:(qG a).length=16:=by simp[qG]
  have l2:(qG b).length=16:=by simp[qG]
  rw[l1]at r1;rw[l2]at r2;have e5:=ha.ev (x:= .tmp 5) (v:= .slice (some p) 16 c) rfl;have e6:=ha.ev (x:= .tmp 6) (v:= .slice (some q) 16 c') rfl;have fC:(callFunc 136 #[.slice (some p) 16 c, .slice (some q) 16 c']).run Tryz.prog w1= .ok (.value (.int .i64 (lv a b))) w1:=by
   rw[run_callFunc_extern Tryz.func136 (by kernel_rfl) (by kernel_rfl) (by kernel_rfl) (e:=Extern.BytealgCompare.compare) (by kernel_rfl)];have:(Extern.BytealgCompare.compare #[.slice (some p) 16 c, .slice (some q) 16 c']).run Tryz.prog w1= .ok (.int .i64 (lv a b)) w1:=by
    change Sem.run Tryz.prog (do pure (goInt (Extern.BytealgCompare.cmp (←Extern.Bytes.bytesOf (.slice (some p) 16 c)) (←Extern.Bytes.bytesOf (.slice (some q) 16 c'))))) w1=_;simp only[Extern.Bytes.bytesOf,Sem.run_bind,r1,r2,Sem.run_pure,Result.andThen];rw[Lib.cmp_eq,Pu,Pu,Pt a b 16 0 rfl (fun j h=>by omega)];rfl
   rw[this];rfl
  simp[execOp,resolve,Act.eval,Deferred.ofValue,invoke]at e5 e6⊢;rw[e5,e6,fC]
 refine ae (c0 rfl) ?_;refine cR ?_;refine cn ?_;refine om ?_;refine dn (.inl rfl) (fT rfl rfl) (fun w hw=>?_);exact⟨rfl,hw.sub (anz _)⟩
theorem Ix{w0 w:World}{L:List ai}{b:Nat}{p:aJ}{T:TypeId}{i:Nat}(hw:Mem w0 L w)[hh:Has L b (aT p) T i](j:Nat)(hj:j<16):w.cell? ((⟨b,2,none⟩:Addr).add j)=some (.int .u8 (aU p.key j)):=by
 rw[Addr.fS,hw.cell hh.h,pA,gU _ j hj]
theorem Iy{p q:aJ}(h1:bg p=true)(h2:bg q=true):dr p q=(if p.bits≠q.bits then decide (p.bits=32)else if p.key≠q.key then decide (p.key.toNat<q.key.toNat)else decide (p.len<q.len)):=by
 unfold dr;rw[h1,h2];rfl
theorem YC(p q:aJ):jj Tryz.prog 58 [.agg (aT p), .agg (aT q)] (.bool (dr p q)):=⟨fun w=>by
 refine cq Tryz.func58 rfl Tryz.ntmps58 rfl ?_;refine Gc ?_;refine bx rfl fun b2=>bx rfl fun b3=>ak ?_;refine c6 (pt rfl) (ar ?_);refine bk rfl rfl rfl (fun hg=>(dw rfl).yl) (bk rfl rfl rfl (fun hg=>pt (cF (aw hg rfl) eX)) (bk rfl rfl rfl (fun hg=>(gS (aw hg rfl)).yl) (ar ?_)));refine dJ rfl (fun h0=>?_) (fun h0=>?_)
 ·
  simp at h0;refine ak ?_;refine dn (.inl rfl) (fT rfl rfl) (fun w hw=>?_);refine⟨?_,hw.sub (anz _)⟩;have:dr p q=false:=by unfold dr;cases h1:bg p<;>cases h2:bg q<;>simp_all
  rw[this]
 simp at h0;obtain⟨m1,m2⟩:=h0;refine cx ?_;refine dJ rfl (fun h1=>?_) (fun h1=>?_)
 ·
  simp at h1;refine aX ?_;refine dn (.inl rfl) (fT rfl rfl) (fun w hw=>?_);exact⟨by rw[Iy m1 m2,if_pos h1],hw.sub (anz _)⟩
 simp at h1;refine Gc ?_;refine eS oK oK (Gq ?_);refine bn (jx rfl) (Gq ?_);refine bn (jx rfl) (lS (ya rfl (fun w hw=>Pv p.key q.key _ _ _ _ w (Ix hw) (Ix hw))) (aM ?_));refine dJ rfl (fun h2=>?_) (fun h2=>?_)
 ·
  simp at h2;refine aM ?_;refine dn (.inl rfl) (fT rfl rfl) (fun w hw=>?_);exact⟨by rw[Iy m1 m2,if_neg (by simpa using h1),if_pos (fun e=>h2 ((Lp _ _).2 e)),decide_eq_decide.2 (C4 _ _)],hw.sub (anz _)⟩
 simp at h2;refine eO ?_;refine dn (.inl rfl) (fT rfl rfl) (fun w hw=>?_);exact⟨by rw[Iy m1 m2,if_neg (by simpa using h1),if_neg (by simpa using(Lp _ _).1 h2)],hw.sub (anz _)⟩⟩
instance ai7(p q:aJ):jj Tryz.prog 58 [.agg (aT p), .agg (aT q)] (.bool (dr p q)):=YC p q
end Go.Proofs.YtkggjjnhnjjokaaGreatDoor

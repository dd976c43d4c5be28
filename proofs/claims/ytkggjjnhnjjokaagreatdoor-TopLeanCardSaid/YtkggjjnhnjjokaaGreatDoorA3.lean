/- Part of a proof. -/
import Derived.Test.YtkggjjnhnjjokaaGreatDoorA2
import Derived.Test.YtkggjjnhnjjokaaGreatDoorA1
import Derived.DeepKeys
set_option maxRecDepth 20000
set_option linter.unusedSimpArgs false
set_option linter.unusedVariables false
namespace Go.ax
open Go.RowKit
section
variable {α:Type} {enc:α->Array Value} {c:Nat}
theorem abo{P:Program}{t tx ty e:TypeId}{cL:Nat}(ht:fH P t e c cL)[he:bu enc c]{w0 w:World}{L:List aj}{i:Nat}{s:Sv}{xs ys:List α}{x:Value}
  (hw:Mem w0 L w) (hi:L[i]? =some (own enc c s xs)) (hs:Src P c tx x ys.length (aK enc ys) w) (hn:s.nil=false) (o8:s.len+ys.length<=s.cap) (jk:s.len+ys.length<=140737488355328):
  ∃w',(Builtin.append_ #[t,tx] ty #[s.val,x]).run P w= .ok (Sv.val {s with len:=s.len+ys.length}) w'/\Mem w0 (L.set i (own enc c {s with len:=s.len+ys.length} (xs++ys))) w':=by
 obtain⟨r,oZ⟩:=hw.get hi;obtain⟨i',z,bg,aH,bA,dj,nV⟩:=ht.info;subst bA dj;have hlen:=r.len;have hle:=r.ok.le;obtain⟨ig,cs,T,fz,fx,fj,nB,nW⟩:=oZ hn;have hmul:(s.len+ys.length)*i'.size<=s.cap*i'.size:=atm _ o8;have eL:(aK enc ys).length=ys.length*i'.size:=iK ys;have jB:s.o+s.len*i'.size+(aK enc ys).toArray.size<=cs.size:=by
  rw[at1,eL];rw[atB]at hmul;omega
 have bq:=CU (P:=P) s.b (s.o+s.len*i'.size) T fz (aK enc ys) 0 cs w fx nB (by simpa using jB) hs.one;have yX:(storeCells ⟨s.b,s.o+s.len*i'.size,none⟩ (aK enc ys)).run P w= .ok () (w.setRow s.b (over cs (s.o+s.len*i'.size) (aK enc ys).toArray)):=by
  simpa[over]using bq
 refine⟨w.setRow s.b (over cs (s.o+s.len*i'.size) (aK enc ys).toArray),?_,?_⟩
 ·
  have l6:({s with len:=s.len+ys.length}:Sv).val= .slice (some ⟨s.b,s.o,s.sp⟩) (s.len+ys.length) s.cap:=Sv.jc (s:={s with len:=s.len+ys.length}) hn
  rw[Sv.jc hn,l6,ig];rcases hs.kind with⟨e',hk⟩|hk<;>simp[Builtin.append_,run_underlying ht.fa,run_underlying hk,sizeOf,typeInfo,bg,hs.len,o8,hs.cells,Addr.ie,yX]
 ·
  have cN:hp (w.setRow s.b (over cs (s.o+s.len*i'.size) (aK enc ys).toArray)) s.b=some (.cells (over cs (s.o+s.len*i'.size) (aK enc ys).toArray) T fz):=setRow_heap w s.b cs _ T fz fx;refine hw.change hi (fun k hk=>hk) (fun k hk=>?_) (by simp[World.setRow]) ⟨rfl,rfl,rfl⟩ ⟨xk ⟨(fun h=>by rw[hn]at h;cases h),o8,by simp only;omega,r.ok.sp⟩ (by simp[hlen]) cN fun k y hy j hj=>?_,fun _=>⟨ig,_,_,_,cN,?_,by rw[oX jB];exact nB,nW⟩⟩
  ·
   exact setRow_other w s.b k _ (fun e=>hk ⟨hn,e⟩)
  ·
   rw[vz jB]
   by_cases hk:k<xs.length
   ·
    rw[if_neg,←r.row k y (by rw[atb hk]at hy;exact hy) j hj]
    ·
     unfold oV;rw[fx]
    ·
     have:(k+1)*i'.size<=s.len*i'.size:=atm _ (by omega);rw[atB]at this;intro h;have:=h.1;simp only at this;omega
   ·
    rw[ata (by omega)]at hy;have yW:=oY (enc:=enc) ys (k -xs.length) y hy j hj;have pa:s.len*i'.size+(k -xs.length)*i'.size=k*i'.size:=by rw[←atB];congr 1;omega
    have bc:(k -xs.length+1)*i'.size<=ys.length*i'.size:=atm _ (by have:=(ad2.1 hy).1;omega);rw[atB]at bc;rw[if_pos ⟨by simp only;omega,by rw[at1,eL];simp only;omega⟩,←yW];simp only[auj];congr 1;omega
  ·
   rw[oX jB];exact fj
theorem abp{P:Program}{w0 w:World}{L:List aj}{i:Nat}{s:Sv}{xs ys:List α}[he:bu enc c]{k:Nat}(hw:Mem w0 L w)(hi:L[i]? =some (own enc c s xs))(hn:s.nil=false)(hk:k+ys.length<=xs.length):
  ∃w',(storeCells ⟨s.b,s.o+k*c,none⟩ (aK enc ys)).run P w= .ok () w'/\Mem w0 (L.set i (own enc c s (xs.take k++(ys++xs.drop (k+ys.length))))) w':=by
 obtain⟨r,oZ⟩:=hw.get hi;have hlen:=r.len;have hle:=r.ok.le;obtain⟨ig,cs,T,fz,fx,fj,nB,nW⟩:=oZ hn;have hmul:(k+ys.length)*c<=s.cap*c:=atm _ (by omega);have eL:(aK enc ys).length=ys.length*c:=iK ys;have jB:s.o+k*c+(aK enc ys).toArray.size<=cs.size:=by
  rw[at1,eL];rw[atB]at hmul;omega
 have ux: ∀v∈aK enc ys,v.oneCell'=true:=xj ys;have bq:=CU (P:=P) s.b (s.o+k*c) T fz (aK enc ys) 0 cs w fx nB (by simpa using jB) ux;have yX:(storeCells ⟨s.b,s.o+k*c,none⟩ (aK enc ys)).run P w= .ok () (w.setRow s.b (over cs (s.o+k*c) (aK enc ys).toArray)):=by
  simpa[over]using bq
 refine⟨_,yX,?_⟩;have cN:hp (w.setRow s.b (over cs (s.o+k*c) (aK enc ys).toArray)) s.b=some (.cells (over cs (s.o+k*c) (aK enc ys).toArray) T fz):=setRow_heap w s.b cs _ T fz fx;have oq:(xs.take k++(ys++xs.drop (k+ys.length))).length=xs.length:=by simp only[af0,as6,as9];omega
 refine hw.change hi (fun k hk=>hk) (fun k hk=>?_) (by simp[World.setRow]) ⟨rfl,rfl,rfl⟩ ⟨xk r.ok (by rw[oq];exact hlen) cN fun m y hy j hj=>?_,fun _=>⟨ig,_,_,_,cN,?_,by rw[oX jB];exact nB,nW⟩⟩
 ·
  exact setRow_other w s.b k _ (fun e=>hk ⟨hn,e⟩)
 ·
  rw[vz jB];rcases as3 m k with h1|h1
  ·
   have zu:xs[m]? =some y:=by
    rw[atb (by rw[as6];omega),avv,if_pos h1]at hy;exact hy
   rw[if_neg,←r.row m y zu j hj]
   ·
    unfold oV;rw[fx]
   ·
    have:(m+1)*c<=k*c:=atm _ (by omega);rw[atB]at this;intro h;have:=h.1;omega
  ·
   rcases as3 m (k+ys.length)with h2|h2
   ·
    have zu:ys[m -k]? =some y:=by
     rw[ata (by rw[as6];omega),as6,avI (by omega),atb (by omega)]at hy;exact hy
    have yW:=oY (enc:=enc) ys (m -k) y zu j hj;have pa:k*c+(m -k)*c=m*c:=by rw[←atB];congr 1;omega
    have bc:(m -k+1)*c<=ys.length*c:=atm _ (by omega);rw[atB]at bc;rw[if_pos ⟨by omega,by rw[at1,eL];omega⟩,←yW];simp only[auj];congr 1;omega
   ·
    have zu:xs[m]? =some y:=by
     rw[ata (by rw[as6];omega),as6,avI (by omega),ata (by omega),aug]at hy;rw[←hy];congr 1;omega
    rw[if_neg,←r.row m y zu j hj]
    ·
     unfold oV;rw[fx]
    ·
     have:(k+ys.length)*c<=m*c:=atm _ h2;rw[atB]at this;intro h;have:=h.2;rw[at1,eL]at this;omega
 ·
  rw[oX jB];exact fj
end
section
variable {P:Program} {N:cc} {w0:World} {env:Env} {L:List aj} {l:List Oper} {Q:Exit->Act->World->Prop} {rest:List Oper} {d:Option Tmp} {ty:TypeId} {ps:String} {af:Array Edge} {gd:Option (Nat×Bool)} {K:Value->List aj->Prop}
variable {α:Type} {enc:α->Array Value} {c:Nat} {s:Sv} {xs ys:List α}
theorem abq{t tx e:TypeId}{x y:Operand}{yv:Value}{cL i:Nat}[ht:fH P t e c cL][he:bu enc c](hx:ev env x=some s.val)(hy:ev env y=some yv)[q:fI L s enc c xs i]
  (hs: ∀w,Mem w0 L w->Src P c tx yv ys.length (aK enc ys) w) (hn:s.nil=false) (o8:s.len+ys.length<=s.cap) (jk:s.len+ys.length<=140737488355328) {L':List aj} [hu:fF L i (own enc c {s with len:=s.len+ys.length} (xs++ys)) L']
  (hk:K (Sv.val {s with len:=s.len+ys.length}) L'):
  iL P N w0 env L ⟨d, .call {callee:= .builtin .append,args:= #[x,y],argTypes:= #[t,tx]},ty,ps,af,gd⟩ K:=
 xz fun a w ha hw=>by
  obtain⟨w',h1,h4⟩:=abo (ty:=ty) ht hw q.h (hs w hw) hn o8 jk;refine⟨_,w',L',?_,by rw[←hu.h];exact h4,hk⟩;simp[execOp,ha.ev hx,ha.ev hy,resolve,invoke,builtin,h1,Result.andThen]
theorem abr{t tx e:TypeId}{x y:Operand}{yv:Value}{cL i:Nat}[ht:fH P t e c cL][he:bu enc c](hx:ev env x=some s.val)(hy:ev env y=some yv)[q:fI L s enc c xs i]
  (hs: ∀w,Mem w0 L w->Src P c tx yv ys.length (aK enc ys) w) (hn:s.nil=false) (o8:s.len+ys.length<=s.cap) (jk:s.len+ys.length<=140737488355328) {L':List aj} [hu:fF L i (own enc c {s with len:=s.len+ys.length} (xs++ys)) L']
  (hk:Sq P N w0 l Q rest (cB env d (Sv.val {s with len:=s.len+ys.length})) L') (hd:du N d=true:=by rfl):
  Sq P N w0 l Q (⟨d, .call {callee:= .builtin .append,args:= #[x,y],argTypes:= #[t,tx]},ty,ps,af,none⟩::rest) env L:=
 Qu rfl hd (abq hx hy hs hn o8 jk hk)
theorem Rq{D S rm:Sv}{x y:Operand}{tx gP e:TypeId}{i k:Nat}{ys:List α}[he:bu enc c](hx:ev env x=some D.val)(nF:D.nil=false)(pj:D.sp=none)(qU:D.b=rm.b)(ta:D.o=rm.o+k*c)(hy:ev env y=some S.val)[ht:fw P tx e c][q:fI L rm enc c xs i][hS:Hd w0 L S enc c ys](hc:0<c)(hn:rm.nil=false)(h0:0<ys.length)(hl:ys.length<=D.len)(kC:k+ys.length<=xs.length)
  {L':List aj} [hu:fF L i (own enc c rm (xs.take k++(ys++xs.drop (k+ys.length)))) L'] (hk:K (.int .i64 ys.length) L'):
  iL P N w0 env L ⟨d, .call {callee:= .builtin .copy,args:= #[x,y],argTypes:= #[tx,gP]},ty,ps,af,gd⟩ K:=
 xz fun a w ha hw=>by
  have hs:=hS.h w hw;have Di:=hs.some h0;have n9:=hs.len;have Dj:=hs.ok.sp (by have:=hs.ok.le;omega);rw[Sv.jc nF,pj,qU,ta]at hx;rw[Sv.jc Di,Dj]at hy;obtain⟨w',h1,h2⟩:=abp (P:=P) hw q.h hn kC;rw[hu.h]at h2;refine⟨_,w',L',?_,h2,hk⟩;have GU:=run_loadCells_list (P:=P) w ⟨S.b,S.o,none⟩ (aK enc ys) (fun j v hj=>by
   obtain⟨z,hz,hv⟩:=Fy hc hj;rw[Addr.ie,uf,←hv,←hs.row _ z hz (j%c) (avc _ hc)];congr 1;have:=avd j c;rw[aut]at this;omega)
  rw[iK]at GU
  cases hq:P.info? e with
  |none=>have:=ht.size;simp[hq]at this
  |some i'=>
   have hi:i'.size=c:=by have:=ht.size;simpa[hq]using this
   have CH:Nat.min S.len D.len=ys.length:=by rw[n9];exact avI hl
   have gO:(Builtin.copy_ #[tx,gP] ty #[.slice (some ⟨rm.b,rm.o+k*c,none⟩) D.len D.cap, .slice (some ⟨S.b,S.o,none⟩) S.len S.cap]).run P w= .ok (goInt ys.length) w':=by
    simp[Builtin.copy_,run_underlying ht.fa,Builtin.lenOf,Builtin.firstCells,sizeOf,typeInfo,hq,hi,CH,GU,h1]
   simp[execOp,ha.ev hx,ha.ev hy,resolve,invoke,builtin,gO,Result.andThen,goInt]
theorem abt{D S rm:Sv}{x y:Operand}{tx gP e:TypeId}{i k:Nat}{ys:List α}[he:bu enc c](hx:ev env x=some D.val)(nF:D.nil=false)(pj:D.sp=none)(qU:D.b=rm.b)(ta:D.o=rm.o+k*c)(hy:ev env y=some S.val)[ht:fw P tx e c][q:fI L rm enc c xs i][hS:Hd w0 L S enc c ys](hc:0<c)(hn:rm.nil=false)(h0:0<ys.length)(hl:ys.length<=D.len)(kC:k+ys.length<=xs.length)
  {L':List aj} [hu:fF L i (own enc c rm (xs.take k++(ys++xs.drop (k+ys.length)))) L'] (hk:Sq P N w0 l Q rest (cB env d (.int .i64 ys.length)) L') (hd:du N d=true:=by rfl):
  Sq P N w0 l Q (⟨d, .call {callee:= .builtin .copy,args:= #[x,y],argTypes:= #[tx,gP]},ty,ps,af,none⟩::rest) env L:=
 Qu rfl hd (Rq hx nF pj qU ta hy hc hn h0 hl kC hk)
end
theorem Mem.Be{w0 w:World}{L:List aj}{e:aj}{es:List aj}(h:Mem w0 (e::aj.all es::L) w):Mem w0 (aj.all (es++[e])::L) w:=by
 have h1:Mem w0 (aj.all (e::es)::L) w:=Mem.aaL h;rw[Mem.CZ]at h1⊢;exact h1.perm ((List.perm_append_singleton e es).symm.append_right L)
theorem Mem.GV{w0 w:World}{L:List aj}{e e':aj}(hf: ∀k,e'.fp k->e.fp k)(hs:(e.sat fun k=>w.heap[k]?)->e'.sat fun k=>w.heap[k]?)(h:Mem w0 (e::L) w):Mem w0 (e'::L) w:=by
 have hd:=atn.1 h.pW;refine⟨h.below,fun x he=>?_,fun x he k hk=>?_,atn.2 ⟨fun y hy k hk=>hd.1 y hy k (hf k hk),hd.2⟩⟩
 ·
  rcases as2.1 he with rfl|he
  ·
   exact hs (h.sat e (by simp))
  exact h.sat x (by simp[he])
 rcases as2.1 he with rfl|he
 ·
  exact h.kf e (by simp) k (hf k hk)
 exact h.kf x (by simp[he]) k hk
end Go.ax
namespace Go.Kb
open Go.ax
theorem Rr{w0 w:World}{L:List aj}{s rm:Sv}{l:List (List UInt8)}{xs:List (Sl UInt8)}(hx:xs=dD rm 0 l)(hn:rm.nil=false)(h:Mem w0 (own (cd (τ:=UInt8)) 1 s xs::own aQ 1 rm l.flatten::L) w):Mem w0 (fA ⟨s,xs⟩::L) w:=by
 have ht:aM xs=l:=by rw[hx,xG]
 have h1:=h.perm (List.Perm.swap _ _ _);have h2:Mem w0 (Bd ⟨s,xs⟩::own (cd (τ:=UInt8)) 1 s xs::L) w:=Mem.GV (fun k hk=>by
  obtain⟨x,qT,rfl⟩:=hk;exact⟨hn,GO rm 0 l x (hx▸qT)⟩) (fun hs=> .inr ⟨rm,hn,by simp only[ht];exact hx,by simp only[ht];exact hs⟩) h1
 exact Mem.y5.2 (h2.perm (List.Perm.swap _ _ _))
theorem abu{w0 w:World}{L:List aj}{s:Sv}(h:Mem w0 (own (cd (τ:=UInt8)) 1 s []::L) w):Mem w0 (fA ⟨s,[]⟩::L) w:=by
 refine Mem.y5.2 (Mem.perm (Mem.GV (e:= .emp) (e':=Bd ⟨s,[]⟩) (fun k hk=>?_) (fun _=> .inl rfl) (Mem.CY.2 h)) (List.Perm.swap _ _ _));obtain⟨x,hx,_⟩:=hk
 cases hx
theorem abv{w0 w:World}{L:List aj}{a:Sl (Sl UInt8)}(bM:a.xs≠[])(h:Mem w0 (fA a::L) w): ∃rm:Sv,(rm.nil=false/\rm.sp=none/\a.xs=dD rm 0 (aM a.xs))/\Mem w0 (own (cd (τ:=UInt8)) 1 a.sv a.xs::own aQ 1 rm (aM a.xs).flatten::L) w:=by
 have h1:=Mem.y5.1 h;have hr:=h1.sat (Bd a) (by simp);rcases hr with hr|⟨rm,g1,g2,g3⟩
 ·
  exact absurd hr bM
 refine⟨rm,⟨g1,(g3.2 g1).1,g2⟩,?_⟩;have h2:=h1.perm (List.Perm.swap _ _ _);obtain⟨x,l,GW⟩:=List.exists_cons_of_ne_nil bM;have hm:x∈a.xs:=by rw[GW];simp
 have hb:x.sv.b=rm.b:=GO rm 0 _ x (g2▸hm);exact(Mem.GV (e:=Bd a) (e':=own aQ 1 rm (aM a.xs).flatten) (fun k hk=>⟨x,hm,by rw[hb];exact hk.2⟩) (fun _=>g3) h2).perm (List.Perm.swap _ _ _)
theorem GX: ∀{l:List (List UInt8)} {i:Nat} {q r:List UInt8},l[i]? =some q->r.length=q.length->(l.set i r).flatten=l.flatten.take (l.take i).flatten.length++(r++l.flatten.drop ((l.take i).flatten.length+r.length))
 |y::l,0,q,r,h,hr=>by
  obtain rfl:y=q:=by simpa using h
  simp[hr]
 |y::l,i+1,q,r,h,hr=>by
  have:=GX (l:=l) (i:=i) (q:=q) (r:=r) (by simpa using h) hr;simp only[avw,auw,this,aum,af0];rw[List.take_length_add_append,auB,List.drop_length_add_append,ate]
theorem GY{rm:Sv}: ∀{o:Nat} {l:List (List UInt8)} {i:Nat} {q:List UInt8},l[i]? =some q->(dD rm o l)[i]? =some ⟨win rm (o+(l.take i).flatten.length) (o+(l.take i).flatten.length+q.length),q⟩
 |o,y::l,0,q,h=>by
  obtain rfl:y=q:=by simpa using h
  simp[dD]
 |o,y::l,i+1,q,h=>by
  have:=GY (rm:=rm) (o:=o+y.length) (l:=l) (i:=i) (q:=q) (by simpa using h);simp only[dD,List.getElem?_cons_succ,this,aum,auw,af0,auB]
def Rs(l:List (List UInt8)):Prop:=l.length<=1000000/\l.flatten.length<=1000000
theorem Dt{l:List (List UInt8)}{i:Nat}{q:List UInt8}(h:l[i]? =some q):(l.take (i+1)).flatten.length=(l.take i).flatten.length+q.length:=by
 rw[atf,h];simp
theorem Du(l:List (List UInt8))(i:Nat):(l.take i).flatten.length<=l.flatten.length:=by
 have:l.flatten=(l.take i).flatten++(l.drop i).flatten:=by rw[←List.flatten_append,atz]
 rw[this,af0];omega
theorem abw{rm:Sv}{l:List (List UInt8)}{n i:Nat}{r q:List UInt8}(hn:n=l.length)(hr:r=(l.take i).flatten)(h:l[i]? =some q):(dD rm 0 (l.take i)++List.replicate (n -i) (⟨Sv.none,[]⟩:Sl UInt8)).set i ⟨win rm r.length (r.length+q.length),q⟩=dD rm 0 (l.take (i+1))++List.replicate (n -(i+1)) (⟨Sv.none,[]⟩:Sl UInt8):=by
 have hi:=(ad2.1 h).1;have hl:(dD rm 0 (l.take i)).length=i:=by rw[KW,as6];omega
 rw[auW _ _ (by omega),hl,auJ,atf,h,show n -i=n -(i+1)+1 by omega,avV,auq];simp only[avF];rw[Rk,hr,atF,ate,avf]
theorem py{w0 w:World}{L:List aj}(d:Cp)(h:Mem w0 (own bY 4 d.blocks.sv d.blocks.xs::aj.all (d.blocks.xs.map fun b:Bk=>fA b.pages)::own eO 4 d.aV.sv d.aV.xs::L) w):Mem w0 (fz d::L) w:=
 GR ((Ro (a:=d.aV) ((abn h).perm (List.Perm.swap _ _ _))).perm (List.Perm.swap _ _ _))
theorem KY{α:Type}{enc:α->Array Value}{c:Nat}{s:Sv}{xs ys:List α}{w0 w:World}{L:List aj}(e:xs.map enc=ys.map enc)(h:Mem w0 (own enc c s xs::L) w):Mem w0 (own enc c s ys::L) w:=
 Mem.GV (e:=own enc c s xs) (fun _ hk=>hk) (fun hs=>⟨⟨hs.1.ok,by have:=congrArg List.length e;simp only[atL]at this;rw[←this];exact hs.1.len,fun i y hy j hj=>by
  have h1:(xs.map enc)[i]? =(ys.map enc)[i]? :=by rw[e]
  rw[atg,atg,hy]at h1
  cases hx:xs[i]?with
  |none=>rw[hx]at h1;cases h1
  |some x=>
   rw[hx]at h1;have h2:enc x=enc y:=by simpa using h1
   have:=hs.1.row i x hx j hj;rw[h2]at this;exact this⟩,hs.2⟩) h
theorem GZ{w0 w:World}{L:List aj}{s sp rm:Sv}{xs:List Bk}{i:Nat}{B B':Bk}{ps:List (Sl UInt8)}{l:List (List UInt8)}(hi:i<xs.length)(hp:ps.map (fun x=>x.sv)=(dD rm 0 l).map (fun x=>x.sv))(hn:rm.nil=false)(hc:bY B=bY B')(hB:B'.pages=⟨sp,dD rm 0 l⟩)
  (h:Mem w0 (own (cd (τ:=UInt8)) 1 sp ps::own aQ 1 rm l.flatten::own bY 4 s (xs.set i B)::aj.all ((xs.eraseIdx i).map fun b:Bk=>fA b.pages)::L) w):Mem w0 (own bY 4 s (xs.set i B')::aj.all ((xs.set i B').map fun b:Bk=>fA b.pages)::L) w:=by
 have h1:Mem w0 (own (cd (τ:=UInt8)) 1 sp (dD rm 0 l)::own aQ 1 rm l.flatten::own bY 4 s (xs.set i B)::aj.all ((xs.eraseIdx i).map fun b:Bk=>fA b.pages)::L) w:=KY (by
  have:=congrArg (List.map fun v:Sv=>(#[v.val]:Array Value)) hp;rw[List.map_map,List.map_map]at this;exact this) h
 have h2:=Rr (xs:=dD rm 0 l) rfl hn h1;rw[←hB]at h2;have h3:=KY (ys:=xs.set i B') (by rw[avr,avr,hc]) (h2.perm (List.Perm.swap _ _ _));have h4:Mem w0 (fA B'.pages::aj.all (((xs.set i B').eraseIdx i).map fun b:Bk=>fA b.pages)::own bY 4 s (xs.set i B')::L) w:=by
  rw[List.eraseIdx_set_eq];exact h3.perm ((List.Perm.swap _ _ _).trans (List.Perm.cons _ (List.Perm.swap _ _ _)))
 have h5:=(Mem.pick (f:=fun b:Bk=>fA b.pages) (xs:=xs.set i B') (i:=i) (x:=B') (by rw[atj hi])).2 h4;exact h5.perm (List.Perm.swap _ _ _)
theorem Ru{w0 w:World}{L:List aj}{s:Sv}{xs:List Bk}{i:Nat}{B:Bk}(hB:xs[i]? =some B)(bM:B.pages.xs≠[])(h:Mem w0 (own bY 4 s xs::aj.all (xs.map fun b:Bk=>fA b.pages)::L) w):
  ∃rm:Sv,(rm.nil=false/\rm.sp=none/\B.pages.xs=dD rm 0 (aM B.pages.xs))/\Mem w0 (own (cd (τ:=UInt8)) 1 B.pages.sv B.pages.xs::own aQ 1 rm (aM B.pages.xs).flatten::own bY 4 s xs::aj.all ((xs.eraseIdx i).map fun b:Bk=>fA b.pages)::L) w:=by
 have h1:=(Mem.pick (f:=fun b:Bk=>fA b.pages) hB).1 (h.perm (List.Perm.swap _ _ _));obtain⟨rm,hr,h2⟩:=abv bM h1;refine⟨rm,hr,h2.perm (List.Perm.cons _ (List.Perm.cons _ (List.Perm.swap _ _ _)))⟩
end Go.Kb
namespace Go.ax
section
variable {P:Program} {N:cc} {w0:World} {env:Env} {L:List aj} {d:Option Tmp} {ty:TypeId} {ps:String} {af:Array Edge} {gd:Option (Nat×Bool)} {x y:Operand} {t u:TypeId}
theorem Rv{a b:UInt8}(hx:ev env x=some (.int .u8 a.toNat))(hy:ev env y=some (.int .u8 b.toNat)):
  Ry P N w0 env L ⟨d, .binOp .or t x y u,ty,ps,af,gd⟩ (.int .u8 (a|||b).toNat):=by
 have ha:=a.toNat_lt;have hb:=b.toNat_lt;rw[UInt8.toNat_or];exact CN hx hy rfl rfl (by simp only[nb];omega) (by simp only[nb];omega)
theorem abx: ∀n,n<256->(255^^^n:Nat)=255 -n:=by decide+kernel
theorem aby{p q:Nat}(hp:p<2^nb .u8)(hq:q<2^nb .u8):Op.intBits .xor .u8 (p:Int) (q:Int)=(pure (.int .u8 ((p^^^q:Nat):Int)):Sem Value):=by
 simp only[Op.intBits,AD,BitVec.toNat_xor,auQ,atN (rK hp),atN (rK hq)];rw[qG (avg hp hq)]
theorem abz{a:UInt8}(hx:ev env x=some (.int .u8 a.toNat)):
  Ry P N w0 env L ⟨d, .unOp .xor t x,ty,ps,af,gd⟩ (.int .u8 (~~~a).toNat):=fun aa w ha _=>by
 have e:(Op.intBits .xor .u8 255 (a.toNat:Int))=(pure (.int .u8 ((~~~a).toNat:Int)):Sem Value):=by
  have h3:=a.toNat_lt;have h4:(~~~a).toNat=255 -a.toNat:=UInt8.toNat_not a;have h5:(255^^^a.toNat:Nat)=255 -a.toNat:=abx a.toNat h3;have hp:(255:Nat)<2^nb .u8:=by decide
  have hq:a.toNat<2^nb .u8:=h3;have hx:=aby hp hq;rw[h5]at hx;rw[h4];exact hx
 simp only[execOp,ha.ev hx,Op.unary,Sem.run_bind,Result.andThen];rw[show(if IntKind.u8.signed=true then(-1:Int)else IntKind.u8.max)=255 by decide,e];rfl
end
open Go.RowKit
section
variable {P:Program} {N:cc} {w0:World} {env:Env} {L:List aj} {l:List Oper} {Q:Exit->Act->World->Prop} {rest:List Oper} {d:Option Tmp} {ty:TypeId} {ps:String} {af:Array Edge} {gd:Option (Nat×Bool)} {K:Value->List aj->Prop}
variable {α:Type} {enc:α->Array Value} {c:Nat}
theorem abA{β:Type}{l:List β}{i:Nat}{z:β}(h:l[i]? =some z):l.set i z=l:=by
 obtain⟨hi,rfl⟩:=ad2.1 h;exact List.set_getElem_self hi
theorem abB{D S:Sv}{x y:Operand}{tx gP e:TypeId}(hx:ev env x=some D.val)(hy:ev env y=some S.val)[ht:fw P tx e c][hS:Hd w0 L S enc c []](hk:K (.int .i64 0) L):
  iL P N w0 env L ⟨d, .call {callee:= .builtin .copy,args:= #[x,y],argTypes:= #[tx,gP]},ty,ps,af,gd⟩ K:=
 xz fun a w ha hw=>by
  have hs:=hS.h w hw;have n9:S.len=0:=hs.len;obtain⟨ad,len,cap,e1⟩:=S.ex;have el:len=S.len:=by
   cases hn:S.nil with
   |true=>rw[Sv.ue hn]at e1;have:=hs.ok.nil hn;cases e1;omega
   |false=>rw[Sv.jc hn]at e1;cases e1;rfl
  obtain⟨Rw,Rx,abC,e2⟩:=D.ex;refine⟨_,w,L,?_,hw,hk⟩
  cases hq:P.info? e with
  |none=>have:=ht.size;simp[hq]at this
  |some i'=>
   rw[e1]at hy;rw[e2]at hx;have mg:len=0:=by omega
   have gO:(Builtin.copy_ #[tx,gP] ty #[.slice Rw Rx abC, .slice ad len cap]).run P w= .ok (goInt 0) w:=by
    have GU: ∀v:Addr,(loadCells v 0).run P w= .ok #[] w:=fun v=>by
     have:=run_loadCells_list (P:=P) w v [] (fun j v hj=>by simp at hj);simpa using this
    have bq: ∀v:Addr,(storeCells v []).run P w= .ok () w:=fun v=>rfl
    cases Rw<;>cases ad<;>simp[Builtin.copy_,run_underlying ht.fa,Builtin.lenOf,Builtin.firstCells,sizeOf,typeInfo,hq,mg,GU,bq]
   simp[execOp,ha.ev hx,ha.ev hy,resolve,invoke,builtin,gO,Result.andThen,goInt]
theorem KZ{D S rm:Sv}{x y:Operand}{tx gP e:TypeId}{i k:Nat}{xs ys:List α}[he:bu enc c](hx:ev env x=some D.val)(nF:D.nil=false)(pj:D.sp=none)(qU:D.b=rm.b)(ta:D.o=rm.o+k*c)(hy:ev env y=some S.val)[ht:fw P tx e c][q:fI L rm enc c xs i][hS:Hd w0 L S enc c ys](hc:0<c)(hn:rm.nil=false)(hl:ys.length<=D.len)(kC:k+ys.length<=xs.length)
  {L':List aj} [hu:fF L i (own enc c rm (xs.take k++(ys++xs.drop (k+ys.length)))) L'] (hk:K (.int .i64 ys.length) L'):
  iL P N w0 env L ⟨d, .call {callee:= .builtin .copy,args:= #[x,y],argTypes:= #[tx,gP]},ty,ps,af,gd⟩ K:=by
 by_cases h0:ys=[]
 ·
  subst h0;have e1:xs.take k++([]++xs.drop (k+([]:List α).length))=xs:=by simp
  have e2:L'=L:=by
   rw[←hu.h,e1];exact abA q.h
  exact abB (c:=c) (enc:=enc) hx hy (by rw[e2]at hk;exact hk)
 ·
  exact Rq hx nF pj qU ta hy hc hn (avo.2 h0) hl kC hk
end
end Go.ax
namespace Go.Kb
open Go.ax
def gU(c:Cp):Prop:=c.blocks.xs.length<=1000000/\c.aV.xs.length<=1000000/\ ∀b∈c.blocks.xs,Rs (aM b.pages.xs)
theorem xI{α:Type}{l:List α}{i:Nat}{z:α}(h:l[i]? =some z):l.set i z=l:=by
 obtain⟨hi,rfl⟩:=ad2.1 h;exact List.set_getElem_self hi
theorem zv(l:List Bk)(i:Nat)(b:Bk):jl (l.set i b)=(jl l).set i (bv b):=by simp[jl,avr]
theorem abD{zs:List Bk}{i:Nat}{z z':Bk}(h:zs[i]? =some z):((zs.take i).map fun b:Bk=>fA b.pages)++[fA z'.pages]=((zs.set i z').take (i+1)).map fun b:Bk=>fA b.pages:=by
 have hi:=(ad2.1 h).1;rw[atf,atj hi,avD (as4 _),atE];rfl
theorem abE{c:CV}(h: ∀f∈c.aV,f.op≠c.ops):bt c=(Bc,false):=by
 have:c.aV.find? (fun f=>decide (f.op=c.ops))=none:=auZ.2 fun f hf=>by simpa using h f hf
 rw[bt,this]
theorem abF{c:CV}{i:Nat}{f:Ft}(hf:c.aV[i]? =some f)(h: ∀j g,j<i->c.aV[j]? =some g->g.op≠c.ops)(he:f.op=c.ops):bt c=(f,f.cut||f.fail):=by
 have:c.aV.find? (fun f=>decide (f.op=c.ops))=some f:=by
  rw[List.find?_eq_some_iff_getElem];obtain⟨hi,rfl⟩:=ad2.1 hf;exact⟨by simpa using he,i,hi,rfl,fun j hj=>by
   simpa using h j (c.aV[j]'(by omega)) hj (as1 (by omega))⟩
 rw[bt,this]
theorem Rz: ∀l:List (List UInt8),(∀x∈l,x.length<=256)->(l.map List.length).sum<=l.length*256
 |[],_=>by simp
 |x::l,hl=>by
  have h1:=Rz l fun y hy=>hl y (atd _ hy);have h2:=hl x as5;simp only[atq,avK,asZ];omega
theorem rX{c:Cp}(h:bb (cv c)=true):gU c:=by
 obtain⟨h1,h2,h3,h4,h5⟩:=fJ.1 h;obtain⟨s1,s2,s3,s4,s5,s6⟩:=mj.1 h1;simp only[cv,iq]at*;refine⟨by omega,by omega,fun b hb=>?_⟩;have g:=fm.1 (h5 (bv b) (atp hb));simp only[bv]at g;have hf:(aM b.pages.xs).flatten.length<=(aM b.pages.xs).length*256:=by
  rw[List.length_flatten];exact Rz _ fun x hx=>by have:=g.2.2.2.2.2 x hx;omega
 exact⟨by omega,by omega⟩
theorem K0{rm:Sv}: ∀{o:Nat} {l l':List (List UInt8)},l.map List.length=l'.map List.length->(dD rm o l).map (fun x=>x.sv)=(dD rm o l').map (fun x=>x.sv)
 |_,[],[],_=>rfl
 |_,[],_::_,h=>by simp at h
 |_,_::_,[],h=>by simp at h
 |o,p::l,p'::l',h=>by
  simp only[atq,avJ]at h;have:=K0 (rm:=rm) (o:=o+p'.length) h.2;simp only[dD,atq,h.1,this]
theorem abG{rm:Sv}{l:List (List UInt8)}{i:Nat}{q r:List UInt8}(h:l[i]? =some q)(hr:r.length=q.length):(dD rm 0 l).map (fun x=>x.sv)=(dD rm 0 (l.set i r)).map (fun x=>x.sv):=K0 (by
 rw[avr,hr,xI];rw[atg,h];rfl)
theorem Bf: ∀{l:List (List UInt8)} {i j:Nat} {q:List UInt8},l[i]? =some q->j<q.length->l.flatten[(l.take i).flatten.length+j]? =q[j]?
 |y::l,0,j,q,h,hj=>by
  obtain rfl:y=q:=by simpa using h
  simp only[atH,av6,as0,atF,auw];rw[atb hj]
 |y::l,i+1,j,q,h,hj=>by
  have:=Bf (l:=l) (i:=i) (j:=j) (q:=q) (by simpa using h) hj;simp only[aum,auw,af0];rw[auB,ata (by omega),aus,this]
theorem RA: ∀{l:List (List UInt8)} {i j:Nat} {q:List UInt8} {v:UInt8},l[i]? =some q->j<q.length->l.flatten.set ((l.take i).flatten.length+j) v=(l.set i (q.set j v)).flatten
 |y::l,0,j,q,v,h,hj=>by
  obtain rfl:y=q:=by simpa using h
  simp only[atH,av6,as0,atF,auw,auq];rw[List.set_append_left _ _ hj]
 |y::l,i+1,j,q,v,h,hj=>by
  have:=RA (l:=l) (i:=i) (j:=j) (q:=q) (v:=v) (by simpa using h) hj;simp only[aum,auw,af0,avw];rw[auB,auW _ _ (by omega),aus,this]
theorem K1{l:List (List UInt8)}{i:Nat}{r:List UInt8}:(l.set i r).take i=l.take i:=avD (as4 _)
theorem Bg{rm:Sv}{lo n:Nat}(h:0<n):(win rm lo (lo+n)).o=rm.o+lo:=by
 simp only[win];rw[if_neg (by omega)]
theorem G0{rm:Sv}{lo n:Nat}(hn:rm.nil=false)(hs:rm.sp=none)(hb:n<=1000000):(win rm lo (lo+n)).Ok:=
 ⟨fun h=>absurd (hn.symm.trans h) (by decide),as4 _,by simp only[win];omega,fun _=>hs⟩
theorem RB{c:CV}{x:Cp}{B:Bk}{b g:Int}{q:List UInt8}{rm:Sv}{off:Bool}(hx:cv x=c)(hB:bv B=ak c b):
  cv ⟨x.pages,x.size,⟨x.blocks.sv,x.blocks.xs.set b.toNat ⟨⟨B.pages.sv,dD rm 0 ((aM B.pages.xs).set g.toNat q)⟩,B.used+1,B.aR,B.bad⟩⟩,x.ops+1,off,x.aV⟩={c with ops:=c.ops+1,off:=off,blocks:=c.blocks.set b.toNat {ak c b with used:=(ak c b).used+1,pages:=(ak c b).pages.set g.toNat q}}:=by
 subst hx;rw[←hB];simp only[cv,zv,bv,xG]
theorem abH{m:UInt8}{xs:List UInt8}{i:Nat}{z:UInt8}(h:xs[i]? =some z):(cY m (xs.take i)++xs.drop i).set i (z|||m)=cY m (xs.take (i+1))++xs.drop (i+1):=by
 have hi:=(ad2.1 h).1;have hl:(cY m (xs.take i)).length=i:=by rw[cY,atL,as6];omega
 rw[auW _ _ (by omega),hl,auJ,au9 hi,auq,atf,h,cY,cY,atE,ate];rfl
theorem RC{m:UInt8}{xs:List UInt8}{i:Nat}(h:i<xs.length):(cY m (xs.take i)++xs.drop i)[i]? =xs[i]? :=by
 have hl:(cY m (xs.take i)).length=i:=by rw[cY,atL,as6];omega
 rw[ata (by omega),hl,auJ,aug,atZ]
theorem K2{m:UInt8}{xs:List UInt8}{i:Nat}(h:i<=xs.length):(cY m (xs.take i)++xs.drop i).length=xs.length:=by
 rw[cY,af0,atL,as6,as9];omega
theorem RD{T:List (List UInt8)}{g i:Nat}{q xs:List UInt8}{m z:UInt8}(hq:T[g]? =some q)(hz:xs[i]? =some z):(T.set g (cY m (xs.take (i+1))++xs.drop (i+1))).flatten=(T.set g (cY m (xs.take i)++xs.drop i)).flatten.set ((T.take g).flatten.length+i) (z|||m):=by
 have hg:=(ad2.1 hq).1;have hi:=(ad2.1 hz).1;have h1:=RA (l:=T.set g (cY m (xs.take i)++xs.drop i)) (i:=g) (j:=i) (v:=z|||m) (atj hg) (by rw[K2 (by omega)];exact hi);rw[K1]at h1;rw[h1,avU,abH hz]
def mixed(f:List UInt8->List UInt8)(T:List (List UInt8))(k:Nat):List (List UInt8):=(T.take k).map f++T.drop k
theorem RE{f:List UInt8->List UInt8}{T:List (List UInt8)}:mixed f T 0=T:=by simp[mixed]
theorem RF{f:List UInt8->List UInt8}{T:List (List UInt8)}{k:Nat}(h:T.length<=k):mixed f T k=T.map f:=by
 rw[mixed,ath h,avZ h,atK]
theorem Dv{f:List UInt8->List UInt8}{T:List (List UInt8)}{k:Nat}{q:List UInt8}(h:T[k]? =some q):(mixed f T k)[k]? =some q:=by
 have hk:=(ad2.1 h).1;have hl:((T.take k).map f).length=k:=by rw[atL,as6];omega
 rw[mixed,ata (by omega),hl,auJ,aug,atZ,h]
theorem K3{f:List UInt8->List UInt8}{T:List (List UInt8)}{k:Nat}{q:List UInt8}(h:T[k]? =some q):(mixed f T k).set k (f q)=mixed f T (k+1):=by
 have hk:=(ad2.1 h).1;have hl:((T.take k).map f).length=k:=by rw[atL,as6];omega
 obtain⟨_,rfl⟩:=ad2.1 h;rw[mixed,auW _ _ (by omega),hl,auJ,au9 hk,auq,mixed,atf,as1 hk,atE,ate];rfl
theorem G1{f:List UInt8->List UInt8}{T:List (List UInt8)}{k:Nat}(hf: ∀x∈T,(f x).length=x.length)(hk:k<=T.length):((mixed f T k).take k).flatten.length=(T.take k).flatten.length:=by
 have hl:((T.take k).map f).length=k:=by rw[atL,as6];omega
 rw[mixed,List.take_append_of_le_length (by omega),ath (by omega),List.length_flatten,List.length_flatten,List.map_map];congr 1;exact at6 fun x hx=>hf x (au0 hx)
theorem abI{f:List UInt8->List UInt8}{T:List (List UInt8)}{k n:Nat}{q:List UInt8}(hq:T[k]? =some q)(hf: ∀x∈T,(f x).length=x.length)(he:f q=List.replicate n 255)(hn:n=q.length):(mixed f T (k+1)).flatten=(mixed f T k).flatten.take (T.take k).flatten.length++(List.replicate n 255++(mixed f T k).flatten.drop ((T.take k).flatten.length+n)):=by
 have hk:=(ad2.1 hq).1;rw[←K3 hq,GX (Dv hq) (by rw[he,atT,hn]),G1 hf (by omega),he,atT]
theorem abJ{rm:Sv}{f:List UInt8->List UInt8}{T:List (List UInt8)}(hf: ∀x∈T,(f x).length=x.length):(dD rm 0 T).map (fun x=>x.sv)=(dD rm 0 (T.map f)).map (fun x=>x.sv):=K0 (by
 rw[List.map_map];exact(at6 fun x hx=>(hf x hx)).symm)
theorem abK{rm:Sv}{lo n:Nat}(hn:rm.nil=false)(hs:rm.sp=none)(h:0<n):(win rm lo (lo+n)).val= .slice (some ⟨rm.b,rm.o+lo,none⟩) n n:=by
 rw[Sv.jc (s:=win rm lo (lo+n)) hn,show(win rm lo (lo+n)).sp=rm.sp from rfl,hs,Bg h,show(win rm lo (lo+n)).len=n from aus ..,show(win rm lo (lo+n)).cap=n from aus ..];rfl
theorem zw{c:Cp}{b:Int}:bv (c.blocks.xs.getD b.toNat qW)=ak (cv c) b:=by
 simp only[ak,cv,jl,atP,atg]
 cases c.blocks.xs[b.toNat]? <;>rfl
theorem rY{c:Cp}{b:Int}(h:ir (cv c) b=true):0<=b/\b.toNat<c.blocks.xs.length:=by
 obtain⟨_,h2,h3⟩:=iu.1 h;simp only[cv,iq]at h3;exact⟨h2,by omega⟩
theorem RG{c:CV}{x:Cp}{B:Bk}{b u:Int}{l:List (List UInt8)}{rm:Sv}{off:Bool}(hx:cv x=c)(hB:bv B=ak c b):
  cv ⟨x.pages,x.size,⟨x.blocks.sv,x.blocks.xs.set b.toNat ⟨⟨B.pages.sv,dD rm 0 l⟩,u,B.aR+1,B.bad⟩⟩,x.ops+1,off,x.aV⟩={c with ops:=c.ops+1,off:=off,blocks:=c.blocks.set b.toNat {ak c b with used:=u,aR:=(ak c b).aR+1,pages:=l}}:=by
 subst hx;rw[←hB];simp only[cv,zv,bv,xG]
theorem abL{xs:List Bk}{i:Nat}{B B':Bk}(h:xs[i]? =some B)(hp:B'.pages=B.pages):((xs.set i B').map fun b:Bk=>fA b.pages)=xs.map fun b:Bk=>fA b.pages:=by
 rw[avr,hp];refine xI ?_;rw[atg,h];rfl
theorem abM{c:CV}{x:Cp}{B:Bk}{b:Int}(hx:cv x=c)(hB:bv B=ak c b):
  cv ⟨x.pages,x.size,⟨x.blocks.sv,x.blocks.xs.set b.toNat ⟨B.pages,B.used,B.aR,true⟩⟩,x.ops,x.off,x.aV⟩={c with blocks:=c.blocks.set b.toNat {ak c b with bad:=true}}:=by
 subst hx;rw[←hB];simp only[cv,zv,bv]
theorem K4{w0 w:World}{L:List aj}{s:Sv}{xs:List (Sl UInt8)}(h:Mem w0 (own (cd (τ:=UInt8)) 1 s xs::aj.all (xs.map fun p:Sl UInt8=>fz p)::L) w):Mem w0 (fz (⟨s,xs⟩:Sl (Sl UInt8))::L) w:=by
 have hs:=h.sat (own (cd (τ:=UInt8)) 1 s xs) (by simp);have ha:=h.sat (aj.all (xs.map fun p:Sl UInt8=>fz p)) (by simp);refine Mem.freeze (es:=[own (cd (τ:=UInt8)) 1 s xs,aj.all (xs.map fun p:Sl UInt8=>fz p)]) _ ⟨hs.1,fun x hx=>aj.C0 ha (fz x) (atp hx)⟩ (fun k hk=>?_) h;rcases hk with⟨bM,rfl⟩|⟨x,hx,hk⟩
 ·
  exact⟨_,by simp,Dr hs.1 bM⟩
 exact⟨aj.all (xs.map fun p:Sl UInt8=>fz p),by simp,aj.GP (atp (f:=fun p:Sl UInt8=>fz p) hx) hk⟩
theorem RH{w0 w:World}{L:List aj}{s:Sv}{xs:List Bk}(h:Mem w0 (own bY 4 s xs::aj.all (xs.map fun b:Bk=>fz b.pages)::L) w):Mem w0 (fz (⟨s,xs⟩:Sl Bk)::L) w:=by
 have hs:=h.sat (own bY 4 s xs) (by simp);have ha:=h.sat (aj.all (xs.map fun b:Bk=>fz b.pages)) (by simp);refine Mem.freeze (es:=[own bY 4 s xs,aj.all (xs.map fun b:Bk=>fz b.pages)]) _ ⟨hs.1,fun x hx=>aj.C0 ha (fz x.pages) (atp (f:=fun b:Bk=>fz b.pages) hx)⟩ (fun k hk=>?_) h;rcases hk with⟨bM,rfl⟩|⟨x,hx,hk⟩
 ·
  exact⟨_,by simp,Dr hs.1 bM⟩
 exact⟨aj.all (xs.map fun b:Bk=>fz b.pages),by simp,aj.GP (atp (f:=fun b:Bk=>fz b.pages) hx) hk⟩
theorem RI{w0 w:World}{L:List aj}{s:Sv}(hs:s.Ok)(hl:s.len=0)(h:Mem w0 L w):Mem w0 (fz (⟨s,[]⟩:Sl Ft)::L) w:=
 Mem.freeze (es:=[]) _ ⟨⟨hs,hl,fun i x hx=>by cases hx⟩,fun x hx=>by cases hx⟩ (fun k hk=>by
  rcases hk with⟨bM,_⟩|⟨x,hx,_⟩
  ·
   exact absurd rfl bM
  cases hx) h
theorem RJ{w0 w:World}{L:List aj}{d:Cp}(hf:d.aV=⟨Sv.none,[]⟩)(h:Mem w0 (own bY 4 d.blocks.sv d.blocks.xs::aj.all (d.blocks.xs.map fun b:Bk=>fz b.pages)::L) w):Mem w0 (fz d::L) w:=by
 have h1:=RI (s:=Sv.none) Sv.CT rfl (RH h);rw[←hf]at h1;exact GR (h1.perm (List.Perm.swap _ _ _))
theorem RL{zs:List Bk}{i:Nat}{z z':Bk}(h:zs[i]? =some z):((zs.take i).map fun b:Bk=>fz b.pages)++[fz z'.pages]=((zs.set i z').take (i+1)).map fun b:Bk=>fz b.pages:=by
 have hi:=(ad2.1 h).1;rw[atf,atj hi,avD (as4 _),atE];rfl
theorem K5{zs:List (Sl UInt8)}{i:Nat}{z z':Sl UInt8}(h:zs[i]? =some z):((zs.take i).map fun b:Sl UInt8=>fz b)++[fz z']=((zs.set i z').take (i+1)).map fun b:Sl UInt8=>fz b:=by
 have hi:=(ad2.1 h).1;rw[atf,atj hi,avD (as4 _),atE];rfl
theorem G2{α β:Type}{f:α->β}{zs:List α}{i:Nat}{z z':α}(h:zs[i]? =some z):((zs.set i z').take (i+1)).map f=(zs.take i).map f++[f z']:=by
 have hi:=(ad2.1 h).1;rw[atf,atj hi,avD (as4 _),atE];rfl
theorem G3{b n:Nat}(h:n<=1000000):(⟨false,b,0,n,n,none⟩:Sv).Ok:=⟨fun h=>(by cases h),as4 _,by simp only;omega,fun _=>rfl⟩
end Go.Kb
namespace Go.ax
theorem RM{P:Program}{N:cc}{w0:World}{env:Env}{L:List aj}{Q:Exit->Act->World->Prop}{c:Code}{X:Type}{pr:X->Prop}(Lx:X->List aj)(h: ∀w,Mem w0 L w-> ∃x,pr x/\Mem w0 (Lx x) w)(hk: ∀x,pr x->Cw P N w0 Q c env (Lx x)):Cw P N w0 Q c env L:=fun a w ha hw=>by
 obtain⟨x,h1,h2⟩:=h w hw;exact hk x h1 a w ha h2
end Go.ax
namespace Go.Kb
open Go.ax
structure fo where
 kind:Int
 id:Int
 gen:UInt64
 body:Sl UInt8
def c8(x:fo):Array Value:= #[.int .i64 x.kind, .int .i64 x.id, .int .u64 x.gen.toNat,x.body.sv.val]
instance:bu c8 4:=⟨fun _=>rfl,fun x=>by
 simp only[c8,auU,au2,avi,Sv.one,vS,vT,auN]⟩
instance (x:fo):gk (c8 x) 4:=⟨rfl,bu.one x⟩
instance (x:fo):cg (c8 x) 0 (.int .i64 x.kind):=⟨rfl⟩
instance (x:fo):cg (c8 x) 1 (.int .i64 x.id):=⟨rfl⟩
instance (x:fo):cg (c8 x) 2 (.int .u64 x.gen.toNat):=⟨rfl⟩
instance (x:fo):cg (c8 x) 3 (x.body.sv.val):=⟨rfl⟩
instance:Deep fo where
 c:=4
 cells:=c8
 size:=bu.size
 one:=bu.one
 cM h x:=Deep.cM h x.body
 ck x:=Deep.ck x.body
 ki h x hs:=Deep.ki h x.body hs
 mono w w' x hg hb:=Deep.mono w w' x.body hg hb
variable {w0:World}{L:List aj}
instance{x:fo}[q:aT w0 L x]:aT w0 L x.body:=⟨fun w hw=>(q.h w hw)⟩
instance{kind:Int}{id:Int}{gen:UInt64}{body:Sl UInt8}[q0:aT w0 L body]:aT w0 L (fo.mk kind id gen body):=⟨fun w hw=>q0.h w hw⟩
def pz:fo:=⟨0,0,0,⟨Sv.none,[]⟩⟩
structure dE where
 gen:UInt64
 at_:Sl Int
def eW(x:dE):Array Value:= #[.int .u64 x.gen.toNat,x.at_.sv.val]
instance:bu eW 2:=⟨fun _=>rfl,fun x=>by
 simp only[eW,auU,au2,avi,Sv.one,vS,vT,auN]⟩
instance (x:dE):gk (eW x) 2:=⟨rfl,bu.one x⟩
instance (x:dE):cg (eW x) 0 (.int .u64 x.gen.toNat):=⟨rfl⟩
instance (x:dE):cg (eW x) 1 (x.at_.sv.val):=⟨rfl⟩
instance:Deep dE where
 c:=2
 cells:=eW
 size:=bu.size
 one:=bu.one
 cM h x:=Deep.cM h x.at_
 ck x:=Deep.ck x.at_
 ki h x hs:=Deep.ki h x.at_ hs
 mono w w' x hg hb:=Deep.mono w w' x.at_ hg hb
instance{x:dE}[q:aT w0 L x]:aT w0 L x.at_:=⟨fun w hw=>(q.h w hw)⟩
instance{gen:UInt64}{at_:Sl Int}[q0:aT w0 L at_]:aT w0 L (dE.mk gen at_):=⟨fun w hw=>q0.h w hw⟩
def mq:dE:=⟨0,⟨Sv.none,[]⟩⟩
structure aB where
 live:Int
 used:Int
 aR:Int
 bad:Bool
 deriving DecidableEq
def bH(x:aB):Array Value:= #[.int .i64 x.live, .int .i64 x.used, .int .i64 x.aR, .bool x.bad]
instance:bu bH 4:=⟨fun _=>rfl,fun x=>by
 simp only[bH,auU,au2,avi,Sv.one,vS,vT,auN]⟩
instance (x:aB):gk (bH x) 4:=⟨rfl,bu.one x⟩
instance (x:aB):cg (bH x) 0 (.int .i64 x.live):=⟨rfl⟩
instance (x:aB):cg (bH x) 1 (.int .i64 x.used):=⟨rfl⟩
instance (x:aB):cg (bH x) 2 (.int .i64 x.aR):=⟨rfl⟩
instance (x:aB):cg (bH x) 3 (.bool x.bad):=⟨rfl⟩
def ei:aB:=⟨0,0,0,false⟩
structure cn where
 ae:Cp
 at_:Sl Int
 gen:UInt64
 last:Int
def cr(x:cn):Array Value:= #[.int .i64 x.ae.pages, .int .i64 x.ae.size,x.ae.blocks.sv.val, .int .i64 x.ae.ops, .bool x.ae.off,x.ae.aV.sv.val,x.at_.sv.val, .int .u64 x.gen.toNat, .int .i64 x.last]
instance:bu cr 9:=⟨fun _=>rfl,fun x=>by
 simp only[cr,auU,au2,avi,Sv.one,vS,vT,auN]⟩
instance (x:cn):gk (cr x) 9:=⟨rfl,bu.one x⟩
instance (x:cn):cg (cr x) 0 (.int .i64 x.ae.pages):=⟨rfl⟩
instance (x:cn):cg (cr x) 1 (.int .i64 x.ae.size):=⟨rfl⟩
instance (x:cn):cg (cr x) 2 (x.ae.blocks.sv.val):=⟨rfl⟩
instance (x:cn):cg (cr x) 4 (.bool x.ae.off):=⟨rfl⟩
instance (x:cn):cg (cr x) 6 (x.at_.sv.val):=⟨rfl⟩
instance (x:cn):cg (cr x) 7 (.int .u64 x.gen.toNat):=⟨rfl⟩
instance (x:cn):cg (cr x) 8 (.int .i64 x.last):=⟨rfl⟩
instance (x:cn):nT (cr x) 0 6 (aS x.ae):=⟨rfl,fun j hj=>by
 match j,hj with
 |0,_=>rfl
 |1,_=>rfl
 |2,_=>rfl
 |3,_=>rfl
 |4,_=>rfl
 |5,_=>rfl⟩
instance:Deep cn where
 c:=9
 cells:=cr
 size:=bu.size
 one:=bu.one
 cM h x:=Deep.cM h x.ae/\Deep.cM h x.at_
 ck x:= .two (Deep.ck x.ae) (Deep.ck x.at_)
 ki h x hs:=⟨Deep.ki h x.ae hs.1,Deep.ki h x.at_ hs.2.1⟩
 mono w w' x hg hb:=⟨Deep.mono w w' x.ae hg.1 hb,Deep.mono w w' x.at_ hg.2 hb⟩
instance:gu cn where
 reach x k:=gu.reach x.ae k\/gu.reach x.at_ k
 congr h h' x e hg:=⟨gu.congr h h' x.ae (fun k hk=>e k (.inl hk)) hg.1,gu.congr h h' x.at_ (fun k hk=>e k (.inr hk)) hg.2⟩
instance{x:cn}[q:aT w0 L x]:aT w0 L x.ae:=⟨fun w hw=>(q.h w hw).1⟩
instance{x:cn}[q:aT w0 L x]:aT w0 L x.at_:=⟨fun w hw=>(q.h w hw).2⟩
instance{ae:Cp}{at_:Sl Int}{gen:UInt64}{last:Int}[q0:aT w0 L ae][q1:aT w0 L at_]:aT w0 L (cn.mk ae at_ gen last):=⟨fun w hw=>⟨q0.h w hw,q1.h w hw⟩⟩
def mr:cn:=⟨hO,⟨Sv.none,[]⟩,0,0⟩
structure aP where
 ar:cn
 beyond:Bool
def aO(x:aP):Array Value:= #[.int .i64 x.ar.ae.pages, .int .i64 x.ar.ae.size,x.ar.ae.blocks.sv.val, .int .i64 x.ar.ae.ops, .bool x.ar.ae.off,x.ar.ae.aV.sv.val,x.ar.at_.sv.val, .int .u64 x.ar.gen.toNat, .int .i64 x.ar.last, .bool x.beyond]
instance (x:aP):cg (aO x) 0 (.int .i64 x.ar.ae.pages):=⟨rfl⟩
instance (x:aP):cg (aO x) 1 (.int .i64 x.ar.ae.size):=⟨rfl⟩
instance (x:aP):cg (aO x) 2 (x.ar.ae.blocks.sv.val):=⟨rfl⟩
instance (x:aP):cg (aO x) 6 (x.ar.at_.sv.val):=⟨rfl⟩
instance (x:aP):cg (aO x) 7 (.int .u64 x.ar.gen.toNat):=⟨rfl⟩
instance (x:aP):cg (aO x) 8 (.int .i64 x.ar.last):=⟨rfl⟩
instance (x:aP):cg (aO x) 9 (.bool x.beyond):=⟨rfl⟩
instance (x:aP):nT (aO x) 0 9 (cr x.ar):=⟨rfl,fun j hj=>by
 match j,hj with
 |0,_=>rfl
 |1,_=>rfl
 |2,_=>rfl
 |3,_=>rfl
 |4,_=>rfl
 |5,_=>rfl
 |6,_=>rfl
 |7,_=>rfl
 |8,_=>rfl⟩
instance (x:aP):nT (aO x) 0 6 (aS x.ar.ae):=⟨rfl,fun j hj=>by
 match j,hj with
 |0,_=>rfl
 |1,_=>rfl
 |2,_=>rfl
 |3,_=>rfl
 |4,_=>rfl
 |5,_=>rfl⟩
structure jF where
 w:aB
 pages:Int
 deriving DecidableEq
def fP(x:jF):Array Value:= #[.int .i64 x.w.live, .int .i64 x.w.used, .int .i64 x.w.aR, .bool x.w.bad, .int .i64 x.pages]
instance:bu fP 5:=⟨fun _=>rfl,fun x=>by
 simp only[fP,auU,au2,avi,Sv.one,vS,vT,auN]⟩
instance (x:jF):gk (fP x) 5:=⟨rfl,bu.one x⟩
instance (x:jF):cg (fP x) 0 (.int .i64 x.w.live):=⟨rfl⟩
instance (x:jF):cg (fP x) 1 (.int .i64 x.w.used):=⟨rfl⟩
instance (x:jF):cg (fP x) 2 (.int .i64 x.w.aR):=⟨rfl⟩
instance (x:jF):cg (fP x) 3 (.bool x.w.bad):=⟨rfl⟩
instance (x:jF):cg (fP x) 4 (.int .i64 x.pages):=⟨rfl⟩
def abN:jF:=⟨ei,0⟩
end Go.Kb
namespace Go.ax
open Go.Kb
section
variable {P:Program} {N:cc} {w0:World} {env:Env} {L:List aj} {d:Option Tmp} {ty:TypeId} {ps:String} {af:Array Edge} {gd:Option (Nat×Bool)}
theorem abO{p:Nat}(h:p<2^32):4294967295^^^p=4294967295 -p:=by
 have e:(BitVec.allOnes 32^^^BitVec.ofNat 32 p).toNat=(~~~(BitVec.ofNat 32 p)).toNat:=by rw[BitVec.allOnes_xor]
 rw[BitVec.toNat_xor,BitVec.toNat_not,BitVec.toNat_allOnes,auQ,atN h]at e;simpa using e
theorem RN{x:Operand}{a:Int}{p:Nat}{t:TypeId}(hx:ev env x=some (.int .u32 a))(ea:a=(p:Int))(hp:p<2^32):
  Ry P N w0 env L ⟨d, .unOp .xor t x,ty,ps,af,gd⟩ (.int .u32 ((4294967295 -p:Nat):Int)):=fun a w ha _=>by
 subst ea;have h1:(Op.intBits .xor .u32 4294967295 (p:Int)).run P w= .ok (.int .u32 ((4294967295 -p:Nat):Int)) w:=by
  have e2:(BitVec.ofInt 32 4294967295^^^BitVec.ofInt 32 (p:Int)).toNat=4294967295 -p:=by
   rw[AD,BitVec.toNat_xor,auQ,atN hp,←abO hp];rfl
  show Sem.run P (pure (Value.int .u32 (IntKind.u32.wrap ((BitVec.ofInt 32 4294967295^^^BitVec.ofInt 32 (p:Int)).toNat:Int)))) w=_;rw[e2,qG (k:= .u32) (by show 4294967295 -p<4294967296;omega)];rfl
 have h2:Op.unary .xor (.int .u32 (p:Int))=Op.intBits .xor .u32 4294967295 (p:Int):=rfl;simp only[execOp,ha.ev hx,h2,Sem.run_bind,h1,Sem.run_pure,Result.andThen]
theorem abP{x y:Operand}{p:Nat}{a:Int}{k':IntKind}{t u:TypeId}(hx:ev env x=some (.int .u64 a))(hy:ev env y=some (.int k' 8))(ea:a=(p:Int))(hp:p*256<2^64):
  Ry P N w0 env L ⟨d, .binOp .shl t x y u,ty,ps,af,gd⟩ (.int .u64 ((p*256:Nat):Int)):=by
 subst ea;have h:=Fq (P:=P) (N:=N) (w0:=w0) (L:=L) (d:=d) (ty:=ty) (ps:=ps) (af:=af) (gd:=gd) (t:=t) (u:=u) hx hy (by decide);have e:IntKind.u64.wrap ((p:Int)*2^min (Int.toNat 8) IntKind.u64.bits)=((p*256:Nat):Int):=by
  have e1:(p:Int)*2^min (Int.toNat 8) IntKind.u64.bits=((p*256:Nat):Int):=by
   rw[show(2:Int)^min (Int.toNat 8) IntKind.u64.bits=256 from by decide];omega
  rw[e1];exact qG hp
 rw[e]at h;exact h
theorem abQ{n many i:Nat}(h:i<many):(List.replicate (many -i) (0:UInt8)++be n i).set (many -1 -i) (b8 (n/256^i))=List.replicate (many -(i+1)) 0++be n (i+1):=by
 rw[List.set_append_left _ _ (by simp;omega)];have e:List.replicate (many -i) (0:UInt8)=List.replicate (many -(i+1)) 0++[0]:=by
  rw[show many -i=many -(i+1)+1 by omega,List.replicate_succ',]
 rw[e,auW _ _ (by simp;omega)];simp only[atT,show many -1 -i -(many -(i+1))=0 by omega,auq,ate];rfl
end
end Go.ax
namespace Go.Kb
open Go.ax
def cW(n:Int):UInt8:=b8 (n%256).toNat
theorem abR(n:Nat):cW (n:Int)=b8 n:=by
 unfold cW;rw[show((n:Int)%256).toNat=n%256 by omega,Yt]
theorem Bh(n:Int):IntKind.u8.wrap n=((cW n).toNat:Int):=by
 unfold cW;rw[sP];simp[IntKind.wrap,IntKind.bits,IntKind.signed];omega
def fq(r:Rt):List UInt8:=
 [if r.p.bits=128 then 1 else 0,cW r.p.len]++(List.range 16).map (fun i=>b8 (aY r.p.key i))++[b8 (r.bV.toNat/256),b8 r.bV.toNat]
theorem q8(r:Rt):(fq r).length=20:=by simp[fq]
theorem RO(r:Rt):(fq r)[0]? =some (if r.p.bits=128 then 1 else 0):=by simp[fq]
theorem RP(r:Rt):(fq r)[1]? =some (cW r.p.len):=by simp[fq]
theorem RQ(r:Rt)(i:Nat)(h:i<16):(fq r)[2+i]? =some (b8 (aY r.p.key i)):=by
 unfold fq;rw[ate,ata (by simp),atb (by simp;omega)];simp[h]
theorem RR(r:Rt):(fq r)[18]? =some (b8 (r.bV.toNat/256)):=by simp[fq]
theorem RS(r:Rt):(fq r)[19]? =some (b8 r.bV.toNat):=by simp[fq]
theorem RT(r:Rt){Bi:Array Value}(h0:Bi.size=20)(hz:Bi[0]? =some (.int .u8 (if r.p.bits=128 then 1 else 0:Nat))):
  (((over (Bi.setIfInBounds 1 (.int .u8 (cW r.p.len).toNat)) 2 (bI r.p.key)).setIfInBounds 18 (.int .u8 (b8 (r.bV.toNat/256)).toNat)).setIfInBounds 19 (.int .u8 (b8 r.bV.toNat).toNat))=(aK aQ (fq r)).toArray:=by
 have hs:(over (Bi.setIfInBounds 1 (.int .u8 (cW r.p.len).toNat)) 2 (bI r.p.key)).size=20:=by rw[oX (by simp[gq,h0])];simpa using h0
 refine auF fun j=>?_;have hf: ∀b,(fq r)[j]? =some b->(aK aQ (fq r)).toArray[j]? =some (.int .u8 b.toNat):=fun b hb=>by
  have:=oY (enc:=aQ) (fq r) j b hb 0 (by decide);simp only[auL,atZ]at this;simpa[aQ]using this
 have hk:2+(bI r.p.key).size<=(Bi.setIfInBounds 1 (.int .u8 (cW r.p.len).toNat)).size:=by simp[gq,h0]
 rw[atX,atX]
 by_cases RU:19=j
 ·
  subst RU;rw[hf _ (RS r)];simp[hs]
 by_cases Dw:18=j
 ·
  subst Dw;rw[hf _ (RR r)];simp[hs]
 rw[if_neg RU,if_neg Dw,vz hk,gq]
 by_cases h2:2<=j/\j<2+16
 ·
  rw[if_pos h2,jQ _ _ (by omega)];have:=RQ r (j -2) (by omega);rw[show 2+(j -2)=j by omega]at this;rw[hf _ this,sP];have:=gp r.p.key (j -2);rw[atN this]
 rw[if_neg h2,atX]
 by_cases h1:1=j
 ·
  subst h1;rw[hf _ (RP r)];simp[h0]
 rw[if_neg h1]
 by_cases hj:j=0
 ·
  subst hj;rw[hz,hf _ (RO r)];split<;>rfl
 ·
  have e1:Bi[j]? =none:=by simp;omega
  rw[e1];have:(aK aQ (fq r)).length=20:=by rw[iK,q8]
  simp;omega
structure PV where
 kind:Int
 id:Int
 gen:Nat
 body:List UInt8
 deriving DecidableEq
def km:PV:=⟨0,0,0,[]⟩
def cR(p:fo):PV:=⟨p.kind,p.id,p.gen.toNat,p.body.xs⟩
def ot(n:Int):Bool:=decide (24<=n)&&decide (n<=256)
theorem te{n:Int}:ot n=true↔24<=n/\n<=256:=by simp only[ot,anc,decide_eq_true_eq]
def dU(n:Int):Int:=if ot n=true then n -16 else 0
def mu(p:PV)(n:Int):Bool:=ot n&&(decide (p.kind=1)||decide (p.kind=2))&&decide (0<=p.id)&&decide (p.id<64)&&decide (p.gen<281474976710656)&&decide ((p.body.length:Int)<=dU n)
theorem rZ{p:PV}{n:Int}:mu p n=true↔ot n=true/\(p.kind=1\/p.kind=2)/\0<=p.id/\p.id<64/\p.gen<281474976710656/\(p.body.length:Int)<=dU n:=by
 simp only[mu,anc,aui,decide_eq_true_eq,and_assoc]
def ko(b:List UInt8):Bool:=b.all fun x=>decide (x=255)
theorem Dx{b:List UInt8}:ko b=true↔ ∀x∈b,x=255:=by simp only[ko,atk,decide_eq_true_eq]
def jT(p:PV)(n:Nat):List UInt8:=[cW p.kind,cW p.id]++be p.gen 6++be p.body.length 2++p.body++List.replicate (n -4 -10 -p.body.length) 0
def dn(p:PV)(n:Int):List UInt8×Int:=if mu p n=true then(jT p n.toNat++be (po (jT p n.toNat)) 4,0)else([],1)
def vV(b:List UInt8):PV:=⟨(b.getD 0 0).toNat,(b.getD 1 0).toNat,de ((b.drop 2).take (8 -2)),[]⟩
def iG(b:List UInt8):Nat:=de ((b.drop 8).take (10 -8))
def mv(b:List UInt8):List UInt8:=(b.drop 0).take (b.length -4 -0)
def zx(b:List UInt8):List UInt8:=(b.drop (b.length -4)).take (b.length -(b.length -4))
def ou(b:List UInt8):List UInt8:=((mv b).drop (10+iG b)).take ((mv b).length -(10+iG b))
def xJ(b:List UInt8):Bool:=b.all fun x=>decide (x=0)
theorem K6{b:List UInt8}:xJ b=true↔ ∀x∈b,x=0:=by simp only[xJ,atk,decide_eq_true_eq]
def pA(b:List UInt8):Bool:=decide ((iG b:Int)<=dU b.length)&&mu (vV b) b.length
def cE(b:List UInt8):PV×Int:=
 if ot b.length=false then(km,3)
 else if ko b=true then(km,0)
 else if de (zx b)≠po (mv b)then(km,4)
 else if pA b=false then(km,2)
 else if xJ (ou b)=false then(km,2)
 else({vV b with body:=(b.drop 10).take (10+iG b -10)},0)
theorem RW(b:List UInt8):iG b<65536:=by
 have h:=QR ((b.drop 8).take (10 -8));have h2:((b.drop 8).take (10 -8)).length<=2:=by rw[as6];omega
 have h3:=auc (show 0<256 by decide) h2;rw[iG];omega
theorem K7(b:List UInt8):de ((b.drop 2).take (8 -2))<281474976710656:=by
 have h:=QR ((b.drop 2).take (8 -2));have h2:((b.drop 2).take (8 -2)).length<=6:=by rw[as6];omega
 have h3:=auc (show 0<256 by decide) h2;omega
def vW(b:List UInt8):fo:=⟨(b.getD 0 0).toNat,(b.getD 1 0).toNat,UInt64.ofNat (de ((b.drop 2).take (8 -2))),⟨Sv.none,[]⟩⟩
theorem RX(b:List UInt8):(UInt64.ofNat (de ((b.drop 2).take (8 -2)))).toNat=de ((b.drop 2).take (8 -2)):=by
 have:=K7 b;rw[UInt64.toNat_ofNat'];omega
theorem RY(b:List UInt8)(s:Sv)(l:List UInt8):cR {vW b with body:=⟨s,l⟩}={vV b with body:=l}:=by
 simp only[cR,vW,RX];rfl
theorem K8(b:List UInt8):cR (vW b)=vV b:=RY b Sv.none []
theorem abS(b:List UInt8):(mv b).length=b.length -4:=by rw[mv,as6,as9];omega
theorem abT{M:Nat}{k d:UInt8}(h:2<=M):((List.replicate M (0:UInt8)).set 0 k).set 1 d=[k,d]++List.replicate (M -2) 0:=by
 obtain⟨m,rfl⟩: ∃m,M=m+2:=⟨M -2,by omega⟩;simp[avV]
theorem K9{A Y:List UInt8}{k N:Nat}(hk:k=A.length):(A++List.replicate N 0).take k++(Y++(A++List.replicate N 0).drop (k+Y.length))=A++Y++List.replicate (N -Y.length) 0:=by
 subst hk;rw[List.take_left',List.drop_append,avZ (by omega),aus,List.drop_replicate,atQ,ate];rfl
theorem abU{p:PV}{n:Nat}(h:p.body.length+14<=n):(jT p n).length=n -4:=by
 simp only[jT,af0,jP,atT,asZ,as0];omega
theorem La(b:List UInt8):(cE b).1.body.length<=65536:=by
 have h:=RW b;rw[cE];split
 ·
  simp[km]
 split
 ·
  simp[km]
 split
 ·
  simp[km]
 split
 ·
  simp[km]
 split
 ·
  simp[km]
 simp only[as6];omega
structure RV where
 gen:Nat
 at_:List Int
 deriving DecidableEq
def iw:RV:=⟨0,[]⟩
def dH(r:dE):RV:=⟨r.gen.toNat,r.at_.xs⟩
def kI(n:Int):Int:=min 64 (dU n/2)
def zy(x:Int):Bool:=decide (0<=x)&&decide (x<=65535)
theorem Dy{x:Int}:zy x=true↔0<=x/\x<=65535:=by simp only[zy,anc,decide_eq_true_eq]
def pB(r:RV)(n:Int):Bool:= !decide (dU n=0)&&decide (r.gen<281474976710656)&&decide ((r.at_.length:Int)<=kI n)&&r.at_.all zy
theorem xK{r:RV}{n:Int}:pB r n=true↔dU n≠0/\r.gen<281474976710656/\(r.at_.length:Int)<=kI n/\ ∀x∈r.at_,zy x=true:=by
 simp only[pB,anc,at0,decide_eq_true_eq,decide_eq_false_iff_not,and_assoc,atk,ne_eq]
def r8(b:List UInt8)(i:Nat):Int:=((uk (b.getD (2*i) 0) (b.getD (2*i+1) 0)).toNat:Int)
def qj(b:List UInt8):List Int:=(List.range (b.length/2)).map (r8 b)
def vX(p:PV):Bool:=decide (p.kind=2)&&decide (p.body.length%2=0)&&decide (p.id=max 0 ((p.body.length/2:Nat) -1:Int))
def bF(b:List UInt8):RV×Int:=
 if(cE b).2≠0 then(iw,(cE b).2)
 else if(cE b).1.kind=0 then(iw,6)
 else if vX (cE b).1=false then(iw,2)
 else(⟨(cE b).1.gen,qj (cE b).1.body⟩,0)
def G4(x:Int):List UInt8:=[cW (x/256),cW x]
def hQ(l:List Int):List UInt8:=(l.map G4).flatten
def cZ(r:RV)(n:Int):List UInt8×Int:=if pB r n=true then dn ⟨2,max 0 ((r.at_.length:Int) -1),r.gen,hQ r.at_⟩ n else([],1)
theorem abV{b:List UInt8}{i:Nat}(h:i<b.length/2):(qj b).take (i+1)=(qj b).take i++[r8 b i]:=by
 rw[atf,qj,atg,aun h];rfl
theorem G5(b:List UInt8):(qj b).length=b.length/2:=by simp[qj]
theorem abW{l:List Int}{i:Nat}{x:Int}(h:l[i]? =some x):hQ (l.take (i+1))=hQ (l.take i)++G4 x:=by
 simp[hQ,atf,h]
theorem Bj(l:List Int):(hQ l).length=2*l.length:=by
 induction l with
 |nil=>rfl
 |cons x l ih=>
  have:hQ (x::l)=G4 x++hQ l:=by simp[hQ]
  rw[this,af0,ih];simp only[G4,asZ,as0];omega
structure NS where
 at_:Int
 new:RV
 found:Bool
 blank:Bool
 deriving DecidableEq
def zA(s:NS)(i:Nat)(b:List UInt8):NS:=
 if(bF b).2=0/\(s.found=false\/s.new.gen<=(bF b).1.gen)then⟨i,(bF b).1,true,s.blank&&ko b⟩else{s with blank:=s.blank&&ko b}
def dw(l:List (List UInt8)):Nat->NS
 |0=>⟨0,iw,false,true⟩
 |k+1=>zA (dw l k) k (l.getD k [])
def gw(l:List (List UInt8)):Int×RV×Int:=
 if(dw l l.length).found=true then((dw l l.length).at_,(dw l l.length).new,0)else if(dw l l.length).blank=true then(0,iw,6)else(0,iw,2)
theorem RZ{l:List (List UInt8)}{i:Nat}{b:List UInt8}(hb:l[i]? =some b)(h:(bF b).2=0/\((dw l i).found=false\/(dw l i).new.gen<=(bF b).1.gen)):dw l (i+1)=⟨i,(bF b).1,true,(dw l i).blank&&ko b⟩:=by
 rw[dw,show l.getD i []=b by simp[List.getD,hb],zA,if_pos h]
theorem R0{l:List (List UInt8)}{i:Nat}{b:List UInt8}(hb:l[i]? =some b)(h: ¬((bF b).2=0/\((dw l i).found=false\/(dw l i).new.gen<=(bF b).1.gen))):dw l (i+1)={dw l i with blank:=(dw l i).blank&&ko b}:=by
 rw[dw,show l.getD i []=b by simp[List.getD,hb],zA,if_neg h]
structure VV where
 ae:CV
 at_:List Int
 gen:Nat
 last:Int
 deriving DecidableEq
def zCV:CV:=⟨0,0,[],0,false,[]⟩
def lN:VV:=⟨zCV,[],0,0⟩
def vv(v:cn):VV:=⟨cv v.ae,v.at_.xs,v.gen.toNat,v.last⟩
def gy(c:CV):Bool:=bb c&&decide (4<=(c.blocks.length:Int))&&decide (2<=c.pages)&&decide (24<=c.size)
theorem fX{c:CV}:gy c=true↔bb c=true/\4<=(c.blocks.length:Int)/\2<=c.pages/\24<=c.size:=by simp only[gy,anc,decide_eq_true_eq,and_assoc]
def bK(c:CV)(k:Int):List UInt8:=(ak c (k/c.pages)).pages.getD (k%c.pages).toNat []
def lf(c:CV)(k:Int):Bool:=decide (2<=k/c.pages)&&decide (k/c.pages<(c.blocks.length:Int))&&decide (k%c.pages<(ak c (k/c.pages)).used)
theorem mR{c:CV}{k:Int}:lf c k=true↔2<=k/c.pages/\k/c.pages<(c.blocks.length:Int)/\k%c.pages<(ak c (k/c.pages)).used:=by simp only[lf,anc,decide_eq_true_eq,and_assoc]
def G6(p:PV×Int)(id:Int):Bool:=decide (p.2=0)&&decide (p.1.kind=1)&&decide (p.1.id=id)
def ov(c:CV)(id n:Int):Bool:=lf c (n -1)&&G6 (cE (bK c (n -1))) id
theorem abX(c:CV):{Ds c c.aV with off:=c.off}=c:=by
 rw[Ds];split<;>rfl
def r9(c:CV)(l:List Int)(i:Nat):Bool:=decide (l.getD i 0=0)||(!(l.take i).contains (l.getD i 0)&&ov c (i:Int) (l.getD i 0))
def vY(c:CV)(l:List Int):Bool:=(List.range l.length).all (r9 c l)
theorem Dz{c:CV}{l:List Int}:vY c l=true↔ ∀i,i<l.length->r9 c l i=true:=by simp only[vY,atk,aty]
def kJ(l:List Int)(i:Nat):Int->Option Unit:=fun x=>if x≠0/\x∈l.take i then some ()else none
theorem DA{l:List Int}{i:Nat}{x:Int}:(kJ l i x).isSome=decide (x≠0/\x∈l.take i):=by
 unfold kJ;split<;>simp_all
theorem R5{l:List Int}:(fun _=>none)=kJ l 0:=by
 funext x;simp[kJ]
theorem R6{l:List Int}{i:Nat}(h:l[i]? =some 0):kJ l (i+1)=kJ l i:=by
 funext x
 unfold kJ;rw[atf,h]
 by_cases hx:x=0
 ·
  simp[hx]
 simp[hx]
theorem R7{l:List Int}{i:Nat}{y:Int}(h:l[i]? =some y)(hy:y≠0):(fun z=>if z=y then some ()else kJ l i z)=kJ l (i+1):=by
 funext x
 unfold kJ;rw[atf,h]
 by_cases hx:x=y
 ·
  subst hx;simp[hy]
 simp[hx]
theorem qk{l:List Int}{i:Nat}{y:Int}(h:l[i]? =some y):l.getD i 0=y:=by simp[List.getD,h]
def fQ(l:List (Sl (Sl UInt8))):List (Sl UInt8):=(l.map Sl.xs).flatten
theorem G7{l:List (Sl (Sl UInt8))}{i:Nat}{x:Sl (Sl UInt8)}(h:l[i]? =some x):fQ (l.take (i+1))=fQ (l.take i)++x.xs:=by
 rw[fQ,atf,h];simp[fQ]
theorem abY(l:List (Sl (Sl UInt8)))(i:Nat):(fQ (l.take i)).length<=(fQ l).length:=by
 have e:fQ l=fQ (l.take i)++fQ (l.drop i):=by
  unfold fQ;rw[←List.flatten_append,←atE,atz]
 rw[e,af0];omega
class R8(w0:World)(l:List (Sl UInt8)):Prop where
 h: ∀y∈l,Deep.cM (hp w0) y
variable {w0:World}{L:List aj}
instance aT.row{x:Sv}{l:List (Sl UInt8)}{i:Nat}[q:fI L x (cd (τ:=UInt8)) 1 l i][m:R8 w0 l]:aT w0 L (⟨x,l⟩:Sl (Sl UInt8)):=
 ⟨fun w hw=>⟨(hw.get q.h).1,fun y hy=>Deep.mono w0 w y (m.h y hy) hw.below⟩⟩
def bP(c:CV):Int×RV×Int:=gw ((ak c 0).pages++(ak c 1).pages)
def mS(c:CV):Bool:=decide ((bP c).1%c.pages<(ak c ((bP c).1/c.pages)).used)&&vY c (bP c).2.1.at_
def bG(c:CV):VV×Int:=
 if gy c=false then(lN,1)
 else if c.off=true then(lN,7)
 else if(bP c).2.2≠0 then(lN,(bP c).2.2)
 else if mS c=false then(lN,2)
 else(⟨c,(bP c).2.1.at_,(bP c).2.1.gen,(bP c).1/c.pages⟩,0)
theorem R9(l:List (List UInt8)): ∀k,k<=l.length->(dw l k).at_=0\/(0<=(dw l k).at_/\(dw l k).at_<k)
 |0,_=> .inl rfl
 |k+1,h=>by
  have:=R9 l k (by omega);rw[dw,zA];split
  ·
   exact .inr ⟨by simp only;omega,by simp only;omega⟩
  simp only;omega
theorem Lb{l:List (List UInt8)}(h:0<l.length):0<=(gw l).1/\(gw l).1<l.length:=by
 have:=R9 l l.length (as4 _);rw[gw];split
 ·
  simp only;omega
 split<;>(simp only;omega)
theorem abZ(b:List UInt8): ∀x∈qj b,0<=x/\x<=65535:=by
 intro x hx;obtain⟨i,_,rfl⟩:=at7.1 hx;have:=(uk (b.getD (2*i) 0) (b.getD (2*i+1) 0)).toNat_lt;simp only[r8];omega
theorem ab0(b:List UInt8): ∀x∈(bF b).1.at_,0<=x/\x<=65535:=by
 rw[bF];split
 ·
  simp[iw]
 split
 ·
  simp[iw]
 split
 ·
  simp[iw]
 exact abZ _
theorem Sa(l:List (List UInt8)): ∀k,∀x∈(dw l k).new.at_,0<=x/\x<=65535
 |0=>by simp[dw,iw]
 |k+1=>by
  have:=Sa l k;rw[dw,zA];split
  ·
   exact ab0 _
  exact this
theorem Sb(l:List (List UInt8)): ∀x∈(gw l).2.1.at_,0<=x/\x<=65535:=by
 rw[gw];split
 ·
  exact Sa _ _
 split<;>simp[iw]
theorem Lc(a b:Sl (Sl UInt8)):aM (fQ [a,b])=aM a.xs++aM b.xs:=by simp[aM,fQ]
theorem Ld{c:Cp}{i:Nat}{B:Bk}(h:c.blocks.xs[i]? =some B):ak (cv c) (i:Int)=bv B:=by
 rw[←zw];simp[List.getD,h]
theorem ab1(b:List UInt8):(bF b).1.at_.length<=65536:=by
 have h:=La b;rw[bF];split
 ·
  simp[iw]
 split
 ·
  simp[iw]
 split
 ·
  simp[iw]
 simp only[G5];omega
theorem Sc(l:List (List UInt8)): ∀k,(dw l k).new.at_.length<=65536
 |0=>by simp[dw,iw]
 |k+1=>by
  have:=Sc l k;rw[dw,zA];split
  ·
   exact ab1 _
  exact this
theorem ab2(l:List (List UInt8)):(gw l).2.1.at_.length<=65536:=by
 rw[gw];split
 ·
  exact Sc _ _
 split<;>simp[iw]
theorem Sd(c:CV):(bG c).1.at_.length<=65536:=by
 have h:=ab2 ((ak c 0).pages++(ak c 1).pages);rw[bG];split
 ·
  simp[lN]
 split
 ·
  simp[lN]
 split
 ·
  simp[lN]
 split
 ·
  simp[lN]
 exact h
theorem Le{c:CV}(h:(bG c).2=0):gy c=true:=by
 cases hb:gy c with
 |true=>rfl
 |false=>rw[bG,if_pos hb]at h;cases h
def mw(x:VV):Bool:=decide ((bG {x.ae with off:=false}).2=0)&&decide ((bG {x.ae with off:=false}).1.gen=x.gen)&&decide ((bG {x.ae with off:=false}).1.last=x.last)&&decide ((bG {x.ae with off:=false}).1.at_=x.at_)
theorem ab3{w0 w:World}{L:List aj}(h:Mem w0 L w):Mem w0 (fz hO::L) w:=
 GR (d:=hO) (Mem.freeze (es:=[]) _ ⟨dJ.nil _ _ _,fun x hx=>by cases hx⟩ (fun k hk=>by
  rcases hk with⟨bM,_⟩|⟨x,hx,_⟩
  ·
   exact absurd rfl bM
  cases hx) (RI (s:=Sv.none) Sv.CT rfl h))
class Se(a:Cp)(b:outParam Cp):Prop where
 h:a=b
instance aT.aoR{v:cn}{c:Cp}[e:Se v.ae c][q1:aT w0 L c][q2:aT w0 L v.at_]:aT w0 L v:=
 ⟨fun w hw=>⟨by rw[e.h];exact q1.h w hw,q2.h w hw⟩⟩
def jm(c:CV)(n:Int):List UInt8:=if(cE (bK c (n -1))).2=0 then(cE (bK c (n -1))).1.body else[]
theorem Lf{c:CV}(h:(bG c).2=0):gy c=true/\mS c=true/\bG c=(⟨c,(bP c).2.1.at_,(bP c).2.1.gen,(bP c).1/c.pages⟩,0):=by
 have hb:=Le h
 by_cases h1:c.off=true
 ·
  rw[bG,if_neg (by rw[hb];simp),if_pos h1]at h;cases h
 by_cases h2:(bP c).2.2≠0
 ·
  rw[bG,if_neg (by rw[hb];simp),if_neg h1,if_pos h2]at h;exact absurd h h2
 cases h3:mS c with
 |false=>rw[bG,if_neg (by rw[hb];simp),if_neg h1,if_neg h2,if_pos h3]at h;cases h
 |true=>exact⟨hb,rfl,by rw[bG,if_neg (by rw[hb];simp),if_neg h1,if_neg h2,if_neg (by rw[h3];simp)]⟩
theorem DB{x:VV}(h:mw x=true):bb x.ae=true/\vY x.ae x.at_=true/\ ∀y∈x.at_,0<=y/\y<=65535:=by
 simp only[mw,anc,decide_eq_true_eq]at h;obtain⟨⟨⟨h1,h2⟩,h3⟩,h4⟩:=h;obtain⟨hb,hl,hf⟩:=Lf h1;rw[hf]at h4;simp only at h4;simp only[mS,anc,decide_eq_true_eq]at hl;rw[h4]at hl;refine⟨(fX.1 hb).1,hl.2,?_⟩;rw[←h4];exact Sb _
theorem Sg{x:VV}(h:mw x=true){i:Nat}{y:Int}(hy:x.at_[i]? =some y)(h0:y≠0):1<=y/\y<=1000000/\lf x.ae (y -1)=true:=by
 obtain⟨h1,h2,h3⟩:=DB h;have hr:=h3 y (alM hy);have hp:=Dz.1 h2 i (ad2.1 hy).1;rw[r9,qk hy]at hp;simp only[aui,decide_eq_true_eq,anc]at hp;rcases hp with hp|hp
 ·
  exact absurd hp h0
 have hn:=hp.2;rw[ov,anc]at hn;exact⟨by omega,by omega,hn.1⟩
def nI(l:List Int)(j:Nat):Bool:=decide (l.getD j 0≠0)&& !(l.take j).contains (l.getD j 0)
def kr(pages:Int)(l:List Int)(k i:Nat):Nat:=((List.range k).filter fun j=>nI l j&&decide ((l.getD j 0 -1)/pages=(i:Int)+2)).length
def uE(b:BV)(live:Nat):aB:=⟨live,b.used,b.aR,b.bad⟩
def kt(c:CV)(l:List Int)(k:Nat):List aB:=(List.range (c.blocks.length -2)).map fun i:Nat=>uE (ak c ((i:Int)+2)) (kr c.pages l k i)
def jo(c:CV)(l:List Int):List aB:=kt c l l.length
theorem Bm(c:CV)(l:List Int)(k:Nat):(kt c l k).length=c.blocks.length -2:=by simp[kt]
theorem DC(pages:Int)(l:List Int)(k i:Nat):kr pages l (k+1) i=kr pages l k i+(if nI l k&&decide ((l.getD k 0 -1)/pages=(i:Int)+2)then 1 else 0):=by
 rw[kr,aua,at3,af0,kr];congr 1;simp only[atw,ava];split<;>rfl
theorem ab4{c:CV}{l:List Int}{k:Nat}(h:nI l k=false):kt c l (k+1)=kt c l k:=by
 refine at6 fun i _=>?_;rw[DC,h];simp
theorem ab5{l:List Int}{i:Nat}{y:Int}(h:l[i]? =some y)(hy:y≠0/\y∈l.take i):kJ l (i+1)=kJ l i:=by
 funext x
 unfold kJ;rw[atf,h]
 by_cases hx:x=y
 ·
  subst hx;simp[hy.1,hy.2]
 simp[hx]
theorem ab6{c:CV}{l:List Int}{k i:Nat}{x:aB}(h:nI l k=true)(hi:(l.getD k 0 -1)/c.pages=(i:Int)+2)(hx:(kt c l k)[i]? =some x):kt c l (k+1)=(kt c l k).set i {x with live:=x.live+1}:=by
 have dL:i<c.blocks.length -2:=by have:=(ad2.1 hx).1;rwa [Bm]at this
 have gV:x=uE (ak c ((i:Int)+2)) (kr c.pages l k i):=by
  rw[kt,atg,aun dL]at hx;exact(asY hx).symm
 refine at5 fun j=>?_;rw[atI]
 by_cases hj:i=j
 ·
  subst hj;rw[if_pos rfl,if_pos (by rw[Bm];exact dL),kt,atg,aun dL,atJ,DC,h,hi,gV];simp[uE]
 rw[if_neg hj,kt,kt,atg,atg];rcases as3 j (c.blocks.length -2)with iX|iX
 ·
  rw[aun iX,atJ,atJ,DC,h,hi];simp only[atU];rw[decide_eq_false (by omega)];simp
 rw[as7 (by simpa using iX)];rfl
def ay(l:List (Sl Int)):List Int:=(l.map Sl.xs).flatten
theorem Sh{l:List (Sl Int)}{i:Nat}{x:Sl Int}(h:l[i]? =some x):ay (l.take (i+1))=ay (l.take i)++x.xs:=by
 rw[ay,atf,h];simp[ay]
theorem ab7{l:List (Sl Int)}{i j:Nat}{x:Sl Int}{y:Int}(h:l[i]? =some x)(hy:x.xs[j]? =some y):(ay l)[(ay (l.take i)).length+j]? =some y:=by
 have hj:=(ad2.1 hy).1;have e:ay l=ay (l.take (i+1))++ay (l.drop (i+1)):=by
  unfold ay;rw[←List.flatten_append,←atE,atz]
 rw[e,Sh h,atb (by rw[af0];omega),ata (by omega),aus,hy]
def xL(c:CV)(l:List Int):Prop:=(bb c=true/\l.length<=1000000)/\2<=c.blocks.length/\ ∀n∈l,n=0\/(1<=n/\n<=1000000/\2<=(n -1)/c.pages/\(n -1)/c.pages<(c.blocks.length:Int))
theorem ab8(c:CV)(l:List Int):kt c l 0=(List.range (c.blocks.length -2)).map fun i:Nat=>uE (ak c ((i:Int)+2)) 0:=by
 refine at6 fun i _=>?_;simp[kr]
theorem Sj(pages:Int)(l:List Int)(k i:Nat):kr pages l k i<=k:=by
 rw[kr];exact avq (auX _ _) (by simp)
theorem ab9{c:CV}{l:List Int}{k i:Nat}{z:aB}(h:(kt c l k)[i]? =some z):0<=z.live/\z.live<=k:=by
 rw[kt,atg,au6]at h;obtain⟨j,_,rfl⟩:=h;have:=Sj c.pages l k j;simp only[uE];omega
def zB(a b:Int):Int:=if a<b then -1 else if b<a then 1 else 0
def mT(p:Int)(x:aB):Bool:= !x.bad&&decide (x.used<p)
def my(x:aB):Bool:= !x.bad&&decide (x.live=0)&&decide (0<x.used)
def zC(p:Int)(x:aB):Bool:=if x.bad=true then decide (0<x.live)else decide (x.used=p)&&decide (0<x.live)&&decide (x.live<p)
def Bn(a b:aB):Int:=zB b.used a.used
def tg(a b:aB):Int:=zB a.aR b.aR
def Lg(a b:aB):Int:=zB a.live b.live
def Bp(a b:aB):Int:=if a.bad=b.bad then 0 else if a.bad=true then -1 else 1
def xM(p:Int)(x:aB):Bool:=decide (0<=x.live)&&decide (x.live<=x.used)&&decide (x.used<=p)&&decide (0<=x.aR)&&decide (x.aR<=cV)
theorem sa{p:Int}{x:aB}:xM p x=true↔0<=x.live/\x.live<=x.used/\x.used<=p/\0<=x.aR/\x.aR<=cV:=by
 simp only[xM,anc,decide_eq_true_eq,and_assoc]
def mA(l:List aB)(p:Int):Bool:=decide (1<=(l.length:Int))&&decide ((l.length:Int)<=32)&&decide (1<=p)&&decide (p<=16)&&l.all (xM p)
theorem th{l:List aB}{p:Int}:mA l p=true↔1<=(l.length:Int)/\(l.length:Int)<=32/\1<=p/\p<=16/\ ∀x∈l,xM p x=true:=by
 simp only[mA,anc,decide_eq_true_eq,and_assoc,atk]
def uF(a b:aB):List (aB->aB->Int)->Bool
 |[]=>false
 |o::r=>if o a b≠0 then decide (o a b<0)else uF a b r
def Bq(l:List aB)(eF:aB->Bool)(os:List (aB->aB->Int))(i:Nat)(s:Int×Bool):Int×Bool:=
 if eF (l.getD i ei)=true/\(s.2=false\/uF (l.getD i ei) (l.getD s.1.toNat ei) os=true)then((i:Int),true)else s
def iN(l:List aB)(eF:aB->Bool)(os:List (aB->aB->Int)):Nat->Int×Bool
 |0=>(0,false)
 |k+1=>Bq l eF os k (iN l eF os k)
def fB(l:List aB)(p:Int)(eF:aB->Bool)(os:List (aB->aB->Int)):Int×Bool:=
 if mA l p=true then iN l eF os l.length else(0,false)
def fC(l:List aB)(p:Int):Int×Bool:=fB l p (mT p) [Bn,tg]
def fK(l:List aB)(p:Int):Int×Bool:=fB l p my [tg]
def vZ(l:List aB)(p:Int):Int×Bool:=fB l p (zC p) [Bp,Lg,tg]
def ow(p:Int)(x:aB):Int:=if my x=true then p else if mT p x=true then p -x.used else 0
def fR:List Int->Int
 |[]=>0
 |x::r=>x+fR r
def G8(l:List aB)(p:Int):Int:=if mA l p=true then fR (l.map (ow p))else 0
theorem Sk(a b:List Int):fR (a++b)=fR a+fR b:=by
 induction a with
 |nil=>simp[fR]
 |cons x r ih=>simp only[aup,fR,ih];omega
theorem Lh(l:List aB)(eF:aB->Bool)(os:List (aB->aB->Int)): ∀k,0<=(iN l eF os k).1/\(iN l eF os k).1<=k/\((iN l eF os k).2=true->(iN l eF os k).1<k/\eF (l.getD (iN l eF os k).1.toNat ei)=true)
 |0=>⟨by simp[iN],by simp[iN],fun h=>by simp[iN]at h⟩
 |k+1=>by
  obtain⟨h1,h2,h3⟩:=Lh l eF os k;rw[iN,Bq];split
  ·
   rename_i h;exact⟨by simp only;omega,by simp only;omega,fun _=>⟨by simp only;omega,by simpa using h.1⟩⟩
  exact⟨h1,by omega,fun h=>⟨by have:=(h3 h).1;omega,(h3 h).2⟩⟩
theorem Sm{l:List aB}{eF:aB->Bool}{os:List (aB->aB->Int)}: ∀{k},(iN l eF os k).2=false-> ∀i,i<k->eF (l.getD i ei)=false
 |0,_,i,hi=>by omega
 |k+1,h,i,hi=>by
  rw[iN,Bq]at h;split at h
  ·
   cases h
  rename_i hn
  by_cases e:i=k
  ·
   subst e
   cases hr:eF (l.getD i ei)with
   |false=>rfl
   |true=>exact absurd ⟨hr, .inl h⟩ hn
  exact Sm h i (by omega)
theorem Br{l:List aB}{p:Int}{eF:aB->Bool}{os:List (aB->aB->Int)}(h:(fB l p eF os).2=true):mA l p=true/\0<=(fB l p eF os).1/\(fB l p eF os).1<l.length/\eF (l.getD (fB l p eF os).1.toNat ei)=true:=by
 unfold fB at h⊢;split at h
 ·
  rename_i hw;rw[if_pos hw];obtain⟨h1,h2,h3⟩:=Lh l eF os l.length;exact⟨hw,h1,(h3 h).1,(h3 h).2⟩
 cases h
theorem uG{l:List aB}{p:Int}{eF:aB->Bool}{os:List (aB->aB->Int)}(hw:mA l p=true)(h:(fB l p eF os).2=false): ∀x∈l,eF x=false:=fun x hx=>by
 unfold fB at h;rw[if_pos hw]at h;obtain⟨i,hi⟩:=ato hx;have dL:=(ad2.1 hi).1;have:=Sm h i dL;rwa [show l.getD i ei=x by simp[List.getD,hi]]at this
theorem drop_at{α:Type}{l:List α}{i:Nat}{e:α}(he:l[i]? =some e):l.drop i=e::l.drop (i+1):=by
 obtain⟨hi,rfl⟩:=ad2.1 he;rw[avE]
theorem aca{p:Int}{x:aB}(h:xM p x=true)(hp:1<=p):0<=ow p x/\ow p x<=p:=by
 obtain⟨h1,h2,h3,_⟩:=sa.1 h;rw[ow];split
 ·
  omega
 split<;>omega
theorem Sn(p:Int): ∀l:List aB,(∀x∈l,xM p x=true)->1<=p->0<=fR (l.map (ow p))/\fR (l.map (ow p))<=(l.length:Int)*p
 |[],_,_=>by simp[fR]
 |x::r,h,hp=>by
  have h1:=Sn p r (fun y hy=>h y (atd _ hy)) hp;have h2:=aca (h x as5) hp;rw[atq,fR,asZ,Int.natCast_add,Int.add_mul];omega
theorem room_le{n:Nat}{p:Int}(h:n<=32)(h1:1<=p)(h2:p<=16):(n:Int)*p<=512:=by
 have:(n:Int)*p<=32*16:=av3 (by omega) h2 (by omega) (by omega);omega
structure dO(c d:CV):Prop where
 pages:d.pages=c.pages
 size:d.size=c.size
 len:d.blocks.length=c.blocks.length
theorem dO.dh(c:CV):dO c c:=⟨rfl,rfl,rfl⟩
theorem dO.trans{c d e:CV}(h:dO c d)(g:dO d e):dO c e:=⟨g.pages.trans h.pages,g.size.trans h.size,g.len.trans h.len⟩
theorem acb(c:CV)(b g:Int)(p:List UInt8):dO c (gT c b g p):=by
 rw[gT];split
 ·
  exact⟨rfl,rfl,by simp[iM]⟩
 exact .dh c
theorem acd(c:CV)(b:Int):dO c (gv c b):=by
 rw[gv];split
 ·
  exact⟨rfl,rfl,by simp[k9]⟩
 exact .dh c
theorem ace(c:CV)(b:Int):dO c (mo c b):=by
 rw[mo];split
 ·
  exact⟨rfl,rfl,by simp⟩
 exact .dh c
theorem Li{c:CV}(h:bb c=true){o:Int}{f:Bool}(h0:0<=o)(h1:o<=cV){i:Nat}{B:BV}(hB:qY c.pages c.size B=true):bb {c with ops:=o,off:=f,blocks:=c.blocks.set i B}=true:=by
 obtain⟨k1,k2,k3,k4,k5⟩:=fJ.1 h;refine fJ.2 ⟨by simpa using k1,h0,h1,k4,fun b hb=>?_⟩;rcases atx hb with hb|rfl
 ·
  exact k5 b hb
 exact hB
theorem Lj{c:CV}(h:bb c=true)(b g:Int)(p:List UInt8):bb (gT c b g p)=true:=by
 rw[gT];split
 ·
  rename_i hk;obtain⟨k1,k2,k3,k4⟩:=hk;obtain⟨j1,j2,j3,j4,j5⟩:=jS.1 k1;obtain⟨o1,o2,o3,o4,o5,o6⟩:=fm.1 (qZ j1);have:=(fJ.1 h).2.1;refine Li h (by omega) (by omega) (fm.2 ⟨by simpa using o1,by simp only;omega,by simp only;omega,o4,o5,fun x hx=>?_⟩);rcases atx hx with hx|rfl
  ·
   exact o6 x hx
  rw[pw];split
  ·
   simpa[cY]using j4
  exact j4
 exact h
theorem Lk{c:CV}(h:bb c=true)(b:Int):bb (gv c b)=true:=by
 rw[gv];split
 ·
  rename_i hk;obtain⟨k1,k2,k3⟩:=hk;obtain⟨j1,j2,j3⟩:=qh.1 k1;obtain⟨o1,o2,o3,o4,o5,o6⟩:=fm.1 (qZ j1);have:=(fJ.1 h).2.1;have hs:=mj.1 (fJ.1 h).1;have hl:(td c (ak c b).pages).length=(ak c b).pages.length:=by rw[td];split<;>simp
  refine Li h (by omega) (by omega) (fm.2 ⟨by rw[hl];exact o1,?_,?_,by simp only;omega,by simp only;omega,fun x hx=>?_⟩)
  ·
   simp only;split<;>omega
  ·
   simp only;split<;>omega
  rw[td]at hx;split at hx
  ·
   obtain⟨y,hy,rfl⟩:=at7.1 hx;simpa[cY]using o6 y hy
  obtain⟨y,hy,rfl⟩:=at7.1 hx;simp only[iv,atT];omega
 exact h
theorem So{c:CV}(h:bb c=true)(b:Int):bb (mo c b)=true:=by
 rw[mo];split
 ·
  rename_i hk;have hh:ir c b=true:=by
   rw[qi]at hk;split at hk
   ·
    assumption
   cases hk
  obtain⟨o1,o2,o3,o4,o5,o6⟩:=fm.1 (qZ hh);have k:=fJ.1 h;exact Li (o:=c.ops) (f:=c.off) h k.2.1 k.2.2.1 (fm.2 ⟨o1,o2,o3,o4,o5,o6⟩)
 exact h
def eo(c:CV)(b:Int):Int:=if(ak c b).bad=true then 0 else c.pages -(ak c b).used
def jq(c:CV)(b e:Int):CV:=if e=9 then mo c b else c
def bB(c:CV)(b:Int)(p:List UInt8):Int:=kH c b (ak c b).used p
def bC(c:CV)(b:Int)(p:List UInt8):CV:=jq (gT c b (ak c b).used p) b (bB c b p)
def dq(c:CV)(b:Int):CV:=jq (gv c b) b (dZ c b)
def iO(c:CV):List UInt8:=(dn ⟨1,0,0,[]⟩ c.size).1
def fL:Nat->CV->Int->CV×Int
 |0,c,b=>(dq c b,dZ c b)
 |n+1,c,b=>if bB c b (iO c)≠0 then(bC c b (iO c),bB c b (iO c))else fL n (bC c b (iO c)) b
def cC(c:CV)(b:Int):CV×Int:=fL (eo c b).toNat c b
theorem Sp{c:CV}(h:bb c=true)(b e:Int):bb (jq c b e)=true:=by
 rw[jq];split
 ·
  exact So h b
 exact h
theorem G9(c:CV)(b e:Int):dO c (jq c b e):=by
 rw[jq];split
 ·
  exact ace c b
 exact .dh c
theorem lO{c:CV}(h:bb c=true)(b:Int)(p:List UInt8):bb (bC c b p)=true:=Sp (Lj h _ _ _) _ _
theorem iP(c:CV)(b:Int)(p:List UInt8):dO c (bC c b p):=(acb _ _ _ _).trans (G9 _ _ _)
theorem DD{c:CV}(h:bb c=true)(b:Int):bb (dq c b)=true:=Sp (Lk h _) _ _
theorem xN(c:CV)(b:Int):dO c (dq c b):=(acd _ _).trans (G9 _ _ _)
theorem Sr: ∀(n:Nat) {c:CV} (b:Int),bb c=true->bb (fL n c b).1=true/\dO c (fL n c b).1
 |0,c,b,h=>⟨DD h b,xN c b⟩
 |n+1,c,b,h=>by
  rw[fL];split
  ·
   exact⟨lO h _ _,iP _ _ _⟩
  have:=Sr n b (lO h b (iO c));exact⟨this.1,(iP _ _ _).trans this.2⟩
theorem xO{c:CV}(b:Int)(h:bb c=true):bb (cC c b).1=true/\dO c (cC c b).1:=Sr _ b h
theorem ql{c:CV}{b:Int}{p:List UInt8}(h:bB c b p=0):oo c b (ak c b).used p=true/\c.off=false/\(ak c b).bad=false/\(bt c).2=false/\bC c b p=iM c b (ak c b).used p:=by
 have h0:=h;rw[bB,kH]at h
 by_cases h1:oo c b (ak c b).used p=true
 ·
  rw[if_pos h1]at h
  by_cases h2:c.off=true
  ·
   rw[if_pos h2]at h;cases h
  rw[if_neg h2]at h
  by_cases h3:(ak c b).bad=true\/(ak c b).used≠(ak c b).used
  ·
   rw[if_pos h3]at h;cases h
  rw[if_neg h3]at h;have wZ:(ak c b).bad=false:=by
   cases hb:(ak c b).bad with
   |false=>rfl
   |true=>exact absurd (.inl hb) h3
  by_cases h4:(bt c).2=true
  ·
   rw[if_pos h4,mn]at h;split at h<;>cases h
  refine⟨h1,by simpa using h2,wZ,by simpa using h4,?_⟩;rw[bC,jq,h0,if_neg (by decide),gT,if_pos ⟨h1,by simpa using h2,wZ,rfl⟩]
 rw[if_neg h1]at h;cases h
theorem q9{c:CV}{b:Int}(h:ir c b=true){o:Int}{f:Bool}{B:BV}:ak {c with ops:=o,off:=f,blocks:=c.blocks.set b.toNat B} b=B:=by
 obtain⟨_,h2,h3⟩:=iu.1 h;simp only[ak,List.getD,atj (show b.toNat<c.blocks.length by omega),auT]
theorem Ss{c:CV}{b:Int}{p:List UInt8}(h:bB c b p=0):eo (bC c b p) b=eo c b -1:=by
 obtain⟨h1,h2,h3,h4,h5⟩:=ql h;have hh:=(jS.1 h1).1;rw[h5,eo,eo,iM,q9 hh];simp only[h3];simp only[atD,if_false];omega
theorem acf{c:CV}{b:Int}(h:0<eo c b):cC c b=if bB c b (iO c)≠0 then(bC c b (iO c),bB c b (iO c))else cC (bC c b (iO c)) b:=by
 obtain⟨n,hn⟩: ∃n,(eo c b).toNat=n+1:=⟨(eo c b).toNat -1,by omega⟩;rw[cC,hn,fL];split
 ·
  rfl
 rename_i h0;have rT:bB c b (iO c)=0:=by simpa using h0
 rw[cC,Ss rT,show(eo c b -1).toNat=n by omega]
theorem acg{c:CV}{b:Int}(h: ¬0<eo c b):cC c b=(dq c b,dZ c b):=by
 rw[cC,show(eo c b).toNat=0 by omega];rfl
theorem DE(c:CV)(b e:Int):(jq c b e).ops=c.ops:=by
 rw[jq];split
 ·
  rw[mo];split<;>rfl
 rfl
theorem ach(c:CV)(b g:Int)(p:List UInt8):c.ops<=(gT c b g p).ops:=by
 rw[gT];split
 ·
  simp only[iM];omega
 omega
theorem aci(c:CV)(b:Int):c.ops<=(gv c b).ops:=by
 rw[gv];split
 ·
  simp only[k9];omega
 omega
theorem uH{c:CV}{b:Int}{p:List UInt8}(hb:(ak c b).bad=false)(he:bB c b p=9\/bB c b p=0):(bC c b p).ops=c.ops+1:=by
 rw[bC,DE,gT];rw[bB,kH]at he
 by_cases h1:oo c b (ak c b).used p=true
 ·
  rw[if_pos h1]at he
  by_cases h2:c.off=true
  ·
   rw[if_pos h2]at he;omega
  rw[if_pos ⟨h1,by simpa using h2,hb,rfl⟩];rfl
 rw[if_neg h1]at he;omega
theorem acj{c:CV}{b:Int}(hb:(ak c b).bad=false)(he:dZ c b=9\/dZ c b=0):(dq c b).ops=c.ops+1:=by
 rw[dq,DE,gv];rw[dZ]at he
 by_cases h1:px c b=true
 ·
  rw[if_pos h1]at he
  by_cases h2:c.off=true
  ·
   rw[if_pos h2]at he;omega
  rw[if_pos ⟨h1,by simpa using h2,hb⟩];rfl
 rw[if_neg h1]at he;omega
theorem ack{c:CV}{b:Int}{p:List UInt8}(h:bB c b p=0):(ak (bC c b p) b).bad=false:=by
 obtain⟨h1,h2,h3,h4,h5⟩:=ql h;rw[h5,iM,q9 (jS.1 h1).1];exact h3
theorem zD(c:CV)(b:Int)(p:List UInt8):c.ops<=(bC c b p).ops:=by rw[bC,DE];exact ach _ _ _ _
theorem St(c:CV)(b:Int):c.ops<=(dq c b).ops:=by rw[dq,DE];exact aci _ _
theorem Bs: ∀(n:Nat) (c:CV) (b:Int),c.ops<=(fL n c b).1.ops
 |0,c,b=>St c b
 |n+1,c,b=>by
  rw[fL];split
  ·
   exact zD _ _ _
  have:=Bs n (bC c b (iO c)) b;have:=zD c b (iO c);omega
theorem Su: ∀(n:Nat) {c:CV} {b:Int},(ak c b).bad=false->(fL n c b).2=9\/(fL n c b).2=0->c.ops<(fL n c b).1.ops
 |0,c,b,hb,he=>by have:=acj hb he;simp only[fL];omega
 |n+1,c,b,hb,he=>by
  rw[fL]at he⊢
  by_cases h0:bB c b (iO c)≠0
  ·
   rw[if_pos h0]at he⊢;have:=uH hb (p:=iO c) (he.imp id fun h=>h);simp only;omega
  rw[if_neg h0]at he⊢;have rT:bB c b (iO c)=0:=by simpa using h0
  have:=Su n (ack rT) he;have:=zD c b (iO c);omega
theorem Ha{c:CV}{b:Int}(hb:(ak c b).bad=false)(he:(cC c b).2=9\/(cC c b).2=0):c.ops<(cC c b).1.ops:=Su _ hb he
def bf:aB:=⟨0,0,0,true⟩
def pC(x:aB):aB:=if x.bad=true then bf else x
def aw(c:CV)(fl:List Int):List aB:=(jo c fl).map pC
def iH(R:aB->Bool)(x:aB):aB:=if x.bad=true\/R x=false then bf else x
def bS(R:aB->Bool)(l:List aB):List aB:=l.map (iH R)
theorem lP(c:CV)(fl:List Int):(aw c fl).length=c.blocks.length -2:=by rw[aw,atL,jo,Bm]
theorem xP(R:aB->Bool)(l:List aB):(bS R l).length=l.length:=by simp[bS]
structure WV where
 v:VV
 beyond:Bool
 deriving DecidableEq
def WV.on(x:WV)(c:CV):WV:={x with v:={x.v with ae:=c}}
theorem uI{c:Cp}{b:Int}{B:Bk}(h:c.blocks.xs[b.toNat]? =some B):ak (cv c) b=bv B:=by
 rw[←zw];simp[List.getD,h]
def nJ(c:CV):Nat:=(c.blocks.filter fun b=>b.bad).length
def lg(p:List UInt8):Nat:=if(bF p).2=0 then(bF p).1.gen else 0
def uJ(l:List (List UInt8)):Nat:=l.foldl (fun m p=>max m (lg p)) 0
def lQ(c:CV)(b:Int):Nat:=uJ (ak c b).pages
theorem acm{l:List (List UInt8)}{i:Nat}{p:List UInt8}(h:l[i]? =some p):uJ (l.take (i+1))=max (uJ (l.take i)) (lg p):=by
 rw[uJ,atf,h];simp[uJ]
theorem Sw(b:List UInt8):(cE b).1.gen<281474976710656:=by
 have:=K7 b;rw[cE];split
 ·
  simp[km]
 split
 ·
  simp[km]
 split
 ·
  simp[km]
 split
 ·
  simp[km]
 split
 ·
  simp[km]
 exact this
theorem Sx(p:List UInt8):lg p<281474976710656:=by
 rw[lg];split
 ·
  rw[bF];split
  ·
   simp[iw]
  split
  ·
   simp[iw]
  split
  ·
   simp[iw]
  exact Sw p
 omega
theorem Ll(l:List (List UInt8)):uJ l<281474976710656:=by
 have: ∀(l:List (List UInt8)) (m:Nat),m<281474976710656->l.foldl (fun m p=>max m (lg p)) m<281474976710656:=by
  intro l
  induction l with
  |nil=>intro m h;exact h
  |cons p r ih=>
   intro m h;have:=Sx p;exact ih _ (Nat.max_lt.2 ⟨h,this⟩)
 exact this l 0 (by omega)
def DF(c:CV)(b:Int):Bool:= !(ak c b).bad&&(decide (0<(ak c b).used)||(decide (b<2)&&decide (0<lQ c b)))
def gW(c:CV)(b:Int):Nat:=max 1 (lQ c (1 -b)+(1 -b).toNat)
def v7(c:CV)(last:Int):Int:=if(ak c (1 -last)).bad=true then eo c last else if(ak c last).bad=true/\0<eo c (1 -last)then eo c (1 -last)else c.pages
def Bt(g:Nat):Bool:=decide (281474976710656<=g+2)
def ku(e:Int):Int:=if e=9 then 0 else e
theorem Sy{f:aB->aB}{l:List aB}{i:Nat}{x:aB}(h:l[i]? =some x):((l.take i).map f++l.drop i).set i (f x)=(l.take (i+1)).map f++l.drop (i+1):=by
 have hi:=(ad2.1 h).1;have hl:((l.take i).map f).length=i:=by rw[atL,as6];omega
 rw[auW _ _ (by omega),hl,auJ,drop_at h,auq,atf,h];simp
theorem Sz{f:aB->aB}{l:List aB}{i:Nat}{x:aB}(h:l[i]? =some x)(hf:f x=x):(l.take i).map f++l.drop i=(l.take (i+1)).map f++l.drop (i+1):=by
 rw[drop_at h,atf,h];simp[hf]
theorem SA{f:aB->aB}{l:List aB}{i:Nat}{x:aB}(h:l[i]? =some x):((l.take i).map f++l.drop i)[i]? =some x:=by
 have hi:=(ad2.1 h).1;have hl:((l.take i).map f).length=i:=by rw[atL,as6];omega
 rw[ata (by omega),hl,auJ,aug,atZ,h]
theorem acn{l:List BV}{i:Nat}{x:BV}(h:l[i]? =some x):((l.take (i+1)).filter fun b=>b.bad).length=((l.take i).filter fun b=>b.bad).length+(if x.bad=true then 1 else 0):=by
 rw[atf,h,at3,af0];congr 1;simp only[avF,atw,ava];split<;>simp_all
def iQ(c:CV)(l:List Int):Prop:= ∀n∈l,n=0\/(1<=n/\2<=(n -1)/c.pages/\(n -1)/c.pages<(c.blocks.length:Int))
theorem iQ.bT{c d:CV}{l:List Int}(h:iQ c l)(g:dO c d):iQ d l:=fun n hn=>by
  rcases h n hn with h|h
  ·exact .inl h
  ·exact .inr (by rw[g.pages,g.len];exact h)
theorem iQ.append{c:CV}{a b:List Int}(h:iQ c a)(g:iQ c b):iQ c (a++b):=fun n hn=>(as8.1 hn).elim (h n) (g n)
theorem eX{c:CV}(h:bb c=true):1<=(c.blocks.length:Int)/\(c.blocks.length:Int)<=32/\1<=c.pages/\c.pages<=16/\1<=c.size/\c.size<=256:=mj.1 (fJ.1 h).1
theorem Lm{n p b:Int}(hp:1<=p)(gX:p<=16)(hb:b<=32)(h:(n -1)/p<b):n<=512:=by
  have h1:n -1=p*((n -1)/p)+(n -1)%p:=(Int.mul_ediv_add_emod (n -1) p).symm;have h2:=avj (n -1) (show 0<p by omega);have h3:(n -1)/p<=31:=by omega
  have h4:p*((n -1)/p)<=p*31:=Int.mul_le_mul_of_nonneg_left h3 (by omega);omega
theorem iQ.kn{c:CV}{l:List Int}(h:iQ c l)(hk:bb c=true)(h2:2<=c.blocks.length)(hl:l.length<=1000000):xL c l:=
  ⟨⟨hk,hl⟩,h2,fun n hn=>by
    rcases h n hn with h|h
    ·exact .inl h
    ·have hd:=eX hk
     have:=Lm (n:=n) hd.2.2.1 hd.2.2.2.1 hd.2.1 h.2.2;exact .inr ⟨h.1,by omega,h.2.1,h.2.2⟩⟩
theorem Lo{c:CV}{fl:List Int}{i:Nat}(hi:i<c.blocks.length -2):(aw c fl)[i]? =some (pC (uE (ak c ((i:Int)+2)) (kr c.pages fl fl.length i))):=by
  rw[aw,jo,kt,atg,atg,aun hi];rfl
theorem Hb{c:CV}{fl:List Int}{i:Nat}{x:aB}(h:(aw c fl)[i]? =some x):x.bad=(ak c ((i:Int)+2)).bad:=by
  have hi:=(ad2.1 h).1;rw[lP]at hi;rw[Lo hi]at h;obtain rfl:=asY h;rw[pC];split
  ·rename_i hb;exact hb.symm
  ·rfl
theorem ti{c:CV}(hk:bb c=true){b:Int}(h0:0<=b)(h1:b<c.blocks.length):qY c.pages c.size (ak c b)=true:=qZ (iu.2 ⟨hk,h0,h1⟩)
structure Bu(c:CV)(n:Nat)(x:aB):Prop where
  SB:0<=x.live
  aco:x.live<=n
  DG:0<=x.used
  Bv:x.used<=c.pages
  SC:0<=x.aR
  SD:x.aR<=cV
theorem uK{c:CV}{fl:List Int}(hk:bb c=true){x:aB}(h:x∈aw c fl):Bu c fl.length x:=by
  obtain⟨i,hi⟩:=ato h;have dL:=(ad2.1 hi).1;rw[lP]at dL;rw[Lo dL]at hi;obtain rfl:=asY hi;have hd:=eX hk;have ra:cV=1099511627776:=rfl;rw[pC];split
  ·exact⟨by simp[bf],by simp[bf],by simp[bf],by simp only[bf];omega,by simp[bf],by simp only[bf];omega⟩
  ·have ho:=fm.1 (ti hk (b:=(i:Int)+2) (by omega) (by omega))
   have:=Sj c.pages fl fl.length i;exact⟨by simp only[uE];omega,by simp only[uE];omega,ho.2.1,ho.2.2.1,ho.2.2.2.1,ho.2.2.2.2.1⟩
theorem Bu.bad(c:CV)(hk:bb c=true)(n:Nat):Bu c n bf:=by
  have hd:=eX hk;have ra:cV=1099511627776:=rfl;exact⟨by simp[bf],by simp[bf],by simp[bf],by simp only[bf];omega,by simp[bf],by simp only[bf];omega⟩
theorem Lp{R:aB->Bool}{l:List aB}{i:Nat}{x:aB}(h:(bS R l)[i]? =some x): ∃y,l[i]? =some y/\x=iH R y:=by
  rw[bS,atg,au6]at h;obtain⟨y,hy,rfl⟩:=h;exact⟨y,hy,rfl⟩
theorem acp{R:aB->Bool}{y:aB}(h:(iH R y).bad=false):iH R y=y/\y.bad=false/\R y=true:=by
  unfold iH at h⊢;split at h
  ·cases h
  ·rename_i hn
   rw[if_neg hn];refine⟨rfl,h,?_⟩
   cases hR:R y with
   |true=>rfl
   |false=>exact absurd (.inr hR) hn
theorem tj{p:Int}{x:aB}(h:mT p x=true):x.bad=false/\x.used<p:=by
  simpa[mT]using h
theorem lR{x:aB}(h:my x=true):x.bad=false/\x.live=0/\0<x.used:=by
  simpa[my,and_assoc]using h
theorem pD{R:aB→Bool}{l:List aB}{p:Int}{eF:aB→Bool}{os:List (aB→aB→Int)}(hr: ∀x,eF x=true→x.bad=false)(h:(fB (bS R l) p eF os).2=true):
    ∃x,l[(fB (bS R l) p eF os).1.toNat]? =some x/\x.bad=false/\R x=true/\eF x=true/\0<=(fB (bS R l) p eF os).1/\(fB (bS R l) p eF os).1<l.length:=by
  obtain⟨h1,h2,h3,h4⟩:=Br h;rw[xP]at h3;have hi:(bS R l)[(fB (bS R l) p eF os).1.toNat]? =some ((bS R l).getD (fB (bS R l) p eF os).1.toNat ei):=mN (by rw[xP];omega);obtain⟨y,hy,he⟩:=Lp hi;rw[he]at h4;obtain⟨k1,k2,k3⟩:=acp (hr _ h4);rw[k1]at h4;exact⟨y,hy,k2,k3,h4,h2,h3⟩
def sd(x:aB):Bool:=decide (0<x.live)
def gJ(x:aB):Bool:=decide (x.live=0)
def dP(l:List aB):Nat:=(l.filter fun x=> !x.bad&&decide (x.live=0)).length
def mB(c:CV)(fl:List Int):Int×Bool:=fC (bS sd (aw c fl)) c.pages
def kv(c:CV)(fl:List Int):Int×Bool:=fC (bS gJ (aw c fl)) c.pages
def jG(c:CV)(fl:List Int):Int:=(fK (bS gJ (aw c fl)) c.pages).1
def bk(c:CV)(fl:List Int)(aG:Bool):CV×Int×Int:=
  if(mB c fl).2=true then(c,(mB c fl).1+2,0)
  else if dP (aw c fl)=0\/(dP (aw c fl)=1/\aG=false)then(c,0,5)
  else if(kv c fl).2=true then(c,(kv c fl).1+2,0)
  else((cC c (jG c fl+2)).1,jG c fl+2,(cC c (jG c fl+2)).2)
theorem acq{l:List aB}{i:Nat}{x:aB}(h:l[i]? =some x):((l.take (i+1)).filter fun z=> !z.bad&&decide (z.live=0)).length=((l.take i).filter fun z=> !z.bad&&decide (z.live=0)).length+(if x.bad=false/\x.live=0 then 1 else 0):=by
  rw[atf,h,at3,af0];congr 1;simp only[avF,atw,ava];split<;>simp_all
theorem acr(l:List aB):(l.filter fun z=> !z.bad&&decide (z.live=0)).length<=l.length:=auX _ _
theorem SE{c:CV}{fl:List Int}(hk:bb c=true)(h2:3<=c.blocks.length)(hi:dP (aw c fl)≠0)(hb: ¬(kv c fl).2=true):0<=jG c fl/\jG c fl<(c.blocks.length:Int) -2/\(ak c (jG c fl+2)).bad=false:=by
  have hd:=eX hk;have dX:=lP c fl;have hw:mA (bS gJ (aw c fl)) c.pages=true:=th.2 ⟨by rw[xP];omega,by rw[xP];omega,by omega,by omega,fun x hx=>by
    obtain⟨i,hi⟩:=ato hx;obtain⟨y,hy,rfl⟩:=Lp hi;have t:=uK hk (alM hy);have ra:cV=1099511627776:=rfl;unfold iH;split
    ·exact sa.2 (by simp only[bf];omega)
    ·rename_i hn
     have hl:y.live=0:=by
        cases hR:gJ y with
        |true=>simpa[gJ]using hR
        |false=>exact absurd (.inr hR) hn
     exact sa.2 ⟨by omega,by have:=t.DG;omega,t.Bv,t.SC,t.SD⟩⟩
  have se:(kv c fl).2=false:=by simpa using hb
  have Lr:=uG hw (show(fB _ _ _ _).2=false from se);have Bw:0<((aw c fl).filter fun x=> !x.bad&&decide (x.live=0)).length:=by rw[dP]at hi;omega
  obtain⟨x,hx⟩:=List.exists_mem_of_length_pos Bw;obtain⟨pE,gV⟩:=atl.1 hx;simp only[anc,at0,decide_eq_true_eq]at gV;have xQ:iH gJ x=x:=by
    unfold iH;rw[if_neg];rintro(g|g)
    ·rw[gV.1]at g;cases g
    ·rw[show gJ x=true by simp[gJ,gV.2]]at g;cases g
  have DH:x∈bS gJ (aw c fl):=by
    rw[←xQ];exact atp pE
  have DI:=Lr x DH;have t:=uK hk pE;have mU:my x=true:=by
    have: ¬x.used<c.pages:=fun h=>by
      rw[mT,gV.1,decide_eq_true h]at DI;cases DI
    simp only[my,gV.1,au4,atU,anc,decide_eq_true_eq];omega
  have hf:(fK (bS gJ (aw c fl)) c.pages).2=true:=by
    cases hq:(fK (bS gJ (aw c fl)) c.pages).2 with
    |true=>rfl
    |false=>have:=uG hw hq x DH;rw[mU]at this;cases this
  obtain⟨y,hy,k1,_,_,k4,k5⟩:=pD (fun x h=>(lR h).1) hf;have mC:=Hb hy;change 0<=jG c fl at k4;change jG c fl<_ at k5;refine⟨k4,by omega,?_⟩;rw[←k1,mC];congr 2;change _=((jG c fl).toNat:Int)+2;omega
theorem SF{c:CV}{fl:List Int}(h:(mB c fl).2=true):0<=(mB c fl).1/\(mB c fl).1<((c.blocks.length -2:Nat):Int)/\(ak c ((mB c fl).1+2)).bad=false:=by
  obtain⟨y,hy,k1,_,_,k4,k5⟩:=pD (fun x h=>(tj h).1) h;have mC:=Hb hy;rw[lP]at k5;refine⟨k4,k5,?_⟩;rw[←k1,mC];congr 2;change _=((mB c fl).1.toNat:Int)+2;change 0<=(mB c fl).1 at k4;omega
theorem SG{c:CV}{fl:List Int}(h:(kv c fl).2=true):0<=(kv c fl).1/\(kv c fl).1<((c.blocks.length -2:Nat):Int)/\(ak c ((kv c fl).1+2)).bad=false:=by
  obtain⟨y,hy,k1,_,_,k4,k5⟩:=pD (fun x h=>(tj h).1) h;have mC:=Hb hy;rw[lP]at k5;refine⟨k4,k5,?_⟩;rw[←k1,mC];congr 2;change _=((kv c fl).1.toNat:Int)+2;change 0<=(kv c fl).1 at k4;omega
theorem DJ{c:CV}{b:Int}(h:dZ c b=0):px c b=true/\c.off=false/\(ak c b).bad=false/\(bt c).2=false/\dq c b=k9 c b:=by
  have h0:=h;rw[dZ]at h
  by_cases h1:px c b=true
  ·rw[if_pos h1]at h
   by_cases h2:c.off=true
   ·rw[if_pos h2]at h;cases h
   ·rw[if_neg h2]at h
    by_cases h3:(ak c b).bad=true
    ·rw[if_pos h3]at h;cases h
    ·rw[if_neg h3]at h
     by_cases h4:(bt c).2=true
     ·rw[if_pos h4,mn]at h
      split at h<;>cases h
     ·refine⟨h1,by simpa using h2,by simpa using h3,by simpa using h4,?_⟩
      rw[dq,jq,h0,if_neg (by decide),gv,if_pos ⟨h1,by simpa using h2,by simpa using h3⟩]
  ·rw[if_neg h1]at h;cases h
theorem SH{c:CV}{b:Int}(h:dZ c b=0):(ak (dq c b) b).bad=false:=by
  obtain⟨h1,h2,h3,h4,h5⟩:=DJ h;rw[h5,k9,q9 (qh.1 h1).1];exact h3
theorem Hc: ∀(n:Nat) {c:CV} {b:Int},(fL n c b).2=0->(ak (fL n c b).1 b).bad=false
  |0,c,b,h=>SH h
  |n+1,c,b,h=>by
   rw[fL]at h⊢
   by_cases h0:bB c b (iO c)≠0
   ·rw[if_pos h0]at h;exact absurd h h0
   ·rw[if_neg h0]at h⊢;exact Hc n h
theorem Ls{c:CV}{fl:List Int}{aG:Bool}(hk:bb c=true)(h2:3≤c.blocks.length):bb (bk c fl aG).1=true∧dO c (bk c fl aG).1∧c.ops≤(bk c fl aG).1.ops∧
    ((bk c fl aG).2.2=0->2<=(bk c fl aG).2.1/\(bk c fl aG).2.1<c.blocks.length/\(ak (bk c fl aG).1 (bk c fl aG).2.1).bad=false)/\((bk c fl aG).2.2=9->c.ops<(bk c fl aG).1.ops):=by
  rw[bk]
  by_cases h1:(mB c fl).2=true
  ·rw[if_pos h1]
   have:=SF h1;exact⟨hk, .dh c,atW _,fun _=>⟨by simp only;omega,by simp only;omega,this.2.2⟩,fun h=>absurd (show(0:Int)=9 from h) (by decide)⟩
  ·rw[if_neg h1]
   by_cases h3:dP (aw c fl)=0\/(dP (aw c fl)=1/\aG=false)
   ·rw[if_pos h3]
    exact⟨hk, .dh c,atW _,fun h=>absurd (show(5:Int)=0 from h) (by decide),fun h=>absurd (show(5:Int)=9 from h) (by decide)⟩
   ·rw[if_neg h3]
    by_cases h4:(kv c fl).2=true
    ·rw[if_pos h4]
     have:=SG h4;exact⟨hk, .dh c,atW _,fun _=>⟨by simp only;omega,by simp only;omega,this.2.2⟩,fun h=>absurd (show(0:Int)=9 from h) (by decide)⟩
    ·rw[if_neg h4]
     obtain⟨d1,d2,d3⟩:=SE hk h2 (fun e=>h3 (.inl e)) h4;have hc:=xO (jG c fl+2) hk;exact⟨hc.1,hc.2,Bs _ _ _,fun h=>⟨by simp only;omega,by simp only;omega,Hc _ h⟩,fun h=>Ha d3 (.inl h)⟩
def jd:Nat->CV->List Int->Bool->List UInt8->CV×Int×Int
  |0,c,_,_,_=>(c,0,0)
  |n+1,c,fl,aG,b=>
   if(bk c fl aG).2.2=0 then
      (if bB (bk c fl aG).1 (bk c fl aG).2.1 b=0 then(bC (bk c fl aG).1 (bk c fl aG).2.1 b,(bk c fl aG).2.1*c.pages+(ak (bk c fl aG).1 (bk c fl aG).2.1).used+1,0)
       else if bB (bk c fl aG).1 (bk c fl aG).2.1 b≠9 then(bC (bk c fl aG).1 (bk c fl aG).2.1 b,0,bB (bk c fl aG).1 (bk c fl aG).2.1 b)
       else jd n (bC (bk c fl aG).1 (bk c fl aG).2.1 b) fl aG b)
   else if(bk c fl aG).2.2≠9 then((bk c fl aG).1,0,(bk c fl aG).2.2)
   else jd n (bk c fl aG).1 fl aG b
def da(c:CV)(fl:List Int)(aG:Bool)(p:PV):CV×Int×Int:=
  if(dn p c.size).2≠0 then(c,0,(dn p c.size).2)else jd ((cV -c.ops).toNat+1) c fl aG (dn p c.size).1
theorem tl{c:CV}(h:bb c=true):c.ops<=cV:=(fJ.1 h).2.2.1
theorem Lt: ∀(n:Nat) {c:CV} {fl:List Int} {aG:Bool} {b:List UInt8},bb c=true→3≤c.blocks.length→(cV -c.ops).toNat<n→
    bb (jd n c fl aG b).1=true/\dO c (jd n c fl aG b).1/\c.ops<=(jd n c fl aG b).1.ops/\((jd n c fl aG b).2.2=0->1<=(jd n c fl aG b).2.1/\2<=((jd n c fl aG b).2.1 -1)/c.pages/\((jd n c fl aG b).2.1 -1)/c.pages<c.blocks.length)
  |0,c,fl,aG,b,_,_,hn=>by omega
  |n+1,c,fl,aG,b,hk,h2,hn=>by
   obtain⟨f1,f2,f3,f4,f5⟩:=Ls (fl:=fl) (aG:=aG) hk h2;have hd:=eX hk;rw[jd]
   by_cases h0:(bk c fl aG).2.2=0
   ·rw[if_pos h0]
    obtain⟨g1,g2,g3⟩:=f4 h0
    by_cases h1:bB (bk c fl aG).1 (bk c fl aG).2.1 b=0
    ·rw[if_pos h1]
     have hl:=f2.trans (iP (bk c fl aG).1 (bk c fl aG).2.1 b);have hp:=jS.1 (ql h1).1;rw[f2.pages]at hp;have hu:0<=(ak (bk c fl aG).1 (bk c fl aG).2.1).used:=hp.2.1;have Lu:=hp.2.2.1
     have hq:((bk c fl aG).2.1*c.pages+(ak (bk c fl aG).1 (bk c fl aG).2.1).used+1 -1)/c.pages=(bk c fl aG).2.1:=by
          rw[auz,auY,auh _ _ (by omega),atY hu Lu,au3]
     refine⟨lO f1 _ _,hl,?_,fun _=>⟨?_,by simp only;rw[hq];exact g1,by simp only;rw[hq];exact g2⟩⟩
     ·have:=zD (bk c fl aG).1 (bk c fl aG).2.1 b;simp only;omega
     ·have:0<=(bk c fl aG).2.1*c.pages:=auO (by omega) (by omega)
      simp only;omega
    ·rw[if_neg h1]
     by_cases h9:bB (bk c fl aG).1 (bk c fl aG).2.1 b≠9
     ·rw[if_pos h9]
      exact⟨lO f1 _ _,f2.trans (iP _ _ _),by have:=zD (bk c fl aG).1 (bk c fl aG).2.1 b;simp only;omega,fun h=>absurd h h1⟩
     ·rw[if_neg h9]
      have ho:=uH g3 (p:=b) (.inl (by simpa using h9));have bD:=lO f1 (bk c fl aG).2.1 b;have hl:=f2.trans (iP (bk c fl aG).1 (bk c fl aG).2.1 b);have hle:=tl bD;have:=Lt n (fl:=fl) (aG:=aG) (b:=b) bD (by rw[hl.len];exact h2) (by omega);refine⟨this.1,hl.trans this.2.1,by omega,fun h=>?_⟩;have g:=this.2.2.2 h;rw[hl.pages,hl.len]at g;exact g
   ·rw[if_neg h0]
    by_cases h9:(bk c fl aG).2.2≠9
    ·rw[if_pos h9]
     exact⟨f1,f2,f3,fun h=>absurd h h0⟩
    ·rw[if_neg h9]
     have ho:=f5 (by simpa using h9);have hle:=tl f1;have:=Lt n (fl:=fl) (aG:=aG) (b:=b) f1 (by rw[f2.len];exact h2) (by omega);refine⟨this.1,f2.trans this.2.1,by omega,fun h=>?_⟩;have g:=this.2.2.2 h;rw[f2.pages,f2.len]at g;exact g
theorem SI{c:CV}{fl:List Int}{aG:Bool}{p:PV}(hk:bb c=true)(h2:3≤c.blocks.length):
    bb (da c fl aG p).1=true/\dO c (da c fl aG p).1/\c.ops<=(da c fl aG p).1.ops/\((da c fl aG p).2.2=0->1<=(da c fl aG p).2.1/\2<=((da c fl aG p).2.1 -1)/c.pages/\((da c fl aG p).2.1 -1)/c.pages<c.blocks.length):=by
  rw[da];split
  ·rename_i h;exact⟨hk, .dh c,atW _,fun h'=>absurd h' h⟩
  ·exact Lt _ hk h2 (by omega)
def lh(p:Int)(x:aB):Int:=if x.live=0/\p -x.used=0 then p else p -x.used
def tm(p:Int)(s:Int×Int)(x:aB):Int×Int:=if x.bad=true then s else(s.1+lh p x,if x.live=0 then max s.2 (lh p x)else s.2)
def fS(p:Int)(l:List aB):Int×Int:=l.foldl (tm p) (0,0)
def lj(c:CV)(fl:List Int):Int×Int:=((fS c.pages (aw c fl)).1 -(fS c.pages (aw c fl)).2,(fS c.pages (aw c fl)).1)
theorem SJ{p:Int}{l:List aB}{i:Nat}{x:aB}(h:l[i]? =some x):fS p (l.take (i+1))=tm p (fS p (l.take i)) x:=by
  rw[fS,atf,h];simp[fS]
theorem He{c:CV}{n:Nat}{x:aB}(h:Bu c n x)(hk:bb c=true):0<=lh c.pages x/\lh c.pages x<=c.pages:=by
  have hd:=eX hk;have:=h.DG;have:=h.Bv;rw[lh];split<;>omega
theorem SK{c:CV}{n:Nat}(hk:bb c=true)(l:List aB)(h: ∀x∈l,Bu c n x): ∀i,i<=l.length->0<=(fS c.pages (l.take i)).1/\(fS c.pages (l.take i)).1<=16*(i:Int)/\0<=(fS c.pages (l.take i)).2/\(fS c.pages (l.take i)).2<=16
  |0,_=>by simp[fS]
  |i+1,hi=>by
   obtain⟨x,hx⟩:=get_some (xs:=l) (i:=i) (by omega);have ih:=SK hk l h i (by omega);have hr:=He (h x (alM hx)) hk;have hd:=eX hk;rw[SJ hx,tm];split
   ·omega
   ·refine⟨by simp only;omega,by simp only;omega,?_,?_⟩
    ·simp only;split<;>omega
    ·simp only;split<;>omega
structure cX(x:WV):Prop where
 ae:bb x.v.ae=true
 len:4<=(x.v.ae.blocks.length:Int)
 pages:2<=x.v.ae.pages
 size:24<=x.v.ae.size
 last:x.v.last=0\/x.v.last=1
 gen:x.v.gen<281474976710656
 v8:iQ x.v.ae x.v.at_
 kK:x.v.at_.length<=64
theorem cX.on{x:WV}(h:cX x){c:CV}(hk:bb c=true)(hl:dO x.v.ae c):cX (x.on c):=
 ⟨hk,by simp only[WV.on];rw[hl.len];exact h.len,by simp only[WV.on];rw[hl.pages];exact h.pages,by simp only[WV.on];rw[hl.size];exact h.size,h.last,h.gen,h.v8.bT hl,h.kK⟩
theorem cX.tn{x:WV}(h:cX x):4<=x.v.ae.blocks.length:=by have:=h.len;omega
theorem SL(x:WV):x.on x.v.ae=x:=rfl
theorem SM(x:WV)(c d:CV):(x.on c).on d=x.on d:=rfl
def aW(c:CV)(last:Int):CV×Int×Int:=
 if 0<eo c last then(c,last,0)
 else if 0<eo c (1 -last)then(c,1 -last,0)
 else if(ak c (1 -last)).bad=true then(c,0,9)
 else(dq c (1 -last),1 -last,dZ c (1 -last))
theorem Hf{c:CV}{b:Int}(h:0<eo c b):(ak c b).bad=false:=by
 rw[eo]at h;split at h
 ·
  omega
 rename_i hn;simpa using hn
theorem Hg{c:CV}{last:Int}(hk:bb c=true)(hl:last=0\/last=1):bb (aW c last).1=true/\dO c (aW c last).1/\c.ops<=(aW c last).1.ops/\
  ((aW c last).2.2=0->((aW c last).2.1=0\/(aW c last).2.1=1)/\(ak (aW c last).1 (aW c last).2.1).bad=false):=by
 rw[aW]
 by_cases h1:0<eo c last
 ·
  rw[if_pos h1];exact⟨hk, .dh c,atW _,fun _=>⟨hl,Hf h1⟩⟩
 ·
  rw[if_neg h1]
  by_cases h2:0<eo c (1 -last)
  ·
   rw[if_pos h2];exact⟨hk, .dh c,atW _,fun _=>⟨by simp only;omega,Hf h2⟩⟩
  ·
   rw[if_neg h2]
   by_cases h3:(ak c (1 -last)).bad=true
   ·
    rw[if_pos h3];exact⟨hk, .dh c,atW _,fun h=>absurd (show(9:Int)=0 from h) (by decide)⟩
   ·
    rw[if_neg h3];exact⟨DD hk _,xN _ _,St _ _,fun h=>⟨by simp only;omega,SH h⟩⟩
def hU:Nat->WV->List Int->List UInt8->WV×Int
 |0,x,_,_=>(x,0)
 |n+1,x,a,b=>
  if(aW x.v.ae x.v.last).2.2≠0 then(x.on (aW x.v.ae x.v.last).1,(aW x.v.ae x.v.last).2.2)
  else if bB (aW x.v.ae x.v.last).1 (aW x.v.ae x.v.last).2.1 b=0 then
   (⟨⟨bC (aW x.v.ae x.v.last).1 (aW x.v.ae x.v.last).2.1 b,a,x.v.gen+1,if lQ (bC (aW x.v.ae x.v.last).1 (aW x.v.ae x.v.last).2.1 b) 1=x.v.gen+1 then 1 else(aW x.v.ae x.v.last).2.1⟩,x.beyond⟩,0)
  else if bB (aW x.v.ae x.v.last).1 (aW x.v.ae x.v.last).2.1 b≠9 then
   (x.on (bC (aW x.v.ae x.v.last).1 (aW x.v.ae x.v.last).2.1 b),bB (aW x.v.ae x.v.last).1 (aW x.v.ae x.v.last).2.1 b)
  else hU n (x.on (bC (aW x.v.ae x.v.last).1 (aW x.v.ae x.v.last).2.1 b)) a b
def eu(x:WV)(a:List Int):WV×Int:=
 if(cZ ⟨x.v.gen+1,a⟩ x.v.ae.size).2≠0 then(x,(cZ ⟨x.v.gen+1,a⟩ x.v.ae.size).2)
 else hU ((cV -x.v.ae.ops).toNat+1) x a (cZ ⟨x.v.gen+1,a⟩ x.v.ae.size).1
structure jH(x y:WV):Prop where
 ok:cX y
 bT:dO x.v.ae y.v.ae
 ops:x.v.ae.ops<=y.v.ae.ops
 zE:y.v.at_.length=x.v.at_.length
theorem jH.dh{x:WV}(h:cX x):jH x x:=⟨h, .dh _,atW _,rfl⟩
theorem jH.trans{x y z:WV}(h:jH x y)(g:jH y z):jH x z:=⟨g.ok,h.bT.trans g.bT,Int.le_trans h.ops g.ops,g.zE.trans h.zE⟩
theorem jH.on{x:WV}(h:cX x){c:CV}(hk:bb c=true)(hl:dO x.v.ae c)(ho:x.v.ae.ops<=c.ops):jH x (x.on c):=⟨h.on hk hl,hl,ho,rfl⟩
theorem acs{r:RV}{n:Int}(h:(cZ r n).2=0):r.gen<281474976710656/\(r.at_.length:Int)<=kI n:=by
 rw[cZ]at h;split at h
 ·
  rename_i hm;have:=xK.1 hm;exact⟨this.2.1,this.2.2.1⟩
 cases h
theorem acu(n:Int):kI n<=64:=by rw[kI];omega
theorem SN: ∀(n:Nat) {x:WV} {a:List Int} {b:List UInt8},cX x->iQ x.v.ae a->a.length=x.v.at_.length->x.v.gen+1<281474976710656->(cV -x.v.ae.ops).toNat<n->jH x (hU n x a b).1/\((hU n x a b).2=0->x.v.ae.ops<(hU n x a b).1.v.ae.ops)
 |0,x,a,b,_,_,_,_,hn=>by omega
 |n+1,x,a,b,hx,ha,dW,hg,hn=>by
  obtain⟨r1,r2,r3,r4⟩:=Hg (c:=x.v.ae) (last:=x.v.last) hx.ae hx.last;rw[hU]
  by_cases h0:(aW x.v.ae x.v.last).2.2≠0
  ·
   rw[if_pos h0];exact⟨.on hx r1 r2 r3,fun h=>absurd h h0⟩
  rw[if_neg h0];obtain⟨r5,r6⟩:=r4 (by simpa using h0);have fY:=lO r1 (aW x.v.ae x.v.last).2.1 b;have bX:=r2.trans (iP (aW x.v.ae x.v.last).1 (aW x.v.ae x.v.last).2.1 b);have mV:=zD (aW x.v.ae x.v.last).1 (aW x.v.ae x.v.last).2.1 b
  by_cases h1:bB (aW x.v.ae x.v.last).1 (aW x.v.ae x.v.last).2.1 b=0
  ·
   rw[if_pos h1];have ho:=uH r6 (p:=b) (.inr h1);have fV:=hx.on fY bX;refine⟨⟨⟨fY,fV.len,fV.pages,fV.size,?_,hg,ha.bT bX,by simp only;rw[dW];exact hx.kK⟩,bX,by simp only;omega,dW⟩,fun _=>by simp only;omega⟩;simp only;split
   ·
    exact .inr rfl
   exact r5
  rw[if_neg h1]
  by_cases h9:bB (aW x.v.ae x.v.last).1 (aW x.v.ae x.v.last).2.1 b≠9
  ·
   rw[if_pos h9];exact⟨.on hx fY bX (by omega),fun h=>absurd h h1⟩
  rw[if_neg h9];have ho:=uH r6 (p:=b) (.inl (by simpa using h9));have hle:=tl fY;have fV:=hx.on fY bX;have:=SN n (x:=x.on (bC (aW x.v.ae x.v.last).1 (aW x.v.ae x.v.last).2.1 b)) (a:=a) (b:=b) fV (ha.bT bX) dW hg (by simp only[WV.on];omega);exact⟨(jH.on hx fY bX (by omega)).trans this.1,fun h=>by
   have h2:(bC (aW x.v.ae x.v.last).1 (aW x.v.ae x.v.last).2.1 b).ops<_:=this.2 h;omega⟩
theorem Lw{x:WV}{a:List Int}(hx:cX x)(ha:iQ x.v.ae a)(dW:a.length=x.v.at_.length):jH x (eu x a).1/\((eu x a).2=0->x.v.ae.ops<(eu x a).1.v.ae.ops):=by
 rw[eu];split
 ·
  rename_i h;exact⟨.dh hx,fun h'=>absurd h' h⟩
 rename_i h;have:=acs (r:=⟨x.v.gen+1,a⟩) (n:=x.v.ae.size) (by simpa using h);exact SN _ hx ha dW this.1 (by omega)
def nK:Nat->Int->CV->CV×Int
 |0,_,c=>(c,0)
 |n+1,b,c=>if DF c b=false then nK n (b+1) c
  else if dZ c b≠0/\dZ c b≠9 then(dq c b,dZ c b)else nK n (b+1) (dq c b)
def pF(c:CV)(b:Int)(ids:Nat):List UInt8×Int:=cZ ⟨gW c b,List.replicate ids 0⟩ c.size
def Hh(c:CV)(b:Int)(ids:Nat)(g:Nat):VV:=⟨c,List.replicate ids 0,g,b⟩
def xR:Nat->Int->WV->Nat->WV×Int
 |0,_,x,_=>(x,9)
 |n+1,b,x,ids=>
  if(pF x.v.ae b ids).2≠0\/eo x.v.ae b=0 then xR n (b+1) x ids
  else if bB x.v.ae b (pF x.v.ae b ids).1=0 then(⟨Hh (bC x.v.ae b (pF x.v.ae b ids).1) b ids (gW x.v.ae b),x.beyond⟩,0)
  else if bB x.v.ae b (pF x.v.ae b ids).1≠9 then(x.on (bC x.v.ae b (pF x.v.ae b ids).1),bB x.v.ae b (pF x.v.ae b ids).1)
  else xR n (b+1) (x.on (bC x.v.ae b (pF x.v.ae b ids).1)) ids
def sf(x:WV)(ids:Nat):WV×Int:=
 if(nK x.v.ae.blocks.length 0 x.v.ae).2≠0 then(x.on (nK x.v.ae.blocks.length 0 x.v.ae).1,(nK x.v.ae.blocks.length 0 x.v.ae).2)
 else xR 2 0 (x.on (nK x.v.ae.blocks.length 0 x.v.ae).1) ids
def xS(s:Int×Int)(i:Nat)(x:aB):Int×Int:=
 if x.bad=true\/x.live=0\/cV<=x.aR then s else if s.2<x.used -x.live then((i:Int),x.used -x.live)else s
def gK(l:List aB):Nat->Int×Int
 |0=>(0,0)
 |k+1=>xS (gK l k) k (l.getD k ei)
def iR(l:List aB)(p:Int):Int×Bool:=if(vZ l p).2=true then((vZ l p).1,true)else((gK l l.length).1,decide (0<(gK l l.length).2))
theorem Ly(l:List aB): ∀k,0<=(gK l k).1/\0<=(gK l k).2/\(0<(gK l k).2->(gK l k).1<k)
 |0=>by simp[gK]
 |k+1=>by
  have:=Ly l k;rw[gK,xS];split
  ·
   exact⟨this.1,this.2.1,fun h=>by have:=this.2.2 h;omega⟩
  split
  ·
   exact⟨by simp only;omega,by simp only;omega,fun _=>by simp only;omega⟩
  exact⟨this.1,this.2.1,fun h=>by have:=this.2.2 h;omega⟩
theorem Lz{l:List aB}{p:Int}(h:(iR l p).2=true):0<=(iR l p).1/\(iR l p).1<l.length:=by
 rw[iR]at h⊢;split
 ·
  rename_i hv;have:=Br hv;exact⟨this.2.1,this.2.2.1⟩
 rename_i hv;rw[if_neg hv]at h;have:=Ly l l.length;exact⟨this.1,this.2.2 (by simpa using h)⟩
def sg(x:aB):Bool:=decide (x.used=0)
def tp(p:Int)(x:aB):Bool:=decide (x.used=p)
def tq(x:aB):Bool:=decide (x.aR<cV)
def mD(c:CV)(l:List aB):Int×Bool:=fC (bS sg l) c.pages
def jU(c:CV)(l:List aB):Int×Bool:=fK (bS (tp c.pages) l) c.pages
def jV(c:CV)(l:List aB):Int×Bool:=fK (bS tq l) c.pages
def bW(c:CV)(l:List aB):CV×Int×Int:=
 if(mD c l).2=true then(c,(mD c l).1+2,0)
 else if(jU c l).2=true then((cC c ((jU c l).1+2)).1,(jU c l).1+2,(cC c ((jU c l).1+2)).2)
 else if(jV c l).2=true then((cC c ((jV c l).1+2)).1,(jV c l).1+2,(cC c ((jV c l).1+2)).2)
 else(c,0,6)
def ll(c:CV)(l:List aB):Prop:=l.length=c.blocks.length -2/\ ∀(i:Nat) (x:aB),l[i]? =some x->x.bad=false->(ak c ((i:Int)+2)).bad=false
theorem zF(c:CV)(fl:List Int):ll c (aw c fl):=⟨lP c fl,fun i x hx hb=>by rw[←Hb hx];exact hb⟩
theorem ll.set{c:CV}{l:List aB}(h:ll c l)(i:Nat):ll c (l.set i bf):=⟨by rw[atC];exact h.1,fun j x hx hb=>by
 rw[atI]at hx;split at hx
 ·
  split at hx
  ·
   obtain rfl:=asY hx;cases hb
  cases hx
 exact h.2 j x hx hb⟩
theorem xT{c:CV}{R:aB->Bool}{l:List aB}{eF:aB->Bool}{os:List (aB->aB->Int)}(ht:ll c l)(hr: ∀x,eF x=true->x.bad=false)(h:(fB (bS R l) c.pages eF os).2=true):
  0<=(fB (bS R l) c.pages eF os).1/\(fB (bS R l) c.pages eF os).1<((c.blocks.length -2:Nat):Int)/\(ak c ((fB (bS R l) c.pages eF os).1+2)).bad=false:=by
 obtain⟨x,hx,k1,_,_,k4,k5⟩:=pD hr h;rw[ht.1]at k5;refine⟨k4,k5,?_⟩;have:=ht.2 _ x hx k1;rwa [show(((fB (bS R l) c.pages eF os).1.toNat:Nat):Int)=(fB (bS R l) c.pages eF os).1 by omega]at this
theorem LA{c:CV}{l:List aB}(hk:bb c=true)(ht:ll c l):bb (bW c l).1=true/\dO c (bW c l).1/\c.ops<=(bW c l).1.ops/\
  ((bW c l).2.2=0->2<=(bW c l).2.1/\(bW c l).2.1<c.blocks.length/\(ak (bW c l).1 (bW c l).2.1).bad=false)/\((bW c l).2.2=9->c.ops<(bW c l).1.ops)/\((bW c l).2.2=6->(bW c l).1=c):=by
 rw[bW];have e6: ∀{b:Int},(cC c b).2≠6:=fun{b}=>by
  have: ∀n {c:CV},(fL n c b).2≠6:=by
   intro n
   induction n with
   |zero=>
    intro c;simp only[fL,dZ];split
    ·
     split
     ·
      decide
     ·
      split
      ·
       decide
      ·
       split
       ·
        rw[mn];split<;>decide
       ·
        decide
    ·
     decide
   |succ n ih=>
    intro c;rw[fL];split
    ·
     simp only[bB,kH];split
     ·
      split
      ·
       decide
      ·
       split
       ·
        decide
       ·
        split
        ·
         rw[mn];split<;>decide
        ·
         decide
     ·
      decide
    ·
     exact ih
  exact this _
 by_cases h1:(mD c l).2=true
 ·
  rw[if_pos h1];have:=xT ht (fun x h=>(tj h).1) h1;change 0<=(mD c l).1/\(mD c l).1<_/\(ak c ((mD c l).1+2)).bad=false at this;exact⟨hk, .dh c,atW _,fun _=>⟨by simp only;omega,by simp only;omega,this.2.2⟩,fun h=>absurd (show(0:Int)=9 from h) (by decide),fun h=>absurd (show(0:Int)=6 from h) (by decide)⟩
 ·
  rw[if_neg h1]
  by_cases h2:(jU c l).2=true
  ·
   rw[if_pos h2];have:=xT ht (fun x h=>(lR h).1) h2;change 0<=(jU c l).1/\(jU c l).1<_/\(ak c ((jU c l).1+2)).bad=false at this;have hc:=xO ((jU c l).1+2) hk;exact⟨hc.1,hc.2,Bs _ _ _,fun h=>⟨by simp only;omega,by simp only;omega,Hc _ h⟩,fun h=>Ha this.2.2 (.inl h),fun h=>absurd h e6⟩
  ·
   rw[if_neg h2]
   by_cases h3:(jV c l).2=true
   ·
    rw[if_pos h3];have:=xT ht (fun x h=>(lR h).1) h3;change 0<=(jV c l).1/\(jV c l).1<_/\(ak c ((jV c l).1+2)).bad=false at this;have hc:=xO ((jV c l).1+2) hk;exact⟨hc.1,hc.2,Bs _ _ _,fun h=>⟨by simp only;omega,by simp only;omega,Hc _ h⟩,fun h=>Ha this.2.2 (.inl h),fun h=>absurd h e6⟩
   ·
    rw[if_neg h3];exact⟨hk, .dh c,atW _,fun h=>absurd (show(6:Int)=0 from h) (by decide),fun h=>absurd (show(6:Int)=9 from h) (by decide),fun _=>rfl⟩
def cq(c:CV)(a0 a:List Int)(src tgt:Int):Int×Bool:=
 if tgt<0 then(if(fC ((aw c (a0++a)).set (src -2).toNat bf) c.pages).2=true then((fC ((aw c (a0++a)).set (src -2).toNat bf) c.pages).1+2,true)else(0,false))else(tgt,true)
def ez(c:CV)(g id n:Int):List UInt8×Int:=dn ⟨1,id,g.toNat,jm c n⟩ c.size
structure MV where
 c:CV
 a:List Int
 e:Option Int
def bZ(v:VV)(src tgt:Int):List Int->Nat->CV->List Int->MV
 |[],_,c,a=>⟨c,a,none⟩
 |n::r,id,c,a=>
  if n=0\/(n -1)/v.ae.pages≠src then bZ v src tgt r (id+1) c a
  else if(cq c v.at_ a src tgt).2=false then⟨c,a,some 6⟩
  else if(ez c ((v.gen:Int)+1) id n).2≠0 then⟨c,a,some (ez c ((v.gen:Int)+1) id n).2⟩
  else if bB c (cq c v.at_ a src tgt).1 (ez c ((v.gen:Int)+1) id n).1≠0 then
   ⟨bC c (cq c v.at_ a src tgt).1 (ez c ((v.gen:Int)+1) id n).1,a,some (ku (bB c (cq c v.at_ a src tgt).1 (ez c ((v.gen:Int)+1) id n).1))⟩
  else bZ v src tgt r (id+1) (bC c (cq c v.at_ a src tgt).1 (ez c ((v.gen:Int)+1) id n).1) (a.set id ((cq c v.at_ a src tgt).1*v.ae.pages+(ak c (cq c v.at_ a src tgt).1).used+1))
def db(x:WV)(src tgt:Int):WV×Bool×Int:=
 match(bZ x.v src tgt x.v.at_ 0 x.v.ae x.v.at_).e with
 |some e=>(x.on (bZ x.v src tgt x.v.at_ 0 x.v.ae x.v.at_).c,false,e)
 |none=>((eu (x.on (bZ x.v src tgt x.v.at_ 0 x.v.ae x.v.at_).c) (bZ x.v src tgt x.v.at_ 0 x.v.ae x.v.at_).a).1,decide ((eu (x.on (bZ x.v src tgt x.v.at_ 0 x.v.ae x.v.at_).c) (bZ x.v src tgt x.v.at_ 0 x.v.ae x.v.at_).a).2=0),(eu (x.on (bZ x.v src tgt x.v.at_ 0 x.v.ae x.v.at_).c) (bZ x.v src tgt x.v.at_ 0 x.v.ae x.v.at_).a).2)
theorem LB{x:WV}{src tgt:Int}{c:CV}{a:List Int}{e:Int}(h:bZ x.v src tgt x.v.at_ 0 x.v.ae x.v.at_=⟨c,a,some e⟩):db x src tgt=(x.on c,false,e):=by
 rw[db,h]
theorem acv{x:WV}{src tgt:Int}{c:CV}{a:List Int}(h:bZ x.v src tgt x.v.at_ 0 x.v.ae x.v.at_=⟨c,a,none⟩):db x src tgt=((eu (x.on c) a).1,decide ((eu (x.on c) a).2=0),(eu (x.on c) a).2):=by
 rw[db,h]
theorem SO{c:CV}{a0 a:List Int}{src tgt:Int}(h:(cq c a0 a src tgt).2=true)(ht:0<=tgt->2<=tgt/\tgt<c.blocks.length/\(ak c tgt).bad=false):
  2<=(cq c a0 a src tgt).1/\(cq c a0 a src tgt).1<c.blocks.length/\(ak c (cq c a0 a src tgt).1).bad=false:=by
 rw[cq]at h⊢
 by_cases h1:tgt<0
 ·
  rw[if_pos h1]at h⊢
  by_cases h2:(fC ((aw c (a0++a)).set (src -2).toNat bf) c.pages).2=true
  ·
   rw[if_pos h2];have hT:=(zF c (a0++a)).set (src -2).toNat;obtain⟨k1,k2,k3,k4⟩:=Br h2;change 0<=(fC ((aw c (a0++a)).set (src -2).toNat bf) c.pages).1 at k2;change(fC ((aw c (a0++a)).set (src -2).toNat bf) c.pages).1<_ at k3;change mT _ (List.getD _ (fC ((aw c (a0++a)).set (src -2).toNat bf) c.pages).1.toNat _)=true at k4;rw[hT.1]at k3;have hi:((aw c (a0++a)).set (src -2).toNat bf)[(fC ((aw c (a0++a)).set (src -2).toNat bf) c.pages).1.toNat]? =some _:=mN (d:=ei) (by rw[hT.1];omega);have:=hT.2 _ _ hi (tj k4).1;rw[show(((fC ((aw c (a0++a)).set (src -2).toNat bf) c.pages).1.toNat:Nat):Int)=(fC ((aw c (a0++a)).set (src -2).toNat bf) c.pages).1 by omega]at this;exact⟨by simp only;omega,by simp only;omega,this⟩
  ·
   rw[if_neg h2]at h;cases h
 ·
  rw[if_neg h1];exact ht (by omega)
theorem DK(c:CV)(b g:Int)(p:List UInt8):kH c b g p=0\/kH c b g p=1\/kH c b g p=7\/kH c b g p=9:=by
 rw[kH];split
 ·
  split
  ·
   omega
  split
  ·
   omega
  split
  ·
   rw[mn];split<;>omega
  omega
 omega
theorem Bx(p:PV)(n:Int):(dn p n).2=0\/(dn p n).2=1:=by
 rw[dn];split<;>simp
theorem LC{c:CV}{b:Int}{p:List UInt8}(h:bB c b p=0)(b':Int):(ak (bC c b p) b').bad=(ak c b').bad:=by
 obtain⟨h1,h2,h3,h4,h5⟩:=ql h;have hh:=(jS.1 h1).1;obtain⟨_,g2,g3⟩:=iu.1 hh;rw[h5,iM];simp only[ak,List.getD,atI]
 by_cases e:b.toNat=b'.toNat
 ·
  rw[if_pos e,if_pos (by omega),e];simp
 rw[if_neg e]
theorem LD{v:VV}{src tgt:Int}: ∀(l:List Int) (id:Nat) {c:CV} {a:List Int},bb c=true->dO v.ae c->v.ae.ops<=c.ops->iQ v.ae a->(0<=tgt->2<=tgt/\tgt<c.blocks.length/\(ak c tgt).bad=false)->
  bb (bZ v src tgt l id c a).c=true/\dO v.ae (bZ v src tgt l id c a).c/\c.ops<=(bZ v src tgt l id c a).c.ops/\iQ v.ae (bZ v src tgt l id c a).a/\(bZ v src tgt l id c a).a.length=a.length/\
   ((bZ v src tgt l id c a).e=some 0->c.ops<(bZ v src tgt l id c a).c.ops)/\((bZ v src tgt l id c a).e=some 6-> ∀b,(ak (bZ v src tgt l id c a).c b).bad=(ak c b).bad)
 |[],id,c,a,hk,hl,ho,ha,ht=>⟨hk,hl,atW _,ha,rfl,fun h=>by simp[bZ]at h,fun h=>by simp[bZ]at h⟩
 |n::r,id,c,a,hk,hl,ho,ha,ht=>by
  rw[bZ]
  by_cases h1:n=0\/(n -1)/v.ae.pages≠src
  ·
   rw[if_pos h1];exact LD r (id+1) hk hl ho ha ht
  ·
   rw[if_neg h1]
   by_cases h2:(cq c v.at_ a src tgt).2=false
   ·
    rw[if_pos h2];exact⟨hk,hl,atW _,ha,rfl,fun h=>by simp at h,fun _ _=>rfl⟩
   ·
    rw[if_neg h2];obtain⟨m1,m2,m3⟩:=SO (by simpa using h2) ht
    by_cases h3:(ez c ((v.gen:Int)+1) id n).2≠0
    ·
     rw[if_pos h3];have By:(ez c ((v.gen:Int)+1) id n).2=1:=(Bx _ _).resolve_left h3;exact⟨hk,hl,atW _,ha,rfl,fun h=>absurd (asY h) h3,fun h=>absurd (By.symm.trans (asY h)) (by decide)⟩
    ·
     rw[if_neg h3]
     by_cases h4:bB c (cq c v.at_ a src tgt).1 (ez c ((v.gen:Int)+1) id n).1≠0
     ·
      rw[if_pos h4];have iE:bB c (cq c v.at_ a src tgt).1 (ez c ((v.gen:Int)+1) id n).1=1\/bB c (cq c v.at_ a src tgt).1 (ez c ((v.gen:Int)+1) id n).1=7\/bB c (cq c v.at_ a src tgt).1 (ez c ((v.gen:Int)+1) id n).1=9:=(DK _ _ _ _).resolve_left h4;refine⟨lO hk _ _,hl.trans (iP _ _ _),zD _ _ _,ha,rfl,fun h=>?_,fun h=>?_⟩
      ·
       have h:=asY h;rw[ku]at h;split at h
       ·
        rename_i h9;have:=uH m3 (.inl h9);simp only;omega
       ·
        exact absurd h h4
      ·
       have h:=asY h;rw[ku]at h;split at h
       ·
        cases h
       ·
        omega
     ·
      rw[if_neg h4];have xU:bB c (cq c v.at_ a src tgt).1 (ez c ((v.gen:Int)+1) id n).1=0:=by simpa using h4
      have fY:=jS.1 (ql xU).1;have hd:=eX hk;have oq:=hl.trans (iP c (cq c v.at_ a src tgt).1 (ez c ((v.gen:Int)+1) id n).1);have bV:=uH m3 (p:=(ez c ((v.gen:Int)+1) id n).1) (.inr xU);have Hi:v.ae.pages=c.pages:=hl.pages.symm;have ih:=LD r (id+1) (src:=src) (tgt:=tgt) (lO hk (cq c v.at_ a src tgt).1 (ez c ((v.gen:Int)+1) id n).1) oq (by omega) (a:=a.set id ((cq c v.at_ a src tgt).1*v.ae.pages+(ak c (cq c v.at_ a src tgt).1).used+1)) (fun y hy=>by
       rcases atx hy with hy|rfl
       ·
        exact ha y hy
       ·
        have hq:((cq c v.at_ a src tgt).1*v.ae.pages+(ak c (cq c v.at_ a src tgt).1).used+1 -1)/v.ae.pages=(cq c v.at_ a src tgt).1:=by
         rw[Hi,auz,auY,auh _ _ (by omega),atY fY.2.1 fY.2.2.1,au3]
        have h0:0<=(cq c v.at_ a src tgt).1*v.ae.pages:=auO (by omega) (by omega);have:=fY.2.1;exact .inr ⟨by omega,by rw[hq];exact m1,by rw[hq,←hl.len];exact m2⟩) (fun h=>by
       have:=ht h;rw[(iP c _ _).len,LC xU];exact this)
      obtain⟨i1,i2,i3,i4,i5,i6,i7⟩:=ih;refine⟨i1,i2,by omega,i4,by rw[i5,atC],fun h=>by have:=i6 h;omega,fun h b=>?_⟩;rw[i7 h b,LC xU]
theorem LF(c:CV)(b:Int):dZ c b=0\/dZ c b=1\/dZ c b=7\/dZ c b=9:=by
 rw[dZ];split
 ·
  split
  ·
   omega
  split
  ·
   omega
  split
  ·
   rw[mn];split<;>omega
  omega
 omega
theorem acw(c:CV)(l:Int):(aW c l).2.2=0\/(aW c l).2.2=1\/(aW c l).2.2=7\/(aW c l).2.2=9:=by
 rw[aW];split
 ·
  exact .inl rfl
 split
 ·
  exact .inl rfl
 split
 ·
  exact .inr (.inr (.inr rfl))
 exact LF _ _
theorem SP: ∀(n:Nat) (y:WV) (a:List Int) (b:List UInt8),(hU n y a b).2≠6
 |0,y,a,b=>by simp[hU]
 |n+1,y,a,b=>by
  rw[hU];split
  ·
   have:=acw y.v.ae y.v.last;simp only;omega
  split
  ·
   simp
  split
  ·
   have:=DK (aW y.v.ae y.v.last).1 (aW y.v.ae y.v.last).2.1 (ak (aW y.v.ae y.v.last).1 (aW y.v.ae y.v.last).2.1).used b;simp only[bB];omega
  exact SP n _ _ _
theorem LG(y:WV)(a:List Int):(eu y a).2≠6:=by
 rw[eu];split
 ·
  rw[cZ];split
  ·
   have:=Bx ⟨2,max 0 ((a.length:Int) -1),y.v.gen+1,hQ a⟩ y.v.ae.size;simp only;omega
  simp
 exact SP _ _ _ _
theorem Hj{x:WV}{src tgt:Int}(hx:cX x)(ht:0<=tgt->2<=tgt/\tgt<x.v.ae.blocks.length/\(ak x.v.ae tgt).bad=false):
  jH x (db x src tgt).1/\((db x src tgt).2.2=0->x.v.ae.ops<(db x src tgt).1.v.ae.ops)/\((db x src tgt).2.1=true->(db x src tgt).2.2=0)/\((db x src tgt).2.1=false/\(db x src tgt).2.2=6-> ∀b,(ak (db x src tgt).1.v.ae b).bad=(ak x.v.ae b).bad):=by
 obtain⟨h1,h2,h3,h4,h5,h6,h7⟩:=LD x.v.at_ 0 (src:=src) hx.ae (.dh _) (atW _) hx.v8 ht;rw[db];split
 ·
  rename_i e he;refine⟨.on hx h1 h2 h3,fun h=>h6 (by rw[he];exact congrArg some h),fun h=>absurd (show false=true from h) (by simp),fun h b=>h7 (by rw[he];exact congrArg some h.2) b⟩
 ·
  rename_i he;have fV:=hx.on h1 h2;have hw:=Lw fV (a:=(bZ x.v src tgt x.v.at_ 0 x.v.ae x.v.at_).a) (h4.bT h2) h5;refine⟨(jH.on hx h1 h2 h3).trans hw.1,fun h=>?_,fun h=>by simpa using h,fun h=>?_⟩
  ·
   have g:(bZ x.v src tgt x.v.at_ 0 x.v.ae x.v.at_).c.ops<_:=hw.2 h;simp only;omega
  ·
   exact absurd h.2 (LG _ _)
theorem SQ: ∀(n:Nat) (c:CV) (b:Int),(fL n c b).2≠6
 |0,c,b=>by have:=LF c b;simp only[fL];omega
 |n+1,c,b=>by
  rw[fL];split
  ·
   have:=DK c b (ak c b).used (iO c);simp only[bB];omega
  exact SQ n _ _
theorem SR(c:CV)(b:Int):(cC c b).2≠6:=SQ _ _ _
def rb(c:CV)(l:List aB)(i:Int):Bool:=decide ((bW c (l.set i.toNat bf)).2.2=6)&&decide ((l.getD i.toNat ei).live<=G8 (l.set i.toNat bf) c.pages)
def cS(c:CV)(l:List aB)(i:Int):Int×Int:=if rb c l i=true then(-1,0)else(bW c (l.set i.toNat bf)).2
def fM(x:WV)(l:List aB)(i:Int):WV×Int:=
 if(cS x.v.ae l i).2≠0 then(x.on (bW x.v.ae (l.set i.toNat bf)).1,ku (cS x.v.ae l i).2)
 else if(db (x.on (bW x.v.ae (l.set i.toNat bf)).1) (i+2) (cS x.v.ae l i).1).2.1=false\/(l.getD i.toNat ei).used=x.v.ae.pages then
  ((db (x.on (bW x.v.ae (l.set i.toNat bf)).1) (i+2) (cS x.v.ae l i).1).1,(db (x.on (bW x.v.ae (l.set i.toNat bf)).1) (i+2) (cS x.v.ae l i).1).2.2)
 else((db (x.on (bW x.v.ae (l.set i.toNat bf)).1) (i+2) (cS x.v.ae l i).1).1.on (cC (db (x.on (bW x.v.ae (l.set i.toNat bf)).1) (i+2) (cS x.v.ae l i).1).1.v.ae (i+2)).1,
  ku (cC (db (x.on (bW x.v.ae (l.set i.toNat bf)).1) (i+2) (cS x.v.ae l i).1).1.v.ae (i+2)).2)
theorem SS{e:Int}(h:ku e=0):e=0\/e=9:=by
 rw[ku]at h;split at h
 ·
  exact .inr (by assumption)
 exact .inl h
theorem Hk{e:Int}(h:ku e=6):e=6:=by
 rw[ku]at h;split at h
 ·
  cases h
 exact h
theorem Hl{c:CV}{l:List aB}{i:Int}(hk:bb c=true)(ht:ll c l):(cS c l i).2=0->0<=(cS c l i).1->2<=(cS c l i).1/\(cS c l i).1<c.blocks.length/\(ak (bW c (l.set i.toNat bf)).1 (cS c l i).1).bad=false:=by
 intro h h0;rw[cS]at h h0⊢;split at h
 ·
  rename_i ha;rw[if_pos ha]at h0;exact absurd (show(0:Int)<= -1 from h0) (by decide)
 rename_i ha;rw[if_neg ha];exact(LA hk (ht.set i.toNat)).2.2.2.1 h
theorem acx{x:WV}{src tgt:Int}(hx:cX x)(ht:0<=tgt->2<=tgt/\tgt<x.v.ae.blocks.length/\(ak x.v.ae tgt).bad=false):cX (db x src tgt).1/\dO x.v.ae (db x src tgt).1.v.ae:=
 ⟨(Hj hx ht).1.ok,(Hj hx ht).1.bT⟩
theorem LH{x:WV}{l:List aB}{i:Int}(hx:cX x)(ht:ll x.v.ae l):
  jH x (fM x l i).1/\((fM x l i).2=0->x.v.ae.ops<(fM x l i).1.v.ae.ops)/\((fM x l i).2=6-> ∀b,(ak (fM x l i).1.v.ae b).bad=(ak x.v.ae b).bad):=by
 obtain⟨t1,t2,t3,t4,t5,t6⟩:=LA hx.ae (ht.set i.toNat);have hn:=jH.on hx t1 t2 t3;rw[fM]
 by_cases h0:(cS x.v.ae l i).2≠0
 ·
  rw[if_pos h0];have he:(cS x.v.ae l i).2=(bW x.v.ae (l.set i.toNat bf)).2.2:=by
   rw[cS]at h0⊢;split at h0
   ·
    exact absurd rfl h0
   ·
    rename_i ha;rw[if_neg ha]
  refine⟨hn,fun h=>?_,fun h b=>?_⟩
  ·
   rcases SS h with g|g
   ·
    exact absurd g h0
   ·
    exact t5 (he▸g)
  ·
   have:=t6 (he▸Hk h);simp only[WV.on];rw[this]
 ·
  rw[if_neg h0];have rT:(cS x.v.ae l i).2=0:=by simpa using h0
  have hr:=Hl (i:=i) hx.ae ht rT;obtain⟨m1,m2,m3,m4⟩:=Hj (x:=x.on (bW x.v.ae (l.set i.toNat bf)).1) (src:=i+2) (tgt:=(cS x.v.ae l i).1) hn.ok (fun h=>by
   have:=hr h;exact⟨this.1,by simp only[WV.on];rw[t2.len];exact this.2.1,this.2.2⟩)
  have hb:(cS x.v.ae l i).2=0->(bW x.v.ae (l.set i.toNat bf)).2.2=6->(bW x.v.ae (l.set i.toNat bf)).1=x.v.ae:=fun _ h=>t6 h
  by_cases h1:(db (x.on (bW x.v.ae (l.set i.toNat bf)).1) (i+2) (cS x.v.ae l i).1).2.1=false\/(l.getD i.toNat ei).used=x.v.ae.pages
  ·
   rw[if_pos h1];refine⟨hn.trans m1,fun h=>?_,fun h b=>?_⟩
   ·
    have g:(bW x.v.ae (l.set i.toNat bf)).1.ops<_:=m2 h;simp only;omega
   ·
    have hf:(db (x.on (bW x.v.ae (l.set i.toNat bf)).1) (i+2) (cS x.v.ae l i).1).2.1=false:=by
     cases hq:(db (x.on (bW x.v.ae (l.set i.toNat bf)).1) (i+2) (cS x.v.ae l i).1).2.1 with
     |false=>rfl
     |true=>have:=m3 hq;exact absurd (this.symm.trans h) (by decide)
    rw[m4 ⟨hf,h⟩ b]
    by_cases ha:rb x.v.ae l i=true
    ·
     simp only[rb,anc,decide_eq_true_eq]at ha;simp only[WV.on];rw[t6 ha.1]
    ·
     exact absurd h (acy (by
      have:(cS x.v.ae l i).1=(bW x.v.ae (l.set i.toNat bf)).2.1:=by rw[cS,if_neg ha]
      have g:(bW x.v.ae (l.set i.toNat bf)).2.2=0:=by
       rw[cS,if_neg ha]at rT;exact rT
      have:=(t4 g).1;omega))
  ·
   rw[if_neg h1];have hm:(db (x.on (bW x.v.ae (l.set i.toNat bf)).1) (i+2) (cS x.v.ae l i).1).2.1=true:=by
    cases hq:(db (x.on (bW x.v.ae (l.set i.toNat bf)).1) (i+2) (cS x.v.ae l i).1).2.1 with
    |true=>rfl
    |false=>exact absurd (.inl hq) h1
   have hz:=m2 (m3 hm);have hc:=xO (i+2) m1.ok.ae;have ho:=Bs (eo (db (x.on (bW x.v.ae (l.set i.toNat bf)).1) (i+2) (cS x.v.ae l i).1).1.v.ae (i+2)).toNat (db (x.on (bW x.v.ae (l.set i.toNat bf)).1) (i+2) (cS x.v.ae l i).1).1.v.ae (i+2);refine⟨(hn.trans m1).trans (.on m1.ok hc.1 hc.2 ho),fun _=>?_,fun h=>absurd (Hk h) (SR _ _)⟩;have g:(bW x.v.ae (l.set i.toNat bf)).1.ops<_:=hz;have g2:(db (x.on (bW x.v.ae (l.set i.toNat bf)).1) (i+2) (cS x.v.ae l i).1).1.v.ae.ops<=(cC (db (x.on (bW x.v.ae (l.set i.toNat bf)).1) (i+2) (cS x.v.ae l i).1).1.v.ae (i+2)).1.ops:=ho;simp only[WV.on]at*;omega
where
 acy {x:WV} {src tgt:Int} (h:0<=tgt):(db x src tgt).2.2≠6:=by
  have key: ∀(l:List Int) (id:Nat) (c:CV) (a:List Int),(bZ x.v src tgt l id c a).e≠some 6:=by
   intro l
   induction l with
   |nil=>intro id c a;simp[bZ]
   |cons n r ih=>
    intro id c a;rw[bZ];split
    ·
     exact ih _ _ _
    split
    ·
     rename_i h2;rw[cq,if_neg (by omega)]at h2;cases h2
    split
    ·
     rename_i h3;have:=(Bx ⟨1,id,((x.v.gen:Int)+1).toNat,jm c n⟩ c.size).resolve_left h3;intro h;have h:=asY h;rw[ez]at h;omega
    split
    ·
     intro h;have h:=Hk (asY h);have:=DK c (cq c x.v.at_ a src tgt).1 (ak c (cq c x.v.at_ a src tgt).1).used (ez c ((x.v.gen:Int)+1) id n).1;rw[bB]at h;omega
    exact ih _ _ _
  rw[db];split
  ·
   rename_i e he;intro h;exact key _ _ _ _ (by rw[he];exact congrArg some h)
  exact LG _ _
def nL(p:Int)(x:aB):Bool:=decide (x.used<p)&&decide (x.aR<cV)
def ox(c:CV)(l:List aB):Int×Bool:=fK (bS (nL c.pages) l) c.pages
def kL(x:WV)(l:List aB):WV×Int:=
 if(ox x.v.ae l).2=false then(x,6)else(x.on (cC x.v.ae ((ox x.v.ae l).1+2)).1,ku (cC x.v.ae ((ox x.v.ae l).1+2)).2)
def df(x:WV):List aB:=aw x.v.ae x.v.at_
def tr(x:WV):Int×Bool:=iR (df x) x.v.ae.pages
def eY(x:WV):WV×Int:=
 if(tr x).2=true/\Bt x.v.gen=false then
  (if(fM x (df x) (tr x).1).2≠6 then fM x (df x) (tr x).1 else kL (fM x (df x) (tr x).1).1 (df x))
 else kL x (df x)
theorem ll.bT{c d:CV}{l:List aB}(h:ll c l)(hl:dO c d)(hb: ∀b,(ak d b).bad=(ak c b).bad):ll d l:=⟨by rw[h.1,hl.len],fun i x hx gV=>by rw[hb];exact h.2 i x hx gV⟩
theorem LK{x:WV}{l:List aB}(hx:cX x)(ht:ll x.v.ae l):jH x (kL x l).1/\((kL x l).2=0->x.v.ae.ops<(kL x l).1.v.ae.ops):=by
 rw[kL];split
 ·
  exact⟨.dh hx,fun h=>absurd (show(6:Int)=0 from h) (by decide)⟩
 rename_i h;have hd:=xT ht (fun x h=>(lR h).1) (show(ox x.v.ae l).2=true by simpa using h);change 0<=(ox x.v.ae l).1/\(ox x.v.ae l).1<_/\(ak x.v.ae ((ox x.v.ae l).1+2)).bad=false at hd;have hc:=xO ((ox x.v.ae l).1+2) hx.ae;exact⟨.on hx hc.1 hc.2 (Bs _ _ _),fun h=>Ha hd.2.2 (SS h).symm⟩
theorem Hm{x:WV}(hx:cX x):jH x (eY x).1/\((eY x).2=0->x.v.ae.ops<(eY x).1.v.ae.ops):=by
 have ht:ll x.v.ae (df x):=zF _ _;rw[eY];split
 ·
  obtain⟨r1,r2,r3⟩:=LH (i:=(tr x).1) hx ht;split
  ·
   exact⟨r1,r2⟩
  rename_i h6;have Bz:(fM x (df x) (tr x).1).2=6:=by simpa using h6
  have:=LK r1.ok (ht.bT r1.bT (r3 Bz));exact⟨r1.trans this.1,fun h=>by have:=this.2 h;have:=r1.ops;omega⟩
 exact LK hx ht
def nM:Nat->WV->Int->WV×Int
 |0,x,_=>(x,0)
 |n+1,x,need=>
  if need<=(lj x.v.ae x.v.at_).1 then(x,0)
  else if need<=(lj x.v.ae x.v.at_).2/\v7 x.v.ae x.v.last<2 then({x with beyond:=true},0)
  else if(eY x).2=0 then nM n (eY x).1 need
  else if(eY x).2≠6 then eY x
  else if need<=(lj x.v.ae x.v.at_).2 then({(eY x).1 with beyond:=true},0)
  else((eY x).1,5)
def kM(x:WV)(need:Int):WV×Int:=nM ((cV -x.v.ae.ops).toNat+1) x need
theorem cX.by{x:WV}(h:cX x)(b:Bool):cX {x with beyond:=b}:=⟨h.ae,h.len,h.pages,h.size,h.last,h.gen,h.v8,h.kK⟩
theorem jH.by{x y:WV}(h:jH x y)(b:Bool):jH x {y with beyond:=b}:=⟨h.ok.by b,h.bT,h.ops,h.zE⟩
theorem SU: ∀(n:Nat) {x:WV} {need:Int},cX x->jH x (nM n x need).1
 |0,x,need,hx=> .dh hx
 |n+1,x,need,hx=>by
  have hc:=Hm hx;rw[nM];split
  ·
   exact .dh hx
  split
  ·
   exact(jH.dh hx).by true
  split
  ·
   exact hc.1.trans (SU n hc.1.ok)
  split
  ·
   exact hc.1
  split
  ·
   exact hc.1.by true
  exact hc.1
theorem acz{x:WV}{need:Int}(hx:cX x):jH x (kM x need).1:=SU _ hx
def bw(x:It):Int×List UInt8:=(x.id,x.body.xs)
def mE(l:List (Int×List UInt8)):Nat:=(l.filter fun x=>decide (0<x.2.length)).length
theorem acA{l:List (Int×List UInt8)}{i:Nat}{x:Int×List UInt8}(h:l[i]? =some x):((l.take (i+1)).filter fun x=>decide (0<x.2.length)).length=((l.take i).filter fun x=>decide (0<x.2.length)).length+(if 0<x.2.length then 1 else 0):=by
 rw[atf,h,at3,af0];congr 1;simp only[avF,atw,ava];split<;>simp_all
def iS(v:VV)(x:Int×List UInt8):PV:=⟨1,x.1,v.gen+1,x.2⟩
def gY(v:VV)(aG:Bool):List (Int×List UInt8)->CV->List Int->CV×List Int×Int
 |[],c,a=>(c,a,0)
 |x::r,c,a=>
  if x.2.length=0 then gY v aG r c (a.set x.1.toNat 0)
  else if(da c (v.at_++a) aG (iS v x)).2.2≠0 then((da c (v.at_++a) aG (iS v x)).1,a,(da c (v.at_++a) aG (iS v x)).2.2)
  else gY v aG r (da c (v.at_++a) aG (iS v x)).1 (a.set x.1.toNat (da c (v.at_++a) aG (iS v x)).2.1)
def cJ(x:WV)(l:List (Int×List UInt8)):WV×Int:=kM {x with beyond:=false} (mE l)
def gA(x:WV)(l:List (Int×List UInt8)):CV×List Int×Int:=gY (cJ x l).1.v (cJ x l).1.beyond l (cJ x l).1.v.ae (cJ x l).1.v.at_
def iz(x:WV)(l:List (Int×List UInt8)):WV×Int:=
 if(cJ x l).2≠0 then cJ x l
 else if(gA x l).2.2≠0 then((cJ x l).1.on (gA x l).1,(gA x l).2.2)
 else eu ((cJ x l).1.on (gA x l).1) (gA x l).2.1
theorem LL{v:VV}{aG:Bool}: ∀(l:List (Int×List UInt8)) {c:CV} {a:List Int},bb c=true->3<=c.blocks.length->iQ c a->
  bb (gY v aG l c a).1=true/\dO c (gY v aG l c a).1/\c.ops<=(gY v aG l c a).1.ops/\iQ c (gY v aG l c a).2.1/\(gY v aG l c a).2.1.length=a.length
 |[],c,a,hk,h2,ha=>⟨hk, .dh c,atW _,ha,rfl⟩
 |x::r,c,a,hk,h2,ha=>by
  rw[gY];split
  ·
   have:=LL r (v:=v) (aG:=aG) hk h2 (a:=a.set x.1.toNat 0) (fun y hy=>by
    rcases atx hy with hy|rfl
    ·
     exact ha y hy
    ·
     exact .inl rfl)
   rwa [atC]at this
  ·
   obtain⟨p1,p2,p3,p4⟩:=SI (fl:=v.at_++a) (aG:=aG) (p:=iS v x) hk h2;split
   ·
    exact⟨p1,p2,p3,ha,rfl⟩
   ·
    rename_i h0;have p5:=p4 (by simpa using h0);have:=LL r (v:=v) (aG:=aG) p1 (by rw[p2.len];exact h2) (a:=a.set x.1.toNat (da c (v.at_++a) aG (iS v x)).2.1) (fun y hy=>by
     rw[p2.pages,p2.len];rcases atx hy with hy|rfl
     ·
      exact ha y hy
     ·
      exact .inr p5)
    obtain⟨i1,i2,i3,i4,i5⟩:=this;refine⟨i1,p2.trans i2,by omega,fun y hy=>?_,by rw[i5,atC]⟩;have:=i4 y hy;rwa [p2.pages,p2.len]at this
theorem Hn{x:WV}{l:List (Int×List UInt8)}(hx:cX x):jH x (cJ x l).1:=by
 have:=acz (need:=mE l) (hx.by false);exact⟨this.ok,this.bT,this.ops,this.zE⟩
theorem LM{x:WV}{l:List (Int×List UInt8)}(hx:cX x):jH x (iz x l).1:=by
 have hs:=Hn (l:=l) hx;rw[iz];split
 ·
  exact hs
 have hl:=hs.ok.tn;obtain⟨i1,i2,i3,i4,i5⟩:=LL (v:=(cJ x l).1.v) (aG:=(cJ x l).1.beyond) l hs.ok.ae (by omega) hs.ok.v8;have fV:=hs.trans (.on hs.ok i1 i2 i3);split
 ·
  exact fV
 exact fV.trans (Lw fV.ok (i4.bT i2) i5).1
def pG:Nat->WV->List (Int×List UInt8)->WV×Int
 |0,x,_=>(x,0)
 |n+1,x,l=>if(iz x l).2=5/\nJ x.v.ae<nJ (iz x l).1.v.ae then pG n (iz x l).1 l else iz x l
theorem SV(c:CV):nJ c<=c.blocks.length:=auX _ _
def uL(v:VV)(x:Int×List UInt8):Bool:=decide (0<=x.1)&&decide (x.1<(v.at_.length:Int))&&decide ((x.2.length:Int)<=dU v.ae.size)
def uM(v:VV)(l:List (Int×List UInt8))(i:Nat):Bool:=uL v (l.getD i (0,[]))&& !((l.take i).map Prod.fst).contains (l.getD i (0,[])).1
def tt(v:VV)(l:List (Int×List UInt8)):Bool:=(List.range l.length).all (uM v l)
theorem DL{v:VV}{l:List (Int×List UInt8)}:tt v l=true↔ ∀i,i<l.length->uM v l i=true:=by simp only[tt,atk,aty]
def uN(l:List Int)(i:Nat):Int->Option Unit:=fun x=>if x∈l.take i then some ()else none
theorem SW{l:List Int}{i:Nat}{x:Int}:(uN l i x).isSome=decide (x∈l.take i):=by
 unfold uN;split<;>simp_all
theorem acB{l:List Int}:(fun _=>none)=uN l 0:=by
 funext x;simp[uN]
theorem acC{l:List Int}{i:Nat}{y:Int}(h:l[i]? =some y):(fun z=>if z=y then some ()else uN l i z)=uN l (i+1):=by
 funext x
 unfold uN;rw[atf,h]
 by_cases hx:x=y
 ·
  subst hx;simp
 simp[hx]
def gh(v:VV)(l:List (Int×List UInt8)):VV×Int:=
 if ¬(mw v=true/\v.gen<281474976710655/\tt v l=true)then(v,1)
 else if v.ae.off=true then(v,7)
 else((pG (v.ae.blocks.length+1) ⟨v,false⟩ l).1.v,(pG (v.ae.blocks.length+1) ⟨v,false⟩ l).2)
def uO(b p:Int):Int:=if b<4\/32<b\/p<1\/16<p then 0 else(b -4)*p
def oy(c:CV)(ids:Int):WV×Int:=sf ⟨⟨c,[],0,0⟩,false⟩ ids.toNat
def pH(c:CV)(ids:Int):VV×Int:=
 if ¬(gy c=true/\1<=ids/\ids<=kI c.size)then(⟨c,[],0,0⟩,1)
 else if c.off=true then(⟨c,[],0,0⟩,7)
 else if(oy c ids).2≠0 then(⟨(oy c ids).1.v.ae,[],0,0⟩,(oy c ids).2)
 else((oy c ids).1.v,0)
theorem acD{b:List UInt8}:(bF b).1.at_.length<=64/\(bF b).1.gen<281474976710656:=by
 rw[bF];split
 ·
  simp[iw]
 rename_i h1;split
 ·
  simp[iw]
 rename_i h2;split
 ·
  simp[iw]
 rename_i h3;have hf:vX (cE b).1=true:=by simpa using h3
 simp only[vX,anc,decide_eq_true_eq]at hf;refine⟨?_,Sw b⟩;have hid:(cE b).1.id<64:=by
  have tu:(cE b).2=0:=by simpa using h1
  rw[cE]at tu h2⊢
  by_cases g1:ot b.length=false
  ·
   rw[if_pos g1]at tu;cases tu
  rw[if_neg g1]at tu h2⊢
  by_cases g2:ko b=true
  ·
   rw[if_pos g2]at h2;exact absurd rfl h2
  rw[if_neg g2]at tu h2⊢
  by_cases g3:de (zx b)≠po (mv b)
  ·
   rw[if_pos g3]at tu;cases tu
  rw[if_neg g3]at tu h2⊢
  by_cases g4:pA b=false
  ·
   rw[if_pos g4]at tu;cases tu
  rw[if_neg g4]at tu h2⊢;have g5:pA b=true:=by simpa using g4
  simp only[pA,anc]at g5;have:=(rZ.1 g5.2).2.2.2.1;split
  ·
   simp[km]
  exact this
 simp only[G5];omega
theorem SX(l:List (List UInt8)): ∀k,(dw l k).new.at_.length<=64/\(dw l k).new.gen<281474976710656
 |0=>by simp[dw,iw]
 |k+1=>by
  rw[dw,zA];split
  ·
   exact acD
  exact SX l k
theorem acE(l:List (List UInt8)):(gw l).2.1.at_.length<=64/\(gw l).2.1.gen<281474976710656:=by
 rw[gw];split
 ·
  exact SX _ _
 split<;>simp[iw]
theorem Ho{v:VV}{b:Bool}(h:mw v=true):cX ⟨v,b⟩:=by
 have hr:=DB h;have ha:= @Sg v h;simp only[mw,anc,decide_eq_true_eq]at h;obtain⟨⟨⟨h1,h2⟩,h3⟩,h4⟩:=h;obtain⟨hb,hl,hf⟩:=Lf h1;obtain⟨b1,b2,b3,b4⟩:=fX.1 hb;have BA:=acE ((ak {v.ae with off:=false} 0).pages++(ak {v.ae with off:=false} 1).pages)
 rw[hf]at h2 h3 h4;simp only at h2 h3 h4;have hd:=eX hr.1;have mC:4<=(v.ae.blocks.length:Int):=b2;refine⟨hr.1,b2,b3,b4,?_,by rw[←h2];exact BA.2,fun n hn=>?_,by rw[←h4];exact BA.1⟩
 ·
  rw[←h3];have ho0:=fm.1 (ti hr.1 (b:=0) (by omega) (by omega));have ho1:=fm.1 (ti hr.1 (b:=1) (by omega) (by omega));have hlen:((ak v.ae 0).pages++(ak v.ae 1).pages).length=(ak v.ae 0).pages.length+(ak v.ae 1).pages.length:=af0;have lS:=Lb (l:=(ak v.ae 0).pages++(ak v.ae 1).pages) (by rw[hlen];omega);change 0<=(bP {v.ae with off:=false}).1/\(bP {v.ae with off:=false}).1<_ at lS
  rw[hlen]at lS;have g0:0<=(bP {v.ae with off:=false}).1/v.ae.pages:=avb lS.1 (by omega)
  have g1:(bP {v.ae with off:=false}).1/v.ae.pages<2:=Int.ediv_lt_of_lt_mul (by omega) (by
   have h9:(bP {v.ae with off:=false}).1<(((ak v.ae 0).pages.length+(ak v.ae 1).pages.length:Nat):Int):=lS.2
   omega)
  change(bP {v.ae with off:=false}).1/v.ae.pages=0\/(bP {v.ae with off:=false}).1/v.ae.pages=1
  omega
 by_cases h0:n=0
 ·
  exact .inl h0
 obtain⟨i,hi⟩:=ato hn;have:=ha hi h0;have hp:=mR.1 this.2.2;exact .inr ⟨this.1,hp.1,hp.2.1⟩
def SY(b:BV):Bool:=decide (b.pages.length<=20)&&b.pages.all fun p=>decide (p.length<=300)
def LN(c:CV):Bool:=decide (c.blocks.length<=40)&&decide (c.aV.length<=80)&&c.blocks.all SY
theorem aoS{c:CV}:LN c=true↔c.blocks.length<=40/\c.aV.length<=80/\ ∀b∈c.blocks,b.pages.length<=20/\ ∀p∈b.pages,p.length<=300:=by
 simp only[LN,SY,anc,decide_eq_true_eq,atk,and_assoc]
def zG(l:List (List UInt8))(i:Nat):Bool:=decide ((bF (l.getD i [])).2=0)&&(List.range l.length).all fun k=> !(decide ((bF (l.getD k [])).2=0)&&(decide ((bF (l.getD i [])).1.gen<(bF (l.getD k [])).1.gen)||(decide ((bF (l.getD k [])).1.gen=(bF (l.getD i [])).1.gen)&&decide (i<k))))
theorem LO(l:List (List UInt8)): ∀k,k<=l.length->
  ((dw l k).found=true-> ∃i,i<k/\(dw l k).at_=(i:Int)/\(bF (l.getD i [])).2=0/\(dw l k).new=(bF (l.getD i [])).1/\ ∀j,j<k->(bF (l.getD j [])).2=0->(bF (l.getD j [])).1.gen<(bF (l.getD i [])).1.gen\/((bF (l.getD j [])).1.gen=(bF (l.getD i [])).1.gen/\j<=i))/\
  ((dw l k).found=false-> ∀j,j<k->(bF (l.getD j [])).2≠0)/\(dw l k).blank=(l.take k).all ko
 |0,_=>⟨fun h=>by simp[dw]at h,fun _ j hj=>by omega,by simp[dw]⟩
 |k+1,hk=>by
  obtain⟨h1,h2,h3⟩:=LO l k (by omega);obtain⟨b,hb⟩:=get_some (xs:=l) (i:=k) (by omega);have hg:l.getD k []=b:=by simp[List.getD,hb]
  have dX:(l.take (k+1)).all ko=((l.take k).all ko&&ko b):=by rw[atf,hb];simp
  by_cases hq:(bF b).2=0/\((dw l k).found=false\/(dw l k).new.gen<=(bF b).1.gen)
  ·
   rw[RZ hb hq,h3,dX];refine⟨fun _=>⟨k,by omega,rfl,by rw[hg];exact hq.1,by rw[hg],fun j hj hv=>?_⟩,fun h=>by simp at h,rfl⟩;rw[hg]
   by_cases e:j=k
   ·
    subst e;rw[hg];exact .inr ⟨rfl,as4 _⟩
   ·
    have Fc:j<k:=by omega
    rcases hq.2 with hf|hf
    ·
     exact absurd hv (h2 hf j Fc)
    ·
     cases ln:(dw l k).found with
     |false=>exact absurd hv (h2 ln j Fc)
     |true=>
      obtain⟨i,hi,ha,F6,hn,ja⟩:=h1 ln;rw[hn]at hf;rcases ja j Fc hv with g|g
      ·
       exact .inl (by omega)
      ·
       by_cases bc:(bF (l.getD j [])).1.gen<(bF b).1.gen
       ·
        exact .inl bc
       ·
        exact .inr ⟨by omega,by omega⟩
  ·
   rw[R0 hb hq];refine⟨fun ln=>?_,fun ln j hj=>?_,by simp only[h3,dX]⟩
   ·
    obtain⟨i,hi,ha,F6,hn,ja⟩:=h1 ln;refine⟨i,by omega,ha,F6,hn,fun j hj hv=>?_⟩
    by_cases e:j=k
    ·
     subst e;rw[hg]at hv⊢;have: ¬(dw l j).new.gen<=(bF b).1.gen:=fun h=>hq ⟨hv, .inr h⟩;rw[hn]at this;exact .inl (by omega)
    ·
     exact ja j (by omega) hv
   ·
    by_cases e:j=k
    ·
     subst e;rw[hg];exact fun hv=>hq ⟨hv, .inl ln⟩
    ·
     exact h2 ln j (by omega)
theorem Hp{l:List (List UInt8)}{i:Nat}:zG l i=true↔(bF (l.getD i [])).2=0/\ ∀k,k<l.length->(bF (l.getD k [])).2=0-> ¬((bF (l.getD i [])).1.gen<(bF (l.getD k [])).1.gen\/((bF (l.getD k [])).1.gen=(bF (l.getD i [])).1.gen/\i<k)):=by
 simp only[zG,anc,decide_eq_true_eq,atk,aty,at0,Bool.and_eq_false_iff,Bool.or_eq_false_iff,decide_eq_false_iff_not];constructor
 ·
  rintro⟨h1,h2⟩;refine⟨h1,fun k hk hv hc=>?_⟩;rcases h2 k hk with g|g
  ·
   exact g hv
  rcases hc with c|c
  ·
   exact g.1 c
  rcases g.2 with g|g
  ·
   exact g c.1
  exact g c.2
 rintro⟨h1,h2⟩;refine⟨h1,fun k hk=>?_⟩
 by_cases hv:(bF (l.getD k [])).2=0
 ·
  have:=h2 k hk hv;refine .inr ⟨fun c=>this (.inl c),?_⟩
  by_cases e:(bF (l.getD k [])).1.gen=(bF (l.getD i [])).1.gen
  ·
   exact .inr fun c=>this (.inr ⟨e,c⟩)
  exact .inl e
 exact .inl hv
theorem SZ{l:List (List UInt8)}{i:Nat}(hi:i<l.length)(h:zG l i=true):gw l=((i:Int),(bF (l.getD i [])).1,0):=by
 obtain⟨h1,h2⟩:=Hp.1 h;obtain⟨s1,s2,s3⟩:=LO l l.length (as4 _)
 cases hf:(dw l l.length).found with
 |false=>exact absurd h1 (s2 hf i hi)
 |true=>
  obtain⟨j,hj,ha,hv,hn,ja⟩:=s1 hf;have e:j=i:=by
   have g1:=ja i hi h1;have g2:=h2 j hj hv;omega
  subst e;rw[gw,if_pos hf,ha,hn]
theorem acF{l:List (List UInt8)}(h: ∀i,i<l.length->zG l i=false):gw l=(0,iw,if l.all ko=true then 6 else 2):=by
 obtain⟨s1,s2,s3⟩:=LO l l.length (as4 _);rw[atr]at s3
 cases hf:(dw l l.length).found with
 |false=>
  rw[gw,if_neg (by rw[hf];simp),s3];split<;>rfl
 |true=>
  obtain⟨j,hj,ha,hv,hn,ja⟩:=s1 hf;have:zG l j=true:=Hp.2 ⟨hv,fun k hk hvk hc=>by have:=ja k hk hvk;omega⟩;rw[h j hj]at this;cases this
def wa(c:CV):VV×Int:=
 if(bP c).2.2≠0 then(lN,(bP c).2.2)else if mS c=false then(lN,2)else(⟨c,(bP c).2.1.at_,(bP c).2.1.gen,(bP c).1/c.pages⟩,0)
theorem S0{c:CV}{l:List Int}{i:Nat}{y:Int}(h:l.getD i 0=y):r9 c l i=(decide (y=0)||(!(l.take i).contains y&&ov c (i:Int) y)):=by rw[r9,h]
theorem acG(c:CV):bG c=if gy c=false then(lN,1)else if c.off=true then(lN,7)else wa c:=rfl
theorem acH(x:VV):mw x=(gy x.ae&&(decide ((wa x.ae).2=0)&&decide (x.at_=(wa x.ae).1.at_)&&decide (x.gen=(wa x.ae).1.gen)&&decide (x.last=(wa x.ae).1.last))):=by
 have hb:gy {x.ae with off:=false}=gy x.ae:=rfl
 have fy:mS {x.ae with off:=false}=mS x.ae:=rfl
 have BB:bP {x.ae with off:=false}=bP x.ae:=rfl
 rw[mw,acG,hb]
 cases h:gy x.ae with
 |false=>rw[if_pos rfl];rfl
 |true=>
  rw[if_neg (by simp),if_neg (by simp),wa,wa,BB,fy]
  by_cases h1:(bP x.ae).2.2≠0
  ·
   rw[if_pos h1,if_pos h1,decide_eq_false h1];rfl
  rw[if_neg h1,if_neg h1]
  by_cases h2:mS x.ae=false
  ·
   rw[if_pos h2,if_pos h2];rfl
  rw[if_neg h2,if_neg h2];rw[avn];simp only[anc,decide_eq_true_eq,true_and,atU];constructor
  ·
   rintro⟨⟨g1,g2⟩,g3⟩;exact⟨⟨g3.symm,g1.symm⟩,g2.symm⟩
  rintro⟨⟨g1,g2⟩,g3⟩;exact⟨⟨g2.symm,g3.symm⟩,g1.symm⟩
theorem acI{c:CV}(h:(bG c).2≠0):(bG c).1=lN:=by
 rw[bG]at h⊢
 repeat' split
 all_goals first|rfl|(exfalso;simp_all)
theorem acJ(c:CV):(if(bG c).2=0 then(bG c).1 else lN)=(bG c).1:=by
 by_cases h:(bG c).2=0
 ·
  rw[if_pos h]
 rw[if_neg h,acI h]
def LP(pages:Int)(l:List Int)(i:Nat)(n:Nat):Nat:=((List.range n).filter fun j=>decide (0<l.getD j 0)&&decide ((l.getD j 0 -1)/pages=(i:Int)+2)).length
theorem acK{v:VV}(h:mw v=true)(i:Nat):kr v.ae.pages v.at_ v.at_.length i=LP v.ae.pages v.at_ i v.at_.length:=by
 obtain⟨-,h2,h3⟩:=DB h;rw[kr,LP];congr 1;refine List.filter_congr fun j hj=>?_;have jh:j<v.at_.length:=aty.1 hj;have hp:=Dz.1 h2 j jh;have hr:=h3 (v.at_.getD j 0) (by rw[show v.at_.getD j 0=v.at_[j] by simp[List.getD,jh]];exact auS _);congr 1;rw[r9]at hp;rw[nI]
 by_cases h0:v.at_.getD j 0=0
 ·
  rw[h0];simp
 rw[decide_eq_true h0,decide_eq_true (show 0<v.at_.getD j 0 by omega)];rw[decide_eq_false h0,avB,anc]at hp;rw[hp.1];rfl
def sh(t:List Rt)(n id:Nat):List UInt8:=((t.drop (id*n)).take n).flatMap fq
def lT(t:List Rt)(ids n:Nat):List (List UInt8):=(List.range ids).map (sh t n)
def jI(a b:Int):Int:=if a<1\/64<a\/b<20\/240<b then 0 else min (a*(b/20)) 256
def kx(t:List Rt)(ids room:Int):Int:=if br t=false\/jI ids room=0 then 1 else if jI ids room<t.length then 5 else 0
def lq(t:List Rt)(ids room:Int):List (List UInt8):=if kx t ids room=0 then lT t ids.toNat (room/20).toNat else[]
theorem xV(t:List Rt)(ids n:Nat):(lT t ids n).length=ids:=by simp[lT]
theorem acL(l:List Rt):(l.flatMap fq).length=20*l.length:=by
 induction l with
 |nil=>rfl
 |cons a l ih=>rw[avM,af0,ih,q8,asZ];omega
theorem acM(t:List Rt)(n id:Nat):(sh t n id).length=20*min n (t.length -id*n):=by
 rw[sh,acL,as6,as9]
theorem LQ(t:List Rt)(n id:Nat):(sh t n id).length<=20*n:=by rw[acM];omega
theorem Hq{a b:Int}(h: ¬jI a b=0):1<=a/\a<=64/\20<=b/\b<=240/\jI a b=min (a*(b/20)) 256/\1<=b/20/\b/20<=12:=by
 unfold jI at h⊢;split at h
 ·
  exact absurd rfl h
 rename_i hn;rw[if_neg hn];have:1<=b/20/\b/20<=12:=by omega
 exact⟨by omega,by omega,by omega,by omega,rfl,this.1,this.2⟩
theorem acN{t:List Rt}{r:Rt}{i n id:Nat}(hn:0<n)(hr:t[i]? =some r):sh (t.take (i+1)) n id=sh (t.take i) n id++(if id=i/n then fq r else[]):=by
 have bc:i<t.length:=(ad2.1 hr).1;have e1:t.take (i+1)=t.take i++[r]:=by rw[atf,hr];rfl
 have hd:=avd i n;have hm:=avc i hn;have hc:n*(i/n)=i/n*n:=aut _ _;unfold sh;have l1:(t.take i).length=i:=by rw[as6];omega
 rw[e1]
 by_cases h1:id=i/n
 ·
  subst h1;have e2:(t.take i++[r]).drop (i/n*n)=(t.take i).drop (i/n*n)++[r]:=List.drop_append_of_le_length (by rw[l1];omega);have e3:((t.take i).drop (i/n*n)++[r]).take n=(t.take i).drop (i/n*n)++[r]:=ath (by rw[af0,as9,l1];simp only[asZ,as0];omega);have e4:((t.take i).drop (i/n*n)).take n=(t.take i).drop (i/n*n):=ath (by rw[as9,l1];omega);rw[if_pos rfl,e2,e3,e4];simp
 rw[if_neg h1,atK];rcases avX h1 with h2|h2
 ·
  have:(id+1)*n<=i/n*n:=atm _ h2;rw[atB]at this;rw[List.drop_append_of_le_length (by rw[l1];omega),List.take_append_of_le_length (by rw[as9,l1];omega)]
 have:(i/n+1)*n<=id*n:=atm _ h2;rw[atB]at this;rw[avZ (by rw[af0,l1];simp;omega),avZ (by rw[l1];omega)]
theorem acO{t:List Rt}{r:Rt}{i n ids:Nat}{x:List UInt8}(hn:0<n)(hr:t[i]? =some r)(hx:(lT (t.take i) ids n)[i/n]? =some x):
  lT (t.take (i+1)) ids n=(lT (t.take i) ids n).set (i/n) (x++fq r):=by
 refine at5 fun j=>?_;rw[atI];have hk:i/n<ids:=by have:=(ad2.1 hx).1;rwa [xV]at this
 by_cases hj:j<ids
 ·
  have e: ∀t',(lT t' ids n)[j]? =some (sh t' n j):=fun t'=>by simp[lT,hj]
  rw[e,acN hn hr]
  by_cases h:i/n=j
  ·
   subst h;rw[e]at hx;rw[if_pos rfl,if_pos rfl,if_pos (by rw[xV];exact hk)];rw[asY hx]
  ·
   rw[if_neg (fun e=>h e.symm),if_neg h,atK,e]
 ·
  rw[as7 (by rw[xV];omega),if_neg (by omega),as7 (by rw[xV];omega)]
theorem acP(t:List Rt)(ids n:Nat):lT (t.take 0) ids n=List.replicate ids []:=by
 refine List.eq_replicate_iff.2 ⟨xV _ _ _,fun x hx=>?_⟩;obtain⟨j,_,rfl⟩:=at7.1 hx;simp[sh]
theorem acQ(t:List Rt)(id n:Nat):lT t (id+1) n=lT t id n++[sh t n id]:=by simp[lT,aua]
def re(b:List UInt8):Rt:=⟨⟨if b.getD 0 0=1 then 128 else 32,(b.getD 1 0).toNat,nZ fun i=>(b.getD (2+i) 0).toNat⟩,UInt16.ofNat ((b.getD 18 0).toNat*256+(b.getD 19 0).toNat)⟩
def rd(b:List UInt8):Option Rt:=if b.getD 0 0<=1 then some (re b)else none
def mW(b:List UInt8):Option (List Rt):=
 if h:b.length<20 then(if b.length=0 then some []else none)
 else match rd (b.take 20),mW (b.drop 20)with
  |some r,some l=>some (r::l)
  |_,_=>none
termination_by b.length
decreasing_by rw[as9];omega
theorem S1:mW []=some []:=by rw[mW];simp
theorem LR{b:List UInt8}(h:20<=b.length):mW b=(rd (b.take 20)).bind fun r=>(mW (b.drop 20)).map (r:: ·):=by
 rw[mW,dif_neg (by omega)]
 cases rd (b.take 20)<;>simp
 cases mW (b.drop 20)<;>simp
theorem S2: ∀(k:Nat) (b:List UInt8),b.length<=k-> ¬b.length%20=0->mW b=none
 |0,b,h,hm=>by have:b.length=0:=by omega
               rw[this]at hm;simp at hm
 |k+1,b,h,hm=>by
  by_cases h2:b.length<20
  ·
   rw[mW,dif_pos h2,if_neg (fun e=>by rw[e]at hm;simp at hm)]
  rw[LR (by omega),S2 k (b.drop 20) (by rw[as9];omega) (by rw[as9];omega)]
  cases rd (b.take 20)<;>rfl
def ia:List (List UInt8)->Option (List Rt)
 |[]=>some []
 |b::r=>(mW b).bind fun l=>(ia r).map (l++ ·)
theorem Hr: ∀a b:List (List UInt8),ia (a++b)=(ia a).bind fun l=>(ia b).map (l++ ·)
 |[],b=>by simp[ia]
 |x::a,b=>by
  rw[aup,ia,ia,Hr a b]
  cases mW x<;>simp
  cases ia a<;>simp
  cases ia b<;>simp
theorem LS{bs:List (List UInt8)}{i:Nat}{b:List UInt8}(h:bs[i]? =some b):ia (bs.take (i+1))=(ia (bs.take i)).bind fun l=>(mW b).map (l++ ·):=by
 rw[atf,h,avF,Hr,ia,ia]
 cases ia (bs.take i)with
 |none=>rfl
 |some l=>cases mW b<;>simp
theorem S3{bs:List (List UInt8)}{i:Nat}(h:ia (bs.take i)=none):ia bs=none:=by
 rw[←atz i bs,Hr,h];rfl
def jW(bs:List (List UInt8)):List Rt:=match ia bs with
 |some t=>if br t=true then t else[]
 |none=>[]
def lu(bs:List (List UInt8)):Int:=match ia bs with
 |some t=>if br t=true then 0 else 2
 |none=>2
theorem Hs{bs:List (List UInt8)}(h:ia bs=none):jW bs=[]/\lu bs=2:=by simp[jW,lu,h]
theorem S4{bs:List (List UInt8)}{t:List Rt}(h:ia bs=some t)(hr:br t=false):jW bs=[]/\lu bs=2:=by simp[jW,lu,h,hr]
theorem LU{bs:List (List UInt8)}{t:List Rt}(h:ia bs=some t)(hr:br t=true):jW bs=t/\lu bs=0:=by simp[jW,lu,h,hr]
def uP(a b:List (List UInt8))(i:Nat):Option (Int×List UInt8):=if a.getD i []=b.getD i []then none else some ((i:Int),b.getD i [])
def oz(a b:List (List UInt8))(n:Nat):List (Int×List UInt8):=(List.range n).filterMap (uP a b)
def ff(a b:List (List UInt8)):List (Int×List UInt8):=oz a b (max a.length b.length)
theorem S5{a b:List (List UInt8)}{n:Nat}(h:a.getD n []=b.getD n []):oz a b (n+1)=oz a b n:=by
 have e:uP a b n=none:=by rw[uP,if_pos h]
 simp[oz,aua,e]
theorem S6{a b:List (List UInt8)}{n:Nat}(h: ¬a.getD n []=b.getD n []):oz a b (n+1)=oz a b n++[((n:Int),b.getD n [])]:=by
 have e:uP a b n=some ((n:Int),b.getD n []):=by rw[uP,if_neg h]
 simp[oz,aua,e]
theorem Ht(a b:List (List UInt8))(n:Nat):(oz a b n).length<=n:=by
 have:=List.length_filterMap_le (uP a b) (List.range n);simpa[oz]using this
def rf(b:List UInt8):Bool:=decide (b.getD 0 0<=1)
def rdv(b:List UInt8):Rt:=if rf b=true then re b else cI
theorem S7(b:List UInt8):rd b=if rf b=true then some (re b)else none:=by simp[rd,rf]
theorem acR(b:List UInt8):(re b).bV=uk (b.getD 18 0) (b.getD 19 0):=rfl
theorem acS{b:List UInt8}(hb:b.length=20)(v:Int)(hv:v=if b.getD 0 0=1 then 128 else 32):
  (over (((au cI).setIfInBounds 0 (.int .i64 v)).setIfInBounds 1 (.int .i64 (b.getD 1 0).toNat)) 2 (aK aQ ((b.drop 2).take 16)).toArray).setIfInBounds 18 (.int .u16 (uk (b.getD 18 0) (b.getD 19 0)).toNat)=au (re b):=by
 have hk:(aK aQ ((b.drop 2).take 16)).toArray.size=16:=by rw[at1,iK,as6,as9,hb];rfl
 have h0:(au cI).size=19:=lF _;have hs:2+(aK aQ ((b.drop 2).take 16)).toArray.size<=(((au cI).setIfInBounds 0 (.int .i64 v)).setIfInBounds 1 (.int .i64 (b.getD 1 0).toNat)).size:=by rw[hk];simp[h0]
 refine auF fun j=>?_;rw[atX,oX hs,vz hs,hk]
 by_cases Dw:18=j
 ·
  subst Dw;rw[if_pos rfl,AT,acR];simp[h0]
 rw[if_neg Dw]
 by_cases h2:2<=j/\j<2+16
 ·
  rw[if_pos h2,p6 _ j (by omega),show j=2+(j -2) by omega,rN,jQ _ _ (by omega),show 2+(j -2) -2=j -2 by omega];have hg:((b.drop 2).take 16)[j -2]? =some (b.getD j 0):=by
   rw[avv,if_pos (by omega),aug,show 2+(j -2)=j by omega,List.getD,as1 (by omega)];rfl
  have:=oY (enc:=aQ) ((b.drop 2).take 16) (j -2) _ hg 0 (by decide);simp only[auL,atZ]at this;rw[show(aK aQ ((b.drop 2).take 16)).toArray[j -2]? =(aK aQ ((b.drop 2).take 16))[j -2]?by simp,this];have e:aY (re b).p.key (j -2)=(b.getD j 0).toNat:=by
   show aY (nZ fun i=>(b.getD (2+i) 0).toNat) (j -2)=_;rw[ur _ _ (by omega),show 2+(j -2)=j by omega];have:=(b.getD j 0).toNat_lt;omega
  rw[e];rfl
 rw[if_neg h2,atX]
 by_cases h1:1=j
 ·
  subst h1;rw[if_pos rfl,p6 _ 1 (by decide),zb];simp[h0,re]
 rw[if_neg h1,atX]
 by_cases hj:0=j
 ·
  subst hj;rw[if_pos rfl,p6 _ 0 (by decide),za];simp[h0,re,hv]
 ·
  rw[if_neg hj,auE (by rw[h0];omega),auE (by rw[lF];omega)]
theorem S8{t:List Rt}{ids room:Int}(h:jI ids room=0\/br t=false):kx t ids room=1/\lq t ids room=[]:=by
 have e:kx t ids room=1:=if_pos h.symm;exact⟨e,by rw[lq,e];rfl⟩
theorem S9{t:List Rt}{ids room:Int}(h: ¬jI ids room=0)(h':br t=true)(h2:jI ids room<t.length):kx t ids room=5/\lq t ids room=[]:=by
 have e:kx t ids room=5:=by
  rw[kx,if_neg (by simp[h,h']),if_pos h2]
 exact⟨e,by rw[lq,e];rfl⟩
theorem LV{t:List Rt}{ids room:Int}(h: ¬jI ids room=0)(h':br t=true)(h2: ¬jI ids room<t.length):kx t ids room=0/\lq t ids room=lT t ids.toNat (room/20).toNat:=by
 have e:kx t ids room=0:=by
  rw[kx,if_neg (by simp[h,h']),if_neg h2]
 exact⟨e,by rw[lq,if_pos e]⟩
theorem acT{s:Sv}{xs:List (Sl UInt8)}{i:Nat}{y:Sl UInt8}:lx (⟨s,xs.set i y⟩:Sl (Sl UInt8))=(xs.map (·.xs)).set i y.xs:=by simp[lx,avr]
def uQ(m i:Nat)(nd:Nd)(b:Nat)(a:List Int):Option (List Int):=
 if(nd.sl b).len<0\/4*a.getD i 0+1<(nd.sl b).len then none
 else if nd.nx b=0 then some a
 else if nd.nx b<=(i:Int)\/(m:Int)<=nd.nx b\/a.getD (nd.nx b).toNat 0≠0 then none
 else some (a.set (nd.nx b).toNat (a.getD i 0+1))
def mX(m i:Nat)(nd:Nd):Nat->List Int->Option (List Int)
 |0,a=>some a
 |b+1,a=>(mX m i nd b a).bind (uQ m i nd b)
def ly(bits:Int)(ns:List Nd):Nat->Option (List Int)
 |0=>some ((List.replicate ns.length 0).set 0 1)
 |i+1=>(ly bits ns i).bind fun a=>if a.getD i 0=0\/bits/4<a.getD i 0 then none else mX ns.length i (ns.getD i Nd.zero) 16 a
def lz(bits:Int)(ns:List Nd):Option (List Int):=if(bits=32\/bits=128)/\1<=ns.length/\ns.length<=512 then ly bits ns ns.length else none
theorem acU{bits:Int}{ns:List Nd}{i:Nat}(h:ly bits ns i=none): ∀j,i<=j->ly bits ns j=none:=by
 intro j hj
 induction j with
 |zero=>obtain rfl:i=0:=by omega
        exact h
 |succ j ih=>
  rcases as3 j i with h'|h'
  ·
   obtain rfl:i=j+1:=by omega
   exact h
  rw[ly,ih h'];rfl
theorem acV{m i:Nat}{nd:Nd}{a:List Int}{b:Nat}(h:mX m i nd b a=none): ∀c,b<=c->mX m i nd c a=none:=by
 intro c hc
 induction c with
 |zero=>obtain rfl:b=0:=by omega
        exact h
 |succ c ih=>
  rcases as3 c b with h'|h'
  ·
   obtain rfl:b=c+1:=by omega
   exact h
  rw[mX,ih h'];rfl
theorem Ta{bits:Int}{ns:List Nd}{i:Nat}(hi:i<=ns.length)(h:ly bits ns i=none):lz bits ns=none:=by
 rw[lz];split
 ·
  exact acU h _ hi
 rfl
section
variable {bits:Int} {ns:List Nd} {i:Nat} {a a2:List Int} {nd:Nd}
theorem acW(hi:i<ns.length)(h:ly bits ns i=some a)(hx:a.getD i 0=0\/bits/4<a.getD i 0):lz bits ns=none:=
 Ta (i:=i+1) hi (by rw[ly,h,auv,if_pos hx])
theorem Tb{b:Nat}(hi:i<ns.length)(h:ly bits ns i=some a)(hn:ns[i]? =some nd)(hb:b<16)(h2:mX ns.length i nd b a=some a2)(h3:uQ ns.length i nd b a2=none):lz bits ns=none:=
 Ta (i:=i+1) hi (by
  rw[ly,h,auv];split
  ·
   rfl
  have e:ns.getD i Nd.zero=nd:=by rw[atP,hn];rfl
  rw[e];exact acV (b:=b+1) (by rw[mX,h2,auv,h3]) _ hb)
theorem acX(h:ly bits ns i=some a)(hn:ns[i]? =some nd)(hx: ¬(a.getD i 0=0\/bits/4<a.getD i 0))(h2:mX ns.length i nd 16 a=some a2):ly bits ns (i+1)=some a2:=by
 have e:ns.getD i Nd.zero=nd:=by rw[atP,hn];rfl
 rw[ly,h,auv,if_neg hx,e,h2]
theorem getD_some{α:Type}{xs:List α}{i:Nat}{x d:α}(h:xs[i]? =some x):xs.getD i d=x:=by rw[atP,h];rfl
end
def Tc(ns:List Nd):Prop:= ∀(i:Nat) (nd:Nd),ns[i]? =some nd-> ∀b:Nat,b<16->0<=nd.nx b/\nd.nx b<ns.length
theorem acY{m i:Nat}{nd:Nd}{a a2:List Int}: ∀{n:Nat},mX m i nd n a=some a2-> ∀b,b<n->nd.nx b=0\/(i:Int)<nd.nx b/\nd.nx b<m:=by
 intro n
 induction n generalizing a2 with
 |zero=>intro _ b hb;omega
 |succ n ih=>
  intro h b hb;rw[mX]at h
  cases e:mX m i nd n a with
  |none=>rw[e]at h;cases h
  |some a3=>
   rcases as3 b n with h'|h'
   ·
    exact ih e b h'
   obtain rfl:b=n:=by omega
   rw[e,auv,uQ]at h;split at h
   ·
    cases h
   split at h
   ·
    left;assumption
   split at h
   ·
    cases h
   right;omega
theorem acZ{bits:Int}{ns:List Nd}{a:List Int}: ∀{n:Nat},ly bits ns n=some a-> ∀i nd,i<n->ns[i]? =some nd-> ∀b,b<16->nd.nx b=0\/(i:Int)<nd.nx b/\nd.nx b<ns.length:=by
 intro n
 induction n generalizing a with
 |zero=>intro _ i nd hi;omega
 |succ n ih=>
  intro h i nd hi hn b hb;rw[ly]at h
  cases e:ly bits ns n with
  |none=>rw[e]at h;cases h
  |some a3=>
   rcases as3 i n with h'|h'
   ·
    exact ih e i nd h' hn b hb
   obtain rfl:i=n:=by omega
   rw[e,auv]at h;split at h
   ·
    cases h
   rw[getD_some hn]at h;exact acY h b hb
theorem Hu{bits:Int}{ns:List Nd}(h:(lz bits ns).isSome=true):Tc ns/\(bits=32\/bits=128)/\1<=ns.length/\ns.length<=512:=by
 rw[lz]at h;split at h
 ·
  rename_i hc;refine⟨fun i nd hi b hb=>?_,hc⟩;obtain⟨a,ha⟩:=at2.1 h;have dL:=(ad2.1 hi).1;rcases acZ ha i nd dL hi b hb with h1|h1
  ·
   omega
  omega
 cases h
theorem ac0{m i:Nat}{nd:Nd}{a a2:List Int}: ∀{n:Nat},mX m i nd n a=some a2->a2.getD i 0=a.getD i 0/\ ∀b,b<n->0<=(nd.sl b).len/\(nd.sl b).len<=4*a.getD i 0+1:=by
 intro n
 induction n generalizing a2 with
 |zero=>intro h;rw[mX]at h;exact⟨by rw[asY h],fun b hb=>by omega⟩
 |succ n ih=>
  intro h;rw[mX]at h
  cases e:mX m i nd n a with
  |none=>rw[e]at h;cases h
  |some a3=>
   obtain⟨LW,ih2⟩:=ih e;rw[e,auv,uQ]at h;split at h
   ·
    cases h
   rename_i h1;have mC: ∀b,b<n+1->0<=(nd.sl b).len/\(nd.sl b).len<=4*a.getD i 0+1:=fun b hb=>by
    rcases as3 b n with h'|h'
    ·
     exact ih2 b h'
    obtain rfl:b=n:=by omega
    rw[←LW];omega
   split at h
   ·
    exact⟨by rw[←asY h];exact LW,mC⟩
   split at h
   ·
    cases h
   refine⟨?_,mC⟩;rw[←asY h,←LW,atP,atP,att (by omega)]
theorem ac1{bits:Int}{ns:List Nd}{a:List Int}: ∀{n:Nat},ly bits ns n=some a-> ∀(i:Nat) (nd:Nd),i<n->ns[i]? =some nd-> ∀b,b<16->0<=(nd.sl b).len/\(nd.sl b).len<=4*(bits/4)+1:=by
 intro n
 induction n generalizing a with
 |zero=>intro _ i nd hi;omega
 |succ n ih=>
  intro h i nd hi hn b hb;rw[ly]at h
  cases e:ly bits ns n with
  |none=>rw[e]at h;cases h
  |some a3=>
   rcases as3 i n with h'|h'
   ·
    exact ih e i nd h' hn b hb
   obtain rfl:i=n:=by omega
   rw[e,auv]at h;split at h
   ·
    cases h
   rw[getD_some hn]at h;have:=(ac0 h).2 b hb;omega
theorem ac2{bits:Int}{ns:List Nd}(h:(lz bits ns).isSome=true){i:Nat}{nd:Nd}(hn:ns[i]? =some nd){b:Nat}(hb:b<16):0<=(nd.sl b).len/\(nd.sl b).len<=129:=by
 obtain⟨_,GJ,_⟩:=Hu h;rw[lz]at h;split at h
 ·
  obtain⟨a,ha⟩:=at2.1 h;have:=ac1 ha i nd (ad2.1 hn).1 hn b hb;omega
 cases h
def chain(ns:List Nd)(k:Key):Nat->Nat
 |0=>0
 |n+1=>((ns.getD (chain ns k n) Nd.zero).nx (gS k n)).toNat
theorem Hv{ns:List Nd}{k:Key}(h:Tc ns)(h0:0<ns.length): ∀n,chain ns k n<ns.length
 |0=>h0
 |n+1=>by
  have ih:=Hv (k:=k) h h0 n;obtain⟨nd,hn⟩: ∃nd,ns[chain ns k n]? =some nd:=⟨ns[chain ns k n],by simp[ih]⟩;have:=h _ nd hn (gS k n) (vM k n);rw[chain,getD_some hn];omega
def DM(ns:List Nd)(k:Key)(n:Nat):Nat:=((List.range n).find? fun j=>chain ns k (j+1)==0).getD n
theorem ac3{ns:List Nd}{k:Key}{n i:Nat}(hi:i<n)(h: ∀j,j<i->chain ns k (j+1)≠0)(h0:chain ns k (i+1)=0):DM ns k n=i:=by
 unfold DM;have:(List.range n).find? (fun j=>chain ns k (j+1)==0)=some i:=by
  rw[List.find?_range_eq_some];exact⟨by simpa using h0,by simpa using hi,fun j hj=>by simpa using h j hj⟩
 rw[this];rfl
theorem ac4{ns:List Nd}{k:Key}{n:Nat}(h: ∀j,j<n->chain ns k (j+1)≠0):DM ns k n=n:=by
 unfold DM;have:(List.range n).find? (fun j=>chain ns k (j+1)==0)=none:=by
  rw[List.find?_range_eq_none];intro j hj;simpa using h j hj
 rw[this];rfl
def wb(ns:List Nd)(k:Key)(n:Nat):List Int:=(List.range (n+1)).map fun j=>((chain ns k j:Nat):Int)
theorem ac5(ns:List Nd)(k:Key)(n:Nat):wb ns k (n+1)=wb ns k n++[((chain ns k (n+1):Nat):Int)]:=by simp[wb,aua]
theorem DN(ns:List Nd)(k:Key)(n:Nat):(wb ns k n).length=n+1:=by simp[wb]
theorem Td{ns:List Nd}{k:Key}{n i:Nat}(h:i<=n):(wb ns k n)[i]? =some ((chain ns k i:Nat):Int):=by
 simp[wb,show i<n+1 by omega]
def tv(bits:Int)(ns:List Nd)(k:Key):Bool:=(lz bits ns).isSome&&decide (cm k bits=k)
def mY(bits:Int)(ns:List Nd)(k:Key):List Int:=if tv bits ns k=true then wb ns k (DM ns k (bits/4).toNat)else[]
def pI(ns:List Nd)(k:Key):Nat->gI
 |0=>gI.no
 |n+1=>let s:=(ns.getD (chain ns k n) Nd.zero).sl (gS k n)
  if(pI ns k n).len<s.len then s else pI ns k n
theorem Te{bits:Int}{ns:List Nd}{k:Key}(h:(lz bits ns).isSome=true): ∀n,0<=(pI ns k n).len/\(pI ns k n).len<=129
 |0=>by simp[pI,gI.no]
 |n+1=>by
  obtain⟨h1,_,h3,_⟩:=Hu h;have ih:=Te (k:=k) h n;have hl:=Hv (k:=k) h1 (by omega) n;obtain⟨nd,hn⟩: ∃nd,ns[chain ns k n]? =some nd:=⟨ns[chain ns k n],by simp[hl]⟩;have:=ac2 h hn (vM k n);simp only[pI,getD_some hn];split<;>omega
theorem Tf{bits:Int}{ns:List Nd}{k:Key}:(mY bits ns k).length=0↔tv bits ns k=false:=by
 unfold mY;split
 ·
  rename_i h;simp[DN,h]
 rename_i h;simpa using h
theorem ac6{bits:Int}{ns:List Nd}{k:Key}{i:Nat}(h:i<(mY bits ns k).length):(mY bits ns k)[i]? =some ((chain ns k i:Nat):Int):=by
 unfold mY at h⊢;split at h
 ·
  rename_i hk;rw[if_pos hk];rw[DN]at h;exact Td (by omega)
 simp at h
def zH(bits:Int)(ns:List Nd)(k:Key):gI:=pI ns k (mY bits ns k).length
def si(bits:Int)(ns:List Nd)(k:Key):Int:=if tv bits ns k=true then(if(zH bits ns k).len=0 then 6 else 0)else 1
def zI(bits:Int)(ns:List Nd)(k:Key):Int:=if si bits ns k=0 then(zH bits ns k).len -1 else 0
def zJ(bits:Int)(ns:List Nd)(k:Key):UInt16:=if si bits ns k=0 then(zH bits ns k).bV else 0
section
variable {bits:Int} {W:List Wy} {R:List Rt}
end
section
variable {bits:Int} {t:List Rt}
end
def lU(p:Nat->Bool):Nat->Nat->Nat->Nat
 |0,i,_=>i
 |f+1,i,j=>if i<j then(if p ((i+j)/2)=true then lU p f i ((i+j)/2)else lU p f ((i+j)/2+1) j)else i
def bs(p:Nat->Bool)(n:Nat):Nat:=lU p (n+1) 0 n
theorem Hw(p:Nat->Bool): ∀(f g i j:Nat),j -i<f->j -i<g->lU p f i j=lU p g i j
 |0,_,_,_,h,_=>by omega
 |_+1,0,_,_,_,h=>by omega
 |f+1,g+1,i,j,h1,h2=>by
  rw[lU,lU];split
  ·
   split
   ·
    exact Hw p f g _ _ (by omega) (by omega)
   exact Hw p f g _ _ (by omega) (by omega)
  rfl
theorem Tg{p:Nat->Bool}{f i j:Nat}(h:i<j)(hf:j -i<f):lU p f i j=if p ((i+j)/2)=true then lU p f i ((i+j)/2)else lU p f ((i+j)/2+1) j:=by
 match f,hf with
 |f+1,hf=>
  rw[lU,if_pos h];split
  ·
   exact Hw p f (f+1) _ _ (by omega) (by omega)
  exact Hw p f (f+1) _ _ (by omega) (by omega)
theorem ac7{p:Nat->Bool}{f i j:Nat}(h: ¬i<j)(hf:0<f):lU p f i j=i:=by
 match f,hf with
 |f+1,_=>rw[lU,if_neg h]
theorem LX{p:Nat->Bool}{n:Nat}(hm: ∀a b,a<=b->b<n->p a=true->p b=true): ∀(f i j:Nat),j -i<f->i<=j->j<=n->(∀a,a<i->p a=false)->(∀a,j<=a->a<n->p a=true)->
  lU p f i j<=n/\(∀a,a<lU p f i j->p a=false)/\ ∀a,lU p f i j<=a->a<n->p a=true
 |0,_,_,h,_,_,_,_=>by omega
 |f+1,i,j,h,mJ,wU,h1,h2=>by
  rw[lU];split
  ·
   rename_i bc;split
   ·
    rename_i hp;exact LX hm f _ _ (by omega) (by omega) (by omega) h1 fun a ha han=>hm _ a ha han hp
   ·
    rename_i hp;refine LX hm f _ _ (by omega) (by omega) wU (fun a ha=>?_) h2
    cases rh:p a with
    |false=>rfl
    |true=>exact absurd (hm a ((i+j)/2) (by omega) (by omega) rh) hp
  ·
   obtain rfl:i=j:=by omega
   exact⟨wU,h1,h2⟩
theorem Th{p:Nat->Bool}{n:Nat}(hm: ∀a b,a<=b->b<n->p a=true->p b=true):bs p n<=n/\(∀a,a<bs p n->p a=false)/\ ∀a,bs p n<=a->a<n->p a=true:=
 LX hm (n+1) 0 n (by omega) (atv _) (as4 _) (fun a ha=>by omega) (fun a h1 h2=>by omega)
def behind(t:List Rt)(q:aZ)(j:Nat):Bool:=match t[j]?with
 |some r=> !cH r.p q
 |none=>true
def cF(t:List Rt)(q:aZ):Nat:=bs (behind t q) t.length
def jX(t:List Rt)(q:aZ):Bool:=match t[cF t q]?with
 |some r=>decide (r.p=q)
 |none=>false
theorem LY{p:Nat->Bool}: ∀(f i j:Nat),i<=j->lU p f i j<=j
 |0,_,_,h=>h
 |f+1,i,j,h=>by
  rw[lU];split
  ·
   split
   ·
    exact avq (LY f _ _ (by omega)) (by omega)
   exact LY f _ _ (by omega)
  exact h
theorem LZ(t:List Rt)(q:aZ):cF t q<=t.length:=LY _ _ _ (atv _)
theorem ac8(t:List Rt)(q:aZ):jX t q=(decide (((cF t q:Nat):Int)<(t.length:Int))&&decide ((t.getD (cF t q) cI).p=q)):=by
 rcases as3 (cF t q) t.length with h|h
 ·
  have e:t[cF t q]? =some t[cF t q]:=by simp[h]
  rw[jX,e,atP,e];simp[h]
 rw[jX,as7 h,decide_eq_false (by omega)];rfl
def tw(t:List Rt)(k:Key)(bits:Int)(n:Nat):Option Rt:=if jX t ⟨bits,n,cm k n⟩=true then t[cF t ⟨bits,n,cm k n⟩]?else none
def oA(t:List Rt)(k:Key)(bits:Int):Nat->Option Rt
 |0=>tw t k bits 0
 |n+1=>match tw t k bits (n+1)with
  |some r=>some r
  |none=>oA t k bits n
def tA(t:List Rt)(k:Key)(bits:Int):Bool:=br t&&bo ⟨bits,bits,k⟩
def kN(t:List Rt)(k:Key)(bits:Int):Rt:=if tA t k bits=true then(oA t k bits bits.toNat).getD cI else cI
def ky(t:List Rt)(k:Key)(bits:Int):Int:=if tA t k bits=true then(if(oA t k bits bits.toNat).isSome=true then 0 else 6)else 1
theorem Hx{t:List Rt}(h:br t=true): ∀(i j:Nat) (a b:Rt),i<j->t[i]? =some a->t[j]? =some b->cH a.p b.p=true:=by
 intro i j
 induction j with
 |zero=>intro a b mJ;omega
 |succ j ih=>
  intro a b mJ ha hb;have iX:=(ad2.1 hb).1;obtain⟨c,hc⟩: ∃c,t[j]? =some c:=⟨t[j],by simp[show j<t.length by omega]⟩;have pJ:cH c.p b.p=true:=by
   cases hx:cH c.p b.p with
   |true=>rfl
   |false=>
    have:=FR iX (by rw[FT hb hc,hx];simp);rw[this]at h;cases h
  rcases as3 i j with h1|h1
  ·
   have hac:=ih a c h1 ha hc;have m1:=uA h (alM ha);have m2:=uA h (alM hb);have m3:=uA h (alM hc);rw[mP m1 m3]at hac;rw[mP m3 m2]at pJ;rw[mP m1 m2];omega
  obtain rfl:i=j:=by omega
  obtain rfl:=asY (ha.symm.trans hc);exact pJ
theorem mZ{p:aZ}(h:bo p=true):cH p p=false:=by
 cases hx:cH p p with
 |false=>rfl
 |true=>rw[mP h h]at hx;omega
theorem Ti{t:List Rt}(h:br t=true){q:aZ}(hq:bo q=true)(a b:Nat)(rD:a<=b)(hb:b<t.length)(ha:behind t q a=true):behind t q b=true:=by
 obtain⟨x,hx⟩: ∃x,t[a]? =some x:=⟨t[a],by simp[show a<t.length by omega]⟩;obtain⟨y,hy⟩: ∃y,t[b]? =some y:=⟨t[b],by simp[hb]⟩;simp only[behind,hx,hy,at0]at ha⊢;rcases as3 a b with h1|h1
 ·
  have hl:=Hx h a b x y h1 hx hy;have m1:=uA h (alM hx);have m2:=uA h (alM hy)
  cases hz:cH y.p q with
  |false=>rfl
  |true=>
   rw[mP m1 m2]at hl;rw[mP m2 hq]at hz;have:cH x.p q=true:=by rw[mP m1 hq];omega
   rw[this]at ha;cases ha
 obtain rfl:a=b:=by omega
 obtain rfl:=asY (hx.symm.trans hy);exact ha
theorem DO{t:List Rt}(h:br t=true){q:aZ}(hq:bo q=true){r:Rt}(hr:r∈t)(e:r.p=q):t[cF t q]? =some r/\jX t q=true:=by
 obtain⟨h1,h2,h3⟩:=Th (p:=behind t q) (n:=t.length) fun a b=>Ti h hq a b;obtain⟨i,hi⟩:=aue.1 hr;have dL:=(ad2.1 hi).1;have e1:cF t q=i:=by
  have Tj:behind t q i=true:=by simp only[behind,hi,e,mZ hq];rfl
  rcases avA (cF t q) i with h4|h4|h4
  ·
   obtain⟨x,hx⟩: ∃x,t[cF t q]? =some x:=⟨t[cF t q],by simp[show cF t q<t.length by omega]⟩;have h5:=h3 (cF t q) (as4 _) (by omega);have h6:=Hx h _ _ x r h4 hx hi;simp only[behind,hx]at h5;rw[e]at h6;rw[h6]at h5;cases h5
  ·
   exact h4
  have:=h2 i h4;rw[this]at Tj;cases Tj
 rw[jX,e1,hi];exact⟨rfl,by simp[e]⟩
theorem wc{t:List Rt}{q:aZ}(h:jX t q=true): ∃r∈t,t[cF t q]? =some r/\r.p=q:=by
 rw[jX]at h
 cases e:t[cF t q]?with
 |none=>rw[e]at h;cases h
 |some r=>rw[e]at h;exact⟨r,alM e,rfl,by simpa using h⟩
section
variable {t:List Rt} {k:Key} {bits:Int}
theorem Tk(hb:bits=32\/bits=128){n:Nat}(hn:(n:Int)<=bits):bo ⟨bits,n,cm k n⟩=true:=
 (kj _).2 ⟨hb,by simp,hn,by simp only;rw[AR];congr 1;omega⟩
theorem DP(h:br t=true)(hb:bits=32\/bits=128){n:Nat}(hn:(n:Int)<=bits){r:Rt}:tw t k bits n=some r↔r∈t/\r.p=⟨bits,n,cm k n⟩:=by
 constructor
 ·
  intro e;unfold tw at e;split at e
  ·
   rename_i hp;obtain⟨r',h1,h2,h3⟩:=wc hp;rw[h2]at e;obtain rfl:=asY e;exact⟨h1,h3⟩
  cases e
 rintro⟨h1,h2⟩;obtain⟨h3,h4⟩:=DO h (Tk hb hn) h1 h2;rw[tw,if_pos h4,h3]
theorem Tl(h:br t=true)(hb:bits=32\/bits=128): ∀{n:Nat} {r:Rt},(n:Int)<=bits->oA t k bits n=some r->r∈t/\(∃m:Nat,m<=n/\r.p=⟨bits,m,cm k m⟩)/\ ∀q∈t,∀m:Nat,m<=n->q.p=⟨bits,m,cm k m⟩->q.p.len<=r.p.len
 |0,r,hn,e=>by
  obtain⟨h1,h2⟩:=(DP h hb hn).1 e;exact⟨h1,⟨0,as4 _,h2⟩,fun q _ m hm hq=>by rw[hq,h2];simp;omega⟩
 |n+1,r,hn,e=>by
  rw[oA]at e
  cases hx:tw t k bits (n+1)with
  |some r'=>
   rw[hx]at e;obtain rfl:=asY e;obtain⟨h1,h2⟩:=(DP h hb hn).1 hx;exact⟨h1,⟨n+1,as4 _,h2⟩,fun q _ m hm hq=>by rw[hq,h2];simp;omega⟩
  |none=>
   rw[hx]at e;obtain⟨h1,⟨m,hm,h2⟩,h3⟩:=Tl h hb (by omega) e;refine⟨h1,⟨m,by omega,h2⟩,fun q hq m' GK e'=>?_⟩;rcases as3 n m' with h4|h4
   ·
    obtain rfl:m'=n+1:=by omega
    rw[(DP h hb hn).2 ⟨hq,e'⟩]at hx;cases hx
   exact h3 q hq m' h4 e'
theorem Tm(h:br t=true)(hb:bits=32\/bits=128): ∀{n:Nat},(n:Int)<=bits->oA t k bits n=none-> ∀q∈t,∀m:Nat,m<=n->q.p≠⟨bits,m,cm k m⟩
 |0,hn,e=>fun q hq m hm e'=>by
  obtain rfl:m=0:=by omega
  rw[oA,(DP h hb hn).2 ⟨hq,e'⟩]at e;cases e
 |n+1,hn,e=>fun q hq m hm e'=>by
  rw[oA]at e
  cases hx:tw t k bits (n+1)with
  |some r'=>rw[hx]at e;cases e
  |none=>
   rw[hx]at e;rcases as3 n m with h4|h4
   ·
    obtain rfl:m=n+1:=by omega
    rw[(DP h hb hn).2 ⟨hq,e'⟩]at hx;cases hx
   exact Tm h hb (by omega) e q hq m h4 e'
theorem Tn{r:Rt}(GJ:r.p.bits=bits)(hf:qO r.p k=true): ∃m:Nat,(m:Int)<=bits/\r.p=⟨bits,m,cm k m⟩:=by
 obtain⟨h1,_,h3⟩:=(rP _ _).1 hf;obtain⟨_,h4,h5,_⟩:=(kj _).1 h1;refine⟨r.p.len.toNat,by omega,?_⟩;obtain⟨⟨b,l,q⟩,bV⟩:=r;simp only at*;have:((l.toNat:Nat):Int)=l:=by omega
 rw[this,h3,GJ]
theorem ac9(hb:bits=32\/bits=128)(hk:cm k bits=k){r:Rt}{m:Nat}(hm:(m:Int)<=bits)(e:r.p=⟨bits,m,cm k m⟩):r.p.bits=bits/\qO r.p k=true:=by
 refine⟨by rw[e],(rP _ _).2 ⟨by rw[e];exact Tk hb hm,by rw[e];exact hk,by rw[e]⟩⟩
end
structure Ord(t:List Rt):Prop where
  may: ∀r∈t,bo r.p=true
  less:t.Pairwise fun a b=>cH a.p b.p=true
theorem kz{t:List Rt}(h:br t=true):Ord t:=⟨fun _ hr=>uA h hr,by
  rw[atV];intro i j hi hj mJ;exact Hx h i j _ _ mJ (by simp[hi]) (by simp[hj])⟩
theorem To{t:List Rt}(h:Ord t)(hl:t.length<=256):br t=true:=by
  refine PX hl ?_;have key: ∀n,n<=t.length->sU t n=true:=by
    intro n
    induction n with
    |zero=>intro _;rfl
    |succ n ih=>
     intro hn;rw[J7,ih (by omega),atU];have hi:t[n]? =some t[n]:=by simp[show n<t.length by omega]
     have hm:=h.may _ (alM hi)
     cases n with
     |zero=>rw[J9 hi,hm]
     |succ m=>
      have hq:t[m]? =some t[m]:=by simp[show m<t.length by omega]
      rw[FT hi hq,hm,atU];exact(atV.1 h.less) m (m+1) (by omega) (by omega) (by omega)
  exact key _ (as4 _)
theorem Ord.sub{s t:List Rt}(h:Ord t)(hs:s.Sublist t):Ord s:=⟨fun r hr=>h.may r (hs.subset hr),h.less.sublist hs⟩
theorem Ord.uniq{t:List Rt}(h:Ord t){a b:Rt}(ha:a∈t)(hb:b∈t)(e:a.p=b.p):a=b:=by
  obtain⟨i,hi,rfl⟩:=aul ha;obtain⟨j,hj,rfl⟩:=aul hb;have hp:=atV.1 h.less;have hm:=h.may _ hb;rcases avA i j with h1|h1|h1
  ·have:=hp i j hi hj h1;rw[e,mZ hm]at this;cases this
  ·subst h1;rfl
  ·have:=hp j i hj hi h1;rw[e,mZ hm]at this;cases this
theorem Ord.nodup{t:List Rt}(h:Ord t):t.Nodup:=h.less.imp_of_mem fun{a b} ha _ rD e=>by
  subst e;rw[mZ (h.may _ ha)]at rD;cases rD
theorem ada{a b p:aZ}(ha:nC a p=true)(hb:nC b p=true)(hl:b.len<=a.len):nC b a=true:=by
  obtain⟨a1,a2,a3,a4,a5⟩:=(vD a p).1 ha;obtain⟨b1,b2,b3,b4,b5⟩:=(vD b p).1 hb;refine(vD b a).2 ⟨b1,a1,b3.trans a3.symm,hl,?_⟩;rw[←a5,AR,←b5];congr 1;omega
theorem Tp{a b:aZ}(h:nC a b=true)(hl:b.len<=a.len):a=b:=by
  obtain⟨a1,a2,a3,a4,a5⟩:=(vD a b).1 h;obtain⟨_,_,_,b4⟩:=(kj b).1 a2;have e:a.len=b.len:=by omega
  have hk:a.key=b.key:=by rw[←a5,e,b4]
  cases a;cases b;simp_all
def pK(r:Rt)(p:aZ):Bool:=decide (r.p≠p)&&nC r.p p
theorem zK{r:Rt}{p:aZ}:pK r p=true↔r.p≠p/\nC r.p p=true:=by simp[pK]
theorem Tq{r:Rt}{p:aZ}(h:pK r p=true):r.p.len<p.len:=by
  obtain⟨h1,h2⟩:=zK.1 h;apply atc;intro hn;exact h1 (Tp h2 (by omega))
def lA(t:List Rt)(p:aZ):Option Rt:=t.reverse.find? fun r=>pK r p
theorem adb{t:List Rt}{p:aZ}:lA t p=none↔ ∀r∈t,pK r p=false:=by
  rw[lA,auZ];simp
theorem L3{t:List Rt}{p:aZ}{o:Rt}(h:lA t p=some o):o∈t/\pK o p=true:=by
  have h1:=auV h;have h2:=List.find?_some h;exact⟨by simpa using h1,h2⟩
theorem Ord.ade{t:List Rt}(h:Ord t){p:aZ}{o:Rt}(ho:lA t p=some o){q:Rt}(hq:q∈t)(hc:pK q p=true):q.p.len<=o.p.len:=by
  obtain⟨ho1,L4⟩:=L3 ho;apply atc;intro hn;have hn:o.p.len<q.p.len:=by omega
  have adf:=ada (zK.1 hc).2 (zK.1 L4).2 (by omega);obtain⟨us,bs,e1,h3⟩: ∃us bs,t=us++o::bs/\ ∀b∈bs,pK b p=false:=by
    rw[lA,List.find?_eq_some_iff_append]at ho;obtain⟨_,us,bs,e,h3⟩:=ho;refine⟨bs.reverse,us.reverse,?_,fun b hb=>by simpa using h3 b (by simpa using hb)⟩;have:=congrArg List.reverse e;simpa using this
  rw[e1]at hq;rcases as8.1 hq with hq|hq
  ·have hl:=h.less
   rw[e1,auP]at hl;have:=hl.2.2 q hq o (by simp);rw[PU adf]at this;cases this
  ·rcases as2.1 hq with rfl|hq
   ·omega
   ·rw[h3 q hq]at hc;cases hc
def jY(k:Key)(bits:Int)(r:Rt):Bool:=decide (r.p.bits=bits)&&qO r.p k
def mF(t:List Rt)(k:Key)(bits:Int):List Rt:=t.filter (jY k bits)
theorem Ord.adg{t:List Rt}(h:Ord t){k:Key}{bits:Int}:(t.filter (jY k bits)).Pairwise fun a b=>a.p.len<b.p.len:=by
  rw[List.pairwise_filter];refine h.less.imp_of_mem fun{a b} _ _ rD ha hb=>?_;simp only[jY,anc,decide_eq_true_eq]at ha hb;apply atc;intro hn;rw[PU (PT hb.2 ha.2 (hb.1.trans ha.1.symm) (by omega))]at rD;cases rD
def uR(t:List Rt)(r:Rt):Bool:=match lA t r.p with
  |none=>true
  |some o=> !decide (o.bV=r.bV)
def we(t:List Rt):List Rt:=t.filter (uR t)
def Ts(t:List Rt)(r:Rt):Bool:=(lA t r.p).isNone
def adh(t:List Rt):List Rt:=t.filter (Ts t)
def zL(t:List Rt)(p:aZ):Nat:=t.countP fun q=>nC q.p p
def Tt(t:List Rt):Nat:=t.foldl (fun m r=>max m (zL t r.p)) 0
theorem BC(t:List Rt):(we t).Sublist t:=avp
theorem adi(t s:List Rt): ∀{m:Nat},m<=s.foldl (fun m r=>max m (zL t r.p)) m/\ ∀r∈s,zL t r.p<=s.foldl (fun m r=>max m (zL t r.p)) m:=by
  induction s with
  |nil=>intro m;exact⟨Nat.le_refl _,by simp⟩
  |cons a s ih=>
   intro m;obtain⟨h1,h2⟩:=ih (m:=max m (zL t a.p));rw[auA];refine⟨by omega,fun r hr=>?_⟩;rcases as2.1 hr with rfl|hr
   ·omega
   ·exact h2 r hr
theorem adj{t:List Rt}{r:Rt}(hr:r∈t):zL t r.p<=Tt t:=(adi t t).2 r hr
structure DQ(t:List Rt)(F:Rt->Prop):Prop where
  comp: ∀a b,a∈t->b∈t->F a->F b->b.p.len<=a.p.len->nC b.p a.p=true
  up: ∀a b,a∈t->b∈t->F a->pK b a.p=true->F b
theorem L5{t:List Rt}(k:Key)(bits:Int):DQ t fun r=>jY k bits r=true:=
  ⟨fun a b _ _ ha hb hl=>by
    simp only[jY,anc,decide_eq_true_eq]at ha hb;exact PT hb.2 ha.2 (hb.1.trans ha.1.symm) hl,
   fun a b _ _ ha hb=>by
    simp only[jY,anc,decide_eq_true_eq]at ha⊢;obtain⟨h1,h2⟩:=zK.1 hb;exact⟨((vD _ _).1 h2).2.2.1.trans ha.1,Zf h2 ha.2⟩⟩
theorem DQ.lean{t:List Rt}{F:Rt→Prop}(f:DQ t F)(h:Ord t): ∀(n:Nat) {r:Rt},r.p.len.toNat=n→r∈t→F r→
    ∃s∈we t,F s/\s.p.len<=r.p.len/\s.bV=r.bV/\ ∀q∈we t,F q->q.p.len<=r.p.len->q.p.len<=s.p.len:=by
  intro n
  induction n using Nat.strongRecOn with
  |_ n ih=>
   intro r hn hr hF
   cases hd:uR t r with
   |true=>exact⟨r,atl.2 ⟨hr,hd⟩,hF,atW _,rfl,fun q _ _ hl=>hl⟩
   |false=>
    unfold uR at hd;split at hd
    ·cases hd
    ·rename_i o ho
     have Tu:o.bV=r.bV:=by simpa using hd
     obtain⟨h1,h2⟩:=L3 ho;have hFo:=f.up r o hr h1 hF h2;have uu:=Tq h2;have hmo:=(kj o.p).1 (h.may o h1);obtain⟨s,fT,uS,Hy,L6,L7⟩:=ih o.p.len.toNat (by omega) rfl h1 hFo;refine⟨s,fT,uS,by omega,L6.trans Tu,fun q hq Tw hl=>L7 q hq Tw ?_⟩;have L8:=(BC t).subset hq
     have bM:q.p≠r.p:=fun e=>by
          have:=h.uniq L8 hr e;subst this;have oS:=(atl.1 hq).2;unfold uR at oS;rw[ho]at oS;simp[Tu]at oS
     exact h.ade ho L8 (zK.2 ⟨bM,f.comp r q hr L8 hF Tw hl⟩)
theorem DQ.top{t:List Rt}{F:Rt->Prop}(f:DQ t F)(h:Ord t): ∀(n:Nat) {r:Rt},r.p.len.toNat=n->r∈t->F r-> ∃s∈adh t,F s:=by
  intro n
  induction n using Nat.strongRecOn with
  |_ n ih=>
   intro r hn hr hF
   cases ho:lA t r.p with
   |none=>exact⟨r,atl.2 ⟨hr,by rw[Ts,ho];rfl⟩,hF⟩
   |some o=>
    obtain⟨h1,h2⟩:=L3 ho;have uu:=Tq h2;have hmo:=(kj o.p).1 (h.may o h1);exact ih o.p.len.toNat (by omega) rfl h1 (f.up r o hr h1 hF h2)
theorem adk{us bs:List Rt}{r:Rt}{p:aZ}(hc:pK r p=true)(h: ∀b∈bs,pK b p=false):lA (us++r::bs) p=some r:=by
  rw[lA,List.find?_eq_some_iff_append];exact⟨hc,bs.reverse,us.reverse,by simp,fun b hb=>by rw[h b (by simpa using hb)];rfl⟩
theorem adl{t:List Rt}{p:aZ}{k:Nat}(hk:k<t.length)(h: ∀j,j<k->pK (t.getD (t.length -1 -j) cI) p=false)(hc:pK (t.getD (t.length -1 -k) cI) p=true):lA t p=some (t.getD (t.length -1 -k) cI):=by
  have hi:t.length -1 -k<t.length:=by omega
  have e:t=t.take (t.length -1 -k)++t.getD (t.length -1 -k) cI::t.drop (t.length -1 -k+1):=by
    have:t.getD (t.length -1 -k) cI=t[t.length -1 -k]:=by simp[List.getD,hi]
    rw[this,avE,atz]
  have:=adk (us:=t.take (t.length -1 -k)) (bs:=t.drop (t.length -1 -k+1)) hc fun b hb=>by
    obtain⟨j,hj,rfl⟩:=aul hb;rw[as9]at hj;have:=h (t.length -1 -(t.length -1 -k+1+j)) (by omega);rw[show t.length -1 -(t.length -1 -(t.length -1 -k+1+j))=t.length -1 -k+1+j by omega]at this;rw[List.getElem_drop];simpa[List.getD,show t.length -1 -k+1+j<t.length by omega]using this
  rw[←e]at this;exact this
theorem adm{t:List Rt}{p:aZ}(h: ∀j,j<t.length->pK (t.getD (t.length -1 -j) cI) p=false):lA t p=none:=adb.2 fun r hr=>by
  obtain⟨j,hj,rfl⟩:=aul hr;have:=h (t.length -1 -j) (by omega);rw[show t.length -1 -(t.length -1 -j)=j by omega]at this;simpa[List.getD,hj]using this
theorem Hz{α:Type}{f:α->Bool}{t:List α}{i:Nat}{r:α}(hr:t[i]? =some r):(t.take (i+1)).filter f=(t.take i).filter f++if f r=true then[r]else[]:=by
  rw[atf,hr,at3];congr 1;simp only[avF,atw,ava]
def lB(t:List Rt)(k:Key)(bits:Int):List Rt:=if ky t k bits=1 then[]else mF t k bits
def uT(t:List Rt):List Rt:=if br t=true then we t else t
def xW(t:List Rt)(p:aZ):Bool:=br t&&bo p
def zM(t:List Rt)(p:aZ):Option Rt:=if jX t p=true then t[cF t p]?else none
def zN(t:List Rt)(p:aZ):UInt16:=if xW t p=true then((zM t p).getD cI).bV else 0
def wg(t:List Rt)(p:aZ):Int:=if xW t p=true then(if(zM t p).isSome=true then 0 else 6)else 1
theorem adn{t:List Rt}(h:br t=true){r:Rt}(hr:r∈t):zM t r.p=some r:=by
  obtain⟨h1,h2⟩:=DO h (uA h hr) hr rfl;rw[zM,if_pos h2,h1]
theorem Tx{t:List Rt}(h:br t=true){r:Rt}(hr:r∈t):wg t r.p=0/\zN t r.p=r.bV:=by
  have bD:xW t r.p=true:=by rw[xW,h,uA h hr];rfl
  rw[wg,zN,if_pos bD,if_pos bD,adn h hr];exact⟨rfl,rfl⟩
theorem ado{t:List Rt}(h:br t=true){p:aZ}(he:wg t p=0): ∃r∈t,r.p=p/\zN t p=r.bV:=by
  unfold wg at he;split at he
  ·rename_i bD
   split at he
   ·rename_i hs
    obtain⟨r,hr⟩:=at2.1 hs;unfold zM at hr;split at hr
    ·rename_i hp
     obtain⟨q,h1,h2,h3⟩:=wc hp;rw[h2]at hr;cases hr;exact⟨r,h1,h3,by rw[zN,if_pos bD,zM,if_pos hp,h2];rfl⟩
    ·cases hr
   ·cases he
  ·cases he
structure Ch where
 r:Rt
 gone:Bool
 deriving DecidableEq
def Ty:Ch:=⟨cI,false⟩
def fU(x:Ch):Array Value:=au x.r++ #[.bool x.gone]
theorem Tz(x:Ch):(fU x).size=20:=by unfold fU;rw[avN,lF];rfl
theorem TA(x:Ch)(j:Nat)(h:j<19):(fU x)[j]? =(au x.r)[j]? :=by
 unfold fU;rw[avs (by rw[lF];exact h)]
theorem adp(x:Ch):(fU x)[19]? =some (.bool x.gone):=by
 unfold fU;rw[Array.getElem?_append_right (by rw[lF];omega),lF];rfl
def dY(t:List Rt)(c:Ch):Int:=if bo c.r.p=true then(if jX t c.r.p=true then 0 else if c.gone=true then 6 else if 256<=t.length then 5 else 0)else 1
def ib(t:List Rt)(c:Ch):List Rt:=
 if dY t c=0 then(if c.gone=true then t.take (cF t c.r.p)++t.drop (cF t c.r.p+1)else if jX t c.r.p=true then t.set (cF t c.r.p) c.r else t.take (cF t c.r.p)++c.r::t.drop (cF t c.r.p))else t
theorem TB{t:List Rt}(h:t.length<=256)(c:Ch):(ib t c).length<=256:=by
 unfold ib;split
 ·
  rename_i he;split
  ·
   simp only[af0,as6,as9];omega
  split
  ·
   simpa using h
  rename_i h1 h2;have:t.length<256:=by
   apply atc;intro hn;unfold dY at he;rw[if_neg h2,if_neg h1,if_pos (show 256<=t.length by omega)]at he;split at he<;>omega
  have hp:=LZ t c.r.p;simp only[af0,as6,asZ,as9];omega
 exact h
def iI:List Rt->List Ch->List Rt×Int
 |t,[]=>(t,0)
 |t,c::l=>if dY t c=0 then iI (ib t c) l else(t,dY t c)
theorem TC{t:List Rt}{l:List Ch}{i:Nat}{c:Ch}(hc:l[i]? =some c):iI t (l.drop i)=if dY t c=0 then iI (ib t c) (l.drop (i+1))else(t,dY t c):=by
 obtain⟨hi,rfl⟩:=ad2.1 hc;rw[au9 hi,iI]
def dr(t:List Rt)(l:List Ch):Int:=if br t=true then(iI t l).2 else 1
def cj(t:List Rt)(l:List Ch):List Rt:=if dr t l=0 then(iI t l).1 else t
end Go.Kb
namespace Go.ax
def wh:Nat->Value->Value->Prop
 |0, .int k _, .int k' _=>k=k'
 |1, .bool _, .bool _=>True
 |2, .string _, .string _=>True
 |_,_,_=>False
def ri:Value->Bool
 | .agg _=>true
 |_=>false
def BD(P:Program)(d:Nat)(t:TypeId)(kA:Bool)(ks:List Nat):Prop:=
 ∀(w:World) (x y:Value),ri x=kA->ri y=kA->x.cells.size=ks.length->y.cells.size=ks.length->
  (∀(i k:Nat),ks[i]? =some k-> ∃u v,x.cells[i]? =some u/\y.cells[i]? =some v/\wh k u v)->
  ∃r:Bool,(Op.equalIn d t x y).run P w= .ok r w/\(r=true↔ ∀i,i<ks.length->x.cells[i]? =y.cells[i]?)
section
variable {P:Program} {d:Nat} {t:TypeId}
theorem cells_one{x:Value}(h:ri x=false):x.cells= #[x]:=by
 cases x<;>simp_all[ri,Value.cells]
theorem L9{q:IntKind}(hu:P.underlying t=some (.int q)):BD P (d+1) t false [0]:=fun w x y hx hy _ _ hk=>by
 obtain⟨u,v,h1,h2,h3⟩:=hk 0 0 rfl;rw[cells_one hx]at h1⊢;rw[cells_one hy]at h2⊢;simp at h1 h2;subst h1 h2
 cases x<;>cases y<;>simp only[wh]at h3
 subst h3;exact⟨_,run_equalIn_int w d t _ q _ _ hu,by simp⟩
theorem TD{e:TypeId}{kA:Bool}{n:Nat}(hA: ∃de,P.underlying e=some de/\wX de=kA)(hn:(P.info? e).map (·.size)=some n)(h1:kA=false->n=1)
  {xs:Array Value} {off:Nat} (bc:off+n<=xs.size) (hp: ∀i u,off<=i->i<off+n->xs[i]? =some u->ri u=false) (w:World):
  ∃a,(part e xs off).run P w= .ok a w/\ri a=kA/\a.cells.size=n/\ ∀i,i<n->a.cells[i]? =xs[off+i]? :=by
 obtain⟨de,hu,hr⟩:=hA
 cases kA with
 |true=>
  refine⟨.agg (xs.extract off (off+n)),?_,rfl,by simp[Value.cells];omega,fun i hi=>?_⟩
  ·
   simp only[part,Sem.run_bind,Fm w hu,hr,Result.andThen_ok,if_true,l5 w hn,Sem.run_pure]
  ·
   simp[Value.cells,Array.getElem?_extract];intro h;omega
 |false=>
  have:=h1 rfl;subst this;have hx:xs[off]? =some xs[off]:=by simp[show off<xs.size by omega]
  have Ma:=hp off _ (as4 _) (by omega) hx;refine⟨xs[off],?_,Ma,by rw[cells_one Ma];rfl,fun i hi=>?_⟩
  ·
   simp only[part,Sem.run_bind,Fm w hu,hr,Result.andThen_ok,hx,atD,if_false,Sem.run_pure]
  ·
   obtain rfl:i=0:=by omega
   rw[cells_one Ma,atZ,hx];rfl
theorem TE{k:Nat}{u v:Value}(h:wh k u v):ri u=false/\ri v=false:=by
 unfold wh at h;split at h<;>simp_all[ri]
structure uU(P:Program)(d:Nat)(e:TypeId)(kA:Bool)(ks:List Nat):Prop where
 row: ∃de,P.underlying e=some de/\wX de=kA
 size:(P.info? e).map (·.size)=some ks.length
 one:kA=false->ks.length=1
 eq:BD P d e kA ks
theorem TF{e:TypeId}{kA:Bool}{ks:List Nat}(he:uU P d e kA ks){xs ys:Array Value}{off:Nat}(hx:off+ks.length<=xs.size)(hy:off+ks.length<=ys.size)
  (hk: ∀(i k:Nat),ks[i]? =some k-> ∃u v,xs[off+i]? =some u/\ys[off+i]? =some v/\wh k u v) (w:World):
  ∃a b r,(part e xs off).run P w= .ok a w/\(part e ys off).run P w= .ok b w/\(Op.equalIn d e a b).run P w= .ok r w/\(r=true↔ ∀i,i<ks.length->xs[off+i]? =ys[off+i]?):=by
 have plain: ∀i,off<=i->i<off+ks.length-> ∃u v k,xs[i]? =some u/\ys[i]? =some v/\wh k u v:=fun i h1 h2=>by
  obtain⟨u,v,h3,h4,h5⟩:=hk (i -off) _ (as1 (by omega));rw[show off+(i -off)=i by omega]at h3 h4;exact⟨u,v,_,h3,h4,h5⟩
 obtain⟨a,a1,a2,a3,a4⟩:=TD he.row he.size he.one hx (fun i u h1 h2 h3=>by
  obtain⟨u',v,k,h4,h5,h6⟩:=plain i h1 h2;rw[h4]at h3;cases h3;exact(TE h6).1) w
 obtain⟨b,b1,b2,b3,b4⟩:=TD he.row he.size he.one hy (fun i u h1 h2 h3=>by
  obtain⟨u',v,k,h4,h5,h6⟩:=plain i h1 h2;rw[h5]at h3;cases h3;exact(TE h6).2) w
 obtain⟨r,r1,r2⟩:=he.eq w a b a2 b2 a3 b3 (fun i k n7=>by
  obtain⟨u,v,h1,h2,h3⟩:=hk i k n7;have hi:i<ks.length:=(ad2.1 n7).1;exact⟨u,v,by rw[a4 i hi];exact h1,by rw[b4 i hi];exact h2,h3⟩)
 refine⟨a,b,r,a1,b1,r1,r2.trans ⟨fun h i hi=>?_,fun h i hi=>?_⟩⟩
 ·
  rw[←a4 i hi,←b4 i hi];exact h i hi
 ·
  rw[a4 i hi,b4 i hi];exact h i hi
theorem TG{e:TypeId}{kA:Bool}{ks:List Nat}(he:uU P d e kA ks){xs ys:Array Value}(w:World): ∀(is:List Nat),
  (∀j∈is,j*ks.length+ks.length<=xs.size/\j*ks.length+ks.length<=ys.size/\ ∀(i k:Nat),ks[i]? =some k-> ∃u v,xs[j*ks.length+i]? =some u/\ys[j*ks.length+i]? =some v/\wh k u v)->
  ∃r:Bool,(Op.eqItems d e ks.length xs ys is).run P w= .ok r w/\(r=true↔ ∀j∈is,∀i,i<ks.length->xs[j*ks.length+i]? =ys[j*ks.length+i]?)
 |[],_=>⟨true,by simp[Op.eqItems],by simp⟩
 |j::is,h=>by
  obtain⟨h1,h2,h3⟩:=h j (by simp);obtain⟨a,b,r,p1,p2,p3,wi⟩:=TF he h1 h2 h3 w;obtain⟨r',Mc,Md⟩:=TG he w is (fun j' jh=>h j' (by simp[jh]));simp only[Op.eqItems,Sem.run_bind,p1,p2,p3,Result.andThen_ok]
  cases r
  ·
   refine⟨false,by simp,?_⟩;simp only[atD,false_iff];intro e;exact absurd (wi.2 (e j (by simp))) (by simp)
  ·
   refine⟨r',by simpa using Mc,?_⟩;rw[Md];have:=wi.1 rfl;constructor
   ·
    intro e j' jh;rcases as2.1 jh with rfl|jh
    ·
     exact this
    ·
     exact e j' jh
   ·
    intro e j' jh;exact e j' (by simp[jh])
theorem Bf{ks:List Nat}: ∀{n j i:Nat},j<n->i<ks.length->(List.replicate n ks).flatten[j*ks.length+i]? =ks[i]?
 |0,j,i,h,_=>by omega
 |n+1,0,i,_,hi=>by
  rw[avV,auw,Nat.zero_mul,atF,atb hi]
 |n+1,j+1,i,h,hi=>by
  rw[avV,auw,ata (by rw[atB];omega),atB,show j*ks.length+1*ks.length+i -ks.length=j*ks.length+i by omega];exact Bf (by omega) hi
theorem adq{e:TypeId}{n:Nat}{kA:Bool}{ks:List Nat}(hu:P.underlying t=some (.array n e))(he:uU P d e kA ks):BD P (d+1) t true (List.replicate n ks).flatten:=fun w x y hx hy sx sy hk=>by
 cases x<;>simp only[ri,atD]at hx
 cases y<;>simp only[ri,atD]at hy
 rename_i xs ys;simp only[Value.cells]at sx sy hk⊢;have hl:(List.replicate n ks).flatten.length=n*ks.length:=by simp
 rw[hl]at sx sy⊢;obtain⟨i,hi⟩: ∃i,P.info? e=some i:=by
  cases h:P.info? e with
  |none=>have:=he.size;simp[h]at this
  |some i=>exact⟨i,rfl⟩
 have hc:P.cellsOf e=ks.length:=by have:=he.size;simp[Program.cellsOf,hi]at this⊢;exact this
 have bound: ∀j,j<n->j*ks.length+ks.length<=n*ks.length:=fun j hj=>by
  rw[←Nat.succ_mul];exact atm _ hj
 obtain⟨r,hr,wi⟩:=TG he (xs:=xs) (ys:=ys) w (List.range n) (fun j hj=>by
  have jh:=aty.1 hj;have:=bound j jh;refine⟨by omega,by omega,fun i k n7=>?_⟩;have dL:i<ks.length:=(ad2.1 n7).1;exact hk (j*ks.length+i) k (by rw[Bf jh dL];exact n7))
 refine⟨r,by rw[run_equalIn_array w d xs ys hu hi,hc];exact hr,wi.trans ⟨fun h q hq=>?_,fun h j hj i hi=>?_⟩⟩
 ·
  have Bw:0<ks.length:=by
   rcases auy ks.length with h0|h0
   ·
    rw[h0]at hq;omega
   exact h0
  have h1:q/ks.length<n:=avS (by rw[aut];exact hq);have h2:=h (q/ks.length) (aty.2 h1) (q%ks.length) (avc _ Bw);rw[Nat.div_add_mod']at h2;exact h2
 have:=bound j (aty.1 hj);exact h _ (by omega)
def HA(P:Program)(d:Nat):Nat->List Field->List Nat->Prop
 |_,[],ks=>ks=[]
 |off,f::fs,ks=>f.name≠ "_" ∧f.offset=off∧ ∃kA k1 k2,ks=k1++k2∧uU P d f.type kA k1∧HA P d (off+k1.length) fs k2
theorem TH{xs ys:Array Value}(w:World): ∀(fs:List Field) (off:Nat) (ks:List Nat),HA P d off fs ks->off+ks.length<=xs.size->off+ks.length<=ys.size->
  (∀(i k:Nat),ks[i]? =some k-> ∃u v,xs[off+i]? =some u/\ys[off+i]? =some v/\wh k u v)->
  ∃r:Bool,(Op.eqFields d xs ys fs).run P w= .ok r w/\(r=true↔ ∀i,i<ks.length->xs[off+i]? =ys[off+i]?)
 |[],off,ks,h,_,_,_=>by
  simp only[HA]at h;subst h;exact⟨true,by simp[Op.eqFields],by simp⟩
 |f::fs,off,ks,h,hx,hy,hk=>by
  obtain⟨hn,ho,kA,k1,k2,rfl,hp,F7⟩:=h;simp only[af0]at hx hy;obtain⟨a,b,r,p1,p2,p3,wi⟩:=TF hp (xs:=xs) (ys:=ys) (off:=off) (by omega) (by omega) (fun i k n7=>by
   have hi:i<k1.length:=(ad2.1 n7).1;exact hk i k (by rw[atb hi];exact n7)) w
  obtain⟨r',Mc,Md⟩:=TH (xs:=xs) (ys:=ys) w fs (off+k1.length) k2 F7 (by omega) (by omega) (fun i k n7=>by
   have:=hk (k1.length+i) k (by rw[ata (by omega)];simpa using n7);rw[auB];exact this)
  subst ho;simp only[Op.eqFields,hn,ne_eq,not_false_eq_true,if_true,Sem.run_bind,p1,p2,p3,Result.andThen_ok]
  cases r
  ·
   refine⟨false,by simp,?_⟩;simp only[atD,false_iff];intro e;exact absurd (wi.2 fun i hi=>e i (by simp;omega)) (by simp)
  ·
   refine⟨r',by simpa using Mc,?_⟩;rw[Md];have:=wi.1 rfl;simp only[af0];constructor
   ·
    intro e i hi
    by_cases h1:i<k1.length
    ·
     exact this i h1
    ·
     have:=e (i -k1.length) (by omega);rw[show f.offset+k1.length+(i -k1.length)=f.offset+i by omega]at this;exact this
   ·
    intro e i hi;have:=e (k1.length+i) (by omega);rw[auB];exact this
theorem TI{fs:Array Field}{ks:List Nat}(hu:P.underlying t=some (.struct fs))(hp:P.stoodInHeld t=false)(hf:HA P d 0 fs.toList ks):BD P (d+1) t true ks:=fun w x y hx hy sx sy hk=>by
 cases x<;>simp only[ri,atD]at hx
 cases y<;>simp only[ri,atD]at hy
 rename_i xs ys;simp only[Value.cells]at sx sy hk⊢;have ln:P.fieldsOf t=fs:=by simp[Program.fieldsOf,hu]
 obtain⟨r,hr,wi⟩:=TH (xs:=xs) (ys:=ys) w fs.toList 0 ks hf (by omega) (by omega) (fun i k n7=>by
  have:=hk i k n7;simpa using this)
 refine⟨r,?_,by simpa using wi⟩;rw[run_equalIn_struct w d t xs ys (by rw[ln];exact hu) hp,ln];exact hr
theorem BD.val{kA:Bool}{ks:List Nat}(h:BD P 10000 t kA ks)(hA:kA=true)(hg:P.eqGuardType P.depth t=false){xs ys:Array Value}{r:Bool}(sx:xs.size=ks.length)(sy:ys.size=ks.length)
  (hk: ∀(i k:Nat),ks[i]? =some k-> ∃u v,xs[i]? =some u/\ys[i]? =some v/\wh k u v) (hr:xs=ys↔r=true):Ay P t (.agg xs) (.agg ys) r where
 h w:=by
  subst hA;obtain⟨q,h1,h2⟩:=h w (.agg xs) (.agg ys) rfl rfl sx sy hk;have:q=r:=by
   rw[avn,h2,←hr];simp only[Value.cells];constructor
   ·
    intro e;apply auF;intro i
    by_cases hi:i<ks.length
    ·
     exact e i hi
    ·
     simp[show ¬i<xs.size by omega,show ¬i<ys.size by omega]
   ·
    rintro rfl i _;rfl
  rw[h1,this]
 plain:=hg
 agg:=⟨xs,ys,rfl,rfl⟩
end
end Go.ax
namespace Go.Proofs.YtkggjjnhnjjokaaGreatDoor
open Go.ax Go.Kb
instance (k:Key):gk (bI k) 16:=⟨gq k,by
 rw[atM];intro v hv;simp only[bI,List.mem_toArray,at7]at hv;obtain⟨i,_,rfl⟩:=hv;rfl⟩
instance (p:aZ):gk (cz p) 18:=⟨qP p,by
 have h:(bI p.key).all (·.oneCell')=true:=(inferInstance:gk (bI p.key) 16).one;rw[cz,Array.all_append,h];simp[Value.oneCell']⟩
instance (p:aZ):cg (cz p) 0 (.int .i64 p.bits):=⟨za p⟩
instance (p:aZ):cg (cz p) 1 (.int .i64 p.len):=⟨zb p⟩
instance (p:aZ):nT (cz p) 2 16 (bI p.key):=⟨gq _,fun j _=>rN p j⟩
theorem adr(d:Nat):uU Tryz.prog (d+1) 5 false [0]:=⟨⟨_,Tryz.underlying5,rfl⟩,by kernel_rfl,fun _=>rfl,L9 Tryz.underlying5⟩
theorem TJ(d:Nat):uU Tryz.prog (d+1) 3 false [0]:=⟨⟨_,Tryz.underlying3,rfl⟩,by kernel_rfl,fun _=>rfl,L9 Tryz.underlying3⟩
theorem TK(d:Nat):uU Tryz.prog (d+1+1) 25 true (List.replicate 16 [0]).flatten:=⟨⟨_,Tryz.underlying25,rfl⟩,by kernel_rfl,(fun h=>by cases h),adq Tryz.underlying25 (adr d)⟩
theorem ads:Tryz.prog.stoodInHeld 32=false:=by kernel_rfl
theorem TL(d:Nat):uU Tryz.prog (d+1+1+1) 32 true ([0]++([0]++((List.replicate 16 [0]).flatten++[]))):=⟨⟨_,Tryz.underlying32,rfl⟩,by kernel_rfl,(fun h=>by cases h),
 TI Tryz.underlying32 ads ⟨by decide,rfl,_,_,_,rfl,TJ _,by decide,rfl,_,_,_,rfl,TJ _,by decide,rfl,_,_,_,rfl,TK _,rfl⟩⟩
theorem adt:Tryz.prog.eqGuardType Tryz.prog.depth 25=false:=by kernel_rfl
theorem adu:Tryz.prog.eqGuardType Tryz.prog.depth 32=false:=by kernel_rfl
instance (a b:Key):Ay Tryz.prog 25 (.agg (bI a)) (.agg (bI b)) (decide (a=b)):=
 (TK 9998).eq.val rfl adt (gq a) (gq b) (fun i k hk=>by
  have hi:i<16:=(ad2.1 hk).1;have h0:k=0:=by
   have:k∈(List.replicate 16 [0]).flatten:=alM hk;simpa using this
  subst h0;exact⟨_,_,jQ a i hi,jQ b i hi,rfl⟩) (by rw[decide_eq_true_iff];exact⟨PL,fun h=>by rw[h]⟩)
instance (a b:aZ):Ay Tryz.prog 32 (.agg (cz a)) (.agg (cz b)) (decide (a=b)):=
 (TL 9997).eq.val rfl adu (qP a) (qP b) (fun i k hk=>by
  have h0:k=0:=by
   have:k∈([0]++([0]++((List.replicate 16 [0]).flatten++[]))):=alM hk;simpa using this
  subst h0;have hi:i<18:=(ad2.1 hk).1
  match i,hi with
  |0,_=>exact⟨_,_,za a,za b,rfl⟩
  |1,_=>exact⟨_,_,zb a,zb b,rfl⟩
  |j+2,hi=>rw[av2 j 2];exact⟨_,_,(rN a j).trans (jQ _ j (by omega)),(rN b j).trans (jQ _ j (by omega)),rfl⟩) (by rw[decide_eq_true_iff];exact⟨PO,fun h=>by rw[h]⟩)
theorem xX:bI 0#128=(List.replicate 16 (Value.int .u8 0)).toArray:=by
 apply avR;simp only[bI];refine List.eq_replicate_iff.2 ⟨by simp,fun v hv=>?_⟩;simp only[at7]at hv;obtain⟨i,_,rfl⟩:=hv;simp[aY]
instance (n m:Int)(k:Key):pY Tryz.prog 32 [(0, .int .i64 n),(1, .int .i64 m),(2, .agg (bI k))] (.agg (cz ⟨n,m,k⟩)):=⟨fun w=>by kernel_rfl⟩
instance:eJ Tryz.prog 25 (.agg (bI 0#128)):=⟨by rw[xX];kernel_rfl⟩
instance:eJ Tryz.prog 32 (.agg (cz ⟨0,0,0#128⟩)):=⟨by unfold cz;rw[xX];kernel_rfl⟩
end Go.Proofs.YtkggjjnhnjjokaaGreatDoor

/- Part of a proof. -/
import Derived.Test.YtkggjjnhnjjokaaGreatDoorD2
import Derived.Test.YtkggjjnhnjjokaaGreatDoorD1
import Derived.DeepKeys
import Derived.Lib.BytesEntry
set_option maxRecDepth 20000
set_option linter.unusedSimpArgs false
set_option linter.unusedVariables false
namespace Go.ax
open Go.RowKit
section
variable {α:Type} {enc:α->Array Value} {c:Nat}
theorem aaW{P:Program}{t tx ty e:TypeId}{cM:Nat}(ht:fq P t e c cM)[he:bm enc c]{w0 w:World}{L:List aj}{i:Nat}{s:Sv}{xs ys:List α}{x:Value}
  (hw:Mem w0 L w) (hi:L[i]? =some (own enc c s xs)) (hs:Src P c tx x ys.length (aL enc ys) w) (hn:s.nil=false) (oI:s.len+ys.length<=s.cap) (jH:s.len+ys.length<=140737488355328):
  ∃w',(Builtin.append_ #[t,tx] ty #[s.val,x]).run P w= .ok (Sv.val {s with len:=s.len+ys.length}) w'/\Mem w0 (L.set i (own enc c {s with len:=s.len+ys.length} (xs++ys))) w':=by
 obtain⟨r,oG⟩:=hw.get hi;obtain⟨i',z,aZ,aE,bo,dn,nN⟩:=ht.info;subst bo dn;have hlen:=r.len;have hle:=r.ok.le;obtain⟨hQ,cs,T,fz,ft,fh,nj,nO⟩:=oG hn;have hmul:(s.len+ys.length)*i'.size<=s.cap*i'.size:=asK _ oI;have eW:(aL enc ys).length=ys.length*i'.size:=gR ys;have ju:s.o+s.len*i'.size+(aL enc ys).toArray.size<=cs.size:=by
  rw[ate,eW];rw[asY]at hmul;omega
 have br:=Cl (P:=P) s.b (s.o+s.len*i'.size) T fz (aL enc ys) 0 cs w ft nj (by simpa using ju) hs.one;have Cm:(storeCells ⟨s.b,s.o+s.len*i'.size,none⟩ (aL enc ys)).run P w= .ok () (w.setRow s.b (over cs (s.o+s.len*i'.size) (aL enc ys).toArray)):=by
  simpa[over]using br
 refine⟨w.setRow s.b (over cs (s.o+s.len*i'.size) (aL enc ys).toArray),?_,?_⟩
 ·
  have lS:({s with len:=s.len+ys.length}:Sv).val= .slice (some ⟨s.b,s.o,s.sp⟩) (s.len+ys.length) s.cap:=Sv.iW (s:={s with len:=s.len+ys.length}) hn
  rw[Sv.iW hn,lS,hQ];rcases hs.kind with⟨e',hk⟩|hk<;>simp[Builtin.append_,run_underlying ht.fc,run_underlying hk,sizeOf,typeInfo,aZ,hs.len,oI,hs.cells,Addr.hH,Cm]
 ·
  have cN:hp (w.setRow s.b (over cs (s.o+s.len*i'.size) (aL enc ys).toArray)) s.b=some (.cells (over cs (s.o+s.len*i'.size) (aL enc ys).toArray) T fz):=setRow_heap w s.b cs _ T fz ft;refine hw.change hi (fun k hk=>hk) (fun k hk=>?_) (by simp[World.setRow]) ⟨rfl,rfl,rfl⟩ ⟨u9 ⟨(fun h=>by rw[hn]at h;cases h),oI,by simp only;omega,r.ok.sp⟩ (by simp[hlen]) cN fun k y hy j hj=>?_,fun _=>⟨hQ,_,_,_,cN,?_,by rw[mA ju];exact nj,nO⟩⟩
  ·
   exact setRow_other w s.b k _ (fun e=>hk ⟨hn,e⟩)
  ·
   rw[se ju]
   by_cases hk:k<xs.length
   ·
    rw[if_neg,←r.row k y (by rw[asG hk]at hy;exact hy) j hj]
    ·
     unfold oC;rw[ft]
    ·
     have:(k+1)*i'.size<=s.len*i'.size:=asK _ (by omega);rw[asY]at this;intro h;have:=h.1;simp only at this;omega
   ·
    rw[asA (by omega)]at hy;have yq:=oE (enc:=enc) ys (k -xs.length) y hy j hj;have oJ:s.len*i'.size+(k -xs.length)*i'.size=k*i'.size:=by rw[←asY];congr 1;omega
    have bc:(k -xs.length+1)*i'.size<=ys.length*i'.size:=asK _ (by have:=(ad2.1 hy).1;omega);rw[asY]at bc;rw[if_pos ⟨by simp only;omega,by rw[ate,eW];simp only;omega⟩,←yq];simp only[atY];congr 1;omega
  ·
   rw[mA ju];exact fh
theorem aaX{P:Program}{w0 w:World}{L:List aj}{i:Nat}{s:Sv}{xs ys:List α}[he:bm enc c]{k:Nat}(hw:Mem w0 L w)(hi:L[i]? =some (own enc c s xs))(hn:s.nil=false)(hk:k+ys.length<=xs.length):
  ∃w',(storeCells ⟨s.b,s.o+k*c,none⟩ (aL enc ys)).run P w= .ok () w'/\Mem w0 (L.set i (own enc c s (xs.take k++(ys++xs.drop (k+ys.length))))) w':=by
 obtain⟨r,oG⟩:=hw.get hi;have hlen:=r.len;have hle:=r.ok.le;obtain⟨hQ,cs,T,fz,ft,fh,nj,nO⟩:=oG hn;have hmul:(k+ys.length)*c<=s.cap*c:=asK _ (by omega);have eW:(aL enc ys).length=ys.length*c:=gR ys;have ju:s.o+k*c+(aL enc ys).toArray.size<=cs.size:=by
  rw[ate,eW];rw[asY]at hmul;omega
 have tZ: ∀v∈aL enc ys,v.oneCell'=true:=u6 ys;have br:=Cl (P:=P) s.b (s.o+k*c) T fz (aL enc ys) 0 cs w ft nj (by simpa using ju) tZ;have Cm:(storeCells ⟨s.b,s.o+k*c,none⟩ (aL enc ys)).run P w= .ok () (w.setRow s.b (over cs (s.o+k*c) (aL enc ys).toArray)):=by
  simpa[over]using br
 refine⟨_,Cm,?_⟩;have cN:hp (w.setRow s.b (over cs (s.o+k*c) (aL enc ys).toArray)) s.b=some (.cells (over cs (s.o+k*c) (aL enc ys).toArray) T fz):=setRow_heap w s.b cs _ T fz ft;have oY:(xs.take k++(ys++xs.drop (k+ys.length))).length=xs.length:=by simp only[af0,asq,ass];omega
 refine hw.change hi (fun k hk=>hk) (fun k hk=>?_) (by simp[World.setRow]) ⟨rfl,rfl,rfl⟩ ⟨u9 r.ok (by rw[oY];exact hlen) cN fun m y hy j hj=>?_,fun _=>⟨hQ,_,_,_,cN,?_,by rw[mA ju];exact nj,nO⟩⟩
 ·
  exact setRow_other w s.b k _ (fun e=>hk ⟨hn,e⟩)
 ·
  rw[se ju];rcases asx m k with h1|h1
  ·
   have yN:xs[m]? =some y:=by
    rw[asG (by rw[asq];omega),auA,if_pos h1]at hy;exact hy
   rw[if_neg,←r.row m y yN j hj]
   ·
    unfold oC;rw[ft]
   ·
    have:(m+1)*c<=k*c:=asK _ (by omega);rw[asY]at this;intro h;have:=h.1;omega
  ·
   rcases asx m (k+ys.length)with h2|h2
   ·
    have yN:ys[m -k]? =some y:=by
     rw[asA (by rw[asq];omega),asq,auM (by omega),asG (by omega)]at hy;exact hy
    have yq:=oE (enc:=enc) ys (m -k) y yN j hj;have oJ:k*c+(m -k)*c=m*c:=by rw[←asY];congr 1;omega
    have bc:(m -k+1)*c<=ys.length*c:=asK _ (by omega);rw[asY]at bc;rw[if_pos ⟨by omega,by rw[ate,eW];omega⟩,←yq];simp only[atY];congr 1;omega
   ·
    have yN:xs[m]? =some y:=by
     rw[asA (by rw[asq];omega),asq,auM (by omega),asA (by omega),aty]at hy;rw[←hy];congr 1;omega
    rw[if_neg,←r.row m y yN j hj]
    ·
     unfold oC;rw[ft]
    ·
     have:(k+ys.length)*c<=m*c:=asK _ h2;rw[asY]at this;intro h;have:=h.2;rw[ate,eW]at this;omega
 ·
  rw[mA ju];exact fh
end
section
variable {P:Program} {N:ct} {w0:World} {env:Env} {L:List aj} {l:List Oper} {Q:Exit->Act->World->Prop} {rest:List Oper} {d:Option Tmp} {ty:TypeId} {ps:String} {af:Array Edge} {gd:Option (Nat×Bool)} {K:Value->List aj->Prop}
variable {α:Type} {enc:α->Array Value} {c:Nat} {s:Sv} {xs ys:List α}
theorem aaY{t tx e:TypeId}{x y:Operand}{yv:Value}{cM i:Nat}[ht:fq P t e c cM][he:bm enc c](hx:ev env x=some s.val)(hy:ev env y=some yv)[q:fu L s enc c xs i]
  (hs: ∀w,Mem w0 L w->Src P c tx yv ys.length (aL enc ys) w) (hn:s.nil=false) (oI:s.len+ys.length<=s.cap) (jH:s.len+ys.length<=140737488355328) {L':List aj} [hu:fC L i (own enc c {s with len:=s.len+ys.length} (xs++ys)) L']
  (hk:K (Sv.val {s with len:=s.len+ys.length}) L'):
  iG P N w0 env L ⟨d, .call {callee:= .builtin .append,args:= #[x,y],argTypes:= #[t,tx]},ty,ps,af,gd⟩ K:=
 wV fun a w ha hw=>by
  obtain⟨w',h1,h4⟩:=aaW (ty:=ty) ht hw q.h (hs w hw) hn oI jH;refine⟨_,w',L',?_,by rw[←hu.h];exact h4,hk⟩;simp[execOp,ha.ev hx,ha.ev hy,resolve,invoke,builtin,h1,Result.andThen]
theorem aaZ{t tx e:TypeId}{x y:Operand}{yv:Value}{cM i:Nat}[ht:fq P t e c cM][he:bm enc c](hx:ev env x=some s.val)(hy:ev env y=some yv)[q:fu L s enc c xs i]
  (hs: ∀w,Mem w0 L w->Src P c tx yv ys.length (aL enc ys) w) (hn:s.nil=false) (oI:s.len+ys.length<=s.cap) (jH:s.len+ys.length<=140737488355328) {L':List aj} [hu:fC L i (own enc c {s with len:=s.len+ys.length} (xs++ys)) L']
  (hk:Sq P N w0 l Q rest (cJ env d (Sv.val {s with len:=s.len+ys.length})) L') (hd:dA N d=true:=by rfl):
  Sq P N w0 l Q (⟨d, .call {callee:= .builtin .append,args:= #[x,y],argTypes:= #[t,tx]},ty,ps,af,none⟩::rest) env L:=
 PS rfl hd (aaY hx hy hs hn oI jH hk)
theorem QO{D S rm:Sv}{x y:Operand}{tx gI e:TypeId}{i k:Nat}{ys:List α}[he:bm enc c](hx:ev env x=some D.val)(nu:D.nil=false)(oR:D.sp=none)(qD:D.b=rm.b)(sG:D.o=rm.o+k*c)(hy:ev env y=some S.val)[ht:fj P tx e c][q:fu L rm enc c xs i][hS:Hd w0 L S enc c ys](hc:0<c)(hn:rm.nil=false)(h0:0<ys.length)(hl:ys.length<=D.len)(kr:k+ys.length<=xs.length)
  {L':List aj} [hu:fC L i (own enc c rm (xs.take k++(ys++xs.drop (k+ys.length)))) L'] (hk:K (.int .i64 ys.length) L'):
  iG P N w0 env L ⟨d, .call {callee:= .builtin .copy,args:= #[x,y],argTypes:= #[tx,gI]},ty,ps,af,gd⟩ K:=
 wV fun a w ha hw=>by
  have hs:=hS.h w hw;have CL:=hs.some h0;have nU:=hs.len;have CM:=hs.ok.sp (by have:=hs.ok.le;omega);rw[Sv.iW nu,oR,qD,sG]at hx;rw[Sv.iW CL,CM]at hy;obtain⟨w',h1,h2⟩:=aaX (P:=P) hw q.h hn kr;rw[hu.h]at h2;refine⟨_,w',L',?_,h2,hk⟩;have F5:=run_loadCells_list (P:=P) w ⟨S.b,S.o,none⟩ (aL enc ys) (fun j v hj=>by
   obtain⟨z,hz,hv⟩:=EU hc hj;rw[Addr.hH,tK,←hv,←hs.row _ z hz (j%c) (aun _ hc)];congr 1;have:=auv j c;rw[atK]at this;omega)
  rw[gR]at F5
  cases hq:P.info? e with
  |none=>have:=ht.size;simp[hq]at this
  |some i'=>
   have hi:i'.size=c:=by have:=ht.size;simpa[hq]using this
   have B9:Nat.min S.len D.len=ys.length:=by rw[nU];exact auM hl
   have gG:(Builtin.copy_ #[tx,gI] ty #[.slice (some ⟨rm.b,rm.o+k*c,none⟩) D.len D.cap, .slice (some ⟨S.b,S.o,none⟩) S.len S.cap]).run P w= .ok (goInt ys.length) w':=by
    simp[Builtin.copy_,run_underlying ht.fc,Builtin.lenOf,Builtin.firstCells,sizeOf,typeInfo,hq,hi,B9,F5,h1]
   simp[execOp,ha.ev hx,ha.ev hy,resolve,invoke,builtin,gG,Result.andThen,goInt]
theorem aa0{D S rm:Sv}{x y:Operand}{tx gI e:TypeId}{i k:Nat}{ys:List α}[he:bm enc c](hx:ev env x=some D.val)(nu:D.nil=false)(oR:D.sp=none)(qD:D.b=rm.b)(sG:D.o=rm.o+k*c)(hy:ev env y=some S.val)[ht:fj P tx e c][q:fu L rm enc c xs i][hS:Hd w0 L S enc c ys](hc:0<c)(hn:rm.nil=false)(h0:0<ys.length)(hl:ys.length<=D.len)(kr:k+ys.length<=xs.length)
  {L':List aj} [hu:fC L i (own enc c rm (xs.take k++(ys++xs.drop (k+ys.length)))) L'] (hk:Sq P N w0 l Q rest (cJ env d (.int .i64 ys.length)) L') (hd:dA N d=true:=by rfl):
  Sq P N w0 l Q (⟨d, .call {callee:= .builtin .copy,args:= #[x,y],argTypes:= #[tx,gI]},ty,ps,af,none⟩::rest) env L:=
 PS rfl hd (QO hx nu oR qD sG hy hc hn h0 hl kr hk)
end
theorem Mem.AK{w0 w:World}{L:List aj}{e:aj}{es:List aj}(h:Mem w0 (e::aj.all es::L) w):Mem w0 (aj.all (es++[e])::L) w:=by
 have h1:Mem w0 (aj.all (e::es)::L) w:=Mem.aaj h;rw[Mem.Cr]at h1⊢;exact h1.perm ((List.perm_append_singleton e es).symm.append_right L)
theorem Mem.F6{w0 w:World}{L:List aj}{e e':aj}(hf: ∀k,e'.fp k->e.fp k)(hs:(e.sat fun k=>w.heap[k]?)->e'.sat fun k=>w.heap[k]?)(h:Mem w0 (e::L) w):Mem w0 (e'::L) w:=by
 have hd:=asT.1 h.pG;refine⟨h.below,fun x he=>?_,fun x he k hk=>?_,asT.2 ⟨fun y hy k hk=>hd.1 y hy k (hf k hk),hd.2⟩⟩
 ·
  rcases asw.1 he with rfl|he
  ·
   exact hs (h.sat e (by simp))
  exact h.sat x (by simp[he])
 rcases asw.1 he with rfl|he
 ·
  exact h.jV e (by simp) k (hf k hk)
 exact h.jV x (by simp[he]) k hk
end Go.ax
namespace Go.Kb
open Go.ax
theorem QP{w0 w:World}{L:List aj}{s rm:Sv}{l:List (List UInt8)}{xs:List (Sl UInt8)}(hx:xs=dD rm 0 l)(hn:rm.nil=false)(h:Mem w0 (own (bT (τ:=UInt8)) 1 s xs::own aG 1 rm l.flatten::L) w):Mem w0 (fw ⟨s,xs⟩::L) w:=by
 have ht:aN xs=l:=by rw[hx,xf]
 have h1:=h.perm (List.Perm.swap _ _ _);have h2:Mem w0 (AJ ⟨s,xs⟩::own (bT (τ:=UInt8)) 1 s xs::L) w:=Mem.F6 (fun k hk=>by
  obtain⟨x,qC,rfl⟩:=hk;exact⟨hn,F0 rm 0 l x (hx▸qC)⟩) (fun hs=> .inr ⟨rm,hn,by simp only[ht];exact hx,by simp only[ht];exact hs⟩) h1
 exact Mem.yt.2 (h2.perm (List.Perm.swap _ _ _))
theorem aa1{w0 w:World}{L:List aj}{s:Sv}(h:Mem w0 (own (bT (τ:=UInt8)) 1 s []::L) w):Mem w0 (fw ⟨s,[]⟩::L) w:=by
 refine Mem.yt.2 (Mem.perm (Mem.F6 (e:= .emp) (e':=AJ ⟨s,[]⟩) (fun k hk=>?_) (fun _=> .inl rfl) (Mem.Cq.2 h)) (List.Perm.swap _ _ _));obtain⟨x,hx,_⟩:=hk
 cases hx
theorem aa2{w0 w:World}{L:List aj}{a:Sl (Sl UInt8)}(bO:a.xs≠[])(h:Mem w0 (fw a::L) w): ∃rm:Sv,(rm.nil=false/\rm.sp=none/\a.xs=dD rm 0 (aN a.xs))/\Mem w0 (own (bT (τ:=UInt8)) 1 a.sv a.xs::own aG 1 rm (aN a.xs).flatten::L) w:=by
 have h1:=Mem.yt.1 h;have hr:=h1.sat (AJ a) (by simp);rcases hr with hr|⟨rm,g1,g2,g3⟩
 ·
  exact absurd hr bO
 refine⟨rm,⟨g1,(g3.2 g1).1,g2⟩,?_⟩;have h2:=h1.perm (List.Perm.swap _ _ _);obtain⟨x,l,CX⟩:=List.exists_cons_of_ne_nil bO;have hm:x∈a.xs:=by rw[CX];simp
 have hb:x.sv.b=rm.b:=F0 rm 0 _ x (g2▸hm);exact(Mem.F6 (e:=AJ a) (e':=own aG 1 rm (aN a.xs).flatten) (fun k hk=>⟨x,hm,by rw[hb];exact hk.2⟩) (fun _=>g3) h2).perm (List.Perm.swap _ _ _)
theorem F7: ∀{l:List (List UInt8)} {i:Nat} {q r:List UInt8},l[i]? =some q->r.length=q.length->(l.set i r).flatten=l.flatten.take (l.take i).flatten.length++(r++l.flatten.drop ((l.take i).flatten.length+r.length))
 |y::l,0,q,r,h,hr=>by
  obtain rfl:y=q:=by simpa using h
  simp[hr]
 |y::l,i+1,q,r,h,hr=>by
  have:=F7 (l:=l) (i:=i) (q:=q) (r:=r) (by simpa using h) hr;simp only[auT,atL,this,atk,af0];rw[List.take_length_add_append,atN,List.drop_length_add_append,asF]
theorem F8{rm:Sv}: ∀{o:Nat} {l:List (List UInt8)} {i:Nat} {q:List UInt8},l[i]? =some q->(dD rm o l)[i]? =some ⟨win rm (o+(l.take i).flatten.length) (o+(l.take i).flatten.length+q.length),q⟩
 |o,y::l,0,q,h=>by
  obtain rfl:y=q:=by simpa using h
  simp[dD]
 |o,y::l,i+1,q,h=>by
  have:=F8 (rm:=rm) (o:=o+y.length) (l:=l) (i:=i) (q:=q) (by simpa using h);simp only[dD,List.getElem?_cons_succ,this,atk,atL,af0,atN]
def QQ(l:List (List UInt8)):Prop:=l.length<=1000000/\l.flatten.length<=1000000
theorem CY{l:List (List UInt8)}{i:Nat}{q:List UInt8}(h:l[i]? =some q):(l.take (i+1)).flatten.length=(l.take i).flatten.length+q.length:=by
 rw[asC,h];simp
theorem CZ(l:List (List UInt8))(i:Nat):(l.take i).flatten.length<=l.flatten.length:=by
 have:l.flatten=(l.take i).flatten++(l.drop i).flatten:=by rw[←avk,asR]
 rw[this,af0];omega
theorem aa3{rm:Sv}{l:List (List UInt8)}{n i:Nat}{r q:List UInt8}(hn:n=l.length)(hr:r=(l.take i).flatten)(h:l[i]? =some q):(dD rm 0 (l.take i)++List.replicate (n -i) (⟨Sv.none,[]⟩:Sl UInt8)).set i ⟨win rm r.length (r.length+q.length),q⟩=dD rm 0 (l.take (i+1))++List.replicate (n -(i+1)) (⟨Sv.none,[]⟩:Sl UInt8):=by
 have hi:=(ad2.1 h).1;have hl:(dD rm 0 (l.take i)).length=i:=by rw[Kh,asq];omega
 rw[at5 _ _ (by omega),hl,atS,asC,h,show n -i=n -(i+1)+1 by omega,au2,atI];simp only[au4];rw[QJ,hr,as3,asF,auk]
theorem oZ{w0 w:World}{L:List aj}(d:Cp)(h:Mem w0 (own bZ 4 d.blocks.sv d.blocks.xs::aj.all (d.blocks.xs.map fun b:Bk=>fw b.pages)::own eN 4 d.aV.sv d.aV.xs::L) w):Mem w0 (fz d::L) w:=
 F3 ((QM (a:=d.aV) ((aaV h).perm (List.Perm.swap _ _ _))).perm (List.Perm.swap _ _ _))
theorem Kj{α:Type}{enc:α->Array Value}{c:Nat}{s:Sv}{xs ys:List α}{w0 w:World}{L:List aj}(e:xs.map enc=ys.map enc)(h:Mem w0 (own enc c s xs::L) w):Mem w0 (own enc c s ys::L) w:=
 Mem.F6 (e:=own enc c s xs) (fun _ hk=>hk) (fun hs=>⟨⟨hs.1.ok,by have:=congrArg List.length e;simp only[as8]at this;rw[←this];exact hs.1.len,fun i y hy j hj=>by
  have h1:(xs.map enc)[i]? =(ys.map enc)[i]? :=by rw[e]
  rw[asB,asB,hy]at h1
  cases hx:xs[i]?with
  |none=>rw[hx]at h1;cases h1
  |some x=>
   rw[hx]at h1;have h2:enc x=enc y:=by simpa using h1
   have:=hs.1.row i x hx j hj;rw[h2]at this;exact this⟩,hs.2⟩) h
theorem F9{w0 w:World}{L:List aj}{s sp rm:Sv}{xs:List Bk}{i:Nat}{B B':Bk}{ps:List (Sl UInt8)}{l:List (List UInt8)}(hi:i<xs.length)(hp:ps.map (fun x=>x.sv)=(dD rm 0 l).map (fun x=>x.sv))(hn:rm.nil=false)(hc:bZ B=bZ B')(hB:B'.pages=⟨sp,dD rm 0 l⟩)
  (h:Mem w0 (own (bT (τ:=UInt8)) 1 sp ps::own aG 1 rm l.flatten::own bZ 4 s (xs.set i B)::aj.all ((xs.eraseIdx i).map fun b:Bk=>fw b.pages)::L) w):Mem w0 (own bZ 4 s (xs.set i B')::aj.all ((xs.set i B').map fun b:Bk=>fw b.pages)::L) w:=by
 have h1:Mem w0 (own (bT (τ:=UInt8)) 1 sp (dD rm 0 l)::own aG 1 rm l.flatten::own bZ 4 s (xs.set i B)::aj.all ((xs.eraseIdx i).map fun b:Bk=>fw b.pages)::L) w:=Kj (by
  have:=congrArg (List.map fun v:Sv=>(#[v.val]:Array Value)) hp;rw[List.map_map,List.map_map]at this;exact this) h
 have h2:=QP (xs:=dD rm 0 l) rfl hn h1;rw[←hB]at h2;have h3:=Kj (ys:=xs.set i B') (by rw[auP,auP,hc]) (h2.perm (List.Perm.swap _ _ _));have h4:Mem w0 (fw B'.pages::aj.all (((xs.set i B').eraseIdx i).map fun b:Bk=>fw b.pages)::own bZ 4 s (xs.set i B')::L) w:=by
  rw[List.eraseIdx_set_eq];exact h3.perm ((List.Perm.swap _ _ _).trans (List.Perm.cons _ (List.Perm.swap _ _ _)))
 have h5:=(Mem.pick (f:=fun b:Bk=>fw b.pages) (xs:=xs.set i B') (i:=i) (x:=B') (by rw[asJ hi])).2 h4;exact h5.perm (List.Perm.swap _ _ _)
theorem QR{w0 w:World}{L:List aj}{s:Sv}{xs:List Bk}{i:Nat}{B:Bk}(hB:xs[i]? =some B)(bO:B.pages.xs≠[])(h:Mem w0 (own bZ 4 s xs::aj.all (xs.map fun b:Bk=>fw b.pages)::L) w):
  ∃rm:Sv,(rm.nil=false/\rm.sp=none/\B.pages.xs=dD rm 0 (aN B.pages.xs))/\Mem w0 (own (bT (τ:=UInt8)) 1 B.pages.sv B.pages.xs::own aG 1 rm (aN B.pages.xs).flatten::own bZ 4 s xs::aj.all ((xs.eraseIdx i).map fun b:Bk=>fw b.pages)::L) w:=by
 have h1:=(Mem.pick (f:=fun b:Bk=>fw b.pages) hB).1 (h.perm (List.Perm.swap _ _ _));obtain⟨rm,hr,h2⟩:=aa2 bO h1;refine⟨rm,hr,h2.perm (List.Perm.cons _ (List.Perm.cons _ (List.Perm.swap _ _ _)))⟩
end Go.Kb
namespace Go.ax
section
variable {P:Program} {N:ct} {w0:World} {env:Env} {L:List aj} {d:Option Tmp} {ty:TypeId} {ps:String} {af:Array Edge} {gd:Option (Nat×Bool)} {x y:Operand} {t u:TypeId}
theorem QS{a b:UInt8}(hx:ev env x=some (.int .u8 a.toNat))(hy:ev env y=some (.int .u8 b.toNat)):
  Ry P N w0 env L ⟨d, .binOp .or t x y u,ty,ps,af,gd⟩ (.int .u8 (a|||b).toNat):=by
 have ha:=a.toNat_lt;have hb:=b.toNat_lt;rw[UInt8.toNat_or];exact Cd hx hy rfl rfl (by simp only[nb];omega) (by simp only[nb];omega)
theorem aa4: ∀n,n<256->(255^^^n:Nat)=255 -n:=by decide+kernel
theorem aa5{p q:Nat}(hp:p<2^nb .u8)(hq:q<2^nb .u8):Op.intBits .xor .u8 (p:Int) (q:Int)=(pure (.int .u8 ((p^^^q:Nat):Int)):Sem Value):=by
 simp only[Op.intBits,zW,BitVec.toNat_xor,auc,as5 (rb hp),as5 (rb hq)];rw[pM (avn hp hq)]
theorem aa6{a:UInt8}(hx:ev env x=some (.int .u8 a.toNat)):
  Ry P N w0 env L ⟨d, .unOp .xor t x,ty,ps,af,gd⟩ (.int .u8 (~~~a).toNat):=fun aa w ha _=>by
 have e:(Op.intBits .xor .u8 255 (a.toNat:Int))=(pure (.int .u8 ((~~~a).toNat:Int)):Sem Value):=by
  have h3:=a.toNat_lt;have h4:(~~~a).toNat=255 -a.toNat:=UInt8.toNat_not a;have h5:(255^^^a.toNat:Nat)=255 -a.toNat:=aa4 a.toNat h3;have hp:(255:Nat)<2^nb .u8:=by decide
  have hq:a.toNat<2^nb .u8:=h3;have hx:=aa5 hp hq;rw[h5]at hx;rw[h4];exact hx
 simp only[execOp,ha.ev hx,Op.unary,Sem.run_bind,Result.andThen];rw[show(if IntKind.u8.signed=true then(-1:Int)else IntKind.u8.max)=255 by decide,e];rfl
end
open Go.RowKit
section
variable {P:Program} {N:ct} {w0:World} {env:Env} {L:List aj} {l:List Oper} {Q:Exit->Act->World->Prop} {rest:List Oper} {d:Option Tmp} {ty:TypeId} {ps:String} {af:Array Edge} {gd:Option (Nat×Bool)} {K:Value->List aj->Prop}
variable {α:Type} {enc:α->Array Value} {c:Nat}
theorem aa7{β:Type}{l:List β}{i:Nat}{z:β}(h:l[i]? =some z):l.set i z=l:=by
 obtain⟨hi,rfl⟩:=ad2.1 h;exact List.set_getElem_self hi
theorem aa8{D S:Sv}{x y:Operand}{tx gI e:TypeId}(hx:ev env x=some D.val)(hy:ev env y=some S.val)[ht:fj P tx e c][hS:Hd w0 L S enc c []](hk:K (.int .i64 0) L):
  iG P N w0 env L ⟨d, .call {callee:= .builtin .copy,args:= #[x,y],argTypes:= #[tx,gI]},ty,ps,af,gd⟩ K:=
 wV fun a w ha hw=>by
  have hs:=hS.h w hw;have nU:S.len=0:=hs.len;obtain⟨ad,len,cap,e1⟩:=S.ex;have el:len=S.len:=by
   cases hn:S.nil with
   |true=>rw[Sv.tJ hn]at e1;have:=hs.ok.nil hn;cases e1;omega
   |false=>rw[Sv.iW hn]at e1;cases e1;rfl
  obtain⟨QT,QU,aa9,e2⟩:=D.ex;refine⟨_,w,L,?_,hw,hk⟩
  cases hq:P.info? e with
  |none=>have:=ht.size;simp[hq]at this
  |some i'=>
   rw[e1]at hy;rw[e2]at hx;have mE:len=0:=by omega
   have gG:(Builtin.copy_ #[tx,gI] ty #[.slice QT QU aa9, .slice ad len cap]).run P w= .ok (goInt 0) w:=by
    have F5: ∀v:Addr,(loadCells v 0).run P w= .ok #[] w:=fun v=>by
     have:=run_loadCells_list (P:=P) w v [] (fun j v hj=>by simp at hj);simpa using this
    have br: ∀v:Addr,(storeCells v []).run P w= .ok () w:=fun v=>rfl
    cases QT<;>cases ad<;>simp[Builtin.copy_,run_underlying ht.fc,Builtin.lenOf,Builtin.firstCells,sizeOf,typeInfo,hq,mE,F5,br]
   simp[execOp,ha.ev hx,ha.ev hy,resolve,invoke,builtin,gG,Result.andThen,goInt]
theorem Kk{D S rm:Sv}{x y:Operand}{tx gI e:TypeId}{i k:Nat}{xs ys:List α}[he:bm enc c](hx:ev env x=some D.val)(nu:D.nil=false)(oR:D.sp=none)(qD:D.b=rm.b)(sG:D.o=rm.o+k*c)(hy:ev env y=some S.val)[ht:fj P tx e c][q:fu L rm enc c xs i][hS:Hd w0 L S enc c ys](hc:0<c)(hn:rm.nil=false)(hl:ys.length<=D.len)(kr:k+ys.length<=xs.length)
  {L':List aj} [hu:fC L i (own enc c rm (xs.take k++(ys++xs.drop (k+ys.length)))) L'] (hk:K (.int .i64 ys.length) L'):
  iG P N w0 env L ⟨d, .call {callee:= .builtin .copy,args:= #[x,y],argTypes:= #[tx,gI]},ty,ps,af,gd⟩ K:=by
 by_cases h0:ys=[]
 ·
  subst h0;have e1:xs.take k++([]++xs.drop (k+([]:List α).length))=xs:=by simp
  have e2:L'=L:=by
   rw[←hu.h,e1];exact aa7 q.h
  exact aa8 (c:=c) (enc:=enc) hx hy (by rw[e2]at hk;exact hk)
 ·
  exact QO hx nu oR qD sG hy hc hn (auN.2 h0) hl kr hk
end
end Go.ax
namespace Go.Kb
open Go.ax
def gO(c:Cp):Prop:=c.blocks.xs.length<=1000000/\c.aV.xs.length<=1000000/\ ∀b∈c.blocks.xs,QQ (aN b.pages.xs)
theorem xi{α:Type}{l:List α}{i:Nat}{z:α}(h:l[i]? =some z):l.set i z=l:=by
 obtain⟨hi,rfl⟩:=ad2.1 h;exact List.set_getElem_self hi
theorem yO(l:List Bk)(i:Nat)(b:Bk):jh (l.set i b)=(jh l).set i (bv b):=by simp[jh,auP]
theorem aba{zs:List Bk}{i:Nat}{z z':Bk}(h:zs[i]? =some z):((zs.take i).map fun b:Bk=>fw b.pages)++[fw z'.pages]=((zs.set i z').take (i+1)).map fun b:Bk=>fw b.pages:=by
 have hi:=(ad2.1 h).1;rw[asC,asJ hi,au1 (asu _),as0];rfl
theorem abb{c:CV}(h: ∀f∈c.aV,f.op≠c.ops):bn c=(AI,false):=by
 have:c.aV.find? (fun f=>decide (f.op=c.ops))=none:=auV.2 fun f hf=>by simpa using h f hf
 rw[bn,this]
theorem abc{c:CV}{i:Nat}{f:Ft}(hf:c.aV[i]? =some f)(h: ∀j g,j<i->c.aV[j]? =some g->g.op≠c.ops)(he:f.op=c.ops):bn c=(f,f.cut||f.fail):=by
 have:c.aV.find? (fun f=>decide (f.op=c.ops))=some f:=by
  rw[List.find?_eq_some_iff_getElem];obtain⟨hi,rfl⟩:=ad2.1 hf;exact⟨by simpa using he,i,hi,rfl,fun j hj=>by
   simpa using h j (c.aV[j]'(by omega)) hj (asr (by omega))⟩
 rw[bn,this]
theorem QV: ∀l:List (List UInt8),(∀x∈l,x.length<=256)->(l.map List.length).sum<=l.length*256
 |[],_=>by simp
 |x::l,hl=>by
  have h1:=QV l fun y hy=>hl y (asE _ hy);have h2:=hl x asv;simp only[asL,au7,asm];omega
theorem rr{c:Cp}(h:ba (cv c)=true):gO c:=by
 obtain⟨h1,h2,h3,h4,h5⟩:=fF.1 h;obtain⟨s1,s2,s3,s4,s5,s6⟩:=lX.1 h1;simp only[cv,ia]at*;refine⟨by omega,by omega,fun b hb=>?_⟩;have g:=fk.1 (h5 (bv b) (asN hb));simp only[bv]at g;have hf:(aN b.pages.xs).flatten.length<=(aN b.pages.xs).length*256:=by
  rw[List.length_flatten];exact QV _ fun x hx=>by have:=g.2.2.2.2.2 x hx;omega
 exact⟨by omega,by omega⟩
theorem Kl{rm:Sv}: ∀{o:Nat} {l l':List (List UInt8)},l.map List.length=l'.map List.length->(dD rm o l).map (fun x=>x.sv)=(dD rm o l').map (fun x=>x.sv)
 |_,[],[],_=>rfl
 |_,[],_::_,h=>by simp at h
 |_,_::_,[],h=>by simp at h
 |o,p::l,p'::l',h=>by
  simp only[asL,au6]at h;have:=Kl (rm:=rm) (o:=o+p'.length) h.2;simp only[dD,asL,h.1,this]
theorem abd{rm:Sv}{l:List (List UInt8)}{i:Nat}{q r:List UInt8}(h:l[i]? =some q)(hr:r.length=q.length):(dD rm 0 l).map (fun x=>x.sv)=(dD rm 0 (l.set i r)).map (fun x=>x.sv):=Kl (by
 rw[auP,hr,xi];rw[asB,h];rfl)
theorem AL: ∀{l:List (List UInt8)} {i j:Nat} {q:List UInt8},l[i]? =some q->j<q.length->l.flatten[(l.take i).flatten.length+j]? =q[j]?
 |y::l,0,j,q,h,hj=>by
  obtain rfl:y=q:=by simpa using h
  simp only[asW,avi,asn,as3,atL];rw[asG hj]
 |y::l,i+1,j,q,h,hj=>by
  have:=AL (l:=l) (i:=i) (j:=j) (q:=q) (by simpa using h) hj;simp only[atk,atL,af0];rw[atN,asA (by omega),atG,this]
theorem QW: ∀{l:List (List UInt8)} {i j:Nat} {q:List UInt8} {v:UInt8},l[i]? =some q->j<q.length->l.flatten.set ((l.take i).flatten.length+j) v=(l.set i (q.set j v)).flatten
 |y::l,0,j,q,v,h,hj=>by
  obtain rfl:y=q:=by simpa using h
  simp only[asW,avi,asn,as3,atL,atI];rw[List.set_append_left _ _ hj]
 |y::l,i+1,j,q,v,h,hj=>by
  have:=QW (l:=l) (i:=i) (j:=j) (q:=q) (v:=v) (by simpa using h) hj;simp only[atk,atL,af0,auT];rw[atN,at5 _ _ (by omega),atG,this]
theorem Km{l:List (List UInt8)}{i:Nat}{r:List UInt8}:(l.set i r).take i=l.take i:=au1 (asu _)
theorem AM{rm:Sv}{lo n:Nat}(h:0<n):(win rm lo (lo+n)).o=rm.o+lo:=by
 simp only[win];rw[if_neg (by omega)]
theorem Ga{rm:Sv}{lo n:Nat}(hn:rm.nil=false)(hs:rm.sp=none)(hb:n<=1000000):(win rm lo (lo+n)).Ok:=
 ⟨fun h=>absurd (hn.symm.trans h) (by decide),asu _,by simp only[win];omega,fun _=>hs⟩
theorem QX{c:CV}{x:Cp}{B:Bk}{b g:Int}{q:List UInt8}{rm:Sv}{off:Bool}(hx:cv x=c)(hB:bv B=ak c b):
  cv ⟨x.pages,x.size,⟨x.blocks.sv,x.blocks.xs.set b.toNat ⟨⟨B.pages.sv,dD rm 0 ((aN B.pages.xs).set g.toNat q)⟩,B.used+1,B.aR,B.bad⟩⟩,x.ops+1,off,x.aV⟩={c with ops:=c.ops+1,off:=off,blocks:=c.blocks.set b.toNat {ak c b with used:=(ak c b).used+1,pages:=(ak c b).pages.set g.toNat q}}:=by
 subst hx;rw[←hB];simp only[cv,yO,bv,xf]
theorem abe{m:UInt8}{xs:List UInt8}{i:Nat}{z:UInt8}(h:xs[i]? =some z):(cZ m (xs.take i)++xs.drop i).set i (z|||m)=cZ m (xs.take (i+1))++xs.drop (i+1):=by
 have hi:=(ad2.1 h).1;have hl:(cZ m (xs.take i)).length=i:=by rw[cZ,as8,asq];omega
 rw[at5 _ _ (by omega),hl,atS,aut hi,atI,asC,h,cZ,cZ,as0,asF];rfl
theorem QY{m:UInt8}{xs:List UInt8}{i:Nat}(h:i<xs.length):(cZ m (xs.take i)++xs.drop i)[i]? =xs[i]? :=by
 have hl:(cZ m (xs.take i)).length=i:=by rw[cZ,as8,asq];omega
 rw[asA (by omega),hl,atS,aty,atl]
theorem Kn{m:UInt8}{xs:List UInt8}{i:Nat}(h:i<=xs.length):(cZ m (xs.take i)++xs.drop i).length=xs.length:=by
 rw[cZ,af0,as8,asq,ass];omega
theorem QZ{T:List (List UInt8)}{g i:Nat}{q xs:List UInt8}{m z:UInt8}(hq:T[g]? =some q)(hz:xs[i]? =some z):(T.set g (cZ m (xs.take (i+1))++xs.drop (i+1))).flatten=(T.set g (cZ m (xs.take i)++xs.drop i)).flatten.set ((T.take g).flatten.length+i) (z|||m):=by
 have hg:=(ad2.1 hq).1;have hi:=(ad2.1 hz).1;have h1:=QW (l:=T.set g (cZ m (xs.take i)++xs.drop i)) (i:=g) (j:=i) (v:=z|||m) (asJ hg) (by rw[Kn (by omega)];exact hi);rw[Km]at h1;rw[h1,avj,abe hz]
def mixed(f:List UInt8->List UInt8)(T:List (List UInt8))(k:Nat):List (List UInt8):=(T.take k).map f++T.drop k
theorem Q0{f:List UInt8->List UInt8}{T:List (List UInt8)}:mixed f T 0=T:=by simp[mixed]
theorem Q1{f:List UInt8->List UInt8}{T:List (List UInt8)}{k:Nat}(h:T.length<=k):mixed f T k=T.map f:=by
 rw[mixed,asy h,avq h,asZ]
theorem C0{f:List UInt8->List UInt8}{T:List (List UInt8)}{k:Nat}{q:List UInt8}(h:T[k]? =some q):(mixed f T k)[k]? =some q:=by
 have hk:=(ad2.1 h).1;have hl:((T.take k).map f).length=k:=by rw[as8,asq];omega
 rw[mixed,asA (by omega),hl,atS,aty,atl,h]
theorem Ko{f:List UInt8->List UInt8}{T:List (List UInt8)}{k:Nat}{q:List UInt8}(h:T[k]? =some q):(mixed f T k).set k (f q)=mixed f T (k+1):=by
 have hk:=(ad2.1 h).1;have hl:((T.take k).map f).length=k:=by rw[as8,asq];omega
 obtain⟨_,rfl⟩:=ad2.1 h;rw[mixed,at5 _ _ (by omega),hl,atS,aut hk,atI,mixed,asC,asr hk,as0,asF];rfl
theorem Gd{f:List UInt8->List UInt8}{T:List (List UInt8)}{k:Nat}(hf: ∀x∈T,(f x).length=x.length)(hk:k<=T.length):((mixed f T k).take k).flatten.length=(T.take k).flatten.length:=by
 have hl:((T.take k).map f).length=k:=by rw[as8,asq];omega
 rw[mixed,List.take_append_of_le_length (by omega),asy (by omega),List.length_flatten,List.length_flatten,List.map_map];congr 1;exact atp fun x hx=>hf x (aum hx)
theorem abf{f:List UInt8->List UInt8}{T:List (List UInt8)}{k n:Nat}{q:List UInt8}(hq:T[k]? =some q)(hf: ∀x∈T,(f x).length=x.length)(he:f q=List.replicate n 255)(hn:n=q.length):(mixed f T (k+1)).flatten=(mixed f T k).flatten.take (T.take k).flatten.length++(List.replicate n 255++(mixed f T k).flatten.drop ((T.take k).flatten.length+n)):=by
 have hk:=(ad2.1 hq).1;rw[←Ko hq,F7 (C0 hq) (by rw[he,ata,hn]),Gd hf (by omega),he,ata]
theorem abg{rm:Sv}{f:List UInt8->List UInt8}{T:List (List UInt8)}(hf: ∀x∈T,(f x).length=x.length):(dD rm 0 T).map (fun x=>x.sv)=(dD rm 0 (T.map f)).map (fun x=>x.sv):=Kl (by
 rw[List.map_map];exact(atp fun x hx=>(hf x hx)).symm)
theorem abh{rm:Sv}{lo n:Nat}(hn:rm.nil=false)(hs:rm.sp=none)(h:0<n):(win rm lo (lo+n)).val= .slice (some ⟨rm.b,rm.o+lo,none⟩) n n:=by
 rw[Sv.iW (s:=win rm lo (lo+n)) hn,show(win rm lo (lo+n)).sp=rm.sp from rfl,hs,AM h,show(win rm lo (lo+n)).len=n from atG ..,show(win rm lo (lo+n)).cap=n from atG ..];rfl
theorem yP{c:Cp}{b:Int}:bv (c.blocks.xs.getD b.toNat qF)=ak (cv c) b:=by
 simp only[ak,cv,jh,ati,asB]
 cases c.blocks.xs[b.toNat]? <;>rfl
theorem ru{c:Cp}{b:Int}(h:ib (cv c) b=true):0<=b/\b.toNat<c.blocks.xs.length:=by
 obtain⟨_,h2,h3⟩:=ic.1 h;simp only[cv,ia]at h3;exact⟨h2,by omega⟩
theorem Q2{c:CV}{x:Cp}{B:Bk}{b u:Int}{l:List (List UInt8)}{rm:Sv}{off:Bool}(hx:cv x=c)(hB:bv B=ak c b):
  cv ⟨x.pages,x.size,⟨x.blocks.sv,x.blocks.xs.set b.toNat ⟨⟨B.pages.sv,dD rm 0 l⟩,u,B.aR+1,B.bad⟩⟩,x.ops+1,off,x.aV⟩={c with ops:=c.ops+1,off:=off,blocks:=c.blocks.set b.toNat {ak c b with used:=u,aR:=(ak c b).aR+1,pages:=l}}:=by
 subst hx;rw[←hB];simp only[cv,yO,bv,xf]
theorem abi{xs:List Bk}{i:Nat}{B B':Bk}(h:xs[i]? =some B)(hp:B'.pages=B.pages):((xs.set i B').map fun b:Bk=>fw b.pages)=xs.map fun b:Bk=>fw b.pages:=by
 rw[auP,hp];refine xi ?_;rw[asB,h];rfl
theorem abj{c:CV}{x:Cp}{B:Bk}{b:Int}(hx:cv x=c)(hB:bv B=ak c b):
  cv ⟨x.pages,x.size,⟨x.blocks.sv,x.blocks.xs.set b.toNat ⟨B.pages,B.used,B.aR,true⟩⟩,x.ops,x.off,x.aV⟩={c with blocks:=c.blocks.set b.toNat {ak c b with bad:=true}}:=by
 subst hx;rw[←hB];simp only[cv,yO,bv]
theorem Kq{w0 w:World}{L:List aj}{s:Sv}{xs:List (Sl UInt8)}(h:Mem w0 (own (bT (τ:=UInt8)) 1 s xs::aj.all (xs.map fun p:Sl UInt8=>fz p)::L) w):Mem w0 (fz (⟨s,xs⟩:Sl (Sl UInt8))::L) w:=by
 have hs:=h.sat (own (bT (τ:=UInt8)) 1 s xs) (by simp);have ha:=h.sat (aj.all (xs.map fun p:Sl UInt8=>fz p)) (by simp);refine Mem.freeze (es:=[own (bT (τ:=UInt8)) 1 s xs,aj.all (xs.map fun p:Sl UInt8=>fz p)]) _ ⟨hs.1,fun x hx=>aj.Ah ha (fz x) (asN hx)⟩ (fun k hk=>?_) h;rcases hk with⟨bO,rfl⟩|⟨x,hx,hk⟩
 ·
  exact⟨_,by simp,CU hs.1 bO⟩
 exact⟨aj.all (xs.map fun p:Sl UInt8=>fz p),by simp,aj.F1 (asN (f:=fun p:Sl UInt8=>fz p) hx) hk⟩
theorem Q3{w0 w:World}{L:List aj}{s:Sv}{xs:List Bk}(h:Mem w0 (own bZ 4 s xs::aj.all (xs.map fun b:Bk=>fz b.pages)::L) w):Mem w0 (fz (⟨s,xs⟩:Sl Bk)::L) w:=by
 have hs:=h.sat (own bZ 4 s xs) (by simp);have ha:=h.sat (aj.all (xs.map fun b:Bk=>fz b.pages)) (by simp);refine Mem.freeze (es:=[own bZ 4 s xs,aj.all (xs.map fun b:Bk=>fz b.pages)]) _ ⟨hs.1,fun x hx=>aj.Ah ha (fz x.pages) (asN (f:=fun b:Bk=>fz b.pages) hx)⟩ (fun k hk=>?_) h;rcases hk with⟨bO,rfl⟩|⟨x,hx,hk⟩
 ·
  exact⟨_,by simp,CU hs.1 bO⟩
 exact⟨aj.all (xs.map fun b:Bk=>fz b.pages),by simp,aj.F1 (asN (f:=fun b:Bk=>fz b.pages) hx) hk⟩
theorem Q4{w0 w:World}{L:List aj}{s:Sv}(hs:s.Ok)(hl:s.len=0)(h:Mem w0 L w):Mem w0 (fz (⟨s,[]⟩:Sl Ft)::L) w:=
 Mem.freeze (es:=[]) _ ⟨⟨hs,hl,fun i x hx=>by cases hx⟩,fun x hx=>by cases hx⟩ (fun k hk=>by
  rcases hk with⟨bO,_⟩|⟨x,hx,_⟩
  ·
   exact absurd rfl bO
  cases hx) h
theorem Q5{w0 w:World}{L:List aj}{d:Cp}(hf:d.aV=⟨Sv.none,[]⟩)(h:Mem w0 (own bZ 4 d.blocks.sv d.blocks.xs::aj.all (d.blocks.xs.map fun b:Bk=>fz b.pages)::L) w):Mem w0 (fz d::L) w:=by
 have h1:=Q4 (s:=Sv.none) Sv.Cj rfl (Q3 h);rw[←hf]at h1;exact F3 (h1.perm (List.Perm.swap _ _ _))
theorem Q6{zs:List Bk}{i:Nat}{z z':Bk}(h:zs[i]? =some z):((zs.take i).map fun b:Bk=>fz b.pages)++[fz z'.pages]=((zs.set i z').take (i+1)).map fun b:Bk=>fz b.pages:=by
 have hi:=(ad2.1 h).1;rw[asC,asJ hi,au1 (asu _),as0];rfl
theorem Kr{zs:List (Sl UInt8)}{i:Nat}{z z':Sl UInt8}(h:zs[i]? =some z):((zs.take i).map fun b:Sl UInt8=>fz b)++[fz z']=((zs.set i z').take (i+1)).map fun b:Sl UInt8=>fz b:=by
 have hi:=(ad2.1 h).1;rw[asC,asJ hi,au1 (asu _),as0];rfl
theorem Gj{α β:Type}{f:α->β}{zs:List α}{i:Nat}{z z':α}(h:zs[i]? =some z):((zs.set i z').take (i+1)).map f=(zs.take i).map f++[f z']:=by
 have hi:=(ad2.1 h).1;rw[asC,asJ hi,au1 (asu _),as0];rfl
theorem Gl{b n:Nat}(h:n<=1000000):(⟨false,b,0,n,n,none⟩:Sv).Ok:=⟨fun h=>(by cases h),asu _,by simp only;omega,fun _=>rfl⟩
end Go.Kb
namespace Go.ax
theorem Q7{P:Program}{N:ct}{w0:World}{env:Env}{L:List aj}{Q:Exit->Act->World->Prop}{c:Code}{X:Type}{pr:X->Prop}(Lx:X->List aj)(h: ∀w,Mem w0 L w-> ∃x,pr x/\Mem w0 (Lx x) w)(hk: ∀x,pr x->Cw P N w0 Q c env (Lx x)):Cw P N w0 Q c env L:=fun a w ha hw=>by
 obtain⟨x,h1,h2⟩:=h w hw;exact hk x h1 a w ha h2
end Go.ax
namespace Go.Kb
open Go.ax
structure fm where
 kind:Int
 id:Int
 gen:UInt64
 body:Sl UInt8
def da(x:fm):Array Value:= #[.int .i64 x.kind, .int .i64 x.id, .int .u64 x.gen.toNat,x.body.sv.val]
instance:bm da 4:=⟨fun _=>rfl,fun x=>by
 simp only[da,auh,auo,auD,Sv.one,vz,vA,at7]⟩
instance (x:fm):fW (da x) 4:=⟨rfl,bm.one x⟩
instance (x:fm):cc (da x) 0 (.int .i64 x.kind):=⟨rfl⟩
instance (x:fm):cc (da x) 1 (.int .i64 x.id):=⟨rfl⟩
instance (x:fm):cc (da x) 2 (.int .u64 x.gen.toNat):=⟨rfl⟩
instance (x:fm):cc (da x) 3 (x.body.sv.val):=⟨rfl⟩
instance:Deep fm where
 c:=4
 cells:=da
 size:=bm.size
 one:=bm.one
 cH h x:=Deep.cH h x.body
 bR x:=Deep.bR x.body
 jv h x hs:=Deep.jv h x.body hs
 mono w w' x hg hb:=Deep.mono w w' x.body hg hb
variable {w0:World}{L:List aj}
instance{x:fm}[q:aU w0 L x]:aU w0 L x.body:=⟨fun w hw=>(q.h w hw)⟩
instance{kind:Int}{id:Int}{gen:UInt64}{body:Sl UInt8}[q0:aU w0 L body]:aU w0 L (fm.mk kind id gen body):=⟨fun w hw=>q0.h w hw⟩
def o8:fm:=⟨0,0,0,⟨Sv.none,[]⟩⟩
structure dE where
 gen:UInt64
 at_:Sl Int
def eX(x:dE):Array Value:= #[.int .u64 x.gen.toNat,x.at_.sv.val]
instance:bm eX 2:=⟨fun _=>rfl,fun x=>by
 simp only[eX,auh,auo,auD,Sv.one,vz,vA,at7]⟩
instance (x:dE):fW (eX x) 2:=⟨rfl,bm.one x⟩
instance (x:dE):cc (eX x) 0 (.int .u64 x.gen.toNat):=⟨rfl⟩
instance (x:dE):cc (eX x) 1 (x.at_.sv.val):=⟨rfl⟩
instance:Deep dE where
 c:=2
 cells:=eX
 size:=bm.size
 one:=bm.one
 cH h x:=Deep.cH h x.at_
 bR x:=Deep.bR x.at_
 jv h x hs:=Deep.jv h x.at_ hs
 mono w w' x hg hb:=Deep.mono w w' x.at_ hg hb
instance{x:dE}[q:aU w0 L x]:aU w0 L x.at_:=⟨fun w hw=>(q.h w hw)⟩
instance{gen:UInt64}{at_:Sl Int}[q0:aU w0 L at_]:aU w0 L (dE.mk gen at_):=⟨fun w hw=>q0.h w hw⟩
def l5:dE:=⟨0,⟨Sv.none,[]⟩⟩
structure aA where
 live:Int
 used:Int
 aR:Int
 bad:Bool
 deriving DecidableEq
def bJ(x:aA):Array Value:= #[.int .i64 x.live, .int .i64 x.used, .int .i64 x.aR, .bool x.bad]
instance:bm bJ 4:=⟨fun _=>rfl,fun x=>by
 simp only[bJ,auh,auo,auD,Sv.one,vz,vA,at7]⟩
instance (x:aA):fW (bJ x) 4:=⟨rfl,bm.one x⟩
instance (x:aA):cc (bJ x) 0 (.int .i64 x.live):=⟨rfl⟩
instance (x:aA):cc (bJ x) 1 (.int .i64 x.used):=⟨rfl⟩
instance (x:aA):cc (bJ x) 2 (.int .i64 x.aR):=⟨rfl⟩
instance (x:aA):cc (bJ x) 3 (.bool x.bad):=⟨rfl⟩
def eA:aA:=⟨0,0,0,false⟩
structure cm where
 ae:Cp
 at_:Sl Int
 gen:UInt64
 last:Int
def cw(x:cm):Array Value:= #[.int .i64 x.ae.pages, .int .i64 x.ae.size,x.ae.blocks.sv.val, .int .i64 x.ae.ops, .bool x.ae.off,x.ae.aV.sv.val,x.at_.sv.val, .int .u64 x.gen.toNat, .int .i64 x.last]
instance:bm cw 9:=⟨fun _=>rfl,fun x=>by
 simp only[cw,auh,auo,auD,Sv.one,vz,vA,at7]⟩
instance (x:cm):fW (cw x) 9:=⟨rfl,bm.one x⟩
instance (x:cm):cc (cw x) 0 (.int .i64 x.ae.pages):=⟨rfl⟩
instance (x:cm):cc (cw x) 1 (.int .i64 x.ae.size):=⟨rfl⟩
instance (x:cm):cc (cw x) 2 (x.ae.blocks.sv.val):=⟨rfl⟩
instance (x:cm):cc (cw x) 4 (.bool x.ae.off):=⟨rfl⟩
instance (x:cm):cc (cw x) 6 (x.at_.sv.val):=⟨rfl⟩
instance (x:cm):cc (cw x) 7 (.int .u64 x.gen.toNat):=⟨rfl⟩
instance (x:cm):cc (cw x) 8 (.int .i64 x.last):=⟨rfl⟩
instance (x:cm):nJ (cw x) 0 6 (aT x.ae):=⟨rfl,fun j hj=>by
 match j,hj with
 |0,_=>rfl
 |1,_=>rfl
 |2,_=>rfl
 |3,_=>rfl
 |4,_=>rfl
 |5,_=>rfl⟩
instance:Deep cm where
 c:=9
 cells:=cw
 size:=bm.size
 one:=bm.one
 cH h x:=Deep.cH h x.ae/\Deep.cH h x.at_
 bR x:= .two (Deep.bR x.ae) (Deep.bR x.at_)
 jv h x hs:=⟨Deep.jv h x.ae hs.1,Deep.jv h x.at_ hs.2.1⟩
 mono w w' x hg hb:=⟨Deep.mono w w' x.ae hg.1 hb,Deep.mono w w' x.at_ hg.2 hb⟩
instance:gh cm where
 reach x k:=gh.reach x.ae k\/gh.reach x.at_ k
 congr h h' x e hg:=⟨gh.congr h h' x.ae (fun k hk=>e k (.inl hk)) hg.1,gh.congr h h' x.at_ (fun k hk=>e k (.inr hk)) hg.2⟩
instance{x:cm}[q:aU w0 L x]:aU w0 L x.ae:=⟨fun w hw=>(q.h w hw).1⟩
instance{x:cm}[q:aU w0 L x]:aU w0 L x.at_:=⟨fun w hw=>(q.h w hw).2⟩
instance{ae:Cp}{at_:Sl Int}{gen:UInt64}{last:Int}[q0:aU w0 L ae][q1:aU w0 L at_]:aU w0 L (cm.mk ae at_ gen last):=⟨fun w hw=>⟨q0.h w hw,q1.h w hw⟩⟩
def l6:cm:=⟨gT,⟨Sv.none,[]⟩,0,0⟩
structure aQ where
 aq:cm
 beyond:Bool
def aP(x:aQ):Array Value:= #[.int .i64 x.aq.ae.pages, .int .i64 x.aq.ae.size,x.aq.ae.blocks.sv.val, .int .i64 x.aq.ae.ops, .bool x.aq.ae.off,x.aq.ae.aV.sv.val,x.aq.at_.sv.val, .int .u64 x.aq.gen.toNat, .int .i64 x.aq.last, .bool x.beyond]
instance (x:aQ):cc (aP x) 0 (.int .i64 x.aq.ae.pages):=⟨rfl⟩
instance (x:aQ):cc (aP x) 1 (.int .i64 x.aq.ae.size):=⟨rfl⟩
instance (x:aQ):cc (aP x) 2 (x.aq.ae.blocks.sv.val):=⟨rfl⟩
instance (x:aQ):cc (aP x) 6 (x.aq.at_.sv.val):=⟨rfl⟩
instance (x:aQ):cc (aP x) 7 (.int .u64 x.aq.gen.toNat):=⟨rfl⟩
instance (x:aQ):cc (aP x) 8 (.int .i64 x.aq.last):=⟨rfl⟩
instance (x:aQ):cc (aP x) 9 (.bool x.beyond):=⟨rfl⟩
instance (x:aQ):nJ (aP x) 0 9 (cw x.aq):=⟨rfl,fun j hj=>by
 match j,hj with
 |0,_=>rfl
 |1,_=>rfl
 |2,_=>rfl
 |3,_=>rfl
 |4,_=>rfl
 |5,_=>rfl
 |6,_=>rfl
 |7,_=>rfl
 |8,_=>rfl⟩
instance (x:aQ):nJ (aP x) 0 6 (aT x.aq.ae):=⟨rfl,fun j hj=>by
 match j,hj with
 |0,_=>rfl
 |1,_=>rfl
 |2,_=>rfl
 |3,_=>rfl
 |4,_=>rfl
 |5,_=>rfl⟩
structure jx where
 w:aA
 pages:Int
 deriving DecidableEq
def fL(x:jx):Array Value:= #[.int .i64 x.w.live, .int .i64 x.w.used, .int .i64 x.w.aR, .bool x.w.bad, .int .i64 x.pages]
instance:bm fL 5:=⟨fun _=>rfl,fun x=>by
 simp only[fL,auh,auo,auD,Sv.one,vz,vA,at7]⟩
instance (x:jx):fW (fL x) 5:=⟨rfl,bm.one x⟩
instance (x:jx):cc (fL x) 0 (.int .i64 x.w.live):=⟨rfl⟩
instance (x:jx):cc (fL x) 1 (.int .i64 x.w.used):=⟨rfl⟩
instance (x:jx):cc (fL x) 2 (.int .i64 x.w.aR):=⟨rfl⟩
instance (x:jx):cc (fL x) 3 (.bool x.w.bad):=⟨rfl⟩
instance (x:jx):cc (fL x) 4 (.int .i64 x.pages):=⟨rfl⟩
def abk:jx:=⟨eA,0⟩
end Go.Kb
namespace Go.ax
open Go.Kb
section
variable {P:Program} {N:ct} {w0:World} {env:Env} {L:List aj} {d:Option Tmp} {ty:TypeId} {ps:String} {af:Array Edge} {gd:Option (Nat×Bool)}
theorem abl{p:Nat}(h:p<2^32):4294967295^^^p=4294967295 -p:=by
 have e:(BitVec.allOnes 32^^^BitVec.ofNat 32 p).toNat=(~~~(BitVec.ofNat 32 p)).toNat:=by rw[BitVec.allOnes_xor]
 rw[BitVec.toNat_xor,BitVec.toNat_not,BitVec.toNat_allOnes,auc,as5 h]at e;simpa using e
theorem Q8{x:Operand}{a:Int}{p:Nat}{t:TypeId}(hx:ev env x=some (.int .u32 a))(ea:a=(p:Int))(hp:p<2^32):
  Ry P N w0 env L ⟨d, .unOp .xor t x,ty,ps,af,gd⟩ (.int .u32 ((4294967295 -p:Nat):Int)):=fun a w ha _=>by
 subst ea;have h1:(Op.intBits .xor .u32 4294967295 (p:Int)).run P w= .ok (.int .u32 ((4294967295 -p:Nat):Int)) w:=by
  have e2:(BitVec.ofInt 32 4294967295^^^BitVec.ofInt 32 (p:Int)).toNat=4294967295 -p:=by
   rw[zW,BitVec.toNat_xor,auc,as5 hp,←abl hp];rfl
  show Sem.run P (pure (Value.int .u32 (IntKind.u32.wrap ((BitVec.ofInt 32 4294967295^^^BitVec.ofInt 32 (p:Int)).toNat:Int)))) w=_;rw[e2,pM (k:= .u32) (by show 4294967295 -p<4294967296;omega)];rfl
 have h2:Op.unary .xor (.int .u32 (p:Int))=Op.intBits .xor .u32 4294967295 (p:Int):=rfl;simp only[execOp,ha.ev hx,h2,Sem.run_bind,h1,Sem.run_pure,Result.andThen]
theorem abm{x y:Operand}{p:Nat}{a:Int}{k':IntKind}{t u:TypeId}(hx:ev env x=some (.int .u64 a))(hy:ev env y=some (.int k' 8))(ea:a=(p:Int))(hp:p*256<2^64):
  Ry P N w0 env L ⟨d, .binOp .shl t x y u,ty,ps,af,gd⟩ (.int .u64 ((p*256:Nat):Int)):=by
 subst ea;have h:=EH (P:=P) (N:=N) (w0:=w0) (L:=L) (d:=d) (ty:=ty) (ps:=ps) (af:=af) (gd:=gd) (t:=t) (u:=u) hx hy (by decide);have e:IntKind.u64.wrap ((p:Int)*2^min (Int.toNat 8) IntKind.u64.bits)=((p*256:Nat):Int):=by
  have e1:(p:Int)*2^min (Int.toNat 8) IntKind.u64.bits=((p*256:Nat):Int):=by
   rw[show(2:Int)^min (Int.toNat 8) IntKind.u64.bits=256 from by decide];omega
  rw[e1];exact pM hp
 rw[e]at h;exact h
theorem abn{n many i:Nat}(h:i<many):(List.replicate (many -i) (0:UInt8)++be n i).set (many -1 -i) (b8 (n/256^i))=List.replicate (many -(i+1)) 0++be n (i+1):=by
 rw[List.set_append_left _ _ (by simp;omega)];have e:List.replicate (many -i) (0:UInt8)=List.replicate (many -(i+1)) 0++[0]:=by
  rw[show many -i=many -(i+1)+1 by omega,List.replicate_succ',]
 rw[e,at5 _ _ (by simp;omega)];simp only[ata,show many -1 -i -(many -(i+1))=0 by omega,atI,asF];rfl
end
end Go.ax
namespace Go.Kb
open Go.ax
def bS(n:Int):UInt8:=b8 (n%256).toNat
theorem Q9(n:Nat):bS (n:Int)=b8 n:=by
 unfold bS;rw[show((n:Int)%256).toNat=n%256 by omega,XZ]
theorem uf(n:Int):IntKind.u8.wrap n=((bS n).toNat:Int):=by
 unfold bS;rw[pO];simp[IntKind.wrap,IntKind.bits,IntKind.signed];omega
def eO(r:Rt):List UInt8:=
 [if r.p.bits=128 then 1 else 0,bS r.p.len]++(List.range 16).map (fun i=>b8 (bk r.p.key i))++[b8 (r.bH.toNat/256),b8 r.bH.toNat]
theorem pa(r:Rt):(eO r).length=20:=by simp[eO]
theorem Ks(r:Rt):(eO r)[0]? =some (if r.p.bits=128 then 1 else 0):=by simp[eO]
theorem Kt(r:Rt):(eO r)[1]? =some (bS r.p.len):=by simp[eO]
theorem Ku(r:Rt)(i:Nat)(h:i<16):(eO r)[2+i]? =some (b8 (bk r.p.key i)):=by
 unfold eO;rw[asF,asA (by simp),asG (by simp;omega)];simp[h]
theorem Kv(r:Rt):(eO r)[18]? =some (b8 (r.bH.toNat/256)):=by simp[eO]
theorem Kw(r:Rt):(eO r)[19]? =some (b8 r.bH.toNat):=by simp[eO]
theorem Ra(r:Rt){AN:Array Value}(h0:AN.size=20)(hz:AN[0]? =some (.int .u8 (if r.p.bits=128 then 1 else 0:Nat))):
  (((over (AN.setIfInBounds 1 (.int .u8 (bS r.p.len).toNat)) 2 (ck r.p.key)).setIfInBounds 18 (.int .u8 (b8 (r.bH.toNat/256)).toNat)).setIfInBounds 19 (.int .u8 (b8 r.bH.toNat).toNat))=(aL aG (eO r)).toArray:=by
 have hs:(over (AN.setIfInBounds 1 (.int .u8 (bS r.p.len).toNat)) 2 (ck r.p.key)).size=20:=by rw[mA (by simp[gf,h0])];simpa using h0
 refine atM fun j=>?_;have hf: ∀b,(eO r)[j]? =some b->(aL aG (eO r)).toArray[j]? =some (.int .u8 b.toNat):=fun b hb=>by
  have:=oE (enc:=aG) (eO r) j b hb 0 (by decide);simp only[at2,atl]at this;simpa[aG]using this
 have hk:2+(ck r.p.key).size<=(AN.setIfInBounds 1 (.int .u8 (bS r.p.len).toNat)).size:=by simp[gf,h0]
 rw[atg,atg]
 by_cases Rb:19=j
 ·
  subst Rb;rw[hf _ (Kw r)];simp[hs]
 by_cases C1:18=j
 ·
  subst C1;rw[hf _ (Kv r)];simp[hs]
 rw[if_neg Rb,if_neg C1,se hk,gf]
 by_cases h2:2<=j/\j<2+16
 ·
  rw[if_pos h2,kO _ _ (by omega)];have:=Ku r (j -2) (by omega);rw[show 2+(j -2)=j by omega]at this;rw[hf _ this,pO];have:=jG r.p.key (j -2);rw[as5 this]
 rw[if_neg h2,atg]
 by_cases h1:1=j
 ·
  subst h1;rw[hf _ (Kt r)];simp[h0]
 rw[if_neg h1]
 by_cases hj:j=0
 ·
  subst hj;rw[hz,hf _ (Ks r)];split<;>rfl
 ·
  have e1:AN[j]? =none:=by simp;omega
  rw[e1];have:(aL aG (eO r)).length=20:=by rw[gR,pa]
  simp;omega
structure PV where
 kind:Int
 id:Int
 gen:Nat
 body:List UInt8
 deriving DecidableEq
def j7:PV:=⟨0,0,0,[]⟩
def cR(p:fm):PV:=⟨p.kind,p.id,p.gen.toNat,p.body.xs⟩
def n7(n:Int):Bool:=decide (24<=n)&&decide (n<=256)
theorem sJ{n:Int}:n7 n=true↔24<=n/\n<=256:=by simp only[n7,alM,decide_eq_true_eq]
def dV(n:Int):Int:=if n7 n=true then n -16 else 0
def l8(p:PV)(n:Int):Bool:=n7 n&&(decide (p.kind=1)||decide (p.kind=2))&&decide (0<=p.id)&&decide (p.id<64)&&decide (p.gen<281474976710656)&&decide ((p.body.length:Int)<=dV n)
theorem rv{p:PV}{n:Int}:l8 p n=true↔n7 n=true/\(p.kind=1\/p.kind=2)/\0<=p.id/\p.id<64/\p.gen<281474976710656/\(p.body.length:Int)<=dV n:=by
 simp only[l8,alM,atF,decide_eq_true_eq,and_assoc]
def j8(b:List UInt8):Bool:=b.all fun x=>decide (x=255)
theorem C2{b:List UInt8}:j8 b=true↔ ∀x∈b,x=255:=by simp only[j8,asD,decide_eq_true_eq]
def jJ(p:PV)(n:Nat):List UInt8:=[bS p.kind,bS p.id]++be p.gen 6++be p.body.length 2++p.body++List.replicate (n -4 -10 -p.body.length) 0
def du(p:PV)(n:Int):List UInt8×Int:=if l8 p n=true then(jJ p n.toNat++be (kz (jJ p n.toNat)) 4,0)else([],1)
def vC(b:List UInt8):PV:=⟨(b.getD 0 0).toNat,(b.getD 1 0).toNat,de ((b.drop 2).take (8 -2)),[]⟩
def iB(b:List UInt8):Nat:=de ((b.drop 8).take (10 -8))
def mc(b:List UInt8):List UInt8:=(b.drop 0).take (b.length -4 -0)
def yQ(b:List UInt8):List UInt8:=(b.drop (b.length -4)).take (b.length -(b.length -4))
def n8(b:List UInt8):List UInt8:=((mc b).drop (10+iB b)).take ((mc b).length -(10+iB b))
def xj(b:List UInt8):Bool:=b.all fun x=>decide (x=0)
theorem Kx{b:List UInt8}:xj b=true↔ ∀x∈b,x=0:=by simp only[xj,asD,decide_eq_true_eq]
def pc(b:List UInt8):Bool:=decide ((iB b:Int)<=dV b.length)&&l8 (vC b) b.length
def cI(b:List UInt8):PV×Int:=
 if n7 b.length=false then(j7,3)
 else if j8 b=true then(j7,0)
 else if de (yQ b)≠kz (mc b)then(j7,4)
 else if pc b=false then(j7,2)
 else if xj (n8 b)=false then(j7,2)
 else({vC b with body:=(b.drop 10).take (10+iB b -10)},0)
theorem Rc(b:List UInt8):iB b<65536:=by
 have h:=FI ((b.drop 8).take (10 -8));have h2:((b.drop 8).take (10 -8)).length<=2:=by rw[asq];omega
 have h3:=atv (show 0<256 by decide) h2;rw[iB];omega
theorem Ky(b:List UInt8):de ((b.drop 2).take (8 -2))<281474976710656:=by
 have h:=FI ((b.drop 2).take (8 -2));have h2:((b.drop 2).take (8 -2)).length<=6:=by rw[asq];omega
 have h3:=atv (show 0<256 by decide) h2;omega
def vD(b:List UInt8):fm:=⟨(b.getD 0 0).toNat,(b.getD 1 0).toNat,UInt64.ofNat (de ((b.drop 2).take (8 -2))),⟨Sv.none,[]⟩⟩
theorem Rd(b:List UInt8):(UInt64.ofNat (de ((b.drop 2).take (8 -2)))).toNat=de ((b.drop 2).take (8 -2)):=by
 have:=Ky b;rw[UInt64.toNat_ofNat'];omega
theorem Re(b:List UInt8)(s:Sv)(l:List UInt8):cR {vD b with body:=⟨s,l⟩}={vC b with body:=l}:=by
 simp only[cR,vD,Rd];rfl
theorem Kz(b:List UInt8):cR (vD b)=vC b:=Re b Sv.none []
theorem abo(b:List UInt8):(mc b).length=b.length -4:=by rw[mc,asq,ass];omega
theorem abp{M:Nat}{k d:UInt8}(h:2<=M):((List.replicate M (0:UInt8)).set 0 k).set 1 d=[k,d]++List.replicate (M -2) 0:=by
 obtain⟨m,rfl⟩: ∃m,M=m+2:=⟨M -2,by omega⟩;simp[au2]
theorem KA{A Y:List UInt8}{k N:Nat}(hk:k=A.length):(A++List.replicate N 0).take k++(Y++(A++List.replicate N 0).drop (k+Y.length))=A++Y++List.replicate (N -Y.length) 0:=by
 subst hk;rw[List.take_left',List.drop_append,avq (by omega),atG,List.drop_replicate,atc,asF];rfl
theorem abq{p:PV}{n:Nat}(h:p.body.length+14<=n):(jJ p n).length=n -4:=by
 simp only[jJ,af0,gK,ata,asm,asn];omega
theorem KB(b:List UInt8):(cI b).1.body.length<=65536:=by
 have h:=Rc b;rw[cI];split
 ·
  simp[j7]
 split
 ·
  simp[j7]
 split
 ·
  simp[j7]
 split
 ·
  simp[j7]
 split
 ·
  simp[j7]
 simp only[asq];omega
structure RV where
 gen:Nat
 at_:List Int
 deriving DecidableEq
def ig:RV:=⟨0,[]⟩
def dI(r:dE):RV:=⟨r.gen.toNat,r.at_.xs⟩
def kB(n:Int):Int:=min 64 (dV n/2)
def yR(x:Int):Bool:=decide (0<=x)&&decide (x<=65535)
theorem C3{x:Int}:yR x=true↔0<=x/\x<=65535:=by simp only[yR,alM,decide_eq_true_eq]
def pd(r:RV)(n:Int):Bool:= !decide (dV n=0)&&decide (r.gen<281474976710656)&&decide ((r.at_.length:Int)<=kB n)&&r.at_.all yR
theorem xk{r:RV}{n:Int}:pd r n=true↔dV n≠0/\r.gen<281474976710656/\(r.at_.length:Int)<=kB n/\ ∀x∈r.at_,yR x=true:=by
 simp only[pd,alM,att,decide_eq_true_eq,decide_eq_false_iff_not,and_assoc,asD,ne_eq]
def ry(b:List UInt8)(i:Nat):Int:=((oL (b.getD (2*i) 0) (b.getD (2*i+1) 0)).toNat:Int)
def p0(b:List UInt8):List Int:=(List.range (b.length/2)).map (ry b)
def vE(p:PV):Bool:=decide (p.kind=2)&&decide (p.body.length%2=0)&&decide (p.id=max 0 ((p.body.length/2:Nat) -1:Int))
def bD(b:List UInt8):RV×Int:=
 if(cI b).2≠0 then(ig,(cI b).2)
 else if(cI b).1.kind=0 then(ig,6)
 else if vE (cI b).1=false then(ig,2)
 else(⟨(cI b).1.gen,p0 (cI b).1.body⟩,0)
def Gm(x:Int):List UInt8:=[bS (x/256),bS x]
def gU(l:List Int):List UInt8:=(l.map Gm).flatten
def c0(r:RV)(n:Int):List UInt8×Int:=if pd r n=true then du ⟨2,max 0 ((r.at_.length:Int) -1),r.gen,gU r.at_⟩ n else([],1)
theorem abr{b:List UInt8}{i:Nat}(h:i<b.length/2):(p0 b).take (i+1)=(p0 b).take i++[ry b i]:=by
 rw[asC,p0,asB,atQ h];rfl
theorem Gn(b:List UInt8):(p0 b).length=b.length/2:=by simp[p0]
theorem abt{l:List Int}{i:Nat}{x:Int}(h:l[i]? =some x):gU (l.take (i+1))=gU (l.take i)++Gm x:=by
 simp[gU,asC,h]
theorem AO(l:List Int):(gU l).length=2*l.length:=by
 induction l with
 |nil=>rfl
 |cons x l ih=>
  have:gU (x::l)=Gm x++gU l:=by simp[gU]
  rw[this,af0,ih];simp only[Gm,asm,asn];omega
structure NS where
 at_:Int
 new:RV
 found:Bool
 blank:Bool
 deriving DecidableEq
def yS(s:NS)(i:Nat)(b:List UInt8):NS:=
 if(bD b).2=0/\(s.found=false\/s.new.gen<=(bD b).1.gen)then⟨i,(bD b).1,true,s.blank&&j8 b⟩else{s with blank:=s.blank&&j8 b}
def dy(l:List (List UInt8)):Nat->NS
 |0=>⟨0,ig,false,true⟩
 |k+1=>yS (dy l k) k (l.getD k [])
def gm(l:List (List UInt8)):Int×RV×Int:=
 if(dy l l.length).found=true then((dy l l.length).at_,(dy l l.length).new,0)else if(dy l l.length).blank=true then(0,ig,6)else(0,ig,2)
theorem Rf{l:List (List UInt8)}{i:Nat}{b:List UInt8}(hb:l[i]? =some b)(h:(bD b).2=0/\((dy l i).found=false\/(dy l i).new.gen<=(bD b).1.gen)):dy l (i+1)=⟨i,(bD b).1,true,(dy l i).blank&&j8 b⟩:=by
 rw[dy,show l.getD i []=b by simp[List.getD,hb],yS,if_pos h]
theorem Rh{l:List (List UInt8)}{i:Nat}{b:List UInt8}(hb:l[i]? =some b)(h: ¬((bD b).2=0/\((dy l i).found=false\/(dy l i).new.gen<=(bD b).1.gen))):dy l (i+1)={dy l i with blank:=(dy l i).blank&&j8 b}:=by
 rw[dy,show l.getD i []=b by simp[List.getD,hb],yS,if_neg h]
structure VV where
 ae:CV
 at_:List Int
 gen:Nat
 last:Int
 deriving DecidableEq
def zCV:CV:=⟨0,0,[],0,false,[]⟩
def lE:VV:=⟨zCV,[],0,0⟩
def vv(v:cm):VV:=⟨cv v.ae,v.at_.xs,v.gen.toNat,v.last⟩
def gn(c:CV):Bool:=ba c&&decide (4<=(c.blocks.length:Int))&&decide (2<=c.pages)&&decide (24<=c.size)
theorem fS{c:CV}:gn c=true↔ba c=true/\4<=(c.blocks.length:Int)/\2<=c.pages/\24<=c.size:=by simp only[gn,alM,decide_eq_true_eq,and_assoc]
def bL(c:CV)(k:Int):List UInt8:=(ak c (k/c.pages)).pages.getD (k%c.pages).toNat []
def kV(c:CV)(k:Int):Bool:=decide (2<=k/c.pages)&&decide (k/c.pages<(c.blocks.length:Int))&&decide (k%c.pages<(ak c (k/c.pages)).used)
theorem mF{c:CV}{k:Int}:kV c k=true↔2<=k/c.pages/\k/c.pages<(c.blocks.length:Int)/\k%c.pages<(ak c (k/c.pages)).used:=by simp only[kV,alM,decide_eq_true_eq,and_assoc]
def Gp(p:PV×Int)(id:Int):Bool:=decide (p.2=0)&&decide (p.1.kind=1)&&decide (p.1.id=id)
def n9(c:CV)(id n:Int):Bool:=kV c (n -1)&&Gp (cI (bL c (n -1))) id
theorem abu(c:CV):{CW c c.aV with off:=c.off}=c:=by
 rw[CW];split<;>rfl
def rz(c:CV)(l:List Int)(i:Nat):Bool:=decide (l.getD i 0=0)||(!(l.take i).contains (l.getD i 0)&&n9 c (i:Int) (l.getD i 0))
def vF(c:CV)(l:List Int):Bool:=(List.range l.length).all (rz c l)
theorem C4{c:CV}{l:List Int}:vF c l=true↔ ∀i,i<l.length->rz c l i=true:=by simp only[vF,asD,asU]
def kC(l:List Int)(i:Nat):Int->Option Unit:=fun x=>if x≠0/\x∈l.take i then some ()else none
theorem C5{l:List Int}{i:Nat}{x:Int}:(kC l i x).isSome=decide (x≠0/\x∈l.take i):=by
 unfold kC;split<;>simp_all
theorem Ri{l:List Int}:(fun _=>none)=kC l 0:=by
 funext x;simp[kC]
theorem Rj{l:List Int}{i:Nat}(h:l[i]? =some 0):kC l (i+1)=kC l i:=by
 funext x
 unfold kC;rw[asC,h]
 by_cases hx:x=0
 ·
  simp[hx]
 simp[hx]
theorem Rk{l:List Int}{i:Nat}{y:Int}(h:l[i]? =some y)(hy:y≠0):(fun z=>if z=y then some ()else kC l i z)=kC l (i+1):=by
 funext x
 unfold kC;rw[asC,h]
 by_cases hx:x=y
 ·
  subst hx;simp[hy]
 simp[hx]
theorem p6{l:List Int}{i:Nat}{y:Int}(h:l[i]? =some y):l.getD i 0=y:=by simp[List.getD,h]
def fM(l:List (Sl (Sl UInt8))):List (Sl UInt8):=(l.map Sl.xs).flatten
theorem Gt{l:List (Sl (Sl UInt8))}{i:Nat}{x:Sl (Sl UInt8)}(h:l[i]? =some x):fM (l.take (i+1))=fM (l.take i)++x.xs:=by
 rw[fM,asC,h];simp[fM]
theorem abv(l:List (Sl (Sl UInt8)))(i:Nat):(fM (l.take i)).length<=(fM l).length:=by
 have e:fM l=fM (l.take i)++fM (l.drop i):=by
  unfold fM;rw[←avk,←as0,asR]
 rw[e,af0];omega
class Rl(w0:World)(l:List (Sl UInt8)):Prop where
 h: ∀y∈l,Deep.cH (hp w0) y
variable {w0:World}{L:List aj}
instance aU.row{x:Sv}{l:List (Sl UInt8)}{i:Nat}[q:fu L x (bT (τ:=UInt8)) 1 l i][m:Rl w0 l]:aU w0 L (⟨x,l⟩:Sl (Sl UInt8)):=
 ⟨fun w hw=>⟨(hw.get q.h).1,fun y hy=>Deep.mono w0 w y (m.h y hy) hw.below⟩⟩
def bP(c:CV):Int×RV×Int:=gm ((ak c 0).pages++(ak c 1).pages)
def mG(c:CV):Bool:=decide ((bP c).1%c.pages<(ak c ((bP c).1/c.pages)).used)&&vF c (bP c).2.1.at_
def bG(c:CV):VV×Int:=
 if gn c=false then(lE,1)
 else if c.off=true then(lE,7)
 else if(bP c).2.2≠0 then(lE,(bP c).2.2)
 else if mG c=false then(lE,2)
 else(⟨c,(bP c).2.1.at_,(bP c).2.1.gen,(bP c).1/c.pages⟩,0)
theorem Rn(l:List (List UInt8)): ∀k,k<=l.length->(dy l k).at_=0\/(0<=(dy l k).at_/\(dy l k).at_<k)
 |0,_=> .inl rfl
 |k+1,h=>by
  have:=Rn l k (by omega);rw[dy,yS];split
  ·
   exact .inr ⟨by simp only;omega,by simp only;omega⟩
  simp only;omega
theorem KC{l:List (List UInt8)}(h:0<l.length):0<=(gm l).1/\(gm l).1<l.length:=by
 have:=Rn l l.length (asu _);rw[gm];split
 ·
  simp only;omega
 split<;>(simp only;omega)
theorem abw(b:List UInt8): ∀x∈p0 b,0<=x/\x<=65535:=by
 intro x hx;obtain⟨i,_,rfl⟩:=atw.1 hx;have:=(oL (b.getD (2*i) 0) (b.getD (2*i+1) 0)).toNat_lt;simp only[ry];omega
theorem abx(b:List UInt8): ∀x∈(bD b).1.at_,0<=x/\x<=65535:=by
 rw[bD];split
 ·
  simp[ig]
 split
 ·
  simp[ig]
 split
 ·
  simp[ig]
 exact abw _
theorem Ro(l:List (List UInt8)): ∀k,∀x∈(dy l k).new.at_,0<=x/\x<=65535
 |0=>by simp[dy,ig]
 |k+1=>by
  have:=Ro l k;rw[dy,yS];split
  ·
   exact abx _
  exact this
theorem Rp(l:List (List UInt8)): ∀x∈(gm l).2.1.at_,0<=x/\x<=65535:=by
 rw[gm];split
 ·
  exact Ro _ _
 split<;>simp[ig]
theorem KD(a b:Sl (Sl UInt8)):aN (fM [a,b])=aN a.xs++aN b.xs:=by simp[aN,fM]
theorem KE{c:Cp}{i:Nat}{B:Bk}(h:c.blocks.xs[i]? =some B):ak (cv c) (i:Int)=bv B:=by
 rw[←yP];simp[List.getD,h]
theorem aby(b:List UInt8):(bD b).1.at_.length<=65536:=by
 have h:=KB b;rw[bD];split
 ·
  simp[ig]
 split
 ·
  simp[ig]
 split
 ·
  simp[ig]
 simp only[Gn];omega
theorem Rq(l:List (List UInt8)): ∀k,(dy l k).new.at_.length<=65536
 |0=>by simp[dy,ig]
 |k+1=>by
  have:=Rq l k;rw[dy,yS];split
  ·
   exact aby _
  exact this
theorem abz(l:List (List UInt8)):(gm l).2.1.at_.length<=65536:=by
 rw[gm];split
 ·
  exact Rq _ _
 split<;>simp[ig]
theorem Rr(c:CV):(bG c).1.at_.length<=65536:=by
 have h:=abz ((ak c 0).pages++(ak c 1).pages);rw[bG];split
 ·
  simp[lE]
 split
 ·
  simp[lE]
 split
 ·
  simp[lE]
 split
 ·
  simp[lE]
 exact h
theorem KF{c:CV}(h:(bG c).2=0):gn c=true:=by
 cases hb:gn c with
 |true=>rfl
 |false=>rw[bG,if_pos hb]at h;cases h
def me(x:VV):Bool:=decide ((bG {x.ae with off:=false}).2=0)&&decide ((bG {x.ae with off:=false}).1.gen=x.gen)&&decide ((bG {x.ae with off:=false}).1.last=x.last)&&decide ((bG {x.ae with off:=false}).1.at_=x.at_)
theorem abA{w0 w:World}{L:List aj}(h:Mem w0 L w):Mem w0 (fz gT::L) w:=
 F3 (d:=gT) (Mem.freeze (es:=[]) _ ⟨dZ.nil _ _ _,fun x hx=>by cases hx⟩ (fun k hk=>by
  rcases hk with⟨bO,_⟩|⟨x,hx,_⟩
  ·
   exact absurd rfl bO
  cases hx) (Q4 (s:=Sv.none) Sv.Cj rfl h))
class Rs(a:Cp)(b:outParam Cp):Prop where
 h:a=b
instance aU.an7{v:cm}{c:Cp}[e:Rs v.ae c][q1:aU w0 L c][q2:aU w0 L v.at_]:aU w0 L v:=
 ⟨fun w hw=>⟨by rw[e.h];exact q1.h w hw,q2.h w hw⟩⟩
def ji(c:CV)(n:Int):List UInt8:=if(cI (bL c (n -1))).2=0 then(cI (bL c (n -1))).1.body else[]
theorem KG{c:CV}(h:(bG c).2=0):gn c=true/\mG c=true/\bG c=(⟨c,(bP c).2.1.at_,(bP c).2.1.gen,(bP c).1/c.pages⟩,0):=by
 have hb:=KF h
 by_cases h1:c.off=true
 ·
  rw[bG,if_neg (by rw[hb];simp),if_pos h1]at h;cases h
 by_cases h2:(bP c).2.2≠0
 ·
  rw[bG,if_neg (by rw[hb];simp),if_neg h1,if_pos h2]at h;exact absurd h h2
 cases h3:mG c with
 |false=>rw[bG,if_neg (by rw[hb];simp),if_neg h1,if_neg h2,if_pos h3]at h;cases h
 |true=>exact⟨hb,rfl,by rw[bG,if_neg (by rw[hb];simp),if_neg h1,if_neg h2,if_neg (by rw[h3];simp)]⟩
theorem C6{x:VV}(h:me x=true):ba x.ae=true/\vF x.ae x.at_=true/\ ∀y∈x.at_,0<=y/\y<=65535:=by
 simp only[me,alM,decide_eq_true_eq]at h;obtain⟨⟨⟨h1,h2⟩,h3⟩,h4⟩:=h;obtain⟨hb,hl,hf⟩:=KG h1;rw[hf]at h4;simp only at h4;simp only[mG,alM,decide_eq_true_eq]at hl;rw[h4]at hl;refine⟨(fS.1 hb).1,hl.2,?_⟩;rw[←h4];exact Rp _
theorem Ru{x:VV}(h:me x=true){i:Nat}{y:Int}(hy:x.at_[i]? =some y)(h0:y≠0):1<=y/\y<=1000000/\kV x.ae (y -1)=true:=by
 obtain⟨h1,h2,h3⟩:=C6 h;have hr:=h3 y (anc hy);have hp:=C4.1 h2 i (ad2.1 hy).1;rw[rz,p6 hy]at hp;simp only[atF,decide_eq_true_eq,alM]at hp;rcases hp with hp|hp
 ·
  exact absurd hp h0
 have hn:=hp.2;rw[n9,alM]at hn;exact⟨by omega,by omega,hn.1⟩
def ny(l:List Int)(j:Nat):Bool:=decide (l.getD j 0≠0)&& !(l.take j).contains (l.getD j 0)
def j9(pages:Int)(l:List Int)(k i:Nat):Nat:=((List.range k).filter fun j=>ny l j&&decide ((l.getD j 0 -1)/pages=(i:Int)+2)).length
def ug(b:BV)(live:Nat):aA:=⟨live,b.used,b.aR,b.bad⟩
def ka(c:CV)(l:List Int)(k:Nat):List aA:=(List.range (c.blocks.length -2)).map fun i:Nat=>ug (ak c ((i:Int)+2)) (j9 c.pages l k i)
def jj(c:CV)(l:List Int):List aA:=ka c l l.length
theorem AP(c:CV)(l:List Int)(k:Nat):(ka c l k).length=c.blocks.length -2:=by simp[ka]
theorem C7(pages:Int)(l:List Int)(k i:Nat):j9 pages l (k+1) i=j9 pages l k i+(if ny l k&&decide ((l.getD k 0 -1)/pages=(i:Int)+2)then 1 else 0):=by
 rw[j9,atq,atH,af0,j9];congr 1;simp only[atf,auL];split<;>rfl
theorem abB{c:CV}{l:List Int}{k:Nat}(h:ny l k=false):ka c l (k+1)=ka c l k:=by
 refine atp fun i _=>?_;rw[C7,h];simp
theorem abC{l:List Int}{i:Nat}{y:Int}(h:l[i]? =some y)(hy:y≠0/\y∈l.take i):kC l (i+1)=kC l i:=by
 funext x
 unfold kC;rw[asC,h]
 by_cases hx:x=y
 ·
  subst hx;simp[hy.1,hy.2]
 simp[hx]
theorem abD{c:CV}{l:List Int}{k i:Nat}{x:aA}(h:ny l k=true)(hi:(l.getD k 0 -1)/c.pages=(i:Int)+2)(hx:(ka c l k)[i]? =some x):ka c l (k+1)=(ka c l k).set i {x with live:=x.live+1}:=by
 have dK:i<c.blocks.length -2:=by have:=(ad2.1 hx).1;rwa [AP]at this
 have fU:x=ug (ak c ((i:Int)+2)) (j9 c.pages l k i):=by
  rw[ka,asB,atQ dK]at hx;exact(aso hx).symm
 refine atj fun j=>?_;rw[atb]
 by_cases hj:i=j
 ·
  subst hj;rw[if_pos rfl,if_pos (by rw[AP];exact dK),ka,asB,atQ dK,as7,C7,h,hi,fU];simp[ug]
 rw[if_neg hj,ka,ka,asB,asB];rcases asx j (c.blocks.length -2)with iu|iu
 ·
  rw[atQ iu,as7,as7,C7,h,hi];simp only[ath];rw[decide_eq_false (by omega)];simp
 rw[ast (by simpa using iu)];rfl
def az(l:List (Sl Int)):List Int:=(l.map Sl.xs).flatten
theorem Rv{l:List (Sl Int)}{i:Nat}{x:Sl Int}(h:l[i]? =some x):az (l.take (i+1))=az (l.take i)++x.xs:=by
 rw[az,asC,h];simp[az]
theorem abE{l:List (Sl Int)}{i j:Nat}{x:Sl Int}{y:Int}(h:l[i]? =some x)(hy:x.xs[j]? =some y):(az l)[(az (l.take i)).length+j]? =some y:=by
 have hj:=(ad2.1 hy).1;have e:az l=az (l.take (i+1))++az (l.drop (i+1)):=by
  unfold az;rw[←avk,←as0,asR]
 rw[e,Rv h,asG (by rw[af0];omega),asA (by omega),atG,hy]
def xm(c:CV)(l:List Int):Prop:=(ba c=true/\l.length<=1000000)/\2<=c.blocks.length/\ ∀n∈l,n=0\/(1<=n/\n<=1000000/\2<=(n -1)/c.pages/\(n -1)/c.pages<(c.blocks.length:Int))
theorem abF(c:CV)(l:List Int):ka c l 0=(List.range (c.blocks.length -2)).map fun i:Nat=>ug (ak c ((i:Int)+2)) 0:=by
 refine atp fun i _=>?_;simp[j9]
theorem Rw(pages:Int)(l:List Int)(k i:Nat):j9 pages l k i<=k:=by
 rw[j9];exact auO (auW _ _) (by simp)
theorem abG{c:CV}{l:List Int}{k i:Nat}{z:aA}(h:(ka c l k)[i]? =some z):0<=z.live/\z.live<=k:=by
 rw[ka,asB,aur]at h;obtain⟨j,_,rfl⟩:=h;have:=Rw c.pages l k j;simp only[ug];omega
def yT(a b:Int):Int:=if a<b then -1 else if b<a then 1 else 0
def mH(p:Int)(x:aA):Bool:= !x.bad&&decide (x.used<p)
def mf(x:aA):Bool:= !x.bad&&decide (x.live=0)&&decide (0<x.used)
def yU(p:Int)(x:aA):Bool:=if x.bad=true then decide (0<x.live)else decide (x.used=p)&&decide (0<x.live)&&decide (x.live<p)
def AQ(a b:aA):Int:=yT b.used a.used
def sK(a b:aA):Int:=yT a.aR b.aR
def KH(a b:aA):Int:=yT a.live b.live
def AR(a b:aA):Int:=if a.bad=b.bad then 0 else if a.bad=true then -1 else 1
def xn(p:Int)(x:aA):Bool:=decide (0<=x.live)&&decide (x.live<=x.used)&&decide (x.used<=p)&&decide (0<=x.aR)&&decide (x.aR<=cX)
theorem rA{p:Int}{x:aA}:xn p x=true↔0<=x.live/\x.live<=x.used/\x.used<=p/\0<=x.aR/\x.aR<=cX:=by
 simp only[xn,alM,decide_eq_true_eq,and_assoc]
def mg(l:List aA)(p:Int):Bool:=decide (1<=(l.length:Int))&&decide ((l.length:Int)<=32)&&decide (1<=p)&&decide (p<=16)&&l.all (xn p)
theorem sL{l:List aA}{p:Int}:mg l p=true↔1<=(l.length:Int)/\(l.length:Int)<=32/\1<=p/\p<=16/\ ∀x∈l,xn p x=true:=by
 simp only[mg,alM,decide_eq_true_eq,and_assoc,asD]
def uh(a b:aA):List (aA->aA->Int)->Bool
 |[]=>false
 |o::r=>if o a b≠0 then decide (o a b<0)else uh a b r
def AS(l:List aA)(eJ:aA->Bool)(os:List (aA->aA->Int))(i:Nat)(s:Int×Bool):Int×Bool:=
 if eJ (l.getD i eA)=true/\(s.2=false\/uh (l.getD i eA) (l.getD s.1.toNat eA) os=true)then((i:Int),true)else s
def iI(l:List aA)(eJ:aA->Bool)(os:List (aA->aA->Int)):Nat->Int×Bool
 |0=>(0,false)
 |k+1=>AS l eJ os k (iI l eJ os k)
def fx(l:List aA)(p:Int)(eJ:aA->Bool)(os:List (aA->aA->Int)):Int×Bool:=
 if mg l p=true then iI l eJ os l.length else(0,false)
def fy(l:List aA)(p:Int):Int×Bool:=fx l p (mH p) [AQ,sK]
def fG(l:List aA)(p:Int):Int×Bool:=fx l p mf [sK]
def vG(l:List aA)(p:Int):Int×Bool:=fx l p (yU p) [AR,KH,sK]
def ob(p:Int)(x:aA):Int:=if mf x=true then p else if mH p x=true then p -x.used else 0
def fN:List Int->Int
 |[]=>0
 |x::r=>x+fN r
def Gu(l:List aA)(p:Int):Int:=if mg l p=true then fN (l.map (ob p))else 0
theorem Rx(a b:List Int):fN (a++b)=fN a+fN b:=by
 induction a with
 |nil=>simp[fN]
 |cons x r ih=>simp only[atA,fN,ih];omega
theorem KI(l:List aA)(eJ:aA->Bool)(os:List (aA->aA->Int)): ∀k,0<=(iI l eJ os k).1/\(iI l eJ os k).1<=k/\((iI l eJ os k).2=true->(iI l eJ os k).1<k/\eJ (l.getD (iI l eJ os k).1.toNat eA)=true)
 |0=>⟨by simp[iI],by simp[iI],fun h=>by simp[iI]at h⟩
 |k+1=>by
  obtain⟨h1,h2,h3⟩:=KI l eJ os k;rw[iI,AS];split
  ·
   rename_i h;exact⟨by simp only;omega,by simp only;omega,fun _=>⟨by simp only;omega,by simpa using h.1⟩⟩
  exact⟨h1,by omega,fun h=>⟨by have:=(h3 h).1;omega,(h3 h).2⟩⟩
theorem Rz{l:List aA}{eJ:aA->Bool}{os:List (aA->aA->Int)}: ∀{k},(iI l eJ os k).2=false-> ∀i,i<k->eJ (l.getD i eA)=false
 |0,_,i,hi=>by omega
 |k+1,h,i,hi=>by
  rw[iI,AS]at h;split at h
  ·
   cases h
  rename_i hn
  by_cases e:i=k
  ·
   subst e
   cases hr:eJ (l.getD i eA)with
   |false=>rfl
   |true=>exact absurd ⟨hr, .inl h⟩ hn
  exact Rz h i (by omega)
theorem AT{l:List aA}{p:Int}{eJ:aA->Bool}{os:List (aA->aA->Int)}(h:(fx l p eJ os).2=true):mg l p=true/\0<=(fx l p eJ os).1/\(fx l p eJ os).1<l.length/\eJ (l.getD (fx l p eJ os).1.toNat eA)=true:=by
 unfold fx at h⊢;split at h
 ·
  rename_i hw;rw[if_pos hw];obtain⟨h1,h2,h3⟩:=KI l eJ os l.length;exact⟨hw,h1,(h3 h).1,(h3 h).2⟩
 cases h
theorem ui{l:List aA}{p:Int}{eJ:aA->Bool}{os:List (aA->aA->Int)}(hw:mg l p=true)(h:(fx l p eJ os).2=false): ∀x∈l,eJ x=false:=fun x hx=>by
 unfold fx at h;rw[if_pos hw]at h;obtain⟨i,hi⟩:=asM hx;have dK:=(ad2.1 hi).1;have:=Rz h i dK;rwa [show l.getD i eA=x by simp[List.getD,hi]]at this
theorem drop_at{α:Type}{l:List α}{i:Nat}{e:α}(he:l[i]? =some e):l.drop i=e::l.drop (i+1):=by
 obtain⟨hi,rfl⟩:=ad2.1 he;rw[List.getElem_cons_drop]
theorem abH{p:Int}{x:aA}(h:xn p x=true)(hp:1<=p):0<=ob p x/\ob p x<=p:=by
 obtain⟨h1,h2,h3,_⟩:=rA.1 h;rw[ob];split
 ·
  omega
 split<;>omega
theorem RA(p:Int): ∀l:List aA,(∀x∈l,xn p x=true)->1<=p->0<=fN (l.map (ob p))/\fN (l.map (ob p))<=(l.length:Int)*p
 |[],_,_=>by simp[fN]
 |x::r,h,hp=>by
  have h1:=RA p r (fun y hy=>h y (asE _ hy)) hp;have h2:=abH (h x asv) hp;rw[asL,fN,asm,Int.natCast_add,Int.add_mul];omega
theorem room_le{n:Nat}{p:Int}(h:n<=32)(h1:1<=p)(h2:p<=16):(n:Int)*p<=512:=by
 have:(n:Int)*p<=32*16:=avt (by omega) h2 (by omega) (by omega);omega
structure dP(c d:CV):Prop where
 pages:d.pages=c.pages
 size:d.size=c.size
 len:d.blocks.length=c.blocks.length
theorem dP.dk(c:CV):dP c c:=⟨rfl,rfl,rfl⟩
theorem dP.trans{c d e:CV}(h:dP c d)(g:dP d e):dP c e:=⟨g.pages.trans h.pages,g.size.trans h.size,g.len.trans h.len⟩
theorem abI(c:CV)(b g:Int)(p:List UInt8):dP c (gN c b g p):=by
 rw[gN];split
 ·
  exact⟨rfl,rfl,by simp[iH]⟩
 exact .dk c
theorem abJ(c:CV)(b:Int):dP c (gk c b):=by
 rw[gk];split
 ·
  exact⟨rfl,rfl,by simp[kU]⟩
 exact .dk c
theorem abK(c:CV)(b:Int):dP c (lZ c b):=by
 rw[lZ];split
 ·
  exact⟨rfl,rfl,by simp⟩
 exact .dk c
theorem KJ{c:CV}(h:ba c=true){o:Int}{f:Bool}(h0:0<=o)(h1:o<=cX){i:Nat}{B:BV}(hB:qH c.pages c.size B=true):ba {c with ops:=o,off:=f,blocks:=c.blocks.set i B}=true:=by
 obtain⟨k1,k2,k3,k4,k5⟩:=fF.1 h;refine fF.2 ⟨by simpa using k1,h0,h1,k4,fun b hb=>?_⟩;rcases asV hb with hb|rfl
 ·
  exact k5 b hb
 exact hB
theorem KK{c:CV}(h:ba c=true)(b g:Int)(p:List UInt8):ba (gN c b g p)=true:=by
 rw[gN];split
 ·
  rename_i hk;obtain⟨k1,k2,k3,k4⟩:=hk;obtain⟨j1,j2,j3,j4,j5⟩:=jI.1 k1;obtain⟨o1,o2,o3,o4,o5,o6⟩:=fk.1 (qI j1);have:=(fF.1 h).2.1;refine KJ h (by omega) (by omega) (fk.2 ⟨by simpa using o1,by simp only;omega,by simp only;omega,o4,o5,fun x hx=>?_⟩);rcases asV hx with hx|rfl
  ·
   exact o6 x hx
  rw[oW];split
  ·
   simpa[cZ]using j4
  exact j4
 exact h
theorem KL{c:CV}(h:ba c=true)(b:Int):ba (gk c b)=true:=by
 rw[gk];split
 ·
  rename_i hk;obtain⟨k1,k2,k3⟩:=hk;obtain⟨j1,j2,j3⟩:=pY.1 k1;obtain⟨o1,o2,o3,o4,o5,o6⟩:=fk.1 (qI j1);have:=(fF.1 h).2.1;have hs:=lX.1 (fF.1 h).1;have hl:(sI c (ak c b).pages).length=(ak c b).pages.length:=by rw[sI];split<;>simp
  refine KJ h (by omega) (by omega) (fk.2 ⟨by rw[hl];exact o1,?_,?_,by simp only;omega,by simp only;omega,fun x hx=>?_⟩)
  ·
   simp only;split<;>omega
  ·
   simp only;split<;>omega
  rw[sI]at hx;split at hx
  ·
   obtain⟨y,hy,rfl⟩:=atw.1 hx;simpa[cZ]using o6 y hy
  obtain⟨y,hy,rfl⟩:=atw.1 hx;simp only[ie,ata];omega
 exact h
theorem RB{c:CV}(h:ba c=true)(b:Int):ba (lZ c b)=true:=by
 rw[lZ];split
 ·
  rename_i hk;have hh:ib c b=true:=by
   rw[pZ]at hk;split at hk
   ·
    assumption
   cases hk
  obtain⟨o1,o2,o3,o4,o5,o6⟩:=fk.1 (qI hh);have k:=fF.1 h;exact KJ (o:=c.ops) (f:=c.off) h k.2.1 k.2.2.1 (fk.2 ⟨o1,o2,o3,o4,o5,o6⟩)
 exact h
def eC(c:CV)(b:Int):Int:=if(ak c b).bad=true then 0 else c.pages -(ak c b).used
def jk(c:CV)(b e:Int):CV:=if e=9 then lZ c b else c
def bx(c:CV)(b:Int)(p:List UInt8):Int:=kA c b (ak c b).used p
def bA(c:CV)(b:Int)(p:List UInt8):CV:=jk (gN c b (ak c b).used p) b (bx c b p)
def dv(c:CV)(b:Int):CV:=jk (gk c b) b (ez c b)
def iJ(c:CV):List UInt8:=(du ⟨1,0,0,[]⟩ c.size).1
def fH:Nat->CV->Int->CV×Int
 |0,c,b=>(dv c b,ez c b)
 |n+1,c,b=>if bx c b (iJ c)≠0 then(bA c b (iJ c),bx c b (iJ c))else fH n (bA c b (iJ c)) b
def cF(c:CV)(b:Int):CV×Int:=fH (eC c b).toNat c b
theorem RC{c:CV}(h:ba c=true)(b e:Int):ba (jk c b e)=true:=by
 rw[jk];split
 ·
  exact RB h b
 exact h
theorem Gw(c:CV)(b e:Int):dP c (jk c b e):=by
 rw[jk];split
 ·
  exact abK c b
 exact .dk c
theorem lF{c:CV}(h:ba c=true)(b:Int)(p:List UInt8):ba (bA c b p)=true:=RC (KK h _ _ _) _ _
theorem iK(c:CV)(b:Int)(p:List UInt8):dP c (bA c b p):=(abI _ _ _ _).trans (Gw _ _ _)
theorem C8{c:CV}(h:ba c=true)(b:Int):ba (dv c b)=true:=RC (KL h _) _ _
theorem xo(c:CV)(b:Int):dP c (dv c b):=(abJ _ _).trans (Gw _ _ _)
theorem RD: ∀(n:Nat) {c:CV} (b:Int),ba c=true->ba (fH n c b).1=true/\dP c (fH n c b).1
 |0,c,b,h=>⟨C8 h b,xo c b⟩
 |n+1,c,b,h=>by
  rw[fH];split
  ·
   exact⟨lF h _ _,iK _ _ _⟩
  have:=RD n b (lF h b (iJ c));exact⟨this.1,(iK _ _ _).trans this.2⟩
theorem xp{c:CV}(b:Int)(h:ba c=true):ba (cF c b).1=true/\dP c (cF c b).1:=RD _ b h
theorem p8{c:CV}{b:Int}{p:List UInt8}(h:bx c b p=0):n0 c b (ak c b).used p=true/\c.off=false/\(ak c b).bad=false/\(bn c).2=false/\bA c b p=iH c b (ak c b).used p:=by
 have h0:=h;rw[bx,kA]at h
 by_cases h1:n0 c b (ak c b).used p=true
 ·
  rw[if_pos h1]at h
  by_cases h2:c.off=true
  ·
   rw[if_pos h2]at h;cases h
  rw[if_neg h2]at h
  by_cases h3:(ak c b).bad=true\/(ak c b).used≠(ak c b).used
  ·
   rw[if_pos h3]at h;cases h
  rw[if_neg h3]at h;have zS:(ak c b).bad=false:=by
   cases hb:(ak c b).bad with
   |false=>rfl
   |true=>exact absurd (.inl hb) h3
  by_cases h4:(bn c).2=true
  ·
   rw[if_pos h4,lY]at h;split at h<;>cases h
  refine⟨h1,by simpa using h2,zS,by simpa using h4,?_⟩;rw[bA,jk,h0,if_neg (by decide),gN,if_pos ⟨h1,by simpa using h2,zS,rfl⟩]
 rw[if_neg h1]at h;cases h
theorem qJ{c:CV}{b:Int}(h:ib c b=true){o:Int}{f:Bool}{B:BV}:ak {c with ops:=o,off:=f,blocks:=c.blocks.set b.toNat B} b=B:=by
 obtain⟨_,h2,h3⟩:=ic.1 h;simp only[ak,List.getD,asJ (show b.toNat<c.blocks.length by omega),auC]
theorem RE{c:CV}{b:Int}{p:List UInt8}(h:bx c b p=0):eC (bA c b p) b=eC c b -1:=by
 obtain⟨h1,h2,h3,h4,h5⟩:=p8 h;have hh:=(jI.1 h1).1;rw[h5,eC,eC,iH,qJ hh];simp only[h3];simp only[as2,if_false];omega
theorem abL{c:CV}{b:Int}(h:0<eC c b):cF c b=if bx c b (iJ c)≠0 then(bA c b (iJ c),bx c b (iJ c))else cF (bA c b (iJ c)) b:=by
 obtain⟨n,hn⟩: ∃n,(eC c b).toNat=n+1:=⟨(eC c b).toNat -1,by omega⟩;rw[cF,hn,fH];split
 ·
  rfl
 rename_i h0;have rj:bx c b (iJ c)=0:=by simpa using h0
 rw[cF,RE rj,show(eC c b -1).toNat=n by omega]
theorem abM{c:CV}{b:Int}(h: ¬0<eC c b):cF c b=(dv c b,ez c b):=by
 rw[cF,show(eC c b).toNat=0 by omega];rfl
theorem C9(c:CV)(b e:Int):(jk c b e).ops=c.ops:=by
 rw[jk];split
 ·
  rw[lZ];split<;>rfl
 rfl
theorem abN(c:CV)(b g:Int)(p:List UInt8):c.ops<=(gN c b g p).ops:=by
 rw[gN];split
 ·
  simp only[iH];omega
 omega
theorem abO(c:CV)(b:Int):c.ops<=(gk c b).ops:=by
 rw[gk];split
 ·
  simp only[kU];omega
 omega
theorem uj{c:CV}{b:Int}{p:List UInt8}(hb:(ak c b).bad=false)(he:bx c b p=9\/bx c b p=0):(bA c b p).ops=c.ops+1:=by
 rw[bA,C9,gN];rw[bx,kA]at he
 by_cases h1:n0 c b (ak c b).used p=true
 ·
  rw[if_pos h1]at he
  by_cases h2:c.off=true
  ·
   rw[if_pos h2]at he;omega
  rw[if_pos ⟨h1,by simpa using h2,hb,rfl⟩];rfl
 rw[if_neg h1]at he;omega
theorem abP{c:CV}{b:Int}(hb:(ak c b).bad=false)(he:ez c b=9\/ez c b=0):(dv c b).ops=c.ops+1:=by
 rw[dv,C9,gk];rw[ez]at he
 by_cases h1:oX c b=true
 ·
  rw[if_pos h1]at he
  by_cases h2:c.off=true
  ·
   rw[if_pos h2]at he;omega
  rw[if_pos ⟨h1,by simpa using h2,hb⟩];rfl
 rw[if_neg h1]at he;omega
theorem abQ{c:CV}{b:Int}{p:List UInt8}(h:bx c b p=0):(ak (bA c b p) b).bad=false:=by
 obtain⟨h1,h2,h3,h4,h5⟩:=p8 h;rw[h5,iH,qJ (jI.1 h1).1];exact h3
theorem yV(c:CV)(b:Int)(p:List UInt8):c.ops<=(bA c b p).ops:=by rw[bA,C9];exact abN _ _ _ _
theorem RF(c:CV)(b:Int):c.ops<=(dv c b).ops:=by rw[dv,C9];exact abO _ _
theorem AU: ∀(n:Nat) (c:CV) (b:Int),c.ops<=(fH n c b).1.ops
 |0,c,b=>RF c b
 |n+1,c,b=>by
  rw[fH];split
  ·
   exact yV _ _ _
  have:=AU n (bA c b (iJ c)) b;have:=yV c b (iJ c);omega
theorem RG: ∀(n:Nat) {c:CV} {b:Int},(ak c b).bad=false->(fH n c b).2=9\/(fH n c b).2=0->c.ops<(fH n c b).1.ops
 |0,c,b,hb,he=>by have:=abP hb he;simp only[fH];omega
 |n+1,c,b,hb,he=>by
  rw[fH]at he⊢
  by_cases h0:bx c b (iJ c)≠0
  ·
   rw[if_pos h0]at he⊢;have:=uj hb (p:=iJ c) (he.imp id fun h=>h);simp only;omega
  rw[if_neg h0]at he⊢;have rj:bx c b (iJ c)=0:=by simpa using h0
  have:=RG n (abQ rj) he;have:=yV c b (iJ c);omega
theorem Gx{c:CV}{b:Int}(hb:(ak c b).bad=false)(he:(cF c b).2=9\/(cF c b).2=0):c.ops<(cF c b).1.ops:=RG _ hb he
def bb:aA:=⟨0,0,0,true⟩
def pe(x:aA):aA:=if x.bad=true then bb else x
def aw(c:CV)(fl:List Int):List aA:=(jj c fl).map pe
def iC(R:aA->Bool)(x:aA):aA:=if x.bad=true\/R x=false then bb else x
def bU(R:aA->Bool)(l:List aA):List aA:=l.map (iC R)
theorem lG(c:CV)(fl:List Int):(aw c fl).length=c.blocks.length -2:=by rw[aw,as8,jj,AP]
theorem xq(R:aA->Bool)(l:List aA):(bU R l).length=l.length:=by simp[bU]
structure WV where
 v:VV
 beyond:Bool
 deriving DecidableEq
def WV.on(x:WV)(c:CV):WV:={x with v:={x.v with ae:=c}}
theorem uk{c:Cp}{b:Int}{B:Bk}(h:c.blocks.xs[b.toNat]? =some B):ak (cv c) b=bv B:=by
 rw[←yP];simp[List.getD,h]
def nz(c:CV):Nat:=(c.blocks.filter fun b=>b.bad).length
def kW(p:List UInt8):Nat:=if(bD p).2=0 then(bD p).1.gen else 0
def um(l:List (List UInt8)):Nat:=l.foldl (fun m p=>max m (kW p)) 0
def lH(c:CV)(b:Int):Nat:=um (ak c b).pages
theorem abR{l:List (List UInt8)}{i:Nat}{p:List UInt8}(h:l[i]? =some p):um (l.take (i+1))=max (um (l.take i)) (kW p):=by
 rw[um,asC,h];simp[um]
theorem RH(b:List UInt8):(cI b).1.gen<281474976710656:=by
 have:=Ky b;rw[cI];split
 ·
  simp[j7]
 split
 ·
  simp[j7]
 split
 ·
  simp[j7]
 split
 ·
  simp[j7]
 split
 ·
  simp[j7]
 exact this
theorem RI(p:List UInt8):kW p<281474976710656:=by
 rw[kW];split
 ·
  rw[bD];split
  ·
   simp[ig]
  split
  ·
   simp[ig]
  split
  ·
   simp[ig]
  exact RH p
 omega
theorem KM(l:List (List UInt8)):um l<281474976710656:=by
 have: ∀(l:List (List UInt8)) (m:Nat),m<281474976710656->l.foldl (fun m p=>max m (kW p)) m<281474976710656:=by
  intro l
  induction l with
  |nil=>intro m h;exact h
  |cons p r ih=>
   intro m h;have:=RI p;exact ih _ (Nat.max_lt.2 ⟨h,this⟩)
 exact this l 0 (by omega)
def Da(c:CV)(b:Int):Bool:= !(ak c b).bad&&(decide (0<(ak c b).used)||(decide (b<2)&&decide (0<lH c b)))
def gP(c:CV)(b:Int):Nat:=max 1 (lH c (1 -b)+(1 -b).toNat)
def vH(c:CV)(last:Int):Int:=if(ak c (1 -last)).bad=true then eC c last else if(ak c last).bad=true/\0<eC c (1 -last)then eC c (1 -last)else c.pages
def AV(g:Nat):Bool:=decide (281474976710656<=g+2)
def kb(e:Int):Int:=if e=9 then 0 else e
theorem RJ{f:aA->aA}{l:List aA}{i:Nat}{x:aA}(h:l[i]? =some x):((l.take i).map f++l.drop i).set i (f x)=(l.take (i+1)).map f++l.drop (i+1):=by
 have hi:=(ad2.1 h).1;have hl:((l.take i).map f).length=i:=by rw[as8,asq];omega
 rw[at5 _ _ (by omega),hl,atS,drop_at h,atI,asC,h];simp
theorem RL{f:aA->aA}{l:List aA}{i:Nat}{x:aA}(h:l[i]? =some x)(hf:f x=x):(l.take i).map f++l.drop i=(l.take (i+1)).map f++l.drop (i+1):=by
 rw[drop_at h,asC,h];simp[hf]
theorem RM{f:aA->aA}{l:List aA}{i:Nat}{x:aA}(h:l[i]? =some x):((l.take i).map f++l.drop i)[i]? =some x:=by
 have hi:=(ad2.1 h).1;have hl:((l.take i).map f).length=i:=by rw[as8,asq];omega
 rw[asA (by omega),hl,atS,aty,atl,h]
theorem abS{l:List BV}{i:Nat}{x:BV}(h:l[i]? =some x):((l.take (i+1)).filter fun b=>b.bad).length=((l.take i).filter fun b=>b.bad).length+(if x.bad=true then 1 else 0):=by
 rw[asC,h,atH,af0];congr 1;simp only[au4,atf,auL];split<;>simp_all
def iL(c:CV)(l:List Int):Prop:= ∀n∈l,n=0\/(1<=n/\2<=(n -1)/c.pages/\(n -1)/c.pages<(c.blocks.length:Int))
theorem iL.bV{c d:CV}{l:List Int}(h:iL c l)(g:dP c d):iL d l:=fun n hn=>by
  rcases h n hn with h|h
  ·exact .inl h
  ·exact .inr (by rw[g.pages,g.len];exact h)
theorem iL.append{c:CV}{a b:List Int}(h:iL c a)(g:iL c b):iL c (a++b):=fun n hn=>(asz.1 hn).elim (h n) (g n)
theorem eY{c:CV}(h:ba c=true):1<=(c.blocks.length:Int)/\(c.blocks.length:Int)<=32/\1<=c.pages/\c.pages<=16/\1<=c.size/\c.size<=256:=lX.1 (fF.1 h).1
theorem KN{n p b:Int}(hp:1<=p)(gy:p<=16)(hb:b<=32)(h:(n -1)/p<b):n<=512:=by
  have h1:n -1=p*((n -1)/p)+(n -1)%p:=(Int.mul_ediv_add_emod (n -1) p).symm;have h2:=auE (n -1) (show 0<p by omega);have h3:(n -1)/p<=31:=by omega
  have h4:p*((n -1)/p)<=p*31:=Int.mul_le_mul_of_nonneg_left h3 (by omega);omega
theorem iL.kn{c:CV}{l:List Int}(h:iL c l)(hk:ba c=true)(h2:2<=c.blocks.length)(hl:l.length<=1000000):xm c l:=
  ⟨⟨hk,hl⟩,h2,fun n hn=>by
    rcases h n hn with h|h
    ·exact .inl h
    ·have hd:=eY hk
     have:=KN (n:=n) hd.2.2.1 hd.2.2.2.1 hd.2.1 h.2.2;exact .inr ⟨h.1,by omega,h.2.1,h.2.2⟩⟩
theorem KO{c:CV}{fl:List Int}{i:Nat}(hi:i<c.blocks.length -2):(aw c fl)[i]? =some (pe (ug (ak c ((i:Int)+2)) (j9 c.pages fl fl.length i))):=by
  rw[aw,jj,ka,asB,asB,atQ hi];rfl
theorem Gy{c:CV}{fl:List Int}{i:Nat}{x:aA}(h:(aw c fl)[i]? =some x):x.bad=(ak c ((i:Int)+2)).bad:=by
  have hi:=(ad2.1 h).1;rw[lG]at hi;rw[KO hi]at h;obtain rfl:=aso h;rw[pe];split
  ·rename_i hb;exact hb.symm
  ·rfl
theorem sM{c:CV}(hk:ba c=true){b:Int}(h0:0<=b)(h1:b<c.blocks.length):qH c.pages c.size (ak c b)=true:=qI (ic.2 ⟨hk,h0,h1⟩)
structure AW(c:CV)(n:Nat)(x:aA):Prop where
  RN:0<=x.live
  abT:x.live<=n
  Db:0<=x.used
  AX:x.used<=c.pages
  RO:0<=x.aR
  RP:x.aR<=cX
theorem uo{c:CV}{fl:List Int}(hk:ba c=true){x:aA}(h:x∈aw c fl):AW c fl.length x:=by
  obtain⟨i,hi⟩:=asM h;have dK:=(ad2.1 hi).1;rw[lG]at dK;rw[KO dK]at hi;obtain rfl:=aso hi;have hd:=eY hk;have qK:cX=1099511627776:=rfl;rw[pe];split
  ·exact⟨by simp[bb],by simp[bb],by simp[bb],by simp only[bb];omega,by simp[bb],by simp only[bb];omega⟩
  ·have ho:=fk.1 (sM hk (b:=(i:Int)+2) (by omega) (by omega))
   have:=Rw c.pages fl fl.length i;exact⟨by simp only[ug];omega,by simp only[ug];omega,ho.2.1,ho.2.2.1,ho.2.2.2.1,ho.2.2.2.2.1⟩
theorem AW.bad(c:CV)(hk:ba c=true)(n:Nat):AW c n bb:=by
  have hd:=eY hk;have qK:cX=1099511627776:=rfl;exact⟨by simp[bb],by simp[bb],by simp[bb],by simp only[bb];omega,by simp[bb],by simp only[bb];omega⟩
theorem KP{R:aA->Bool}{l:List aA}{i:Nat}{x:aA}(h:(bU R l)[i]? =some x): ∃y,l[i]? =some y/\x=iC R y:=by
  rw[bU,asB,aur]at h;obtain⟨y,hy,rfl⟩:=h;exact⟨y,hy,rfl⟩
theorem abU{R:aA->Bool}{y:aA}(h:(iC R y).bad=false):iC R y=y/\y.bad=false/\R y=true:=by
  unfold iC at h⊢;split at h
  ·cases h
  ·rename_i hn
   rw[if_neg hn];refine⟨rfl,h,?_⟩
   cases hR:R y with
   |true=>rfl
   |false=>exact absurd (.inr hR) hn
theorem sN{p:Int}{x:aA}(h:mH p x=true):x.bad=false/\x.used<p:=by
  simpa[mH]using h
theorem lI{x:aA}(h:mf x=true):x.bad=false/\x.live=0/\0<x.used:=by
  simpa[mf,and_assoc]using h
theorem pf{R:aA→Bool}{l:List aA}{p:Int}{eJ:aA→Bool}{os:List (aA→aA→Int)}(hr: ∀x,eJ x=true→x.bad=false)(h:(fx (bU R l) p eJ os).2=true):
    ∃x,l[(fx (bU R l) p eJ os).1.toNat]? =some x/\x.bad=false/\R x=true/\eJ x=true/\0<=(fx (bU R l) p eJ os).1/\(fx (bU R l) p eJ os).1<l.length:=by
  obtain⟨h1,h2,h3,h4⟩:=AT h;rw[xq]at h3;have hi:(bU R l)[(fx (bU R l) p eJ os).1.toNat]? =some ((bU R l).getD (fx (bU R l) p eJ os).1.toNat eA):=nP (by rw[xq];omega);obtain⟨y,hy,he⟩:=KP hi;rw[he]at h4;obtain⟨k1,k2,k3⟩:=abU (hr _ h4);rw[k1]at h4;exact⟨y,hy,k2,k3,h4,h2,h3⟩
def rB(x:aA):Bool:=decide (0<x.live)
def gA(x:aA):Bool:=decide (x.live=0)
def dQ(l:List aA):Nat:=(l.filter fun x=> !x.bad&&decide (x.live=0)).length
def mh(c:CV)(fl:List Int):Int×Bool:=fy (bU rB (aw c fl)) c.pages
def ke(c:CV)(fl:List Int):Int×Bool:=fy (bU gA (aw c fl)) c.pages
def jy(c:CV)(fl:List Int):Int:=(fG (bU gA (aw c fl)) c.pages).1
def bg(c:CV)(fl:List Int)(aI:Bool):CV×Int×Int:=
  if(mh c fl).2=true then(c,(mh c fl).1+2,0)
  else if dQ (aw c fl)=0\/(dQ (aw c fl)=1/\aI=false)then(c,0,5)
  else if(ke c fl).2=true then(c,(ke c fl).1+2,0)
  else((cF c (jy c fl+2)).1,jy c fl+2,(cF c (jy c fl+2)).2)
theorem abV{l:List aA}{i:Nat}{x:aA}(h:l[i]? =some x):((l.take (i+1)).filter fun z=> !z.bad&&decide (z.live=0)).length=((l.take i).filter fun z=> !z.bad&&decide (z.live=0)).length+(if x.bad=false/\x.live=0 then 1 else 0):=by
  rw[asC,h,atH,af0];congr 1;simp only[au4,atf,auL];split<;>simp_all
theorem abW(l:List aA):(l.filter fun z=> !z.bad&&decide (z.live=0)).length<=l.length:=auW _ _
theorem RQ{c:CV}{fl:List Int}(hk:ba c=true)(h2:3<=c.blocks.length)(hi:dQ (aw c fl)≠0)(hb: ¬(ke c fl).2=true):0<=jy c fl/\jy c fl<(c.blocks.length:Int) -2/\(ak c (jy c fl+2)).bad=false:=by
  have hd:=eY hk;have dW:=lG c fl;have hw:mg (bU gA (aw c fl)) c.pages=true:=sL.2 ⟨by rw[xq];omega,by rw[xq];omega,by omega,by omega,fun x hx=>by
    obtain⟨i,hi⟩:=asM hx;obtain⟨y,hy,rfl⟩:=KP hi;have t:=uo hk (anc hy);have qK:cX=1099511627776:=rfl;unfold iC;split
    ·exact rA.2 (by simp only[bb];omega)
    ·rename_i hn
     have hl:y.live=0:=by
        cases hR:gA y with
        |true=>simpa[gA]using hR
        |false=>exact absurd (.inr hR) hn
     exact rA.2 ⟨by omega,by have:=t.Db;omega,t.AX,t.RO,t.RP⟩⟩
  have rC:(ke c fl).2=false:=by simpa using hb
  have KQ:=ui hw (show(fx _ _ _ _).2=false from rC);have AY:0<((aw c fl).filter fun x=> !x.bad&&decide (x.live=0)).length:=by rw[dQ]at hi;omega
  obtain⟨x,hx⟩:=List.exists_mem_of_length_pos AY;obtain⟨mi,fU⟩:=asQ.1 hx;simp only[alM,att,decide_eq_true_eq]at fU;have xr:iC gA x=x:=by
    unfold iC;rw[if_neg];rintro(g|g)
    ·rw[fU.1]at g;cases g
    ·rw[show gA x=true by simp[gA,fU.2]]at g;cases g
  have Dc:x∈bU gA (aw c fl):=by
    rw[←xr];exact asN mi
  have Dd:=KQ x Dc;have t:=uo hk mi;have mI:mf x=true:=by
    have: ¬x.used<c.pages:=fun h=>by
      rw[mH,fU.1,decide_eq_true h]at Dd;cases Dd
    simp only[mf,fU.1,auq,ath,alM,decide_eq_true_eq];omega
  have hf:(fG (bU gA (aw c fl)) c.pages).2=true:=by
    cases hq:(fG (bU gA (aw c fl)) c.pages).2 with
    |true=>rfl
    |false=>have:=ui hw hq x Dc;rw[mI]at this;cases this
  obtain⟨y,hy,k1,_,_,k4,k5⟩:=pf (fun x h=>(lI h).1) hf;have oc:=Gy hy;change 0<=jy c fl at k4;change jy c fl<_ at k5;refine⟨k4,by omega,?_⟩;rw[←k1,oc];congr 2;change _=((jy c fl).toNat:Int)+2;omega
theorem RR{c:CV}{fl:List Int}(h:(mh c fl).2=true):0<=(mh c fl).1/\(mh c fl).1<((c.blocks.length -2:Nat):Int)/\(ak c ((mh c fl).1+2)).bad=false:=by
  obtain⟨y,hy,k1,_,_,k4,k5⟩:=pf (fun x h=>(sN h).1) h;have oc:=Gy hy;rw[lG]at k5;refine⟨k4,k5,?_⟩;rw[←k1,oc];congr 2;change _=((mh c fl).1.toNat:Int)+2;change 0<=(mh c fl).1 at k4;omega
theorem RS{c:CV}{fl:List Int}(h:(ke c fl).2=true):0<=(ke c fl).1/\(ke c fl).1<((c.blocks.length -2:Nat):Int)/\(ak c ((ke c fl).1+2)).bad=false:=by
  obtain⟨y,hy,k1,_,_,k4,k5⟩:=pf (fun x h=>(sN h).1) h;have oc:=Gy hy;rw[lG]at k5;refine⟨k4,k5,?_⟩;rw[←k1,oc];congr 2;change _=((ke c fl).1.toNat:Int)+2;change 0<=(ke c fl).1 at k4;omega
theorem De{c:CV}{b:Int}(h:ez c b=0):oX c b=true/\c.off=false/\(ak c b).bad=false/\(bn c).2=false/\dv c b=kU c b:=by
  have h0:=h;rw[ez]at h
  by_cases h1:oX c b=true
  ·rw[if_pos h1]at h
   by_cases h2:c.off=true
   ·rw[if_pos h2]at h;cases h
   ·rw[if_neg h2]at h
    by_cases h3:(ak c b).bad=true
    ·rw[if_pos h3]at h;cases h
    ·rw[if_neg h3]at h
     by_cases h4:(bn c).2=true
     ·rw[if_pos h4,lY]at h
      split at h<;>cases h
     ·refine⟨h1,by simpa using h2,by simpa using h3,by simpa using h4,?_⟩
      rw[dv,jk,h0,if_neg (by decide),gk,if_pos ⟨h1,by simpa using h2,by simpa using h3⟩]
  ·rw[if_neg h1]at h;cases h
theorem RT{c:CV}{b:Int}(h:ez c b=0):(ak (dv c b) b).bad=false:=by
  obtain⟨h1,h2,h3,h4,h5⟩:=De h;rw[h5,kU,qJ (pY.1 h1).1];exact h3
theorem GA: ∀(n:Nat) {c:CV} {b:Int},(fH n c b).2=0->(ak (fH n c b).1 b).bad=false
  |0,c,b,h=>RT h
  |n+1,c,b,h=>by
   rw[fH]at h⊢
   by_cases h0:bx c b (iJ c)≠0
   ·rw[if_pos h0]at h;exact absurd h h0
   ·rw[if_neg h0]at h⊢;exact GA n h
theorem KR{c:CV}{fl:List Int}{aI:Bool}(hk:ba c=true)(h2:3≤c.blocks.length):ba (bg c fl aI).1=true∧dP c (bg c fl aI).1∧c.ops≤(bg c fl aI).1.ops∧
    ((bg c fl aI).2.2=0->2<=(bg c fl aI).2.1/\(bg c fl aI).2.1<c.blocks.length/\(ak (bg c fl aI).1 (bg c fl aI).2.1).bad=false)/\((bg c fl aI).2.2=9->c.ops<(bg c fl aI).1.ops):=by
  rw[bg]
  by_cases h1:(mh c fl).2=true
  ·rw[if_pos h1]
   have:=RR h1;exact⟨hk, .dk c,atx _,fun _=>⟨by simp only;omega,by simp only;omega,this.2.2⟩,fun h=>absurd (show(0:Int)=9 from h) (by decide)⟩
  ·rw[if_neg h1]
   by_cases h3:dQ (aw c fl)=0\/(dQ (aw c fl)=1/\aI=false)
   ·rw[if_pos h3]
    exact⟨hk, .dk c,atx _,fun h=>absurd (show(5:Int)=0 from h) (by decide),fun h=>absurd (show(5:Int)=9 from h) (by decide)⟩
   ·rw[if_neg h3]
    by_cases h4:(ke c fl).2=true
    ·rw[if_pos h4]
     have:=RS h4;exact⟨hk, .dk c,atx _,fun _=>⟨by simp only;omega,by simp only;omega,this.2.2⟩,fun h=>absurd (show(0:Int)=9 from h) (by decide)⟩
    ·rw[if_neg h4]
     obtain⟨d1,d2,d3⟩:=RQ hk h2 (fun e=>h3 (.inl e)) h4;have hc:=xp (jy c fl+2) hk;exact⟨hc.1,hc.2,AU _ _ _,fun h=>⟨by simp only;omega,by simp only;omega,GA _ h⟩,fun h=>Gx d3 (.inl h)⟩
def iZ:Nat->CV->List Int->Bool->List UInt8->CV×Int×Int
  |0,c,_,_,_=>(c,0,0)
  |n+1,c,fl,aI,b=>
   if(bg c fl aI).2.2=0 then
      (if bx (bg c fl aI).1 (bg c fl aI).2.1 b=0 then(bA (bg c fl aI).1 (bg c fl aI).2.1 b,(bg c fl aI).2.1*c.pages+(ak (bg c fl aI).1 (bg c fl aI).2.1).used+1,0)
       else if bx (bg c fl aI).1 (bg c fl aI).2.1 b≠9 then(bA (bg c fl aI).1 (bg c fl aI).2.1 b,0,bx (bg c fl aI).1 (bg c fl aI).2.1 b)
       else iZ n (bA (bg c fl aI).1 (bg c fl aI).2.1 b) fl aI b)
   else if(bg c fl aI).2.2≠9 then((bg c fl aI).1,0,(bg c fl aI).2.2)
   else iZ n (bg c fl aI).1 fl aI b
def db(c:CV)(fl:List Int)(aI:Bool)(p:PV):CV×Int×Int:=
  if(du p c.size).2≠0 then(c,0,(du p c.size).2)else iZ ((cX -c.ops).toNat+1) c fl aI (du p c.size).1
theorem sO{c:CV}(h:ba c=true):c.ops<=cX:=(fF.1 h).2.2.1
theorem KS: ∀(n:Nat) {c:CV} {fl:List Int} {aI:Bool} {b:List UInt8},ba c=true→3≤c.blocks.length→(cX -c.ops).toNat<n→
    ba (iZ n c fl aI b).1=true/\dP c (iZ n c fl aI b).1/\c.ops<=(iZ n c fl aI b).1.ops/\((iZ n c fl aI b).2.2=0->1<=(iZ n c fl aI b).2.1/\2<=((iZ n c fl aI b).2.1 -1)/c.pages/\((iZ n c fl aI b).2.1 -1)/c.pages<c.blocks.length)
  |0,c,fl,aI,b,_,_,hn=>by omega
  |n+1,c,fl,aI,b,hk,h2,hn=>by
   obtain⟨f1,f2,f3,f4,f5⟩:=KR (fl:=fl) (aI:=aI) hk h2;have hd:=eY hk;rw[iZ]
   by_cases h0:(bg c fl aI).2.2=0
   ·rw[if_pos h0]
    obtain⟨g1,g2,g3⟩:=f4 h0
    by_cases h1:bx (bg c fl aI).1 (bg c fl aI).2.1 b=0
    ·rw[if_pos h1]
     have hl:=f2.trans (iK (bg c fl aI).1 (bg c fl aI).2.1 b);have hp:=jI.1 (p8 h1).1;rw[f2.pages]at hp;have hu:0<=(ak (bg c fl aI).1 (bg c fl aI).2.1).used:=hp.2.1;have KT:=hp.2.2.1
     have hq:((bg c fl aI).2.1*c.pages+(ak (bg c fl aI).1 (bg c fl aI).2.1).used+1 -1)/c.pages=(bg c fl aI).2.1:=by
          rw[atX,aul,atE _ _ (by omega),atn hu KT,aup]
     refine⟨lF f1 _ _,hl,?_,fun _=>⟨?_,by simp only;rw[hq];exact g1,by simp only;rw[hq];exact g2⟩⟩
     ·have:=yV (bg c fl aI).1 (bg c fl aI).2.1 b;simp only;omega
     ·have:0<=(bg c fl aI).2.1*c.pages:=aub (by omega) (by omega)
      simp only;omega
    ·rw[if_neg h1]
     by_cases h9:bx (bg c fl aI).1 (bg c fl aI).2.1 b≠9
     ·rw[if_pos h9]
      exact⟨lF f1 _ _,f2.trans (iK _ _ _),by have:=yV (bg c fl aI).1 (bg c fl aI).2.1 b;simp only;omega,fun h=>absurd h h1⟩
     ·rw[if_neg h9]
      have ho:=uj g3 (p:=b) (.inl (by simpa using h9));have bB:=lF f1 (bg c fl aI).2.1 b;have hl:=f2.trans (iK (bg c fl aI).1 (bg c fl aI).2.1 b);have hle:=sO bB;have:=KS n (fl:=fl) (aI:=aI) (b:=b) bB (by rw[hl.len];exact h2) (by omega);refine⟨this.1,hl.trans this.2.1,by omega,fun h=>?_⟩;have g:=this.2.2.2 h;rw[hl.pages,hl.len]at g;exact g
   ·rw[if_neg h0]
    by_cases h9:(bg c fl aI).2.2≠9
    ·rw[if_pos h9]
     exact⟨f1,f2,f3,fun h=>absurd h h0⟩
    ·rw[if_neg h9]
     have ho:=f5 (by simpa using h9);have hle:=sO f1;have:=KS n (fl:=fl) (aI:=aI) (b:=b) f1 (by rw[f2.len];exact h2) (by omega);refine⟨this.1,f2.trans this.2.1,by omega,fun h=>?_⟩;have g:=this.2.2.2 h;rw[f2.pages,f2.len]at g;exact g
theorem RU{c:CV}{fl:List Int}{aI:Bool}{p:PV}(hk:ba c=true)(h2:3≤c.blocks.length):
    ba (db c fl aI p).1=true/\dP c (db c fl aI p).1/\c.ops<=(db c fl aI p).1.ops/\((db c fl aI p).2.2=0->1<=(db c fl aI p).2.1/\2<=((db c fl aI p).2.1 -1)/c.pages/\((db c fl aI p).2.1 -1)/c.pages<c.blocks.length):=by
  rw[db];split
  ·rename_i h;exact⟨hk, .dk c,atx _,fun h'=>absurd h' h⟩
  ·exact KS _ hk h2 (by omega)
def kX(p:Int)(x:aA):Int:=if x.live=0/\p -x.used=0 then p else p -x.used
def sP(p:Int)(s:Int×Int)(x:aA):Int×Int:=if x.bad=true then s else(s.1+kX p x,if x.live=0 then max s.2 (kX p x)else s.2)
def fO(p:Int)(l:List aA):Int×Int:=l.foldl (sP p) (0,0)
def kY(c:CV)(fl:List Int):Int×Int:=((fO c.pages (aw c fl)).1 -(fO c.pages (aw c fl)).2,(fO c.pages (aw c fl)).1)
theorem RW{p:Int}{l:List aA}{i:Nat}{x:aA}(h:l[i]? =some x):fO p (l.take (i+1))=sP p (fO p (l.take i)) x:=by
  rw[fO,asC,h];simp[fO]
theorem GB{c:CV}{n:Nat}{x:aA}(h:AW c n x)(hk:ba c=true):0<=kX c.pages x/\kX c.pages x<=c.pages:=by
  have hd:=eY hk;have:=h.Db;have:=h.AX;rw[kX];split<;>omega
theorem RX{c:CV}{n:Nat}(hk:ba c=true)(l:List aA)(h: ∀x∈l,AW c n x): ∀i,i<=l.length->0<=(fO c.pages (l.take i)).1/\(fO c.pages (l.take i)).1<=16*(i:Int)/\0<=(fO c.pages (l.take i)).2/\(fO c.pages (l.take i)).2<=16
  |0,_=>by simp[fO]
  |i+1,hi=>by
   obtain⟨x,hx⟩:=get_some (xs:=l) (i:=i) (by omega);have ih:=RX hk l h i (by omega);have hr:=GB (h x (anc hx)) hk;have hd:=eY hk;rw[RW hx,sP];split
   ·omega
   ·refine⟨by simp only;omega,by simp only;omega,?_,?_⟩
    ·simp only;split<;>omega
    ·simp only;split<;>omega
structure cY(x:WV):Prop where
 ae:ba x.v.ae=true
 len:4<=(x.v.ae.blocks.length:Int)
 pages:2<=x.v.ae.pages
 size:24<=x.v.ae.size
 last:x.v.last=0\/x.v.last=1
 gen:x.v.gen<281474976710656
 vI:iL x.v.ae x.v.at_
 jK:x.v.at_.length<=64
theorem cY.on{x:WV}(h:cY x){c:CV}(hk:ba c=true)(hl:dP x.v.ae c):cY (x.on c):=
 ⟨hk,by simp only[WV.on];rw[hl.len];exact h.len,by simp only[WV.on];rw[hl.pages];exact h.pages,by simp only[WV.on];rw[hl.size];exact h.size,h.last,h.gen,h.vI.bV hl,h.jK⟩
theorem cY.sQ{x:WV}(h:cY x):4<=x.v.ae.blocks.length:=by have:=h.len;omega
theorem RY(x:WV):x.on x.v.ae=x:=rfl
theorem RZ(x:WV)(c d:CV):(x.on c).on d=x.on d:=rfl
def aY(c:CV)(last:Int):CV×Int×Int:=
 if 0<eC c last then(c,last,0)
 else if 0<eC c (1 -last)then(c,1 -last,0)
 else if(ak c (1 -last)).bad=true then(c,0,9)
 else(dv c (1 -last),1 -last,ez c (1 -last))
theorem GC{c:CV}{b:Int}(h:0<eC c b):(ak c b).bad=false:=by
 rw[eC]at h;split at h
 ·
  omega
 rename_i hn;simpa using hn
theorem GD{c:CV}{last:Int}(hk:ba c=true)(hl:last=0\/last=1):ba (aY c last).1=true/\dP c (aY c last).1/\c.ops<=(aY c last).1.ops/\
  ((aY c last).2.2=0->((aY c last).2.1=0\/(aY c last).2.1=1)/\(ak (aY c last).1 (aY c last).2.1).bad=false):=by
 rw[aY]
 by_cases h1:0<eC c last
 ·
  rw[if_pos h1];exact⟨hk, .dk c,atx _,fun _=>⟨hl,GC h1⟩⟩
 ·
  rw[if_neg h1]
  by_cases h2:0<eC c (1 -last)
  ·
   rw[if_pos h2];exact⟨hk, .dk c,atx _,fun _=>⟨by simp only;omega,GC h2⟩⟩
  ·
   rw[if_neg h2]
   by_cases h3:(ak c (1 -last)).bad=true
   ·
    rw[if_pos h3];exact⟨hk, .dk c,atx _,fun h=>absurd (show(9:Int)=0 from h) (by decide)⟩
   ·
    rw[if_neg h3];exact⟨C8 hk _,xo _ _,RF _ _,fun h=>⟨by simp only;omega,RT h⟩⟩
def gV:Nat->WV->List Int->List UInt8->WV×Int
 |0,x,_,_=>(x,0)
 |n+1,x,a,b=>
  if(aY x.v.ae x.v.last).2.2≠0 then(x.on (aY x.v.ae x.v.last).1,(aY x.v.ae x.v.last).2.2)
  else if bx (aY x.v.ae x.v.last).1 (aY x.v.ae x.v.last).2.1 b=0 then
   (⟨⟨bA (aY x.v.ae x.v.last).1 (aY x.v.ae x.v.last).2.1 b,a,x.v.gen+1,if lH (bA (aY x.v.ae x.v.last).1 (aY x.v.ae x.v.last).2.1 b) 1=x.v.gen+1 then 1 else(aY x.v.ae x.v.last).2.1⟩,x.beyond⟩,0)
  else if bx (aY x.v.ae x.v.last).1 (aY x.v.ae x.v.last).2.1 b≠9 then
   (x.on (bA (aY x.v.ae x.v.last).1 (aY x.v.ae x.v.last).2.1 b),bx (aY x.v.ae x.v.last).1 (aY x.v.ae x.v.last).2.1 b)
  else gV n (x.on (bA (aY x.v.ae x.v.last).1 (aY x.v.ae x.v.last).2.1 b)) a b
def eE(x:WV)(a:List Int):WV×Int:=
 if(c0 ⟨x.v.gen+1,a⟩ x.v.ae.size).2≠0 then(x,(c0 ⟨x.v.gen+1,a⟩ x.v.ae.size).2)
 else gV ((cX -x.v.ae.ops).toNat+1) x a (c0 ⟨x.v.gen+1,a⟩ x.v.ae.size).1
structure jz(x y:WV):Prop where
 ok:cY y
 bV:dP x.v.ae y.v.ae
 ops:x.v.ae.ops<=y.v.ae.ops
 yW:y.v.at_.length=x.v.at_.length
theorem jz.dk{x:WV}(h:cY x):jz x x:=⟨h, .dk _,atx _,rfl⟩
theorem jz.trans{x y z:WV}(h:jz x y)(g:jz y z):jz x z:=⟨g.ok,h.bV.trans g.bV,Int.le_trans h.ops g.ops,g.yW.trans h.yW⟩
theorem jz.on{x:WV}(h:cY x){c:CV}(hk:ba c=true)(hl:dP x.v.ae c)(ho:x.v.ae.ops<=c.ops):jz x (x.on c):=⟨h.on hk hl,hl,ho,rfl⟩
theorem abX{r:RV}{n:Int}(h:(c0 r n).2=0):r.gen<281474976710656/\(r.at_.length:Int)<=kB n:=by
 rw[c0]at h;split at h
 ·
  rename_i hm;have:=xk.1 hm;exact⟨this.2.1,this.2.2.1⟩
 cases h
theorem abY(n:Int):kB n<=64:=by rw[kB];omega
theorem R0: ∀(n:Nat) {x:WV} {a:List Int} {b:List UInt8},cY x->iL x.v.ae a->a.length=x.v.at_.length->x.v.gen+1<281474976710656->(cX -x.v.ae.ops).toNat<n->jz x (gV n x a b).1/\((gV n x a b).2=0->x.v.ae.ops<(gV n x a b).1.v.ae.ops)
 |0,x,a,b,_,_,_,_,hn=>by omega
 |n+1,x,a,b,hx,ha,ei,hg,hn=>by
  obtain⟨r1,r2,r3,r4⟩:=GD (c:=x.v.ae) (last:=x.v.last) hx.ae hx.last;rw[gV]
  by_cases h0:(aY x.v.ae x.v.last).2.2≠0
  ·
   rw[if_pos h0];exact⟨.on hx r1 r2 r3,fun h=>absurd h h0⟩
  rw[if_neg h0];obtain⟨r5,r6⟩:=r4 (by simpa using h0);have fT:=lF r1 (aY x.v.ae x.v.last).2.1 b;have bW:=r2.trans (iK (aY x.v.ae x.v.last).1 (aY x.v.ae x.v.last).2.1 b);have mJ:=yV (aY x.v.ae x.v.last).1 (aY x.v.ae x.v.last).2.1 b
  by_cases h1:bx (aY x.v.ae x.v.last).1 (aY x.v.ae x.v.last).2.1 b=0
  ·
   rw[if_pos h1];have ho:=uj r6 (p:=b) (.inr h1);have fQ:=hx.on fT bW;refine⟨⟨⟨fT,fQ.len,fQ.pages,fQ.size,?_,hg,ha.bV bW,by simp only;rw[ei];exact hx.jK⟩,bW,by simp only;omega,ei⟩,fun _=>by simp only;omega⟩;simp only;split
   ·
    exact .inr rfl
   exact r5
  rw[if_neg h1]
  by_cases h9:bx (aY x.v.ae x.v.last).1 (aY x.v.ae x.v.last).2.1 b≠9
  ·
   rw[if_pos h9];exact⟨.on hx fT bW (by omega),fun h=>absurd h h1⟩
  rw[if_neg h9];have ho:=uj r6 (p:=b) (.inl (by simpa using h9));have hle:=sO fT;have fQ:=hx.on fT bW;have:=R0 n (x:=x.on (bA (aY x.v.ae x.v.last).1 (aY x.v.ae x.v.last).2.1 b)) (a:=a) (b:=b) fQ (ha.bV bW) ei hg (by simp only[WV.on];omega);exact⟨(jz.on hx fT bW (by omega)).trans this.1,fun h=>by
   have h2:(bA (aY x.v.ae x.v.last).1 (aY x.v.ae x.v.last).2.1 b).ops<_:=this.2 h;omega⟩
theorem KU{x:WV}{a:List Int}(hx:cY x)(ha:iL x.v.ae a)(ei:a.length=x.v.at_.length):jz x (eE x a).1/\((eE x a).2=0->x.v.ae.ops<(eE x a).1.v.ae.ops):=by
 rw[eE];split
 ·
  rename_i h;exact⟨.dk hx,fun h'=>absurd h' h⟩
 rename_i h;have:=abX (r:=⟨x.v.gen+1,a⟩) (n:=x.v.ae.size) (by simpa using h);exact R0 _ hx ha ei this.1 (by omega)
def nA:Nat->Int->CV->CV×Int
 |0,_,c=>(c,0)
 |n+1,b,c=>if Da c b=false then nA n (b+1) c
  else if ez c b≠0/\ez c b≠9 then(dv c b,ez c b)else nA n (b+1) (dv c b)
def ph(c:CV)(b:Int)(ids:Nat):List UInt8×Int:=c0 ⟨gP c b,List.replicate ids 0⟩ c.size
def GF(c:CV)(b:Int)(ids:Nat)(g:Nat):VV:=⟨c,List.replicate ids 0,g,b⟩
def xt:Nat->Int->WV->Nat->WV×Int
 |0,_,x,_=>(x,9)
 |n+1,b,x,ids=>
  if(ph x.v.ae b ids).2≠0\/eC x.v.ae b=0 then xt n (b+1) x ids
  else if bx x.v.ae b (ph x.v.ae b ids).1=0 then(⟨GF (bA x.v.ae b (ph x.v.ae b ids).1) b ids (gP x.v.ae b),x.beyond⟩,0)
  else if bx x.v.ae b (ph x.v.ae b ids).1≠9 then(x.on (bA x.v.ae b (ph x.v.ae b ids).1),bx x.v.ae b (ph x.v.ae b ids).1)
  else xt n (b+1) (x.on (bA x.v.ae b (ph x.v.ae b ids).1)) ids
def rD(x:WV)(ids:Nat):WV×Int:=
 if(nA x.v.ae.blocks.length 0 x.v.ae).2≠0 then(x.on (nA x.v.ae.blocks.length 0 x.v.ae).1,(nA x.v.ae.blocks.length 0 x.v.ae).2)
 else xt 2 0 (x.on (nA x.v.ae.blocks.length 0 x.v.ae).1) ids
def xu(s:Int×Int)(i:Nat)(x:aA):Int×Int:=
 if x.bad=true\/x.live=0\/cX<=x.aR then s else if s.2<x.used -x.live then((i:Int),x.used -x.live)else s
def gB(l:List aA):Nat->Int×Int
 |0=>(0,0)
 |k+1=>xu (gB l k) k (l.getD k eA)
def iM(l:List aA)(p:Int):Int×Bool:=if(vG l p).2=true then((vG l p).1,true)else((gB l l.length).1,decide (0<(gB l l.length).2))
theorem KV(l:List aA): ∀k,0<=(gB l k).1/\0<=(gB l k).2/\(0<(gB l k).2->(gB l k).1<k)
 |0=>by simp[gB]
 |k+1=>by
  have:=KV l k;rw[gB,xu];split
  ·
   exact⟨this.1,this.2.1,fun h=>by have:=this.2.2 h;omega⟩
  split
  ·
   exact⟨by simp only;omega,by simp only;omega,fun _=>by simp only;omega⟩
  exact⟨this.1,this.2.1,fun h=>by have:=this.2.2 h;omega⟩
theorem KW{l:List aA}{p:Int}(h:(iM l p).2=true):0<=(iM l p).1/\(iM l p).1<l.length:=by
 rw[iM]at h⊢;split
 ·
  rename_i hv;have:=AT hv;exact⟨this.2.1,this.2.2.1⟩
 rename_i hv;rw[if_neg hv]at h;have:=KV l l.length;exact⟨this.1,this.2.2 (by simpa using h)⟩
def rE(x:aA):Bool:=decide (x.used=0)
def sR(p:Int)(x:aA):Bool:=decide (x.used=p)
def sS(x:aA):Bool:=decide (x.aR<cX)
def mj(c:CV)(l:List aA):Int×Bool:=fy (bU rE l) c.pages
def jL(c:CV)(l:List aA):Int×Bool:=fG (bU (sR c.pages) l) c.pages
def jM(c:CV)(l:List aA):Int×Bool:=fG (bU sS l) c.pages
def bX(c:CV)(l:List aA):CV×Int×Int:=
 if(mj c l).2=true then(c,(mj c l).1+2,0)
 else if(jL c l).2=true then((cF c ((jL c l).1+2)).1,(jL c l).1+2,(cF c ((jL c l).1+2)).2)
 else if(jM c l).2=true then((cF c ((jM c l).1+2)).1,(jM c l).1+2,(cF c ((jM c l).1+2)).2)
 else(c,0,6)
def kZ(c:CV)(l:List aA):Prop:=l.length=c.blocks.length -2/\ ∀(i:Nat) (x:aA),l[i]? =some x->x.bad=false->(ak c ((i:Int)+2)).bad=false
theorem yX(c:CV)(fl:List Int):kZ c (aw c fl):=⟨lG c fl,fun i x hx hb=>by rw[←Gy hx];exact hb⟩
theorem kZ.set{c:CV}{l:List aA}(h:kZ c l)(i:Nat):kZ c (l.set i bb):=⟨by rw[as1];exact h.1,fun j x hx hb=>by
 rw[atb]at hx;split at hx
 ·
  split at hx
  ·
   obtain rfl:=aso hx;cases hb
  cases hx
 exact h.2 j x hx hb⟩
theorem xv{c:CV}{R:aA->Bool}{l:List aA}{eJ:aA->Bool}{os:List (aA->aA->Int)}(ht:kZ c l)(hr: ∀x,eJ x=true->x.bad=false)(h:(fx (bU R l) c.pages eJ os).2=true):
  0<=(fx (bU R l) c.pages eJ os).1/\(fx (bU R l) c.pages eJ os).1<((c.blocks.length -2:Nat):Int)/\(ak c ((fx (bU R l) c.pages eJ os).1+2)).bad=false:=by
 obtain⟨x,hx,k1,_,_,k4,k5⟩:=pf hr h;rw[ht.1]at k5;refine⟨k4,k5,?_⟩;have:=ht.2 _ x hx k1;rwa [show(((fx (bU R l) c.pages eJ os).1.toNat:Nat):Int)=(fx (bU R l) c.pages eJ os).1 by omega]at this
theorem KX{c:CV}{l:List aA}(hk:ba c=true)(ht:kZ c l):ba (bX c l).1=true/\dP c (bX c l).1/\c.ops<=(bX c l).1.ops/\
  ((bX c l).2.2=0->2<=(bX c l).2.1/\(bX c l).2.1<c.blocks.length/\(ak (bX c l).1 (bX c l).2.1).bad=false)/\((bX c l).2.2=9->c.ops<(bX c l).1.ops)/\((bX c l).2.2=6->(bX c l).1=c):=by
 rw[bX];have e6: ∀{b:Int},(cF c b).2≠6:=fun{b}=>by
  have: ∀n {c:CV},(fH n c b).2≠6:=by
   intro n
   induction n with
   |zero=>
    intro c;simp only[fH,ez];split
    ·
     split
     ·
      decide
     ·
      split
      ·
       decide
      ·
       split
       ·
        rw[lY];split<;>decide
       ·
        decide
    ·
     decide
   |succ n ih=>
    intro c;rw[fH];split
    ·
     simp only[bx,kA];split
     ·
      split
      ·
       decide
      ·
       split
       ·
        decide
       ·
        split
        ·
         rw[lY];split<;>decide
        ·
         decide
     ·
      decide
    ·
     exact ih
  exact this _
 by_cases h1:(mj c l).2=true
 ·
  rw[if_pos h1];have:=xv ht (fun x h=>(sN h).1) h1;change 0<=(mj c l).1/\(mj c l).1<_/\(ak c ((mj c l).1+2)).bad=false at this;exact⟨hk, .dk c,atx _,fun _=>⟨by simp only;omega,by simp only;omega,this.2.2⟩,fun h=>absurd (show(0:Int)=9 from h) (by decide),fun h=>absurd (show(0:Int)=6 from h) (by decide)⟩
 ·
  rw[if_neg h1]
  by_cases h2:(jL c l).2=true
  ·
   rw[if_pos h2];have:=xv ht (fun x h=>(lI h).1) h2;change 0<=(jL c l).1/\(jL c l).1<_/\(ak c ((jL c l).1+2)).bad=false at this;have hc:=xp ((jL c l).1+2) hk;exact⟨hc.1,hc.2,AU _ _ _,fun h=>⟨by simp only;omega,by simp only;omega,GA _ h⟩,fun h=>Gx this.2.2 (.inl h),fun h=>absurd h e6⟩
  ·
   rw[if_neg h2]
   by_cases h3:(jM c l).2=true
   ·
    rw[if_pos h3];have:=xv ht (fun x h=>(lI h).1) h3;change 0<=(jM c l).1/\(jM c l).1<_/\(ak c ((jM c l).1+2)).bad=false at this;have hc:=xp ((jM c l).1+2) hk;exact⟨hc.1,hc.2,AU _ _ _,fun h=>⟨by simp only;omega,by simp only;omega,GA _ h⟩,fun h=>Gx this.2.2 (.inl h),fun h=>absurd h e6⟩
   ·
    rw[if_neg h3];exact⟨hk, .dk c,atx _,fun h=>absurd (show(6:Int)=0 from h) (by decide),fun h=>absurd (show(6:Int)=9 from h) (by decide),fun _=>rfl⟩
def cn(c:CV)(a0 a:List Int)(src tgt:Int):Int×Bool:=
 if tgt<0 then(if(fy ((aw c (a0++a)).set (src -2).toNat bb) c.pages).2=true then((fy ((aw c (a0++a)).set (src -2).toNat bb) c.pages).1+2,true)else(0,false))else(tgt,true)
def eF(c:CV)(g id n:Int):List UInt8×Int:=du ⟨1,id,g.toNat,ji c n⟩ c.size
structure MV where
 c:CV
 a:List Int
 e:Option Int
def ca(v:VV)(src tgt:Int):List Int->Nat->CV->List Int->MV
 |[],_,c,a=>⟨c,a,none⟩
 |n::r,id,c,a=>
  if n=0\/(n -1)/v.ae.pages≠src then ca v src tgt r (id+1) c a
  else if(cn c v.at_ a src tgt).2=false then⟨c,a,some 6⟩
  else if(eF c ((v.gen:Int)+1) id n).2≠0 then⟨c,a,some (eF c ((v.gen:Int)+1) id n).2⟩
  else if bx c (cn c v.at_ a src tgt).1 (eF c ((v.gen:Int)+1) id n).1≠0 then
   ⟨bA c (cn c v.at_ a src tgt).1 (eF c ((v.gen:Int)+1) id n).1,a,some (kb (bx c (cn c v.at_ a src tgt).1 (eF c ((v.gen:Int)+1) id n).1))⟩
  else ca v src tgt r (id+1) (bA c (cn c v.at_ a src tgt).1 (eF c ((v.gen:Int)+1) id n).1) (a.set id ((cn c v.at_ a src tgt).1*v.ae.pages+(ak c (cn c v.at_ a src tgt).1).used+1))
def df(x:WV)(src tgt:Int):WV×Bool×Int:=
 match(ca x.v src tgt x.v.at_ 0 x.v.ae x.v.at_).e with
 |some e=>(x.on (ca x.v src tgt x.v.at_ 0 x.v.ae x.v.at_).c,false,e)
 |none=>((eE (x.on (ca x.v src tgt x.v.at_ 0 x.v.ae x.v.at_).c) (ca x.v src tgt x.v.at_ 0 x.v.ae x.v.at_).a).1,decide ((eE (x.on (ca x.v src tgt x.v.at_ 0 x.v.ae x.v.at_).c) (ca x.v src tgt x.v.at_ 0 x.v.ae x.v.at_).a).2=0),(eE (x.on (ca x.v src tgt x.v.at_ 0 x.v.ae x.v.at_).c) (ca x.v src tgt x.v.at_ 0 x.v.ae x.v.at_).a).2)
theorem KY{x:WV}{src tgt:Int}{c:CV}{a:List Int}{e:Int}(h:ca x.v src tgt x.v.at_ 0 x.v.ae x.v.at_=⟨c,a,some e⟩):df x src tgt=(x.on c,false,e):=by
 rw[df,h]
theorem abZ{x:WV}{src tgt:Int}{c:CV}{a:List Int}(h:ca x.v src tgt x.v.at_ 0 x.v.ae x.v.at_=⟨c,a,none⟩):df x src tgt=((eE (x.on c) a).1,decide ((eE (x.on c) a).2=0),(eE (x.on c) a).2):=by
 rw[df,h]
theorem R5{c:CV}{a0 a:List Int}{src tgt:Int}(h:(cn c a0 a src tgt).2=true)(ht:0<=tgt->2<=tgt/\tgt<c.blocks.length/\(ak c tgt).bad=false):
  2<=(cn c a0 a src tgt).1/\(cn c a0 a src tgt).1<c.blocks.length/\(ak c (cn c a0 a src tgt).1).bad=false:=by
 rw[cn]at h⊢
 by_cases h1:tgt<0
 ·
  rw[if_pos h1]at h⊢
  by_cases h2:(fy ((aw c (a0++a)).set (src -2).toNat bb) c.pages).2=true
  ·
   rw[if_pos h2];have hT:=(yX c (a0++a)).set (src -2).toNat;obtain⟨k1,k2,k3,k4⟩:=AT h2;change 0<=(fy ((aw c (a0++a)).set (src -2).toNat bb) c.pages).1 at k2;change(fy ((aw c (a0++a)).set (src -2).toNat bb) c.pages).1<_ at k3;change mH _ (List.getD _ (fy ((aw c (a0++a)).set (src -2).toNat bb) c.pages).1.toNat _)=true at k4;rw[hT.1]at k3;have hi:((aw c (a0++a)).set (src -2).toNat bb)[(fy ((aw c (a0++a)).set (src -2).toNat bb) c.pages).1.toNat]? =some _:=nP (d:=eA) (by rw[hT.1];omega);have:=hT.2 _ _ hi (sN k4).1;rw[show(((fy ((aw c (a0++a)).set (src -2).toNat bb) c.pages).1.toNat:Nat):Int)=(fy ((aw c (a0++a)).set (src -2).toNat bb) c.pages).1 by omega]at this;exact⟨by simp only;omega,by simp only;omega,this⟩
  ·
   rw[if_neg h2]at h;cases h
 ·
  rw[if_neg h1];exact ht (by omega)
theorem Df(c:CV)(b g:Int)(p:List UInt8):kA c b g p=0\/kA c b g p=1\/kA c b g p=7\/kA c b g p=9:=by
 rw[kA];split
 ·
  split
  ·
   omega
  split
  ·
   omega
  split
  ·
   rw[lY];split<;>omega
  omega
 omega
theorem AZ(p:PV)(n:Int):(du p n).2=0\/(du p n).2=1:=by
 rw[du];split<;>simp
theorem KZ{c:CV}{b:Int}{p:List UInt8}(h:bx c b p=0)(b':Int):(ak (bA c b p) b').bad=(ak c b').bad:=by
 obtain⟨h1,h2,h3,h4,h5⟩:=p8 h;have hh:=(jI.1 h1).1;obtain⟨_,g2,g3⟩:=ic.1 hh;rw[h5,iH];simp only[ak,List.getD,atb]
 by_cases e:b.toNat=b'.toNat
 ·
  rw[if_pos e,if_pos (by omega),e];simp
 rw[if_neg e]
theorem K0{v:VV}{src tgt:Int}: ∀(l:List Int) (id:Nat) {c:CV} {a:List Int},ba c=true->dP v.ae c->v.ae.ops<=c.ops->iL v.ae a->(0<=tgt->2<=tgt/\tgt<c.blocks.length/\(ak c tgt).bad=false)->
  ba (ca v src tgt l id c a).c=true/\dP v.ae (ca v src tgt l id c a).c/\c.ops<=(ca v src tgt l id c a).c.ops/\iL v.ae (ca v src tgt l id c a).a/\(ca v src tgt l id c a).a.length=a.length/\
   ((ca v src tgt l id c a).e=some 0->c.ops<(ca v src tgt l id c a).c.ops)/\((ca v src tgt l id c a).e=some 6-> ∀b,(ak (ca v src tgt l id c a).c b).bad=(ak c b).bad)
 |[],id,c,a,hk,hl,ho,ha,ht=>⟨hk,hl,atx _,ha,rfl,fun h=>by simp[ca]at h,fun h=>by simp[ca]at h⟩
 |n::r,id,c,a,hk,hl,ho,ha,ht=>by
  rw[ca]
  by_cases h1:n=0\/(n -1)/v.ae.pages≠src
  ·
   rw[if_pos h1];exact K0 r (id+1) hk hl ho ha ht
  ·
   rw[if_neg h1]
   by_cases h2:(cn c v.at_ a src tgt).2=false
   ·
    rw[if_pos h2];exact⟨hk,hl,atx _,ha,rfl,fun h=>by simp at h,fun _ _=>rfl⟩
   ·
    rw[if_neg h2];obtain⟨m1,m2,m3⟩:=R5 (by simpa using h2) ht
    by_cases h3:(eF c ((v.gen:Int)+1) id n).2≠0
    ·
     rw[if_pos h3];have A0:(eF c ((v.gen:Int)+1) id n).2=1:=(AZ _ _).resolve_left h3;exact⟨hk,hl,atx _,ha,rfl,fun h=>absurd (aso h) h3,fun h=>absurd (A0.symm.trans (aso h)) (by decide)⟩
    ·
     rw[if_neg h3]
     by_cases h4:bx c (cn c v.at_ a src tgt).1 (eF c ((v.gen:Int)+1) id n).1≠0
     ·
      rw[if_pos h4];have iA:bx c (cn c v.at_ a src tgt).1 (eF c ((v.gen:Int)+1) id n).1=1\/bx c (cn c v.at_ a src tgt).1 (eF c ((v.gen:Int)+1) id n).1=7\/bx c (cn c v.at_ a src tgt).1 (eF c ((v.gen:Int)+1) id n).1=9:=(Df _ _ _ _).resolve_left h4;refine⟨lF hk _ _,hl.trans (iK _ _ _),yV _ _ _,ha,rfl,fun h=>?_,fun h=>?_⟩
      ·
       have h:=aso h;rw[kb]at h;split at h
       ·
        rename_i h9;have:=uj m3 (.inl h9);simp only;omega
       ·
        exact absurd h h4
      ·
       have h:=aso h;rw[kb]at h;split at h
       ·
        cases h
       ·
        omega
     ·
      rw[if_neg h4];have xw:bx c (cn c v.at_ a src tgt).1 (eF c ((v.gen:Int)+1) id n).1=0:=by simpa using h4
      have fT:=jI.1 (p8 xw).1;have hd:=eY hk;have oY:=hl.trans (iK c (cn c v.at_ a src tgt).1 (eF c ((v.gen:Int)+1) id n).1);have bH:=uj m3 (p:=(eF c ((v.gen:Int)+1) id n).1) (.inr xw);have GG:v.ae.pages=c.pages:=hl.pages.symm;have ih:=K0 r (id+1) (src:=src) (tgt:=tgt) (lF hk (cn c v.at_ a src tgt).1 (eF c ((v.gen:Int)+1) id n).1) oY (by omega) (a:=a.set id ((cn c v.at_ a src tgt).1*v.ae.pages+(ak c (cn c v.at_ a src tgt).1).used+1)) (fun y hy=>by
       rcases asV hy with hy|rfl
       ·
        exact ha y hy
       ·
        have hq:((cn c v.at_ a src tgt).1*v.ae.pages+(ak c (cn c v.at_ a src tgt).1).used+1 -1)/v.ae.pages=(cn c v.at_ a src tgt).1:=by
         rw[GG,atX,aul,atE _ _ (by omega),atn fT.2.1 fT.2.2.1,aup]
        have h0:0<=(cn c v.at_ a src tgt).1*v.ae.pages:=aub (by omega) (by omega);have:=fT.2.1;exact .inr ⟨by omega,by rw[hq];exact m1,by rw[hq,←hl.len];exact m2⟩) (fun h=>by
       have:=ht h;rw[(iK c _ _).len,KZ xw];exact this)
      obtain⟨i1,i2,i3,i4,i5,i6,i7⟩:=ih;refine⟨i1,i2,by omega,i4,by rw[i5,as1],fun h=>by have:=i6 h;omega,fun h b=>?_⟩;rw[i7 h b,KZ xw]
theorem K1(c:CV)(b:Int):ez c b=0\/ez c b=1\/ez c b=7\/ez c b=9:=by
 rw[ez];split
 ·
  split
  ·
   omega
  split
  ·
   omega
  split
  ·
   rw[lY];split<;>omega
  omega
 omega
theorem ab0(c:CV)(l:Int):(aY c l).2.2=0\/(aY c l).2.2=1\/(aY c l).2.2=7\/(aY c l).2.2=9:=by
 rw[aY];split
 ·
  exact .inl rfl
 split
 ·
  exact .inl rfl
 split
 ·
  exact .inr (.inr (.inr rfl))
 exact K1 _ _
theorem R6: ∀(n:Nat) (y:WV) (a:List Int) (b:List UInt8),(gV n y a b).2≠6
 |0,y,a,b=>by simp[gV]
 |n+1,y,a,b=>by
  rw[gV];split
  ·
   have:=ab0 y.v.ae y.v.last;simp only;omega
  split
  ·
   simp
  split
  ·
   have:=Df (aY y.v.ae y.v.last).1 (aY y.v.ae y.v.last).2.1 (ak (aY y.v.ae y.v.last).1 (aY y.v.ae y.v.last).2.1).used b;simp only[bx];omega
  exact R6 n _ _ _
theorem K2(y:WV)(a:List Int):(eE y a).2≠6:=by
 rw[eE];split
 ·
  rw[c0];split
  ·
   have:=AZ ⟨2,max 0 ((a.length:Int) -1),y.v.gen+1,gU a⟩ y.v.ae.size;simp only;omega
  simp
 exact R6 _ _ _ _
theorem GH{x:WV}{src tgt:Int}(hx:cY x)(ht:0<=tgt->2<=tgt/\tgt<x.v.ae.blocks.length/\(ak x.v.ae tgt).bad=false):
  jz x (df x src tgt).1/\((df x src tgt).2.2=0->x.v.ae.ops<(df x src tgt).1.v.ae.ops)/\((df x src tgt).2.1=true->(df x src tgt).2.2=0)/\((df x src tgt).2.1=false/\(df x src tgt).2.2=6-> ∀b,(ak (df x src tgt).1.v.ae b).bad=(ak x.v.ae b).bad):=by
 obtain⟨h1,h2,h3,h4,h5,h6,h7⟩:=K0 x.v.at_ 0 (src:=src) hx.ae (.dk _) (atx _) hx.vI ht;rw[df];split
 ·
  rename_i e he;refine⟨.on hx h1 h2 h3,fun h=>h6 (by rw[he];exact congrArg some h),fun h=>absurd (show false=true from h) (by simp),fun h b=>h7 (by rw[he];exact congrArg some h.2) b⟩
 ·
  rename_i he;have fQ:=hx.on h1 h2;have hw:=KU fQ (a:=(ca x.v src tgt x.v.at_ 0 x.v.ae x.v.at_).a) (h4.bV h2) h5;refine⟨(jz.on hx h1 h2 h3).trans hw.1,fun h=>?_,fun h=>by simpa using h,fun h=>?_⟩
  ·
   have g:(ca x.v src tgt x.v.at_ 0 x.v.ae x.v.at_).c.ops<_:=hw.2 h;simp only;omega
  ·
   exact absurd h.2 (K2 _ _)
theorem R7: ∀(n:Nat) (c:CV) (b:Int),(fH n c b).2≠6
 |0,c,b=>by have:=K1 c b;simp only[fH];omega
 |n+1,c,b=>by
  rw[fH];split
  ·
   have:=Df c b (ak c b).used (iJ c);simp only[bx];omega
  exact R7 n _ _
theorem R8(c:CV)(b:Int):(cF c b).2≠6:=R7 _ _ _
def qL(c:CV)(l:List aA)(i:Int):Bool:=decide ((bX c (l.set i.toNat bb)).2.2=6)&&decide ((l.getD i.toNat eA).live<=Gu (l.set i.toNat bb) c.pages)
def cS(c:CV)(l:List aA)(i:Int):Int×Int:=if qL c l i=true then(-1,0)else(bX c (l.set i.toNat bb)).2
def fI(x:WV)(l:List aA)(i:Int):WV×Int:=
 if(cS x.v.ae l i).2≠0 then(x.on (bX x.v.ae (l.set i.toNat bb)).1,kb (cS x.v.ae l i).2)
 else if(df (x.on (bX x.v.ae (l.set i.toNat bb)).1) (i+2) (cS x.v.ae l i).1).2.1=false\/(l.getD i.toNat eA).used=x.v.ae.pages then
  ((df (x.on (bX x.v.ae (l.set i.toNat bb)).1) (i+2) (cS x.v.ae l i).1).1,(df (x.on (bX x.v.ae (l.set i.toNat bb)).1) (i+2) (cS x.v.ae l i).1).2.2)
 else((df (x.on (bX x.v.ae (l.set i.toNat bb)).1) (i+2) (cS x.v.ae l i).1).1.on (cF (df (x.on (bX x.v.ae (l.set i.toNat bb)).1) (i+2) (cS x.v.ae l i).1).1.v.ae (i+2)).1,
  kb (cF (df (x.on (bX x.v.ae (l.set i.toNat bb)).1) (i+2) (cS x.v.ae l i).1).1.v.ae (i+2)).2)
theorem R9{e:Int}(h:kb e=0):e=0\/e=9:=by
 rw[kb]at h;split at h
 ·
  exact .inr (by assumption)
 exact .inl h
theorem GI{e:Int}(h:kb e=6):e=6:=by
 rw[kb]at h;split at h
 ·
  cases h
 exact h
theorem GJ{c:CV}{l:List aA}{i:Int}(hk:ba c=true)(ht:kZ c l):(cS c l i).2=0->0<=(cS c l i).1->2<=(cS c l i).1/\(cS c l i).1<c.blocks.length/\(ak (bX c (l.set i.toNat bb)).1 (cS c l i).1).bad=false:=by
 intro h h0;rw[cS]at h h0⊢;split at h
 ·
  rename_i ha;rw[if_pos ha]at h0;exact absurd (show(0:Int)<= -1 from h0) (by decide)
 rename_i ha;rw[if_neg ha];exact(KX hk (ht.set i.toNat)).2.2.2.1 h
theorem ab1{x:WV}{src tgt:Int}(hx:cY x)(ht:0<=tgt->2<=tgt/\tgt<x.v.ae.blocks.length/\(ak x.v.ae tgt).bad=false):cY (df x src tgt).1/\dP x.v.ae (df x src tgt).1.v.ae:=
 ⟨(GH hx ht).1.ok,(GH hx ht).1.bV⟩
theorem K3{x:WV}{l:List aA}{i:Int}(hx:cY x)(ht:kZ x.v.ae l):
  jz x (fI x l i).1/\((fI x l i).2=0->x.v.ae.ops<(fI x l i).1.v.ae.ops)/\((fI x l i).2=6-> ∀b,(ak (fI x l i).1.v.ae b).bad=(ak x.v.ae b).bad):=by
 obtain⟨t1,t2,t3,t4,t5,t6⟩:=KX hx.ae (ht.set i.toNat);have hn:=jz.on hx t1 t2 t3;rw[fI]
 by_cases h0:(cS x.v.ae l i).2≠0
 ·
  rw[if_pos h0];have he:(cS x.v.ae l i).2=(bX x.v.ae (l.set i.toNat bb)).2.2:=by
   rw[cS]at h0⊢;split at h0
   ·
    exact absurd rfl h0
   ·
    rename_i ha;rw[if_neg ha]
  refine⟨hn,fun h=>?_,fun h b=>?_⟩
  ·
   rcases R9 h with g|g
   ·
    exact absurd g h0
   ·
    exact t5 (he▸g)
  ·
   have:=t6 (he▸GI h);simp only[WV.on];rw[this]
 ·
  rw[if_neg h0];have rj:(cS x.v.ae l i).2=0:=by simpa using h0
  have hr:=GJ (i:=i) hx.ae ht rj;obtain⟨m1,m2,m3,m4⟩:=GH (x:=x.on (bX x.v.ae (l.set i.toNat bb)).1) (src:=i+2) (tgt:=(cS x.v.ae l i).1) hn.ok (fun h=>by
   have:=hr h;exact⟨this.1,by simp only[WV.on];rw[t2.len];exact this.2.1,this.2.2⟩)
  have hb:(cS x.v.ae l i).2=0->(bX x.v.ae (l.set i.toNat bb)).2.2=6->(bX x.v.ae (l.set i.toNat bb)).1=x.v.ae:=fun _ h=>t6 h
  by_cases h1:(df (x.on (bX x.v.ae (l.set i.toNat bb)).1) (i+2) (cS x.v.ae l i).1).2.1=false\/(l.getD i.toNat eA).used=x.v.ae.pages
  ·
   rw[if_pos h1];refine⟨hn.trans m1,fun h=>?_,fun h b=>?_⟩
   ·
    have g:(bX x.v.ae (l.set i.toNat bb)).1.ops<_:=m2 h;simp only;omega
   ·
    have hf:(df (x.on (bX x.v.ae (l.set i.toNat bb)).1) (i+2) (cS x.v.ae l i).1).2.1=false:=by
     cases hq:(df (x.on (bX x.v.ae (l.set i.toNat bb)).1) (i+2) (cS x.v.ae l i).1).2.1 with
     |false=>rfl
     |true=>have:=m3 hq;exact absurd (this.symm.trans h) (by decide)
    rw[m4 ⟨hf,h⟩ b]
    by_cases ha:qL x.v.ae l i=true
    ·
     simp only[qL,alM,decide_eq_true_eq]at ha;simp only[WV.on];rw[t6 ha.1]
    ·
     exact absurd h (ab2 (by
      have:(cS x.v.ae l i).1=(bX x.v.ae (l.set i.toNat bb)).2.1:=by rw[cS,if_neg ha]
      have g:(bX x.v.ae (l.set i.toNat bb)).2.2=0:=by
       rw[cS,if_neg ha]at rj;exact rj
      have:=(t4 g).1;omega))
  ·
   rw[if_neg h1];have hm:(df (x.on (bX x.v.ae (l.set i.toNat bb)).1) (i+2) (cS x.v.ae l i).1).2.1=true:=by
    cases hq:(df (x.on (bX x.v.ae (l.set i.toNat bb)).1) (i+2) (cS x.v.ae l i).1).2.1 with
    |true=>rfl
    |false=>exact absurd (.inl hq) h1
   have hz:=m2 (m3 hm);have hc:=xp (i+2) m1.ok.ae;have ho:=AU (eC (df (x.on (bX x.v.ae (l.set i.toNat bb)).1) (i+2) (cS x.v.ae l i).1).1.v.ae (i+2)).toNat (df (x.on (bX x.v.ae (l.set i.toNat bb)).1) (i+2) (cS x.v.ae l i).1).1.v.ae (i+2);refine⟨(hn.trans m1).trans (.on m1.ok hc.1 hc.2 ho),fun _=>?_,fun h=>absurd (GI h) (R8 _ _)⟩;have g:(bX x.v.ae (l.set i.toNat bb)).1.ops<_:=hz;have g2:(df (x.on (bX x.v.ae (l.set i.toNat bb)).1) (i+2) (cS x.v.ae l i).1).1.v.ae.ops<=(cF (df (x.on (bX x.v.ae (l.set i.toNat bb)).1) (i+2) (cS x.v.ae l i).1).1.v.ae (i+2)).1.ops:=ho;simp only[WV.on]at*;omega
where
 ab2 {x:WV} {src tgt:Int} (h:0<=tgt):(df x src tgt).2.2≠6:=by
  have key: ∀(l:List Int) (id:Nat) (c:CV) (a:List Int),(ca x.v src tgt l id c a).e≠some 6:=by
   intro l
   induction l with
   |nil=>intro id c a;simp[ca]
   |cons n r ih=>
    intro id c a;rw[ca];split
    ·
     exact ih _ _ _
    split
    ·
     rename_i h2;rw[cn,if_neg (by omega)]at h2;cases h2
    split
    ·
     rename_i h3;have:=(AZ ⟨1,id,((x.v.gen:Int)+1).toNat,ji c n⟩ c.size).resolve_left h3;intro h;have h:=aso h;rw[eF]at h;omega
    split
    ·
     intro h;have h:=GI (aso h);have:=Df c (cn c x.v.at_ a src tgt).1 (ak c (cn c x.v.at_ a src tgt).1).used (eF c ((x.v.gen:Int)+1) id n).1;rw[bx]at h;omega
    exact ih _ _ _
  rw[df];split
  ·
   rename_i e he;intro h;exact key _ _ _ _ (by rw[he];exact congrArg some h)
  exact K2 _ _
def nB(p:Int)(x:aA):Bool:=decide (x.used<p)&&decide (x.aR<cX)
def od(c:CV)(l:List aA):Int×Bool:=fG (bU (nB c.pages) l) c.pages
def kD(x:WV)(l:List aA):WV×Int:=
 if(od x.v.ae l).2=false then(x,6)else(x.on (cF x.v.ae ((od x.v.ae l).1+2)).1,kb (cF x.v.ae ((od x.v.ae l).1+2)).2)
def dh(x:WV):List aA:=aw x.v.ae x.v.at_
def sU(x:WV):Int×Bool:=iM (dh x) x.v.ae.pages
def eZ(x:WV):WV×Int:=
 if(sU x).2=true/\AV x.v.gen=false then
  (if(fI x (dh x) (sU x).1).2≠6 then fI x (dh x) (sU x).1 else kD (fI x (dh x) (sU x).1).1 (dh x))
 else kD x (dh x)
theorem kZ.bV{c d:CV}{l:List aA}(h:kZ c l)(hl:dP c d)(hb: ∀b,(ak d b).bad=(ak c b).bad):kZ d l:=⟨by rw[h.1,hl.len],fun i x hx fU=>by rw[hb];exact h.2 i x hx fU⟩
theorem K4{x:WV}{l:List aA}(hx:cY x)(ht:kZ x.v.ae l):jz x (kD x l).1/\((kD x l).2=0->x.v.ae.ops<(kD x l).1.v.ae.ops):=by
 rw[kD];split
 ·
  exact⟨.dk hx,fun h=>absurd (show(6:Int)=0 from h) (by decide)⟩
 rename_i h;have hd:=xv ht (fun x h=>(lI h).1) (show(od x.v.ae l).2=true by simpa using h);change 0<=(od x.v.ae l).1/\(od x.v.ae l).1<_/\(ak x.v.ae ((od x.v.ae l).1+2)).bad=false at hd;have hc:=xp ((od x.v.ae l).1+2) hx.ae;exact⟨.on hx hc.1 hc.2 (AU _ _ _),fun h=>Gx hd.2.2 (R9 h).symm⟩
theorem GK{x:WV}(hx:cY x):jz x (eZ x).1/\((eZ x).2=0->x.v.ae.ops<(eZ x).1.v.ae.ops):=by
 have ht:kZ x.v.ae (dh x):=yX _ _;rw[eZ];split
 ·
  obtain⟨r1,r2,r3⟩:=K3 (i:=(sU x).1) hx ht;split
  ·
   exact⟨r1,r2⟩
  rename_i h6;have A1:(fI x (dh x) (sU x).1).2=6:=by simpa using h6
  have:=K4 r1.ok (ht.bV r1.bV (r3 A1));exact⟨r1.trans this.1,fun h=>by have:=this.2 h;have:=r1.ops;omega⟩
 exact K4 hx ht
def nC:Nat->WV->Int->WV×Int
 |0,x,_=>(x,0)
 |n+1,x,need=>
  if need<=(kY x.v.ae x.v.at_).1 then(x,0)
  else if need<=(kY x.v.ae x.v.at_).2/\vH x.v.ae x.v.last<2 then({x with beyond:=true},0)
  else if(eZ x).2=0 then nC n (eZ x).1 need
  else if(eZ x).2≠6 then eZ x
  else if need<=(kY x.v.ae x.v.at_).2 then({(eZ x).1 with beyond:=true},0)
  else((eZ x).1,5)
def kE(x:WV)(need:Int):WV×Int:=nC ((cX -x.v.ae.ops).toNat+1) x need
theorem cY.by{x:WV}(h:cY x)(b:Bool):cY {x with beyond:=b}:=⟨h.ae,h.len,h.pages,h.size,h.last,h.gen,h.vI,h.jK⟩
theorem jz.by{x y:WV}(h:jz x y)(b:Bool):jz x {y with beyond:=b}:=⟨h.ok.by b,h.bV,h.ops,h.yW⟩
theorem Sa: ∀(n:Nat) {x:WV} {need:Int},cY x->jz x (nC n x need).1
 |0,x,need,hx=> .dk hx
 |n+1,x,need,hx=>by
  have hc:=GK hx;rw[nC];split
  ·
   exact .dk hx
  split
  ·
   exact(jz.dk hx).by true
  split
  ·
   exact hc.1.trans (Sa n hc.1.ok)
  split
  ·
   exact hc.1
  split
  ·
   exact hc.1.by true
  exact hc.1
theorem ab3{x:WV}{need:Int}(hx:cY x):jz x (kE x need).1:=Sa _ hx
def bq(x:It):Int×List UInt8:=(x.id,x.body.xs)
def mn(l:List (Int×List UInt8)):Nat:=(l.filter fun x=>decide (0<x.2.length)).length
theorem ab4{l:List (Int×List UInt8)}{i:Nat}{x:Int×List UInt8}(h:l[i]? =some x):((l.take (i+1)).filter fun x=>decide (0<x.2.length)).length=((l.take i).filter fun x=>decide (0<x.2.length)).length+(if 0<x.2.length then 1 else 0):=by
 rw[asC,h,atH,af0];congr 1;simp only[au4,atf,auL];split<;>simp_all
def iN(v:VV)(x:Int×List UInt8):PV:=⟨1,x.1,v.gen+1,x.2⟩
def gQ(v:VV)(aI:Bool):List (Int×List UInt8)->CV->List Int->CV×List Int×Int
 |[],c,a=>(c,a,0)
 |x::r,c,a=>
  if x.2.length=0 then gQ v aI r c (a.set x.1.toNat 0)
  else if(db c (v.at_++a) aI (iN v x)).2.2≠0 then((db c (v.at_++a) aI (iN v x)).1,a,(db c (v.at_++a) aI (iN v x)).2.2)
  else gQ v aI r (db c (v.at_++a) aI (iN v x)).1 (a.set x.1.toNat (db c (v.at_++a) aI (iN v x)).2.1)
def cK(x:WV)(l:List (Int×List UInt8)):WV×Int:=kE {x with beyond:=false} (mn l)
def gp(x:WV)(l:List (Int×List UInt8)):CV×List Int×Int:=gQ (cK x l).1.v (cK x l).1.beyond l (cK x l).1.v.ae (cK x l).1.v.at_
def ij(x:WV)(l:List (Int×List UInt8)):WV×Int:=
 if(cK x l).2≠0 then cK x l
 else if(gp x l).2.2≠0 then((cK x l).1.on (gp x l).1,(gp x l).2.2)
 else eE ((cK x l).1.on (gp x l).1) (gp x l).2.1
theorem K5{v:VV}{aI:Bool}: ∀(l:List (Int×List UInt8)) {c:CV} {a:List Int},ba c=true->3<=c.blocks.length->iL c a->
  ba (gQ v aI l c a).1=true/\dP c (gQ v aI l c a).1/\c.ops<=(gQ v aI l c a).1.ops/\iL c (gQ v aI l c a).2.1/\(gQ v aI l c a).2.1.length=a.length
 |[],c,a,hk,h2,ha=>⟨hk, .dk c,atx _,ha,rfl⟩
 |x::r,c,a,hk,h2,ha=>by
  rw[gQ];split
  ·
   have:=K5 r (v:=v) (aI:=aI) hk h2 (a:=a.set x.1.toNat 0) (fun y hy=>by
    rcases asV hy with hy|rfl
    ·
     exact ha y hy
    ·
     exact .inl rfl)
   rwa [as1]at this
  ·
   obtain⟨p1,p2,p3,p4⟩:=RU (fl:=v.at_++a) (aI:=aI) (p:=iN v x) hk h2;split
   ·
    exact⟨p1,p2,p3,ha,rfl⟩
   ·
    rename_i h0;have p5:=p4 (by simpa using h0);have:=K5 r (v:=v) (aI:=aI) p1 (by rw[p2.len];exact h2) (a:=a.set x.1.toNat (db c (v.at_++a) aI (iN v x)).2.1) (fun y hy=>by
     rw[p2.pages,p2.len];rcases asV hy with hy|rfl
     ·
      exact ha y hy
     ·
      exact .inr p5)
    obtain⟨i1,i2,i3,i4,i5⟩:=this;refine⟨i1,p2.trans i2,by omega,fun y hy=>?_,by rw[i5,as1]⟩;have:=i4 y hy;rwa [p2.pages,p2.len]at this
theorem GL{x:WV}{l:List (Int×List UInt8)}(hx:cY x):jz x (cK x l).1:=by
 have:=ab3 (need:=mn l) (hx.by false);exact⟨this.ok,this.bV,this.ops,this.yW⟩
theorem K6{x:WV}{l:List (Int×List UInt8)}(hx:cY x):jz x (ij x l).1:=by
 have hs:=GL (l:=l) hx;rw[ij];split
 ·
  exact hs
 have hl:=hs.ok.sQ;obtain⟨i1,i2,i3,i4,i5⟩:=K5 (v:=(cK x l).1.v) (aI:=(cK x l).1.beyond) l hs.ok.ae (by omega) hs.ok.vI;have fQ:=hs.trans (.on hs.ok i1 i2 i3);split
 ·
  exact fQ
 exact fQ.trans (KU fQ.ok (i4.bV i2) i5).1
def pj:Nat->WV->List (Int×List UInt8)->WV×Int
 |0,x,_=>(x,0)
 |n+1,x,l=>if(ij x l).2=5/\nz x.v.ae<nz (ij x l).1.v.ae then pj n (ij x l).1 l else ij x l
theorem Sb(c:CV):nz c<=c.blocks.length:=auW _ _
def uq(v:VV)(x:Int×List UInt8):Bool:=decide (0<=x.1)&&decide (x.1<(v.at_.length:Int))&&decide ((x.2.length:Int)<=dV v.ae.size)
def ur(v:VV)(l:List (Int×List UInt8))(i:Nat):Bool:=uq v (l.getD i (0,[]))&& !((l.take i).map Prod.fst).contains (l.getD i (0,[])).1
def sV(v:VV)(l:List (Int×List UInt8)):Bool:=(List.range l.length).all (ur v l)
theorem Dg{v:VV}{l:List (Int×List UInt8)}:sV v l=true↔ ∀i,i<l.length->ur v l i=true:=by simp only[sV,asD,asU]
def uu(l:List Int)(i:Nat):Int->Option Unit:=fun x=>if x∈l.take i then some ()else none
theorem Sc{l:List Int}{i:Nat}{x:Int}:(uu l i x).isSome=decide (x∈l.take i):=by
 unfold uu;split<;>simp_all
theorem ab5{l:List Int}:(fun _=>none)=uu l 0:=by
 funext x;simp[uu]
theorem ab6{l:List Int}{i:Nat}{y:Int}(h:l[i]? =some y):(fun z=>if z=y then some ()else uu l i z)=uu l (i+1):=by
 funext x
 unfold uu;rw[asC,h]
 by_cases hx:x=y
 ·
  subst hx;simp
 simp[hx]
def fV(v:VV)(l:List (Int×List UInt8)):VV×Int:=
 if ¬(me v=true/\v.gen<281474976710655/\sV v l=true)then(v,1)
 else if v.ae.off=true then(v,7)
 else((pj (v.ae.blocks.length+1) ⟨v,false⟩ l).1.v,(pj (v.ae.blocks.length+1) ⟨v,false⟩ l).2)
def uv(b p:Int):Int:=if b<4\/32<b\/p<1\/16<p then 0 else(b -4)*p
def og(c:CV)(ids:Int):WV×Int:=rD ⟨⟨c,[],0,0⟩,false⟩ ids.toNat
def pn(c:CV)(ids:Int):VV×Int:=
 if ¬(gn c=true/\1<=ids/\ids<=kB c.size)then(⟨c,[],0,0⟩,1)
 else if c.off=true then(⟨c,[],0,0⟩,7)
 else if(og c ids).2≠0 then(⟨(og c ids).1.v.ae,[],0,0⟩,(og c ids).2)
 else((og c ids).1.v,0)
theorem ab7{b:List UInt8}:(bD b).1.at_.length<=64/\(bD b).1.gen<281474976710656:=by
 rw[bD];split
 ·
  simp[ig]
 rename_i h1;split
 ·
  simp[ig]
 rename_i h2;split
 ·
  simp[ig]
 rename_i h3;have hf:vE (cI b).1=true:=by simpa using h3
 simp only[vE,alM,decide_eq_true_eq]at hf;refine⟨?_,RH b⟩;have hid:(cI b).1.id<64:=by
  have sW:(cI b).2=0:=by simpa using h1
  rw[cI]at sW h2⊢
  by_cases g1:n7 b.length=false
  ·
   rw[if_pos g1]at sW;cases sW
  rw[if_neg g1]at sW h2⊢
  by_cases g2:j8 b=true
  ·
   rw[if_pos g2]at h2;exact absurd rfl h2
  rw[if_neg g2]at sW h2⊢
  by_cases g3:de (yQ b)≠kz (mc b)
  ·
   rw[if_pos g3]at sW;cases sW
  rw[if_neg g3]at sW h2⊢
  by_cases g4:pc b=false
  ·
   rw[if_pos g4]at sW;cases sW
  rw[if_neg g4]at sW h2⊢;have g5:pc b=true:=by simpa using g4
  simp only[pc,alM]at g5;have:=(rv.1 g5.2).2.2.2.1;split
  ·
   simp[j7]
  exact this
 simp only[Gn];omega
theorem Sd(l:List (List UInt8)): ∀k,(dy l k).new.at_.length<=64/\(dy l k).new.gen<281474976710656
 |0=>by simp[dy,ig]
 |k+1=>by
  rw[dy,yS];split
  ·
   exact ab7
  exact Sd l k
theorem ab8(l:List (List UInt8)):(gm l).2.1.at_.length<=64/\(gm l).2.1.gen<281474976710656:=by
 rw[gm];split
 ·
  exact Sd _ _
 split<;>simp[ig]
theorem GM{v:VV}{b:Bool}(h:me v=true):cY ⟨v,b⟩:=by
 have hr:=C6 h;have ha:= @Ru v h;simp only[me,alM,decide_eq_true_eq]at h;obtain⟨⟨⟨h1,h2⟩,h3⟩,h4⟩:=h;obtain⟨hb,hl,hf⟩:=KG h1;obtain⟨b1,b2,b3,b4⟩:=fS.1 hb;have A2:=ab8 ((ak {v.ae with off:=false} 0).pages++(ak {v.ae with off:=false} 1).pages)
 rw[hf]at h2 h3 h4;simp only at h2 h3 h4;have hd:=eY hr.1;have oc:4<=(v.ae.blocks.length:Int):=b2;refine⟨hr.1,b2,b3,b4,?_,by rw[←h2];exact A2.2,fun n hn=>?_,by rw[←h4];exact A2.1⟩
 ·
  rw[←h3];have ho0:=fk.1 (sM hr.1 (b:=0) (by omega) (by omega));have ho1:=fk.1 (sM hr.1 (b:=1) (by omega) (by omega));have hlen:((ak v.ae 0).pages++(ak v.ae 1).pages).length=(ak v.ae 0).pages.length+(ak v.ae 1).pages.length:=af0;have k7:=KC (l:=(ak v.ae 0).pages++(ak v.ae 1).pages) (by rw[hlen];omega);change 0<=(bP {v.ae with off:=false}).1/\(bP {v.ae with off:=false}).1<_ at k7
  rw[hlen]at k7;have g0:0<=(bP {v.ae with off:=false}).1/v.ae.pages:=auu k7.1 (by omega)
  have g1:(bP {v.ae with off:=false}).1/v.ae.pages<2:=Int.ediv_lt_of_lt_mul (by omega) (by
   have h9:(bP {v.ae with off:=false}).1<(((ak v.ae 0).pages.length+(ak v.ae 1).pages.length:Nat):Int):=k7.2
   omega)
  change(bP {v.ae with off:=false}).1/v.ae.pages=0\/(bP {v.ae with off:=false}).1/v.ae.pages=1
  omega
 by_cases h0:n=0
 ·
  exact .inl h0
 obtain⟨i,hi⟩:=asM hn;have:=ha hi h0;have hp:=mF.1 this.2.2;exact .inr ⟨this.1,hp.1,hp.2.1⟩
def Se(b:BV):Bool:=decide (b.pages.length<=20)&&b.pages.all fun p=>decide (p.length<=300)
def K7(c:CV):Bool:=decide (c.blocks.length<=40)&&decide (c.aV.length<=80)&&c.blocks.all Se
theorem an8{c:CV}:K7 c=true↔c.blocks.length<=40/\c.aV.length<=80/\ ∀b∈c.blocks,b.pages.length<=20/\ ∀p∈b.pages,p.length<=300:=by
 simp only[K7,Se,alM,decide_eq_true_eq,asD,and_assoc]
def yY(l:List (List UInt8))(i:Nat):Bool:=decide ((bD (l.getD i [])).2=0)&&(List.range l.length).all fun k=> !(decide ((bD (l.getD k [])).2=0)&&(decide ((bD (l.getD i [])).1.gen<(bD (l.getD k [])).1.gen)||(decide ((bD (l.getD k [])).1.gen=(bD (l.getD i [])).1.gen)&&decide (i<k))))
theorem K8(l:List (List UInt8)): ∀k,k<=l.length->
  ((dy l k).found=true-> ∃i,i<k/\(dy l k).at_=(i:Int)/\(bD (l.getD i [])).2=0/\(dy l k).new=(bD (l.getD i [])).1/\ ∀j,j<k->(bD (l.getD j [])).2=0->(bD (l.getD j [])).1.gen<(bD (l.getD i [])).1.gen\/((bD (l.getD j [])).1.gen=(bD (l.getD i [])).1.gen/\j<=i))/\
  ((dy l k).found=false-> ∀j,j<k->(bD (l.getD j [])).2≠0)/\(dy l k).blank=(l.take k).all j8
 |0,_=>⟨fun h=>by simp[dy]at h,fun _ j hj=>by omega,by simp[dy]⟩
 |k+1,hk=>by
  obtain⟨h1,h2,h3⟩:=K8 l k (by omega);obtain⟨b,hb⟩:=get_some (xs:=l) (i:=k) (by omega);have hg:l.getD k []=b:=by simp[List.getD,hb]
  have dW:(l.take (k+1)).all j8=((l.take k).all j8&&j8 b):=by rw[asC,hb];simp
  by_cases hq:(bD b).2=0/\((dy l k).found=false\/(dy l k).new.gen<=(bD b).1.gen)
  ·
   rw[Rf hb hq,h3,dW];refine⟨fun _=>⟨k,by omega,rfl,by rw[hg];exact hq.1,by rw[hg],fun j hj hv=>?_⟩,fun h=>by simp at h,rfl⟩;rw[hg]
   by_cases e:j=k
   ·
    subst e;rw[hg];exact .inr ⟨rfl,asu _⟩
   ·
    have Eu:j<k:=by omega
    rcases hq.2 with hf|hf
    ·
     exact absurd hv (h2 hf j Eu)
    ·
     cases k8:(dy l k).found with
     |false=>exact absurd hv (h2 k8 j Eu)
     |true=>
      obtain⟨i,hi,ha,Fw,hn,iT⟩:=h1 k8;rw[hn]at hf;rcases iT j Eu hv with g|g
      ·
       exact .inl (by omega)
      ·
       by_cases bc:(bD (l.getD j [])).1.gen<(bD b).1.gen
       ·
        exact .inl bc
       ·
        exact .inr ⟨by omega,by omega⟩
  ·
   rw[Rh hb hq];refine⟨fun k8=>?_,fun k8 j hj=>?_,by simp only[h3,dW]⟩
   ·
    obtain⟨i,hi,ha,Fw,hn,iT⟩:=h1 k8;refine⟨i,by omega,ha,Fw,hn,fun j hj hv=>?_⟩
    by_cases e:j=k
    ·
     subst e;rw[hg]at hv⊢;have: ¬(dy l j).new.gen<=(bD b).1.gen:=fun h=>hq ⟨hv, .inr h⟩;rw[hn]at this;exact .inl (by omega)
    ·
     exact iT j (by omega) hv
   ·
    by_cases e:j=k
    ·
     subst e;rw[hg];exact fun hv=>hq ⟨hv, .inl k8⟩
    ·
     exact h2 k8 j (by omega)
theorem GN{l:List (List UInt8)}{i:Nat}:yY l i=true↔(bD (l.getD i [])).2=0/\ ∀k,k<l.length->(bD (l.getD k [])).2=0-> ¬((bD (l.getD i [])).1.gen<(bD (l.getD k [])).1.gen\/((bD (l.getD k [])).1.gen=(bD (l.getD i [])).1.gen/\i<k)):=by
 simp only[yY,alM,decide_eq_true_eq,asD,asU,att,Bool.and_eq_false_iff,Bool.or_eq_false_iff,decide_eq_false_iff_not];constructor
 ·
  rintro⟨h1,h2⟩;refine⟨h1,fun k hk hv hc=>?_⟩;rcases h2 k hk with g|g
  ·
   exact g hv
  rcases hc with c|c
  ·
   exact g.1 c
  rcases g.2 with g|g
  ·
   exact g c.1
  exact g c.2
 rintro⟨h1,h2⟩;refine⟨h1,fun k hk=>?_⟩
 by_cases hv:(bD (l.getD k [])).2=0
 ·
  have:=h2 k hk hv;refine .inr ⟨fun c=>this (.inl c),?_⟩
  by_cases e:(bD (l.getD k [])).1.gen=(bD (l.getD i [])).1.gen
  ·
   exact .inr fun c=>this (.inr ⟨e,c⟩)
  exact .inl e
 exact .inl hv
theorem Sg{l:List (List UInt8)}{i:Nat}(hi:i<l.length)(h:yY l i=true):gm l=((i:Int),(bD (l.getD i [])).1,0):=by
 obtain⟨h1,h2⟩:=GN.1 h;obtain⟨s1,s2,s3⟩:=K8 l l.length (asu _)
 cases hf:(dy l l.length).found with
 |false=>exact absurd h1 (s2 hf i hi)
 |true=>
  obtain⟨j,hj,ha,hv,hn,iT⟩:=s1 hf;have e:j=i:=by
   have g1:=iT i hi h1;have g2:=h2 j hj hv;omega
  subst e;rw[gm,if_pos hf,ha,hn]
theorem ab9{l:List (List UInt8)}(h: ∀i,i<l.length->yY l i=false):gm l=(0,ig,if l.all j8=true then 6 else 2):=by
 obtain⟨s1,s2,s3⟩:=K8 l l.length (asu _);rw[asP]at s3
 cases hf:(dy l l.length).found with
 |false=>
  rw[gm,if_neg (by rw[hf];simp),s3];split<;>rfl
 |true=>
  obtain⟨j,hj,ha,hv,hn,iT⟩:=s1 hf;have:yY l j=true:=GN.2 ⟨hv,fun k hk hvk hc=>by have:=iT k hk hvk;omega⟩;rw[h j hj]at this;cases this
def vJ(c:CV):VV×Int:=
 if(bP c).2.2≠0 then(lE,(bP c).2.2)else if mG c=false then(lE,2)else(⟨c,(bP c).2.1.at_,(bP c).2.1.gen,(bP c).1/c.pages⟩,0)
theorem Sh{c:CV}{l:List Int}{i:Nat}{y:Int}(h:l.getD i 0=y):rz c l i=(decide (y=0)||(!(l.take i).contains y&&n9 c (i:Int) y)):=by rw[rz,h]
theorem aca(c:CV):bG c=if gn c=false then(lE,1)else if c.off=true then(lE,7)else vJ c:=rfl
theorem acb(x:VV):me x=(gn x.ae&&(decide ((vJ x.ae).2=0)&&decide (x.at_=(vJ x.ae).1.at_)&&decide (x.gen=(vJ x.ae).1.gen)&&decide (x.last=(vJ x.ae).1.last))):=by
 have hb:gn {x.ae with off:=false}=gn x.ae:=rfl
 have fv:mG {x.ae with off:=false}=mG x.ae:=rfl
 have A3:bP {x.ae with off:=false}=bP x.ae:=rfl
 rw[me,aca,hb]
 cases h:gn x.ae with
 |false=>rw[if_pos rfl];rfl
 |true=>
  rw[if_neg (by simp),if_neg (by simp),vJ,vJ,A3,fv]
  by_cases h1:(bP x.ae).2.2≠0
  ·
   rw[if_pos h1,if_pos h1,decide_eq_false h1];rfl
  rw[if_neg h1,if_neg h1]
  by_cases h2:mG x.ae=false
  ·
   rw[if_pos h2,if_pos h2];rfl
  rw[if_neg h2,if_neg h2];rw[avo];simp only[alM,decide_eq_true_eq,true_and,ath];constructor
  ·
   rintro⟨⟨g1,g2⟩,g3⟩;exact⟨⟨g3.symm,g1.symm⟩,g2.symm⟩
  rintro⟨⟨g1,g2⟩,g3⟩;exact⟨⟨g2.symm,g3.symm⟩,g1.symm⟩
theorem acd{c:CV}(h:(bG c).2≠0):(bG c).1=lE:=by
 rw[bG]at h⊢
 repeat' split
 all_goals first|rfl|(exfalso;simp_all)
theorem ace(c:CV):(if(bG c).2=0 then(bG c).1 else lE)=(bG c).1:=by
 by_cases h:(bG c).2=0
 ·
  rw[if_pos h]
 rw[if_neg h,acd h]
def K9(pages:Int)(l:List Int)(i:Nat)(n:Nat):Nat:=((List.range n).filter fun j=>decide (0<l.getD j 0)&&decide ((l.getD j 0 -1)/pages=(i:Int)+2)).length
theorem acf{v:VV}(h:me v=true)(i:Nat):j9 v.ae.pages v.at_ v.at_.length i=K9 v.ae.pages v.at_ i v.at_.length:=by
 obtain⟨-,h2,h3⟩:=C6 h;rw[j9,K9];congr 1;refine List.filter_congr fun j hj=>?_;have jd:j<v.at_.length:=asU.1 hj;have hp:=C4.1 h2 j jd;have hr:=h3 (v.at_.getD j 0) (by rw[show v.at_.getD j 0=v.at_[j] by simp[List.getD,jd]];exact auf _);congr 1;rw[rz]at hp;rw[ny]
 by_cases h0:v.at_.getD j 0=0
 ·
  rw[h0];simp
 rw[decide_eq_true h0,decide_eq_true (show 0<v.at_.getD j 0 by omega)];rw[decide_eq_false h0,au0,alM]at hp;rw[hp.1];rfl
def rF(t:List Rt)(n id:Nat):List UInt8:=((t.drop (id*n)).take n).flatMap eO
def lJ(t:List Rt)(ids n:Nat):List (List UInt8):=(List.range ids).map (rF t n)
def jA(a b:Int):Int:=if a<1\/64<a\/b<20\/240<b then 0 else min (a*(b/20)) 256
def kf(t:List Rt)(ids room:Int):Int:=if bF t=false\/jA ids room=0 then 1 else if jA ids room<t.length then 5 else 0
def k9(t:List Rt)(ids room:Int):List (List UInt8):=if kf t ids room=0 then lJ t ids.toNat (room/20).toNat else[]
theorem xx(t:List Rt)(ids n:Nat):(lJ t ids n).length=ids:=by simp[lJ]
theorem acg(l:List Rt):(l.flatMap eO).length=20*l.length:=by
 induction l with
 |nil=>rfl
 |cons a l ih=>rw[au9,af0,ih,pa,asm];omega
theorem ach(t:List Rt)(n id:Nat):(rF t n id).length=20*min n (t.length -id*n):=by
 rw[rF,acg,asq,ass]
theorem La(t:List Rt)(n id:Nat):(rF t n id).length<=20*n:=by rw[ach];omega
theorem GO{a b:Int}(h: ¬jA a b=0):1<=a/\a<=64/\20<=b/\b<=240/\jA a b=min (a*(b/20)) 256/\1<=b/20/\b/20<=12:=by
 unfold jA at h⊢;split at h
 ·
  exact absurd rfl h
 rename_i hn;rw[if_neg hn];have:1<=b/20/\b/20<=12:=by omega
 exact⟨by omega,by omega,by omega,by omega,rfl,this.1,this.2⟩
theorem aci{t:List Rt}{r:Rt}{i n id:Nat}(hn:0<n)(hr:t[i]? =some r):rF (t.take (i+1)) n id=rF (t.take i) n id++(if id=i/n then eO r else[]):=by
 have bc:i<t.length:=(ad2.1 hr).1;have e1:t.take (i+1)=t.take i++[r]:=by rw[asC,hr];rfl
 have hd:=auv i n;have hm:=aun i hn;have hc:n*(i/n)=i/n*n:=atK _ _;unfold rF;have l1:(t.take i).length=i:=by rw[asq];omega
 rw[e1]
 by_cases h1:id=i/n
 ·
  subst h1;have e2:(t.take i++[r]).drop (i/n*n)=(t.take i).drop (i/n*n)++[r]:=List.drop_append_of_le_length (by rw[l1];omega);have e3:((t.take i).drop (i/n*n)++[r]).take n=(t.take i).drop (i/n*n)++[r]:=asy (by rw[af0,ass,l1];simp only[asm,asn];omega);have e4:((t.take i).drop (i/n*n)).take n=(t.take i).drop (i/n*n):=asy (by rw[ass,l1];omega);rw[if_pos rfl,e2,e3,e4];simp
 rw[if_neg h1,asZ];rcases avm h1 with h2|h2
 ·
  have:(id+1)*n<=i/n*n:=asK _ h2;rw[asY]at this;rw[List.drop_append_of_le_length (by rw[l1];omega),List.take_append_of_le_length (by rw[ass,l1];omega)]
 have:(i/n+1)*n<=id*n:=asK _ h2;rw[asY]at this;rw[avq (by rw[af0,l1];simp;omega),avq (by rw[l1];omega)]
theorem acj{t:List Rt}{r:Rt}{i n ids:Nat}{x:List UInt8}(hn:0<n)(hr:t[i]? =some r)(hx:(lJ (t.take i) ids n)[i/n]? =some x):
  lJ (t.take (i+1)) ids n=(lJ (t.take i) ids n).set (i/n) (x++eO r):=by
 refine atj fun j=>?_;rw[atb];have hk:i/n<ids:=by have:=(ad2.1 hx).1;rwa [xx]at this
 by_cases hj:j<ids
 ·
  have e: ∀t',(lJ t' ids n)[j]? =some (rF t' n j):=fun t'=>by simp[lJ,hj]
  rw[e,aci hn hr]
  by_cases h:i/n=j
  ·
   subst h;rw[e]at hx;rw[if_pos rfl,if_pos rfl,if_pos (by rw[xx];exact hk)];rw[aso hx]
  ·
   rw[if_neg (fun e=>h e.symm),if_neg h,asZ,e]
 ·
  rw[ast (by rw[xx];omega),if_neg (by omega),ast (by rw[xx];omega)]
theorem ack(t:List Rt)(ids n:Nat):lJ (t.take 0) ids n=List.replicate ids []:=by
 refine List.eq_replicate_iff.2 ⟨xx _ _ _,fun x hx=>?_⟩;obtain⟨j,_,rfl⟩:=atw.1 hx;simp[rF]
theorem acm(t:List Rt)(id n:Nat):lJ t (id+1) n=lJ t id n++[rF t n id]:=by simp[lJ,atq]
def kF(b:List UInt8):Rt:=⟨⟨if b.getD 0 0=1 then 128 else 32,(b.getD 1 0).toNat,nk fun i=>(b.getD (2+i) 0).toNat⟩,UInt16.ofNat ((b.getD 18 0).toNat*256+(b.getD 19 0).toNat)⟩
def rd(b:List UInt8):Option Rt:=if b.getD 0 0<=1 then some (kF b)else none
def mK(b:List UInt8):Option (List Rt):=
 if h:b.length<20 then(if b.length=0 then some []else none)
 else match rd (b.take 20),mK (b.drop 20)with
  |some r,some l=>some (r::l)
  |_,_=>none
termination_by b.length
decreasing_by rw[ass];omega
theorem Si:mK []=some []:=by rw[mK];simp
theorem Lb{b:List UInt8}(h:20<=b.length):mK b=(rd (b.take 20)).bind fun r=>(mK (b.drop 20)).map (r:: ·):=by
 rw[mK,dif_neg (by omega)]
 cases rd (b.take 20)<;>simp
 cases mK (b.drop 20)<;>simp
theorem Sj: ∀(k:Nat) (b:List UInt8),b.length<=k-> ¬b.length%20=0->mK b=none
 |0,b,h,hm=>by have:b.length=0:=by omega
               rw[this]at hm;simp at hm
 |k+1,b,h,hm=>by
  by_cases h2:b.length<20
  ·
   rw[mK,dif_pos h2,if_neg (fun e=>by rw[e]at hm;simp at hm)]
  rw[Lb (by omega),Sj k (b.drop 20) (by rw[ass];omega) (by rw[ass];omega)]
  cases rd (b.take 20)<;>rfl
def gW:List (List UInt8)->Option (List Rt)
 |[]=>some []
 |b::r=>(mK b).bind fun l=>(gW r).map (l++ ·)
theorem GP: ∀a b:List (List UInt8),gW (a++b)=(gW a).bind fun l=>(gW b).map (l++ ·)
 |[],b=>by simp[gW]
 |x::a,b=>by
  rw[atA,gW,gW,GP a b]
  cases mK x<;>simp
  cases gW a<;>simp
  cases gW b<;>simp
theorem Lc{bs:List (List UInt8)}{i:Nat}{b:List UInt8}(h:bs[i]? =some b):gW (bs.take (i+1))=(gW (bs.take i)).bind fun l=>(mK b).map (l++ ·):=by
 rw[asC,h,au4,GP,gW,gW]
 cases gW (bs.take i)with
 |none=>rfl
 |some l=>cases mK b<;>simp
theorem Sk{bs:List (List UInt8)}{i:Nat}(h:gW (bs.take i)=none):gW bs=none:=by
 rw[←asR i bs,GP,h];rfl
def jN(bs:List (List UInt8)):List Rt:=match gW bs with
 |some t=>if bF t=true then t else[]
 |none=>[]
def lf(bs:List (List UInt8)):Int:=match gW bs with
 |some t=>if bF t=true then 0 else 2
 |none=>2
theorem GQ{bs:List (List UInt8)}(h:gW bs=none):jN bs=[]/\lf bs=2:=by simp[jN,lf,h]
theorem Sm{bs:List (List UInt8)}{t:List Rt}(h:gW bs=some t)(hr:bF t=false):jN bs=[]/\lf bs=2:=by simp[jN,lf,h,hr]
theorem Ld{bs:List (List UInt8)}{t:List Rt}(h:gW bs=some t)(hr:bF t=true):jN bs=t/\lf bs=0:=by simp[jN,lf,h,hr]
def uw(a b:List (List UInt8))(i:Nat):Option (Int×List UInt8):=if a.getD i []=b.getD i []then none else some ((i:Int),b.getD i [])
def oh(a b:List (List UInt8))(n:Nat):List (Int×List UInt8):=(List.range n).filterMap (uw a b)
def fe(a b:List (List UInt8)):List (Int×List UInt8):=oh a b (max a.length b.length)
theorem Sn{a b:List (List UInt8)}{n:Nat}(h:a.getD n []=b.getD n []):oh a b (n+1)=oh a b n:=by
 have e:uw a b n=none:=by rw[uw,if_pos h]
 simp[oh,atq,e]
theorem So{a b:List (List UInt8)}{n:Nat}(h: ¬a.getD n []=b.getD n []):oh a b (n+1)=oh a b n++[((n:Int),b.getD n [])]:=by
 have e:uw a b n=some ((n:Int),b.getD n []):=by rw[uw,if_neg h]
 simp[oh,atq,e]
theorem GR(a b:List (List UInt8))(n:Nat):(oh a b n).length<=n:=by
 have:=List.length_filterMap_le (uw a b) (List.range n);simpa[oh]using this
def qM(b:List UInt8):Bool:=decide (b.getD 0 0<=1)
def rdv(b:List UInt8):Rt:=if qM b=true then kF b else dM
theorem Sp(b:List UInt8):rd b=if qM b=true then some (kF b)else none:=by simp[rd,qM]
theorem acn(b:List UInt8):(kF b).bH=oL (b.getD 18 0) (b.getD 19 0):=rfl
theorem Sr{b:List UInt8}(hb:b.length=20)(v:Int)(hv:v=if b.getD 0 0=1 then 128 else 32):
  (over (((ay dM).setIfInBounds 0 (.int .i64 v)).setIfInBounds 1 (.int .i64 (b.getD 1 0).toNat)) 2 (aL aG ((b.drop 2).take 16)).toArray).setIfInBounds 18 (.int .u16 (oL (b.getD 18 0) (b.getD 19 0)).toNat)=ay (kF b):=by
 have hk:(aL aG ((b.drop 2).take 16)).toArray.size=16:=by rw[ate,gR,asq,ass,hb];rfl
 have h0:(ay dM).size=19:=kP _;have hs:2+(aL aG ((b.drop 2).take 16)).toArray.size<=(((ay dM).setIfInBounds 0 (.int .i64 v)).setIfInBounds 1 (.int .i64 (b.getD 1 0).toNat)).size:=by rw[hk];simp[h0]
 refine atM fun j=>?_;rw[atg,mA hs,se hs,hk]
 by_cases C1:18=j
 ·
  subst C1;rw[if_pos rfl,yA,acn];simp[h0]
 rw[if_neg C1]
 by_cases h2:2<=j/\j<2+16
 ·
  rw[if_pos h2,pP _ j (by omega),show j=2+(j -2) by omega,qy,kO _ _ (by omega),show 2+(j -2) -2=j -2 by omega];have hg:((b.drop 2).take 16)[j -2]? =some (b.getD j 0):=by
   rw[auA,if_pos (by omega),aty,show 2+(j -2)=j by omega,List.getD,asr (by omega)];rfl
  have:=oE (enc:=aG) ((b.drop 2).take 16) (j -2) _ hg 0 (by decide);simp only[at2,atl]at this;rw[show(aL aG ((b.drop 2).take 16)).toArray[j -2]? =(aL aG ((b.drop 2).take 16))[j -2]?by simp,this];have e:bk (kF b).p.key (j -2)=(b.getD j 0).toNat:=by
   show bk (nk fun i=>(b.getD (2+i) 0).toNat) (j -2)=_;rw[sj _ _ (by omega),show 2+(j -2)=j by omega];have:=(b.getD j 0).toNat_lt;omega
  rw[e];rfl
 rw[if_neg h2,atg]
 by_cases h1:1=j
 ·
  subst h1;rw[if_pos rfl,pP _ 1 (by decide),yz];simp[h0,kF]
 rw[if_neg h1,atg]
 by_cases hj:0=j
 ·
  subst hj;rw[if_pos rfl,pP _ 0 (by decide),yy];simp[h0,kF,hv]
 ·
  rw[if_neg hj,at1 (by rw[h0];omega),at1 (by rw[kP];omega)]
theorem aco{xs:List UInt8}{k n:Nat}{a b:UInt8}(ha:xs[k]? =some a)(hb:xs[k+1]? =some b)(hn:n=k+2):de ((xs.drop k).take (n -k))=(oL a b).toNat:=by
 have e:(xs.drop k).take (n -k)=[a,b]:=by
  refine atj fun j=>?_;rw[auA,aty]
  match j with
  |0=>rw[if_pos (by omega)];simpa using ha
  |1=>rw[if_pos (by omega)];simpa using hb
  |j+2=>rw[if_neg (by omega)];simp
 rw[e,EX];simp[de]
theorem Ss{t:List Rt}{ids room:Int}(h:jA ids room=0\/bF t=false):kf t ids room=1/\k9 t ids room=[]:=by
 have e:kf t ids room=1:=if_pos h.symm;exact⟨e,by rw[k9,e];rfl⟩
theorem St{t:List Rt}{ids room:Int}(h: ¬jA ids room=0)(h':bF t=true)(h2:jA ids room<t.length):kf t ids room=5/\k9 t ids room=[]:=by
 have e:kf t ids room=5:=by
  rw[kf,if_neg (by simp[h,h']),if_pos h2]
 exact⟨e,by rw[k9,e];rfl⟩
theorem Le{t:List Rt}{ids room:Int}(h: ¬jA ids room=0)(h':bF t=true)(h2: ¬jA ids room<t.length):kf t ids room=0/\k9 t ids room=lJ t ids.toNat (room/20).toNat:=by
 have e:kf t ids room=0:=by
  rw[kf,if_neg (by simp[h,h']),if_neg h2]
 exact⟨e,by rw[k9,if_pos e]⟩
theorem acp{s:Sv}{xs:List (Sl UInt8)}{i:Nat}{y:Sl UInt8}:lx (⟨s,xs.set i y⟩:Sl (Sl UInt8))=(xs.map (·.xs)).set i y.xs:=by simp[lx,auP]
def ux(m i:Nat)(nd:Nd)(b:Nat)(a:List Int):Option (List Int):=
 if(nd.sl b).len<0\/4*a.getD i 0+1<(nd.sl b).len then none
 else if nd.nx b=0 then some a
 else if nd.nx b<=(i:Int)\/(m:Int)<=nd.nx b\/a.getD (nd.nx b).toNat 0≠0 then none
 else some (a.set (nd.nx b).toNat (a.getD i 0+1))
def mL(m i:Nat)(nd:Nd):Nat->List Int->Option (List Int)
 |0,a=>some a
 |b+1,a=>(mL m i nd b a).bind (ux m i nd b)
def lg(bits:Int)(ns:List Nd):Nat->Option (List Int)
 |0=>some ((List.replicate ns.length 0).set 0 1)
 |i+1=>(lg bits ns i).bind fun a=>if a.getD i 0=0\/bits/4<a.getD i 0 then none else mL ns.length i (ns.getD i Nd.zero) 16 a
def lh(bits:Int)(ns:List Nd):Option (List Int):=if(bits=32\/bits=128)/\1<=ns.length/\ns.length<=512 then lg bits ns ns.length else none
theorem acq{bits:Int}{ns:List Nd}{i:Nat}(h:lg bits ns i=none): ∀j,i<=j->lg bits ns j=none:=by
 intro j hj
 induction j with
 |zero=>obtain rfl:i=0:=by omega
        exact h
 |succ j ih=>
  rcases asx j i with h'|h'
  ·
   obtain rfl:i=j+1:=by omega
   exact h
  rw[lg,ih h'];rfl
theorem acr{m i:Nat}{nd:Nd}{a:List Int}{b:Nat}(h:mL m i nd b a=none): ∀c,b<=c->mL m i nd c a=none:=by
 intro c hc
 induction c with
 |zero=>obtain rfl:b=0:=by omega
        exact h
 |succ c ih=>
  rcases asx c b with h'|h'
  ·
   obtain rfl:b=c+1:=by omega
   exact h
  rw[mL,ih h'];rfl
theorem Su{bits:Int}{ns:List Nd}{i:Nat}(hi:i<=ns.length)(h:lg bits ns i=none):lh bits ns=none:=by
 rw[lh];split
 ·
  exact acq h _ hi
 rfl
section
variable {bits:Int} {ns:List Nd} {i:Nat} {a a2:List Int} {nd:Nd}
theorem acs(hi:i<ns.length)(h:lg bits ns i=some a)(hx:a.getD i 0=0\/bits/4<a.getD i 0):lh bits ns=none:=
 Su (i:=i+1) hi (by rw[lg,h,atV,if_pos hx])
theorem Sw{b:Nat}(hi:i<ns.length)(h:lg bits ns i=some a)(hn:ns[i]? =some nd)(hb:b<16)(h2:mL ns.length i nd b a=some a2)(h3:ux ns.length i nd b a2=none):lh bits ns=none:=
 Su (i:=i+1) hi (by
  rw[lg,h,atV];split
  ·
   rfl
  have e:ns.getD i Nd.zero=nd:=by rw[ati,hn];rfl
  rw[e];exact acr (b:=b+1) (by rw[mL,h2,atV,h3]) _ hb)
theorem acu(h:lg bits ns i=some a)(hn:ns[i]? =some nd)(hx: ¬(a.getD i 0=0\/bits/4<a.getD i 0))(h2:mL ns.length i nd 16 a=some a2):lg bits ns (i+1)=some a2:=by
 have e:ns.getD i Nd.zero=nd:=by rw[ati,hn];rfl
 rw[lg,h,atV,if_neg hx,e,h2]
theorem getD_some{α:Type}{xs:List α}{i:Nat}{x d:α}(h:xs[i]? =some x):xs.getD i d=x:=by rw[ati,h];rfl
end
def Sx(ns:List Nd):Prop:= ∀(i:Nat) (nd:Nd),ns[i]? =some nd-> ∀b:Nat,b<16->0<=nd.nx b/\nd.nx b<ns.length
theorem acv{m i:Nat}{nd:Nd}{a a2:List Int}: ∀{n:Nat},mL m i nd n a=some a2-> ∀b,b<n->nd.nx b=0\/(i:Int)<nd.nx b/\nd.nx b<m:=by
 intro n
 induction n generalizing a2 with
 |zero=>intro _ b hb;omega
 |succ n ih=>
  intro h b hb;rw[mL]at h
  cases e:mL m i nd n a with
  |none=>rw[e]at h;cases h
  |some a3=>
   rcases asx b n with h'|h'
   ·
    exact ih e b h'
   obtain rfl:b=n:=by omega
   rw[e,atV,ux]at h;split at h
   ·
    cases h
   split at h
   ·
    left;assumption
   split at h
   ·
    cases h
   right;omega
theorem acw{bits:Int}{ns:List Nd}{a:List Int}: ∀{n:Nat},lg bits ns n=some a-> ∀i nd,i<n->ns[i]? =some nd-> ∀b,b<16->nd.nx b=0\/(i:Int)<nd.nx b/\nd.nx b<ns.length:=by
 intro n
 induction n generalizing a with
 |zero=>intro _ i nd hi;omega
 |succ n ih=>
  intro h i nd hi hn b hb;rw[lg]at h
  cases e:lg bits ns n with
  |none=>rw[e]at h;cases h
  |some a3=>
   rcases asx i n with h'|h'
   ·
    exact ih e i nd h' hn b hb
   obtain rfl:i=n:=by omega
   rw[e,atV]at h;split at h
   ·
    cases h
   rw[getD_some hn]at h;exact acv h b hb
theorem GS{bits:Int}{ns:List Nd}(h:(lh bits ns).isSome=true):Sx ns/\(bits=32\/bits=128)/\1<=ns.length/\ns.length<=512:=by
 rw[lh]at h;split at h
 ·
  rename_i hc;refine⟨fun i nd hi b hb=>?_,hc⟩;obtain⟨a,ha⟩:=atr.1 h;have dK:=(ad2.1 hi).1;rcases acw ha i nd dK hi b hb with h1|h1
  ·
   omega
  omega
 cases h
theorem acx{m i:Nat}{nd:Nd}{a a2:List Int}: ∀{n:Nat},mL m i nd n a=some a2->a2.getD i 0=a.getD i 0/\ ∀b,b<n->0<=(nd.sl b).len/\(nd.sl b).len<=4*a.getD i 0+1:=by
 intro n
 induction n generalizing a2 with
 |zero=>intro h;rw[mL]at h;exact⟨by rw[aso h],fun b hb=>by omega⟩
 |succ n ih=>
  intro h;rw[mL]at h
  cases e:mL m i nd n a with
  |none=>rw[e]at h;cases h
  |some a3=>
   obtain⟨Lf,ih2⟩:=ih e;rw[e,atV,ux]at h;split at h
   ·
    cases h
   rename_i h1;have oc: ∀b,b<n+1->0<=(nd.sl b).len/\(nd.sl b).len<=4*a.getD i 0+1:=fun b hb=>by
    rcases asx b n with h'|h'
    ·
     exact ih2 b h'
    obtain rfl:b=n:=by omega
    rw[←Lf];omega
   split at h
   ·
    exact⟨by rw[←aso h];exact Lf,oc⟩
   split at h
   ·
    cases h
   refine⟨?_,oc⟩;rw[←aso h,←Lf,ati,ati,asS (by omega)]
theorem acy{bits:Int}{ns:List Nd}{a:List Int}: ∀{n:Nat},lg bits ns n=some a-> ∀(i:Nat) (nd:Nd),i<n->ns[i]? =some nd-> ∀b,b<16->0<=(nd.sl b).len/\(nd.sl b).len<=4*(bits/4)+1:=by
 intro n
 induction n generalizing a with
 |zero=>intro _ i nd hi;omega
 |succ n ih=>
  intro h i nd hi hn b hb;rw[lg]at h
  cases e:lg bits ns n with
  |none=>rw[e]at h;cases h
  |some a3=>
   rcases asx i n with h'|h'
   ·
    exact ih e i nd h' hn b hb
   obtain rfl:i=n:=by omega
   rw[e,atV]at h;split at h
   ·
    cases h
   rw[getD_some hn]at h;have:=(acx h).2 b hb;omega
theorem acz{bits:Int}{ns:List Nd}(h:(lh bits ns).isSome=true){i:Nat}{nd:Nd}(hn:ns[i]? =some nd){b:Nat}(hb:b<16):0<=(nd.sl b).len/\(nd.sl b).len<=129:=by
 obtain⟨_,QC,_⟩:=GS h;rw[lh]at h;split at h
 ·
  obtain⟨a,ha⟩:=atr.1 h;have:=acy ha i nd (ad2.1 hn).1 hn b hb;omega
 cases h
def chain(ns:List Nd)(k:Key):Nat->Nat
 |0=>0
 |n+1=>((ns.getD (chain ns k n) Nd.zero).nx (gM k n)).toNat
theorem GU{ns:List Nd}{k:Key}(h:Sx ns)(h0:0<ns.length): ∀n,chain ns k n<ns.length
 |0=>h0
 |n+1=>by
  have ih:=GU (k:=k) h h0 n;obtain⟨nd,hn⟩: ∃nd,ns[chain ns k n]? =some nd:=⟨ns[chain ns k n],by simp[ih]⟩;have:=h _ nd hn (gM k n) (vp k n);rw[chain,getD_some hn];omega
def Dh(ns:List Nd)(k:Key)(n:Nat):Nat:=((List.range n).find? fun j=>chain ns k (j+1)==0).getD n
theorem acA{ns:List Nd}{k:Key}{n i:Nat}(hi:i<n)(h: ∀j,j<i->chain ns k (j+1)≠0)(h0:chain ns k (i+1)=0):Dh ns k n=i:=by
 unfold Dh;have:(List.range n).find? (fun j=>chain ns k (j+1)==0)=some i:=by
  rw[List.find?_range_eq_some];exact⟨by simpa using h0,by simpa using hi,fun j hj=>by simpa using h j hj⟩
 rw[this];rfl
theorem acB{ns:List Nd}{k:Key}{n:Nat}(h: ∀j,j<n->chain ns k (j+1)≠0):Dh ns k n=n:=by
 unfold Dh;have:(List.range n).find? (fun j=>chain ns k (j+1)==0)=none:=by
  rw[List.find?_range_eq_none];intro j hj;simpa using h j hj
 rw[this];rfl
def vK(ns:List Nd)(k:Key)(n:Nat):List Int:=(List.range (n+1)).map fun j=>((chain ns k j:Nat):Int)
theorem acC(ns:List Nd)(k:Key)(n:Nat):vK ns k (n+1)=vK ns k n++[((chain ns k (n+1):Nat):Int)]:=by simp[vK,atq]
theorem Di(ns:List Nd)(k:Key)(n:Nat):(vK ns k n).length=n+1:=by simp[vK]
theorem Sy{ns:List Nd}{k:Key}{n i:Nat}(h:i<=n):(vK ns k n)[i]? =some ((chain ns k i:Nat):Int):=by
 simp[vK,show i<n+1 by omega]
def sX(bits:Int)(ns:List Nd)(k:Key):Bool:=(lh bits ns).isSome&&decide (dU k bits=k)
def mM(bits:Int)(ns:List Nd)(k:Key):List Int:=if sX bits ns k=true then vK ns k (Dh ns k (bits/4).toNat)else[]
def po(ns:List Nd)(k:Key):Nat->gw
 |0=>gw.no
 |n+1=>let s:=(ns.getD (chain ns k n) Nd.zero).sl (gM k n)
  if(po ns k n).len<s.len then s else po ns k n
theorem Sz{bits:Int}{ns:List Nd}{k:Key}(h:(lh bits ns).isSome=true): ∀n,0<=(po ns k n).len/\(po ns k n).len<=129
 |0=>by simp[po,gw.no]
 |n+1=>by
  obtain⟨h1,_,h3,_⟩:=GS h;have ih:=Sz (k:=k) h n;have hl:=GU (k:=k) h1 (by omega) n;obtain⟨nd,hn⟩: ∃nd,ns[chain ns k n]? =some nd:=⟨ns[chain ns k n],by simp[hl]⟩;have:=acz h hn (vp k n);simp only[po,getD_some hn];split<;>omega
theorem SA{bits:Int}{ns:List Nd}{k:Key}:(mM bits ns k).length=0↔sX bits ns k=false:=by
 unfold mM;split
 ·
  rename_i h;simp[Di,h]
 rename_i h;simpa using h
theorem acD{bits:Int}{ns:List Nd}{k:Key}{i:Nat}(h:i<(mM bits ns k).length):(mM bits ns k)[i]? =some ((chain ns k i:Nat):Int):=by
 unfold mM at h⊢;split at h
 ·
  rename_i hk;rw[if_pos hk];rw[Di]at h;exact Sy (by omega)
 simp at h
def yZ(bits:Int)(ns:List Nd)(k:Key):gw:=po ns k (mM bits ns k).length
def rG(bits:Int)(ns:List Nd)(k:Key):Int:=if sX bits ns k=true then(if(yZ bits ns k).len=0 then 6 else 0)else 1
def y5(bits:Int)(ns:List Nd)(k:Key):Int:=if rG bits ns k=0 then(yZ bits ns k).len -1 else 0
def y7(bits:Int)(ns:List Nd)(k:Key):UInt16:=if rG bits ns k=0 then(yZ bits ns k).bH else 0
section
variable {bits:Int} {W:List Wy} {R:List Rt}
end
theorem acE{α:Type}{t:List α}{i:Nat}{r:α}(h:t[i]? =some r):t.take (i+1)=t.take i++[r]:=by
 obtain⟨hi,rfl⟩:=ad2.1 h;exact atU hi
section
variable {bits:Int} {t:List Rt}
end
def lK(p:Nat->Bool):Nat->Nat->Nat->Nat
 |0,i,_=>i
 |f+1,i,j=>if i<j then(if p ((i+j)/2)=true then lK p f i ((i+j)/2)else lK p f ((i+j)/2+1) j)else i
def bs(p:Nat->Bool)(n:Nat):Nat:=lK p (n+1) 0 n
theorem GV(p:Nat->Bool): ∀(f g i j:Nat),j -i<f->j -i<g->lK p f i j=lK p g i j
 |0,_,_,_,h,_=>by omega
 |_+1,0,_,_,_,h=>by omega
 |f+1,g+1,i,j,h1,h2=>by
  rw[lK,lK];split
  ·
   split
   ·
    exact GV p f g _ _ (by omega) (by omega)
   exact GV p f g _ _ (by omega) (by omega)
  rfl
theorem SB{p:Nat->Bool}{f i j:Nat}(h:i<j)(hf:j -i<f):lK p f i j=if p ((i+j)/2)=true then lK p f i ((i+j)/2)else lK p f ((i+j)/2+1) j:=by
 match f,hf with
 |f+1,hf=>
  rw[lK,if_pos h];split
  ·
   exact GV p f (f+1) _ _ (by omega) (by omega)
  exact GV p f (f+1) _ _ (by omega) (by omega)
theorem acF{p:Nat->Bool}{f i j:Nat}(h: ¬i<j)(hf:0<f):lK p f i j=i:=by
 match f,hf with
 |f+1,_=>rw[lK,if_neg h]
theorem Lg{p:Nat->Bool}{n:Nat}(hm: ∀a b,a<=b->b<n->p a=true->p b=true): ∀(f i j:Nat),j -i<f->i<=j->j<=n->(∀a,a<i->p a=false)->(∀a,j<=a->a<n->p a=true)->
  lK p f i j<=n/\(∀a,a<lK p f i j->p a=false)/\ ∀a,lK p f i j<=a->a<n->p a=true
 |0,_,_,h,_,_,_,_=>by omega
 |f+1,i,j,h,nI,wB,h1,h2=>by
  rw[lK];split
  ·
   rename_i bc;split
   ·
    rename_i hp;exact Lg hm f _ _ (by omega) (by omega) (by omega) h1 fun a ha han=>hm _ a ha han hp
   ·
    rename_i hp;refine Lg hm f _ _ (by omega) (by omega) wB (fun a ha=>?_) h2
    cases qN:p a with
    |false=>rfl
    |true=>exact absurd (hm a ((i+j)/2) (by omega) (by omega) qN) hp
  ·
   obtain rfl:i=j:=by omega
   exact⟨wB,h1,h2⟩
theorem SC{p:Nat->Bool}{n:Nat}(hm: ∀a b,a<=b->b<n->p a=true->p b=true):bs p n<=n/\(∀a,a<bs p n->p a=false)/\ ∀a,bs p n<=a->a<n->p a=true:=
 Lg hm (n+1) 0 n (by omega) (asO _) (asu _) (fun a ha=>by omega) (fun a h1 h2=>by omega)
def behind(t:List Rt)(q:bt)(j:Nat):Bool:=match t[j]?with
 |some r=> !cO r.p q
 |none=>true
def cT(t:List Rt)(q:bt):Nat:=bs (behind t q) t.length
def kG(t:List Rt)(q:bt):Bool:=match t[cT t q]?with
 |some r=>decide (r.p=q)
 |none=>false
theorem Lh{p:Nat->Bool}: ∀(f i j:Nat),i<=j->lK p f i j<=j
 |0,_,_,h=>h
 |f+1,i,j,h=>by
  rw[lK];split
  ·
   split
   ·
    exact auO (Lh f _ _ (by omega)) (by omega)
   exact Lh f _ _ (by omega)
  exact h
theorem Li(t:List Rt)(q:bt):cT t q<=t.length:=Lh _ _ _ (asO _)
theorem acG(t:List Rt)(q:bt):kG t q=(decide (((cT t q:Nat):Int)<(t.length:Int))&&decide ((t.getD (cT t q) dM).p=q)):=by
 rcases asx (cT t q) t.length with h|h
 ·
  have e:t[cT t q]? =some t[cT t q]:=by simp[h]
  rw[kG,e,ati,e];simp[h]
 rw[kG,ast h,decide_eq_false (by omega)];rfl
theorem GW{t:List Rt}(h:bF t=true): ∀(i j:Nat) (a b:Rt),i<j->t[i]? =some a->t[j]? =some b->cO a.p b.p=true:=by
 intro i j
 induction j with
 |zero=>intro a b nI;omega
 |succ j ih=>
  intro a b nI ha hb;have iu:=(ad2.1 hb).1;obtain⟨c,hc⟩: ∃c,t[j]? =some c:=⟨t[j],by simp[show j<t.length by omega]⟩;have pq:cO c.p b.p=true:=by
   cases hx:cO c.p b.p with
   |true=>rfl
   |false=>
    have:=Fh iu (by rw[Fi hb hc,hx];simp);rw[this]at h;cases h
  rcases asx i j with h1|h1
  ·
   have hac:=ih a c h1 ha hc;have m1:=uc h (anc ha);have m2:=uc h (anc hb);have m3:=uc h (anc hc);rw[nn m1 m3]at hac;rw[nn m3 m2]at pq;rw[nn m1 m2];omega
  obtain rfl:i=j:=by omega
  obtain rfl:=aso (ha.symm.trans hc);exact pq
theorem mN{p:bt}(h:bw p=true):cO p p=false:=by
 cases hx:cO p p with
 |false=>rfl
 |true=>rw[nn h h]at hx;omega
theorem SD{t:List Rt}(h:bF t=true){q:bt}(hq:bw q=true)(a b:Nat)(uV:a<=b)(hb:b<t.length)(ha:behind t q a=true):behind t q b=true:=by
 obtain⟨x,hx⟩: ∃x,t[a]? =some x:=⟨t[a],by simp[show a<t.length by omega]⟩;obtain⟨y,hy⟩: ∃y,t[b]? =some y:=⟨t[b],by simp[hb]⟩;simp only[behind,hx,hy,att]at ha⊢;rcases asx a b with h1|h1
 ·
  have hl:=GW h a b x y h1 hx hy;have m1:=uc h (anc hx);have m2:=uc h (anc hy)
  cases hz:cO y.p q with
  |false=>rfl
  |true=>
   rw[nn m1 m2]at hl;rw[nn m2 hq]at hz;have:cO x.p q=true:=by rw[nn m1 hq];omega
   rw[this]at ha;cases ha
 obtain rfl:a=b:=by omega
 obtain rfl:=aso (hx.symm.trans hy);exact ha
theorem GX{t:List Rt}(h:bF t=true){q:bt}(hq:bw q=true){r:Rt}(hr:r∈t)(e:r.p=q):t[cT t q]? =some r/\kG t q=true:=by
 obtain⟨h1,h2,h3⟩:=SC (p:=behind t q) (n:=t.length) fun a b=>SD h hq a b;obtain⟨i,hi⟩:=atP.1 hr;have dK:=(ad2.1 hi).1;have e1:cT t q=i:=by
  have SE:behind t q i=true:=by simp only[behind,hi,e,mN hq];rfl
  rcases ava (cT t q) i with h4|h4|h4
  ·
   obtain⟨x,hx⟩: ∃x,t[cT t q]? =some x:=⟨t[cT t q],by simp[show cT t q<t.length by omega]⟩;have h5:=h3 (cT t q) (asu _) (by omega);have h6:=GW h _ _ x r h4 hx hi;simp only[behind,hx]at h5;rw[e]at h6;rw[h6]at h5;cases h5
  ·
   exact h4
  have:=h2 i h4;rw[this]at SE;cases SE
 rw[kG,e1,hi];exact⟨rfl,by simp[e]⟩
theorem y8{t:List Rt}{q:bt}(h:kG t q=true): ∃r∈t,t[cT t q]? =some r/\r.p=q:=by
 rw[kG]at h
 cases e:t[cT t q]?with
 |none=>rw[e]at h;cases h
 |some r=>rw[e]at h;exact⟨r,anc e,rfl,by simpa using h⟩
section
variable {t:List Rt} {k:Key} {bits:Int}
end
structure Ord(t:List Rt):Prop where
 may: ∀r∈t,bw r.p=true
 less:t.Pairwise fun a b=>cO a.p b.p=true
theorem mO{t:List Rt}(h:bF t=true):Ord t:=⟨fun _ hr=>uc h hr,by
 rw[atz];intro i j hi hj nI;exact GW h i j _ _ nI (by simp[hi]) (by simp[hj])⟩
theorem acH{t:List Rt}(h:Ord t)(hl:t.length<=256):bF t=true:=by
 refine Pj hl ?_;have key: ∀n,n<=t.length->sq t n=true:=by
  intro n
  induction n with
  |zero=>intro _;rfl
  |succ n ih=>
   intro hn;rw[Js,ih (by omega),ath];have hi:t[n]? =some t[n]:=by simp[show n<t.length by omega]
   have hm:=h.may _ (anc hi)
   cases n with
   |zero=>rw[Jt hi,hm]
   |succ m=>
    have hq:t[m]? =some t[m]:=by simp[show m<t.length by omega]
    rw[Fi hi hq,hm,ath];exact(atz.1 h.less) m (m+1) (by omega) (by omega) (by omega)
 exact key _ (asu _)
theorem Ord.sub{s t:List Rt}(h:Ord t)(hs:s.Sublist t):Ord s:=⟨fun r hr=>h.may r (hs.subset hr),h.less.sublist hs⟩
theorem Ord.uniq{t:List Rt}(h:Ord t){a b:Rt}(ha:a∈t)(hb:b∈t)(e:a.p=b.p):a=b:=by
 obtain⟨i,hi,rfl⟩:=atZ ha;obtain⟨j,hj,rfl⟩:=atZ hb;have hp:=atz.1 h.less;have hm:=h.may _ hb;rcases ava i j with h1|h1|h1
 ·
  have:=hp i j hi hj h1;rw[e,mN hm]at this;cases this
 ·
  subst h1;rfl
 have:=hp j i hj hi h1;rw[e,mN hm]at this;cases this
theorem Ord.nodup{t:List Rt}(h:Ord t):t.Nodup:=h.less.imp_of_mem fun{a b} ha _ uV e=>by
 subst e;rw[mN (h.may _ ha)]at uV;cases uV
def cov(r:Rt)(p:bt):Bool:=decide (r.p≠p)&&YD r.p p
def acI(t:List Rt)(p:bt):Option Rt:=t.reverse.find? fun r=>cov r p
def an9(t:List Rt)(r:Rt):Bool:=match acI t r.p with
 |none=>true
 |some o=> !decide (o.bH=r.bH)
def xz(t:List Rt)(p:bt):Bool:=bF t&&bw p
def y9(t:List Rt)(p:bt):Option Rt:=if kG t p=true then t[cT t p]?else none
def za(t:List Rt)(p:bt):UInt16:=if xz t p=true then((y9 t p).getD dM).bH else 0
def vL(t:List Rt)(p:bt):Int:=if xz t p=true then(if(y9 t p).isSome=true then 0 else 6)else 1
theorem acJ{t:List Rt}(h:bF t=true){r:Rt}(hr:r∈t):y9 t r.p=some r:=by
 obtain⟨h1,h2⟩:=GX h (uc h hr) hr rfl;rw[y9,if_pos h2,h1]
theorem SF{t:List Rt}(h:bF t=true){r:Rt}(hr:r∈t):vL t r.p=0/\za t r.p=r.bH:=by
 have bB:xz t r.p=true:=by rw[xz,h,uc h hr];rfl
 rw[vL,za,if_pos bB,if_pos bB,acJ h hr];exact⟨rfl,rfl⟩
theorem acK{t:List Rt}(h:bF t=true){p:bt}(he:vL t p=0): ∃r∈t,r.p=p/\za t p=r.bH:=by
 unfold vL at he;split at he
 ·
  rename_i bB;split at he
  ·
   rename_i hs;obtain⟨r,hr⟩:=atr.1 hs;unfold y9 at hr;split at hr
   ·
    rename_i hp;obtain⟨q,h1,h2,h3⟩:=y8 hp;rw[h2]at hr;cases hr;exact⟨r,h1,h3,by rw[za,if_pos bB,y9,if_pos hp,h2];rfl⟩
   cases hr
  cases he
 cases he
structure Ch where
 r:Rt
 gone:Bool
 deriving DecidableEq
def nD:Ch:=⟨dM,false⟩
def cq(x:Ch):Array Value:=ay x.r++ #[.bool x.gone]
theorem sY(x:Ch):(cq x).size=20:=by unfold cq;rw[auJ,kP];rfl
theorem Lj(x:Ch)(j:Nat)(h:j<19):(cq x)[j]? =(ay x.r)[j]? :=by
 unfold cq;rw[auR (by rw[kP];exact h)]
theorem acL(x:Ch):(cq x)[19]? =some (.bool x.gone):=by
 unfold cq;rw[Array.getElem?_append_right (by rw[kP];omega),kP];rfl
def eo(t:List Rt)(c:Ch):Int:=if bw c.r.p=true then(if kG t c.r.p=true then 0 else if c.gone=true then 6 else if 256<=t.length then 5 else 0)else 1
def gX(t:List Rt)(c:Ch):List Rt:=
 if eo t c=0 then(if c.gone=true then t.take (cT t c.r.p)++t.drop (cT t c.r.p+1)else if kG t c.r.p=true then t.set (cT t c.r.p) c.r else t.take (cT t c.r.p)++c.r::t.drop (cT t c.r.p))else t
theorem SG{t:List Rt}(h:t.length<=256)(c:Ch):(gX t c).length<=256:=by
 unfold gX;split
 ·
  rename_i he;split
  ·
   simp only[af0,asq,ass];omega
  split
  ·
   simpa using h
  rename_i h1 h2;have:t.length<256:=by
   apply asH;intro hn;unfold eo at he;rw[if_neg h2,if_neg h1,if_pos (show 256<=t.length by omega)]at he;split at he<;>omega
  have hp:=Li t c.r.p;simp only[af0,asq,asm,ass];omega
 exact h
def gY:List Rt->List Ch->List Rt×Int
 |t,[]=>(t,0)
 |t,c::l=>if eo t c=0 then gY (gX t c) l else(t,eo t c)
theorem SH{t:List Rt}{l:List Ch}{i:Nat}{c:Ch}(hc:l[i]? =some c):gY t (l.drop i)=if eo t c=0 then gY (gX t c) (l.drop (i+1))else(t,eo t c):=by
 obtain⟨hi,rfl⟩:=ad2.1 hc;rw[aut hi,gY]
def cx(t:List Rt)(l:List Ch):Int:=if bF t=true then(gY t l).2 else 1
def bM(t:List Rt)(l:List Ch):List Rt:=if cx t l=0 then(gY t l).1 else t
end Go.Kb
namespace Go.ax
def vM:Nat->Value->Value->Prop
 |0, .int k _, .int k' _=>k=k'
 |1, .bool _, .bool _=>True
 |2, .string _, .string _=>True
 |_,_,_=>False
def qO:Value->Bool
 | .agg _=>true
 |_=>false
def A4(P:Program)(d:Nat)(t:TypeId)(kg:Bool)(ks:List Nat):Prop:=
 ∀(w:World) (x y:Value),qO x=kg->qO y=kg->x.cells.size=ks.length->y.cells.size=ks.length->
  (∀(i k:Nat),ks[i]? =some k-> ∃u v,x.cells[i]? =some u/\y.cells[i]? =some v/\vM k u v)->
  ∃r:Bool,(Op.equalIn d t x y).run P w= .ok r w/\(r=true↔ ∀i,i<ks.length->x.cells[i]? =y.cells[i]?)
section
variable {P:Program} {d:Nat} {t:TypeId}
theorem cells_one{x:Value}(h:qO x=false):x.cells= #[x]:=by
 cases x<;>simp_all[qO,Value.cells]
theorem Lk{q:IntKind}(hu:P.underlying t=some (.int q)):A4 P (d+1) t false [0]:=fun w x y hx hy _ _ hk=>by
 obtain⟨u,v,h1,h2,h3⟩:=hk 0 0 rfl;rw[cells_one hx]at h1⊢;rw[cells_one hy]at h2⊢;simp at h1 h2;subst h1 h2
 cases x<;>cases y<;>simp only[vM]at h3
 subst h3;exact⟨_,run_equalIn_int w d t _ q _ _ hu,by simp⟩
theorem SI{e:TypeId}{kg:Bool}{n:Nat}(hA: ∃de,P.underlying e=some de/\wC de=kg)(hn:(P.info? e).map (·.size)=some n)(h1:kg=false->n=1)
  {xs:Array Value} {off:Nat} (bc:off+n<=xs.size) (hp: ∀i u,off<=i->i<off+n->xs[i]? =some u->qO u=false) (w:World):
  ∃a,(part e xs off).run P w= .ok a w/\qO a=kg/\a.cells.size=n/\ ∀i,i<n->a.cells[i]? =xs[off+i]? :=by
 obtain⟨de,hu,hr⟩:=hA
 cases kg with
 |true=>
  refine⟨.agg (xs.extract off (off+n)),?_,rfl,by simp[Value.cells];omega,fun i hi=>?_⟩
  ·
   simp only[part,Sem.run_bind,EE w hu,hr,Result.andThen_ok,if_true,lR w hn,Sem.run_pure]
  ·
   simp[Value.cells,Array.getElem?_extract];intro h;omega
 |false=>
  have:=h1 rfl;subst this;have hx:xs[off]? =some xs[off]:=by simp[show off<xs.size by omega]
  have Ll:=hp off _ (asu _) (by omega) hx;refine⟨xs[off],?_,Ll,by rw[cells_one Ll];rfl,fun i hi=>?_⟩
  ·
   simp only[part,Sem.run_bind,EE w hu,hr,Result.andThen_ok,hx,as2,if_false,Sem.run_pure]
  ·
   obtain rfl:i=0:=by omega
   rw[cells_one Ll,atl,hx];rfl
theorem SJ{k:Nat}{u v:Value}(h:vM k u v):qO u=false/\qO v=false:=by
 unfold vM at h;split at h<;>simp_all[qO]
structure uy(P:Program)(d:Nat)(e:TypeId)(kg:Bool)(ks:List Nat):Prop where
 row: ∃de,P.underlying e=some de/\wC de=kg
 size:(P.info? e).map (·.size)=some ks.length
 one:kg=false->ks.length=1
 eq:A4 P d e kg ks
theorem SK{e:TypeId}{kg:Bool}{ks:List Nat}(he:uy P d e kg ks){xs ys:Array Value}{off:Nat}(hx:off+ks.length<=xs.size)(hy:off+ks.length<=ys.size)
  (hk: ∀(i k:Nat),ks[i]? =some k-> ∃u v,xs[off+i]? =some u/\ys[off+i]? =some v/\vM k u v) (w:World):
  ∃a b r,(part e xs off).run P w= .ok a w/\(part e ys off).run P w= .ok b w/\(Op.equalIn d e a b).run P w= .ok r w/\(r=true↔ ∀i,i<ks.length->xs[off+i]? =ys[off+i]?):=by
 have plain: ∀i,off<=i->i<off+ks.length-> ∃u v k,xs[i]? =some u/\ys[i]? =some v/\vM k u v:=fun i h1 h2=>by
  obtain⟨u,v,h3,h4,h5⟩:=hk (i -off) _ (asr (by omega));rw[show off+(i -off)=i by omega]at h3 h4;exact⟨u,v,_,h3,h4,h5⟩
 obtain⟨a,a1,a2,a3,a4⟩:=SI he.row he.size he.one hx (fun i u h1 h2 h3=>by
  obtain⟨u',v,k,h4,h5,h6⟩:=plain i h1 h2;rw[h4]at h3;cases h3;exact(SJ h6).1) w
 obtain⟨b,b1,b2,b3,b4⟩:=SI he.row he.size he.one hy (fun i u h1 h2 h3=>by
  obtain⟨u',v,k,h4,h5,h6⟩:=plain i h1 h2;rw[h5]at h3;cases h3;exact(SJ h6).2) w
 obtain⟨r,r1,r2⟩:=he.eq w a b a2 b2 a3 b3 (fun i k nR=>by
  obtain⟨u,v,h1,h2,h3⟩:=hk i k nR;have hi:i<ks.length:=(ad2.1 nR).1;exact⟨u,v,by rw[a4 i hi];exact h1,by rw[b4 i hi];exact h2,h3⟩)
 refine⟨a,b,r,a1,b1,r1,r2.trans ⟨fun h i hi=>?_,fun h i hi=>?_⟩⟩
 ·
  rw[←a4 i hi,←b4 i hi];exact h i hi
 ·
  rw[a4 i hi,b4 i hi];exact h i hi
theorem SL{e:TypeId}{kg:Bool}{ks:List Nat}(he:uy P d e kg ks){xs ys:Array Value}(w:World): ∀(is:List Nat),
  (∀j∈is,j*ks.length+ks.length<=xs.size/\j*ks.length+ks.length<=ys.size/\ ∀(i k:Nat),ks[i]? =some k-> ∃u v,xs[j*ks.length+i]? =some u/\ys[j*ks.length+i]? =some v/\vM k u v)->
  ∃r:Bool,(Op.eqItems d e ks.length xs ys is).run P w= .ok r w/\(r=true↔ ∀j∈is,∀i,i<ks.length->xs[j*ks.length+i]? =ys[j*ks.length+i]?)
 |[],_=>⟨true,by simp[Op.eqItems],by simp⟩
 |j::is,h=>by
  obtain⟨h1,h2,h3⟩:=h j (by simp);obtain⟨a,b,r,p1,p2,p3,vN⟩:=SK he h1 h2 h3 w;obtain⟨r',Lm,Lo⟩:=SL he w is (fun j' jd=>h j' (by simp[jd]));simp only[Op.eqItems,Sem.run_bind,p1,p2,p3,Result.andThen_ok]
  cases r
  ·
   refine⟨false,by simp,?_⟩;simp only[as2,false_iff];intro e;exact absurd (vN.2 (e j (by simp))) (by simp)
  ·
   refine⟨r',by simpa using Lm,?_⟩;rw[Lo];have:=vN.1 rfl;constructor
   ·
    intro e j' jd;rcases asw.1 jd with rfl|jd
    ·
     exact this
    ·
     exact e j' jd
   ·
    intro e j' jd;exact e j' (by simp[jd])
theorem AL{ks:List Nat}: ∀{n j i:Nat},j<n->i<ks.length->(List.replicate n ks).flatten[j*ks.length+i]? =ks[i]?
 |0,j,i,h,_=>by omega
 |n+1,0,i,_,hi=>by
  rw[au2,atL,Nat.zero_mul,as3,asG hi]
 |n+1,j+1,i,h,hi=>by
  rw[au2,atL,asA (by rw[asY];omega),asY,show j*ks.length+1*ks.length+i -ks.length=j*ks.length+i by omega];exact AL (by omega) hi
theorem acM{e:TypeId}{n:Nat}{kg:Bool}{ks:List Nat}(hu:P.underlying t=some (.array n e))(he:uy P d e kg ks):A4 P (d+1) t true (List.replicate n ks).flatten:=fun w x y hx hy sx sy hk=>by
 cases x<;>simp only[qO,as2]at hx
 cases y<;>simp only[qO,as2]at hy
 rename_i xs ys;simp only[Value.cells]at sx sy hk⊢;have hl:(List.replicate n ks).flatten.length=n*ks.length:=by simp
 rw[hl]at sx sy⊢;obtain⟨i,hi⟩: ∃i,P.info? e=some i:=by
  cases h:P.info? e with
  |none=>have:=he.size;simp[h]at this
  |some i=>exact⟨i,rfl⟩
 have hc:P.cellsOf e=ks.length:=by have:=he.size;simp[Program.cellsOf,hi]at this⊢;exact this
 have bound: ∀j,j<n->j*ks.length+ks.length<=n*ks.length:=fun j hj=>by
  rw[←Nat.succ_mul];exact asK _ hj
 obtain⟨r,hr,vN⟩:=SL he (xs:=xs) (ys:=ys) w (List.range n) (fun j hj=>by
  have jd:=asU.1 hj;have:=bound j jd;refine⟨by omega,by omega,fun i k nR=>?_⟩;have dK:i<ks.length:=(ad2.1 nR).1;exact hk (j*ks.length+i) k (by rw[AL jd dK];exact nR))
 refine⟨r,by rw[run_equalIn_array w d xs ys hu hi,hc];exact hr,vN.trans ⟨fun h q hq=>?_,fun h j hj i hi=>?_⟩⟩
 ·
  have AY:0<ks.length:=by
   rcases atW ks.length with h0|h0
   ·
    rw[h0]at hq;omega
   exact h0
  have h1:q/ks.length<n:=avf (by rw[atK];exact hq);have h2:=h (q/ks.length) (asU.2 h1) (q%ks.length) (aun _ AY);rw[Nat.div_add_mod']at h2;exact h2
 have:=bound j (asU.1 hj);exact h _ (by omega)
def GY(P:Program)(d:Nat):Nat->List Field->List Nat->Prop
 |_,[],ks=>ks=[]
 |off,f::fs,ks=>f.name≠ "_" ∧f.offset=off∧ ∃kg k1 k2,ks=k1++k2∧uy P d f.type kg k1∧GY P d (off+k1.length) fs k2
theorem SM{xs ys:Array Value}(w:World): ∀(fs:List Field) (off:Nat) (ks:List Nat),GY P d off fs ks->off+ks.length<=xs.size->off+ks.length<=ys.size->
  (∀(i k:Nat),ks[i]? =some k-> ∃u v,xs[off+i]? =some u/\ys[off+i]? =some v/\vM k u v)->
  ∃r:Bool,(Op.eqFields d xs ys fs).run P w= .ok r w/\(r=true↔ ∀i,i<ks.length->xs[off+i]? =ys[off+i]?)
 |[],off,ks,h,_,_,_=>by
  simp only[GY]at h;subst h;exact⟨true,by simp[Op.eqFields],by simp⟩
 |f::fs,off,ks,h,hx,hy,hk=>by
  obtain⟨hn,ho,kg,k1,k2,rfl,hp,Fx⟩:=h;simp only[af0]at hx hy;obtain⟨a,b,r,p1,p2,p3,vN⟩:=SK hp (xs:=xs) (ys:=ys) (off:=off) (by omega) (by omega) (fun i k nR=>by
   have hi:i<k1.length:=(ad2.1 nR).1;exact hk i k (by rw[asG hi];exact nR)) w
  obtain⟨r',Lm,Lo⟩:=SM (xs:=xs) (ys:=ys) w fs (off+k1.length) k2 Fx (by omega) (by omega) (fun i k nR=>by
   have:=hk (k1.length+i) k (by rw[asA (by omega)];simpa using nR);rw[atN];exact this)
  subst ho;simp only[Op.eqFields,hn,ne_eq,not_false_eq_true,if_true,Sem.run_bind,p1,p2,p3,Result.andThen_ok]
  cases r
  ·
   refine⟨false,by simp,?_⟩;simp only[as2,false_iff];intro e;exact absurd (vN.2 fun i hi=>e i (by simp;omega)) (by simp)
  ·
   refine⟨r',by simpa using Lm,?_⟩;rw[Lo];have:=vN.1 rfl;simp only[af0];constructor
   ·
    intro e i hi
    by_cases h1:i<k1.length
    ·
     exact this i h1
    ·
     have:=e (i -k1.length) (by omega);rw[show f.offset+k1.length+(i -k1.length)=f.offset+i by omega]at this;exact this
   ·
    intro e i hi;have:=e (k1.length+i) (by omega);rw[atN];exact this
theorem SN{fs:Array Field}{ks:List Nat}(hu:P.underlying t=some (.struct fs))(hp:P.stoodInHeld t=false)(hf:GY P d 0 fs.toList ks):A4 P (d+1) t true ks:=fun w x y hx hy sx sy hk=>by
 cases x<;>simp only[qO,as2]at hx
 cases y<;>simp only[qO,as2]at hy
 rename_i xs ys;simp only[Value.cells]at sx sy hk⊢;have k8:P.fieldsOf t=fs:=by simp[Program.fieldsOf,hu]
 obtain⟨r,hr,vN⟩:=SM (xs:=xs) (ys:=ys) w fs.toList 0 ks hf (by omega) (by omega) (fun i k nR=>by
  have:=hk i k nR;simpa using this)
 refine⟨r,?_,by simpa using vN⟩;rw[run_equalIn_struct w d t xs ys (by rw[k8];exact hu) hp,k8];exact hr
theorem A4.val{kg:Bool}{ks:List Nat}(h:A4 P 10000 t kg ks)(hA:kg=true)(hg:P.eqGuardType P.depth t=false){xs ys:Array Value}{r:Bool}(sx:xs.size=ks.length)(sy:ys.size=ks.length)
  (hk: ∀(i k:Nat),ks[i]? =some k-> ∃u v,xs[i]? =some u/\ys[i]? =some v/\vM k u v) (hr:xs=ys↔r=true):zP P t (.agg xs) (.agg ys) r where
 h w:=by
  subst hA;obtain⟨q,h1,h2⟩:=h w (.agg xs) (.agg ys) rfl rfl sx sy hk;have:q=r:=by
   rw[avo,h2,←hr];simp only[Value.cells];constructor
   ·
    intro e;apply atM;intro i
    by_cases hi:i<ks.length
    ·
     exact e i hi
    ·
     simp[show ¬i<xs.size by omega,show ¬i<ys.size by omega]
   ·
    rintro rfl i _;rfl
  rw[h1,this]
 plain:=hg
 agg:=⟨xs,ys,rfl,rfl⟩
end
end Go.ax
namespace Go.Proofs.YtkggjjnhnjjokaaGreatDoor
open Go.ax Go.Kb
instance (k:Key):fW (ck k) 16:=⟨gf k,by
 rw[as4];intro v hv;simp only[ck,List.mem_toArray,atw]at hv;obtain⟨i,_,rfl⟩:=hv;rfl⟩
instance (p:bt):fW (cP p) 18:=⟨qx p,by
 have h:(ck p.key).all (·.oneCell')=true:=(inferInstance:fW (ck p.key) 16).one;rw[cP,Array.all_append,h];simp[Value.oneCell']⟩
instance (p:bt):cc (cP p) 0 (.int .i64 p.bits):=⟨yy p⟩
instance (p:bt):cc (cP p) 1 (.int .i64 p.len):=⟨yz p⟩
instance (p:bt):nJ (cP p) 2 16 (ck p.key):=⟨gf _,fun j _=>qy p j⟩
theorem acN(d:Nat):uy Tryz.prog (d+1) 5 false [0]:=⟨⟨_,Tryz.underlying5,rfl⟩,by kernel_rfl,fun _=>rfl,Lk Tryz.underlying5⟩
theorem SO(d:Nat):uy Tryz.prog (d+1) 3 false [0]:=⟨⟨_,Tryz.underlying3,rfl⟩,by kernel_rfl,fun _=>rfl,Lk Tryz.underlying3⟩
theorem SP(d:Nat):uy Tryz.prog (d+1+1) 25 true (List.replicate 16 [0]).flatten:=⟨⟨_,Tryz.underlying25,rfl⟩,by kernel_rfl,(fun h=>by cases h),acM Tryz.underlying25 (acN d)⟩
theorem acO:Tryz.prog.stoodInHeld 32=false:=by kernel_rfl
theorem SQ(d:Nat):uy Tryz.prog (d+1+1+1) 32 true ([0]++([0]++((List.replicate 16 [0]).flatten++[]))):=⟨⟨_,Tryz.underlying32,rfl⟩,by kernel_rfl,(fun h=>by cases h),
 SN Tryz.underlying32 acO ⟨by decide,rfl,_,_,_,rfl,SO _,by decide,rfl,_,_,_,rfl,SO _,by decide,rfl,_,_,_,rfl,SP _,rfl⟩⟩
theorem acP:Tryz.prog.eqGuardType Tryz.prog.depth 25=false:=by kernel_rfl
theorem acQ:Tryz.prog.eqGuardType Tryz.prog.depth 32=false:=by kernel_rfl
instance (a b:Key):zP Tryz.prog 25 (.agg (ck a)) (.agg (ck b)) (decide (a=b)):=
 (SP 9998).eq.val rfl acP (gf a) (gf b) (fun i k hk=>by
  have hi:i<16:=(ad2.1 hk).1;have h0:k=0:=by
   have:k∈(List.replicate 16 [0]).flatten:=anc hk;simpa using this
  subst h0;exact⟨_,_,kO a i hi,kO b i hi,rfl⟩) (by rw[decide_eq_true_iff];exact⟨O8,fun h=>by rw[h]⟩)
instance (a b:bt):zP Tryz.prog 32 (.agg (cP a)) (.agg (cP b)) (decide (a=b)):=
 (SQ 9997).eq.val rfl acQ (qx a) (qx b) (fun i k hk=>by
  have h0:k=0:=by
   have:k∈([0]++([0]++((List.replicate 16 [0]).flatten++[]))):=anc hk;simpa using this
  subst h0;have hi:i<18:=(ad2.1 hk).1
  match i,hi with
  |0,_=>exact⟨_,_,yy a,yy b,rfl⟩
  |1,_=>exact⟨_,_,yz a,yz b,rfl⟩
  |j+2,hi=>rw[avh j 2];exact⟨_,_,(qy a j).trans (kO _ j (by omega)),(qy b j).trans (kO _ j (by omega)),rfl⟩) (by rw[decide_eq_true_iff];exact⟨Pb,fun h=>by rw[h]⟩)
theorem uz:ck 0#128=(List.replicate 16 (Value.int .u8 0)).toArray:=by
 apply ave;simp only[ck];refine List.eq_replicate_iff.2 ⟨by simp,fun v hv=>?_⟩;simp only[atw]at hv;obtain⟨i,_,rfl⟩:=hv;simp[bk]
instance (n m:Int)(k:Key):nK Tryz.prog 32 [(0, .int .i64 n),(1, .int .i64 m),(2, .agg (ck k))] (.agg (cP ⟨n,m,k⟩)):=⟨fun w=>by kernel_rfl⟩
instance:eR Tryz.prog 25 (.agg (ck 0#128)):=⟨by rw[uz];kernel_rfl⟩
instance:eR Tryz.prog 32 (.agg (cP ⟨0,0,0#128⟩)):=⟨by unfold cP;rw[uz];kernel_rfl⟩
theorem acR(n:Int):pJ Tryz.prog 126 [.int .i64 n] (.bool (decide (n=32)||decide (n=128))):=⟨fun w=>by
 refine cB Tryz.func126 rfl Tryz.ntmps126 rfl ?_;refine aS ?_;refine bI rfl rfl rfl (fun hg=>(bf rfl).yl) (bI rfl rfl rfl (fun hg=>(et (aF hg rfl) rfl rfl).yl) (al ?_));refine hO (.inl rfl) (kt rfl rfl) (fun w hw=>?_);exact⟨rfl,hw.sub (as9 _)⟩⟩
instance aoa(n:Int):pJ Tryz.prog 126 [.int .i64 n] (.bool (decide (n=32)||decide (n=128))):=acR n
theorem acS(k:Key)(h:Nat)(hh:h<=16):over (ck 0#128) 0 ((ck k).extract 0 h)=ck (dU k ((8*h:Nat):Int)):=by
 refine Jp (by simp[over,gf];omega) fun i hi=>?_;have hl:((ck k).extract 0 h).size=h:=by simp[gf];omega
 rw[Cy k (8*h) i hi];simp only[over,hl,asW,atc,as3,atY]
 by_cases h1:i<h
 ·
  rw[asG (by simp[gf];omega),if_pos oM];have:=kO k i hi;simpa[h1]using this
 rw[asA (by simp[gf];omega),if_neg oM];have h2:(ck 0#128)[i]? =some (.int .u8 ((0:Nat):Int)):=by rw[kO _ i hi];simp[bk]
 simp only[aus,hl,aty,show h+(i -h)=i by omega];rw[Array.getElem?_toList,h2]
 by_cases h3:8*i<=8*h
 ·
  rw[if_pos h3,show 8 -(8*h -8*i)=8 by omega,Nat.div_eq_of_lt (jG k i),Nat.zero_mul]
 rw[if_neg h3]
theorem acT(b r:Nat)(hb:b<256)(hr:r<=8):lQ .andNot .u8 b ((255/2^r:Nat):Int)=some (.int .u8 ((b/2^(8 -r)*2^(8 -r):Nat):Int)):=by
 have hm:255/2^r<256:=aud (Nat.div_le_self _ _) oM;rw[XB hb hm];have key:b&&&(256 -1 -255/2^r)=b/2^(8 -r)*2^(8 -r):=by
  have e1:255/2^r=2^(8 -r) -1:=by
   match r,hr with
   |0,_|1,_|2,_|3,_|4,_|5,_|6,_|7,_|8,_=>rfl
   |n+9,h=>omega
  rw[e1];apply auX;intro j;have e2:256 -1 -(2^(8 -r) -1)=2^8 -(2^(8 -r) -1+1):=by omega
  rw[Nat.testBit_and,e2,Nat.testBit_two_pow_sub_succ (by have:2^(8 -r)<=2^8:=atv (by decide) oM;have:=Nat.two_pow_pos (8 -r);omega),Nat.testBit_two_pow_sub_one,Nat.testBit_mul_two_pow,auI]
  by_cases hj:8 -r<=j
  ·
   simp only[hj,show ¬j<8 -r by omega,decide_true,decide_false,auq,Bool.and_true,ath,show j -(8 -r)+(8 -r)=j by omega]
   by_cases h8:j<8
   ·
    simp[h8]
   have:b.testBit j=false:=aug (atd hb (by have:=atv (n:=2) (by decide) (show 8<=j by omega);simpa using this));simp[this]
  simp[hj,show j<8 -r by omega]
 show some (Value.int .u8 ((b&&&(256 -1 -255/2^r):Nat):Int))=_;rw[key]
theorem acU(k:Key)(n:Int)(h0:1<=n)(h1:n<128)(h2:0<n%8):(ck (dU k ((8*(n/8).toNat:Nat):Int))).setIfInBounds (n/8).toNat (.int .u8 ((bk k (n/8).toNat/2^(8 -(n%8).toNat)*2^(8 -(n%8).toNat):Nat):Int))=ck (dU k n):=by
 have hb:=jG k (n/8).toNat;rw[Yv _ _ _ oM (aud (Nat.div_mul_le_self _ _) hb)];congr 1;refine tV fun i hi=>?_;rw[Jo _ _ _ i hi (aud (Nat.div_mul_le_self _ _) hb),Cy k _ i hi];have e:dU k n=dU k ((n.toNat:Nat):Int):=by rw[atC oM]
 rw[e,Cy k n.toNat i hi]
 by_cases hj:i=(n/8).toNat
 ·
  rw[if_pos hj,if_neg oM,if_pos oM,hj,show n.toNat -8*(n/8).toNat=(n%8).toNat by omega]
 rw[if_neg hj]
 by_cases bc:i<(n/8).toNat
 ·
  rw[if_pos oM,if_pos oM]
 rw[if_neg oM,if_neg oM,if_neg oM,if_neg oM]
theorem acV(k:Key)(n:Int)(h0:1<=n)(h2: ¬0<n%8):dU k ((8*(n/8).toNat:Nat):Int)=dU k n:=by
 congr 1;omega
theorem acW(k:Key)(n:Int):pJ Tryz.prog 22 [.agg (ck k), .int .i64 n] (.agg (ck (dU k n))):=⟨fun w=>by
 refine cQ Tryz.func22 rfl Tryz.ntmps22 rfl ?_;refine Gc ?_;refine cf rfl fun b2=>bl fun b4=>au ?_;refine jt rfl (fun h0=>?_) (fun h0=>?_)
 ·
  have h0:=of_decide_eq_true h0;refine au ?_;refine hO (.inl rfl) (ER rfl rfl) (fun w hw=>?_);exact⟨by rw[O9 k n oM],hw.sub (as9 _)⟩
 have h0:=of_decide_eq_false h0;refine Gc ?_;refine bl fun b5=>au ?_;refine jt rfl (fun h1=>?_) (fun h1=>?_)
 ·
  have h1:=of_decide_eq_true h1;refine au ?_;refine hO (.inl rfl) (ER rfl rfl) (fun w hw=>?_);exact⟨by rw[Fc k n oM],hw.sub (as9 _)⟩
 have h1:=of_decide_eq_false h1;refine av ?_;refine ag (my rfl rfl oM oM) (Gs ?_);refine ky ?_;refine yk 4 [] oK oK ?_;simp only[atk,asW];refine Gq ?_;refine bC (On rfl rfl oM oM) (Gq ?_);refine bC (On rfl rfl oM oM) (wG (wH ?_));simp only[auj,atD];refine IY (vs:=(ck k).extract 0 (n/8).toNat) rfl rfl (by have e:Nat.min (n/8).toNat (n/8).toNat=(n/8).toNat:=Nat.min_self _;rw[e,Array.size_extract,gf];omega) (fun w hw j hj=>by rw[Addr.hH,hw.cell (Has.h (b:=b2)),as3];simp at hj;simp[hj]) (XG (fW.one (cs:=ck k)) _ _) (by rw[Array.size_extract,gf,gf];omega) (acS k _ oM) (av ?_);refine ag (zV rfl rfl oM oM) (aM ?_);refine jt rfl (fun h2=>?_) (fun h2=>?_)
 ·
  have h2:=of_decide_eq_true h2;refine yk 8 [] oK oK ?_;simp only[atk,asW];refine av ?_;refine bC (qv rfl rfl oM oM) (bC (zR rfl (kO _ _ oM)) (Gq ?_));refine bC (wF (p:=255) rfl rfl (by decide) oM) (bC (et rfl rfl (acT _ _ (jG _ _) oM)) (bC (qv rfl rfl oM oM) (wG (wH ?_))));simp only[auj,atD];refine eu rfl rfl (by rw[gf];omega) rfl (acU k n oM oM h2) (au ?_);refine hO (.inl rfl) (ER rfl rfl) (fun w hw=>?_);exact⟨rfl,hw.sub (as9 _)⟩
 have h2:=of_decide_eq_false h2;refine au ?_;refine hO (.inl rfl) (ER rfl rfl) (fun w hw=>?_);exact⟨by rw[acV k n oM h2],hw.sub (as9 _)⟩⟩
instance aob(k:Key)(n:Int):pJ Tryz.prog 22 [.agg (ck k), .int .i64 n] (.agg (ck (dU k n))):=acW k n
theorem acX(k:Key)(n:Int):pJ Tryz.prog 125 [.agg (ck k), .int .i64 n] (.int .i64 (je k n)):=⟨fun w=>by
 refine cQ Tryz.func125 rfl Tryz.ntmps125 rfl ?_;refine Gc ?_;refine cf rfl fun b2=>aM ?_;refine bI rfl rfl rfl (fun hg=>(bf rfl).yl) (bI rfl rfl rfl (fun hg=>(et (aF hg rfl) rfl rfl).yl) (av ?_));refine jt rfl (fun h0=>?_) (fun h0=>?_)
 ·
  simp at h0;refine al ?_;refine hO (.inl rfl) (kt rfl rfl) (fun w hw=>?_);exact⟨by rw[Yy k n oM],hw.sub (as9 _)⟩
 simp at h0;refine av ?_;refine ag (my rfl rfl oM oM) (ag (qv rfl rfl oM oM) (ag (zR rfl (kO _ _ oM)) (ag (gH rfl (atd (jG _ _) (by decide))) (al ?_))));refine ag (zV rfl rfl oM oM) (av ?_);refine jt rfl (fun h1=>?_) (fun h1=>?_)
 ·
  simp at h1;refine av ?_;refine ag (wF rfl rfl (atd (jG _ _) (by decide)) oM) (av ?_);refine hO (.inl rfl) (kt rfl rfl) (fun w hw=>?_);exact⟨by rw[YB k n oM oM oM];rfl,hw.sub (as9 _)⟩
 simp at h1;refine av ?_;refine ag (Oq (q:=15) rfl rfl rfl rfl (atd (jG _ _) (by decide)) (by decide)) (av ?_);refine hO (.inl rfl) (kt rfl rfl) (fun w hw=>?_);exact⟨by rw[YC k n oM oM oM,←Nat.and_two_pow_sub_one_eq_mod _ 4],hw.sub (as9 _)⟩⟩
instance aoc(k:Key)(n:Int):pJ Tryz.prog 125 [.agg (ck k), .int .i64 n] (.int .i64 (je k n)):=acX k n
theorem acY(p:bt):pJ Tryz.prog 57 [.agg (cP p)] (.bool (bw p)):=⟨fun w=>by
 refine cB Tryz.func57 rfl Tryz.ntmps57 rfl ?_;refine Gc ?_;refine cf rfl fun b1=>au ?_;refine eS (zT rfl) (av ?_);refine bI rfl rfl rfl (fun hg=>(aO (o':=1) rfl rfl).yl) (bI rfl rfl rfl (fun hg=>(bY (aF hg rfl)).yl) (bI rfl rfl rfl (fun hg=>(et (aF hg rfl) rfl rfl).yl) (av ?_)));refine bI rfl rfl rfl (fun hg=>(aO (o':=1) rfl rfl).yl) (bI rfl rfl rfl (fun hg=>(bY (aF hg rfl)).yl) (bI rfl rfl rfl (fun hg=>(aO (o':=0) rfl rfl).yl) (bI rfl rfl rfl (fun hg=>(bY (aF hg rfl)).yl) (bI rfl rfl rfl (fun hg=>(et (aF hg rfl) (aF hg rfl) rfl).yl) (av ?_)))));refine jt rfl (fun h0=>?_) (fun h0=>?_)
 ·
  refine al ?_;refine hO (.inl rfl) (kt rfl rfl) (fun w hw=>?_);refine⟨?_,hw.sub (as9 _)⟩;have:bw p=false:=by unfold bw;simp at h0⊢;omega
  rw[this]
 refine Gc ?_;refine gJ oK oK (Gq ?_);refine bC (hK rfl) (av ?_);refine sd (zT rfl) (Gq ?_);refine bC (hK rfl) (bC (Oj rfl rfl) (av ?_));refine hO (.inl rfl) (kt rfl rfl) (fun w hw=>?_);refine⟨?_,hw.sub (as9 _)⟩;congr 2;unfold bw;simp at h0⊢;obtain⟨⟨h1,h2⟩,h3⟩:=h0;simp[h2,h3,show p.bits=32\/p.bits=128 by omega]⟩
instance aod(p:bt):pJ Tryz.prog 57 [.agg (cP p)] (.bool (bw p)):=acY p
open Go.RowKit
def sZ(k:Key):List Int:=(List.range 16).map fun i=>(bk k i:Int)
theorem SR(k:Key)(j:Nat)(x:Int)(h:(sZ k)[j]? =some x):j<16/\x=bk k j:=by
 have hl:j<16:=by have:=(ad2.1 h).1;simpa[sZ]using this
 refine⟨hl,?_⟩;simp[sZ,hl]at h;exact h.symm
theorem acZ{x y:UInt8}{xs ys:List UInt8}:Lib.compareBytes (x::xs) (y::ys)=if x.toNat<y.toNat then -1 else if y.toNat<x.toNat then 1 else Lib.compareBytes xs ys:=by
 simp[Lib.compareBytes,UInt8.lt_iff_toNat_lt]
theorem SS(a b:Key): ∀(n i:Nat),i+n=16->(∀j,j<i->bk a j=bk b j)->
  Lib.compareBytes ((List.range' i n).map fun j=>(bk a j).toUInt8) ((List.range' i n).map fun j=>(bk b j).toUInt8)=rf a b
 |0,i,hi,hs=>by
  have:a=b:=tV fun j hj=>hs j (by omega);subst this;simp[Lib.compareBytes,rf]
 |n+1,i,hi,hs=>by
  have ha:=jG a i;have hb:=jG b i;rw[List.range'_succ,asL,asL,acZ];have ea:(bk a i).toUInt8.toNat=bk a i:=by simp;omega
  have eb:(bk b i).toUInt8.toNat=bk b i:=by simp;omega
  rw[ea,eb]
  by_cases h1:bk a i<bk b i
  ·
   rw[if_pos h1];have:=Pd (by omega) hs h1;unfold rf;rw[if_pos this]
  ·
   rw[if_neg h1]
   by_cases h2:bk b i<bk a i
   ·
    rw[if_pos h2];have:=Pd (by omega) (fun j hj=>(hs j hj).symm) h2;unfold rf;rw[if_neg (by omega),if_pos this]
   ·
    rw[if_neg h2];exact SS a b n (i+1) (by omega) fun j hj=>by
     by_cases e:j=i
     ·
      subst e;omega
     ·
      exact hs j (by omega)
theorem SU(k:Key):(⟨ByteArray.empty.data++(Lib.bytesOf (sZ k)).toArray⟩:ByteArray).data.toList=(List.range' 0 16).map fun j=>(bk k j).toUInt8:=by
 simp[Lib.bytesOf,sZ,List.range_eq_range']
theorem ac0(a b:Key)(p q:Addr)(c c':Nat)(w:World)(hp: ∀j,j<16->w.cell? (p.add j)=some (.int .u8 (bk a j)))(hq: ∀j,j<16->w.cell? (q.add j)=some (.int .u8 (bk b j))):
  Calls Tryz.prog 66 [.slice (some p) 16 c, .slice (some q) 16 c'].toArray w fun e w'=>e= .returned (.int .i64 (rf a b))/\Mem w [] w':=by
 refine z8 (args:=[_,_]) Tryz.func66 rfl Tryz.ntmps66 rfl ?_;change Cw _ _ _ _ _ [(0, .slice (some p) 16 c),(1, .slice (some q) 16 c')] [];refine EK ?_;refine EL ?_;refine ag (hG rfl) ?_;refine EI ?_;refine EN ?_;refine EK ?_;refine EL ?_;refine ag (bf rfl) ?_;refine ag (bf rfl) ?_;refine ag (v:= .int .i64 (rf a b)) ?_ ?_
 ·
  intro aa w1 ha hw;have pW: ∀j,j<16->w1.cell? (p.add j)=some (.int .u8 (bk a j)):=fun j hj=>by
   rw[←hp j hj];exact hw.below.cell (block_lt_of_cell (hp j hj))
  have hqb: ∀j,j<16->w1.cell? (q.add j)=some (.int .u8 (bk b j)):=fun j hj=>by
   rw[←hq j hj];exact hw.below.cell (block_lt_of_cell (hq j hj))
  have r1:=Lib.run_loadBytesX (P:=Tryz.prog) w1 (sZ a) p .empty (fun j x hx=>by obtain⟨h1,rfl⟩:=SR a j x hx;exact pW j h1);have r2:=Lib.run_loadBytesX (P:=Tryz.prog) w1 (sZ b) q .empty (fun j x hx=>by obtain⟨h1,rfl⟩:=SR b j x hx;exact hqb j h1);have l1:(sZ a).length=16:=by simp[sZ]
  have l2:(sZ b).length=16:=by simp[sZ]
  rw[l1]at r1;rw[l2]at r2;have e5:=ha.ev (x:= .tmp 5) (v:= .slice (some p) 16 c) rfl;have e6:=ha.ev (x:= .tmp 6) (v:= .slice (some q) 16 c') rfl;have gG:(callFunc 136 #[.slice (some p) 16 c, .slice (some q) 16 c']).run Tryz.prog w1= .ok (.value (.int .i64 (rf a b))) w1:=by
   rw[run_callFunc_extern Tryz.func136 (by kernel_rfl) (by kernel_rfl) (by kernel_rfl) (e:=Extern.BytealgCompare.compare) (by kernel_rfl)];have:(Extern.BytealgCompare.compare #[.slice (some p) 16 c, .slice (some q) 16 c']).run Tryz.prog w1= .ok (.int .i64 (rf a b)) w1:=by
    change Sem.run Tryz.prog (do pure (goInt (Extern.BytealgCompare.cmp (←Extern.Bytes.bytesOf (.slice (some p) 16 c)) (←Extern.Bytes.bytesOf (.slice (some q) 16 c'))))) w1=_;simp only[Extern.Bytes.bytesOf,Sem.run_bind,r1,r2,Sem.run_pure,Result.andThen];rw[Lib.cmp_eq,SU,SU,SS a b 16 0 rfl (fun j h=>by omega)];rfl
   rw[this];rfl
  simp[execOp,resolve,Act.eval,Deferred.ofValue,invoke]at e5 e6⊢;rw[e5,e6,gG]
 refine ag (hG rfl) ?_;refine EI ?_;refine EN ?_;refine I0 ?_;refine hO (.inl rfl) (kt rfl rfl) (fun w hw=>?_);exact⟨rfl,hw.sub (as9 _)⟩
theorem SV{w0 w:World}{L:List aj}{b:Nat}{p:bt}{T:TypeId}{i:Nat}(hw:Mem w0 L w)[hh:Has L b (cP p) T i](j:Nat)(hj:j<16):w.cell? ((⟨b,2,none⟩:Addr).add j)=some (.int .u8 (bk p.key j)):=by
 rw[Addr.hH,hw.cell hh.h,qy,kO _ j hj]
theorem Lp{p q:bt}(h1:bw p=true)(h2:bw q=true):cO p q=(if p.bits≠q.bits then decide (p.bits=32)else if p.key≠q.key then decide (p.key.toNat<q.key.toNat)else decide (p.len<q.len)):=by
 unfold cO;rw[h1,h2];rfl
theorem ac1(p q:bt):pJ Tryz.prog 58 [.agg (cP p), .agg (cP q)] (.bool (cO p q)):=⟨fun w=>by
 refine cQ Tryz.func58 rfl Tryz.ntmps58 rfl ?_;refine Gc ?_;refine cf rfl fun b2=>cf rfl fun b3=>al ?_;refine eS (zT rfl) (av ?_);refine bI rfl rfl rfl (fun hg=>(jY rfl).yl) (bI rfl rfl rfl (fun hg=>zT (eL (aF hg rfl) iV)) (bI rfl rfl rfl (fun hg=>(ng (aF hg rfl)).yl) (av ?_)));refine jt rfl (fun h0=>?_) (fun h0=>?_)
 ·
  simp at h0;refine al ?_;refine hO (.inl rfl) (kt rfl rfl) (fun w hw=>?_);refine⟨?_,hw.sub (as9 _)⟩;have:cO p q=false:=by unfold cO;cases h1:bw p<;>cases h2:bw q<;>simp_all
  rw[this]
 simp at h0;obtain⟨m1,m2⟩:=h0;refine cW ?_;refine jt rfl (fun h1=>?_) (fun h1=>?_)
 ·
  simp at h1;refine aS ?_;refine hO (.inl rfl) (kt rfl rfl) (fun w hw=>?_);exact⟨by rw[Lp m1 m2,if_pos h1],hw.sub (as9 _)⟩
 simp at h1;refine Gc ?_;refine gJ oK oK (Gq ?_);refine bC (ra rfl) (Gq ?_);refine bC (ra rfl) (sd (EG rfl (fun w hw=>ac0 p.key q.key _ _ _ _ w (SV hw) (SV hw))) (aM ?_));refine jt rfl (fun h2=>?_) (fun h2=>?_)
 ·
  simp at h2;refine aM ?_;refine hO (.inl rfl) (kt rfl rfl) (fun w hw=>?_);exact⟨by rw[Lp m1 m2,if_neg (by simpa using h1),if_pos (fun e=>h2 ((Pf _ _).2 e)),decide_eq_decide.2 (YE _ _)],hw.sub (as9 _)⟩
 simp at h2;refine eI ?_;refine hO (.inl rfl) (kt rfl rfl) (fun w hw=>?_);exact⟨by rw[Lp m1 m2,if_neg (by simpa using h1),if_neg (by simpa using(Pf _ _).1 h2)],hw.sub (as9 _)⟩⟩
instance aoe(p q:bt):pJ Tryz.prog 58 [.agg (cP p), .agg (cP q)] (.bool (cO p q)):=ac1 p q
instance aof:fq Tryz.prog 22 34 19 40:=⟨Tryz.underlying22,by kernel_rfl⟩
instance aog:fq Tryz.prog 45 47 20 48:=⟨Tryz.underlying45,by kernel_rfl⟩
instance aoh:eR Tryz.prog 53 (.slice none 0 0):=⟨by kernel_rfl⟩
instance aoi:fq Tryz.prog 53 5 1 1:=⟨Tryz.underlying53,by kernel_rfl⟩
instance aoj:fq Tryz.prog 56 180 4 48:=⟨Tryz.underlying56,by kernel_rfl⟩
instance aok:fq Tryz.prog 57 97 4 16:=⟨Tryz.underlying57,by kernel_rfl⟩
instance aol:fq Tryz.prog 60 3 1 8:=⟨Tryz.underlying60,by kernel_rfl⟩
instance aom:fq Tryz.prog 105 45 1 24:=⟨Tryz.underlying105,by kernel_rfl⟩
instance aon:fq Tryz.prog 122 225 48 384:=⟨Tryz.underlying122,by kernel_rfl⟩
instance aoo:fq Tryz.prog 178 53 1 24:=⟨Tryz.underlying178,by kernel_rfl⟩
instance aop:fq Tryz.prog 191 269 2 32:=⟨Tryz.underlying191,by kernel_rfl⟩
instance aoq:fq Tryz.prog 366 60 1 24:=⟨Tryz.underlying366,by kernel_rfl⟩
instance aor:fq Tryz.prog 396 178 1 24:=⟨Tryz.underlying396,by kernel_rfl⟩
instance aos:fq Tryz.prog 399 402 4 32:=⟨Tryz.underlying399,by kernel_rfl⟩
instance aot:fq Tryz.prog 443 433 1 8:=⟨Tryz.underlying443,by kernel_rfl⟩
instance:bm ay 19:=⟨kP,fun r=>by
 have h:(cP r.p).all (·.oneCell')=true:=(inferInstance:fW (cP r.p) 18).one;rw[ay,Array.all_append,h];simp[Value.oneCell']⟩
instance:Deep Rt:=Deep.flat ay 19
instance:fZ Rt ay 19:=⟨rfl,fun _=>rfl⟩
instance (r:Rt):fW (ay r) 19:=⟨kP r,bm.one r⟩
instance (r:Rt):nJ (ay r) 0 18 (cP r.p):=⟨qx _,fun j hj=>by rw[as3];exact pP r j hj⟩
instance (r:Rt):cc (ay r) 18 (.int .u16 r.bH.toNat):=⟨yA r⟩
instance (r:Rt):cc (ay r) 0 (.int .i64 r.p.bits):=⟨(pP r 0 (by decide)).trans (yy r.p)⟩
instance (r:Rt):cc (ay r) 1 (.int .i64 r.p.len):=⟨(pP r 1 (by decide)).trans (yz r.p)⟩
instance (r:Rt):nJ (ay r) 2 16 (ck r.p.key):=⟨gf _,fun j hj=>(pP r (2+j) (by omega)).trans (qy r.p j)⟩
theorem ac2(d:Nat):uy Tryz.prog (d+1) 27 false [0]:=⟨⟨_,Tryz.underlying27,rfl⟩,by kernel_rfl,fun _=>rfl,Lk Tryz.underlying27⟩
theorem ac3:Tryz.prog.stoodInHeld 34=false:=by kernel_rfl
theorem ac4(d:Nat):uy Tryz.prog (d+1+1+1+1) 34 true (([0]++([0]++((List.replicate 16 [0]).flatten++[])))++([0]++[])):=⟨⟨_,Tryz.underlying34,rfl⟩,by kernel_rfl,(fun h=>by cases h),
 SN Tryz.underlying34 ac3 ⟨by decide,rfl,_,_,_,rfl,SQ _,by decide,rfl,_,_,_,rfl,ac2 _,rfl⟩⟩
theorem ac5:Tryz.prog.eqGuardType Tryz.prog.depth 34=false:=by kernel_rfl
instance (a b:Rt):zP Tryz.prog 34 (.agg (ay a)) (.agg (ay b)) (decide (a=b)):=
 (ac4 9996).eq.val rfl ac5 (kP a) (kP b) (fun i k hk=>by
  have h0:k=0:=by
   have:k∈(([0]++([0]++((List.replicate 16 [0]).flatten++[])))++([0]++[])):=anc hk;simpa using this
  subst h0;have hi:i<19:=(ad2.1 hk).1
  match i,hi with
  |0,_=>exact⟨_,_,(inferInstance:cc (ay a) 0 _).h,(inferInstance:cc (ay b) 0 _).h,rfl⟩
  |1,_=>exact⟨_,_,(inferInstance:cc (ay a) 1 _).h,(inferInstance:cc (ay b) 1 _).h,rfl⟩
  |j+2,hi=>
   rcases asx j 16 with h|h
   ·
    rw[avh j 2];exact⟨_,_,(pP a _ (by omega)).trans ((qy a.p j).trans (kO _ j h)),(pP b _ (by omega)).trans ((qy b.p j).trans (kO _ j h)),rfl⟩
   obtain rfl:j=16:=by omega
   exact⟨_,_,yA a,yA b,rfl⟩) (by rw[decide_eq_true_iff];exact⟨YH,fun h=>by rw[h]⟩)
instance:nK Tryz.prog 34 [] (.agg (ay dM)):=⟨fun w=>by unfold ay cP dM;rw[uz];kernel_rfl⟩
instance (p:bt)(h:UInt16):nK Tryz.prog 34 [(0, .agg (cP p)),(1, .int .u16 h.toNat)] (.agg (ay ⟨p,h⟩)):=⟨fun w=>by kernel_rfl⟩
instance:eR Tryz.prog 34 (.agg (ay dM)):=⟨by unfold ay cP dM;rw[uz];kernel_rfl⟩
end Go.Proofs.YtkggjjnhnjjokaaGreatDoor

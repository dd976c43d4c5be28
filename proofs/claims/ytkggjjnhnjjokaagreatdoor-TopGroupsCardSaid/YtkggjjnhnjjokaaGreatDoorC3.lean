/- Part of a proof. -/
import Derived.Test.YtkggjjnhnjjokaaGreatDoorC2
import Derived.Test.YtkggjjnhnjjokaaGreatDoorC1
import Derived.DeepKeys
import Derived.Lib.BytesEntry
set_option maxRecDepth 20000
set_option linter.unusedSimpArgs false
set_option linter.unusedVariables false
namespace Go.aA
open Go.RowKit
section
variable {α:Type} {enc:α->Array Value} {c:Nat}
theorem SX{P:Program}{t tx ty e:TypeId}{cn:Nat}(ht:dH P t e c cn)[he:bc enc c]{w0 w:World}{L:List ah}{i:Nat}{s:Sv}{xs ys:List α}{x:Value}
  (hw:Mem w0 L w) (hi:L[i]? =some (own enc c s xs)) (hs:Src P c tx x ys.length (aF enc ys) w) (hn:s.nil=false) (lT:s.len+ys.length<=s.cap) (gQ:s.len+ys.length<=140737488355328):
  ∃w',(Builtin.append_ #[t,tx] ty #[s.val,x]).run P w= .ok (Sv.val {s with len:=s.len+ys.length}) w'/\Mem w0 (L.set i (own enc c {s with len:=s.len+ys.length} (xs++ys))) w':=by
 obtain⟨r,lS⟩:=hw.get hi;obtain⟨i',z,aT,az,ba,ck,kU⟩:=ht.info;subst ba ck;have hlen:=r.len;have hle:=r.ok.le;obtain⟨ft,cs,T,fz,eI,dW,kv,kV⟩:=lS hn;have hmul:(s.len+ys.length)*i'.size<=s.cap*i'.size:=Nat.mul_le_mul_right _ lT;have dC:(aF enc ys).length=ys.length*i'.size:=fM ys;have gE:s.o+s.len*i'.size+(aF enc ys).toArray.size<=cs.size:=by
  rw[List.size_toArray,dC];rw[Nat.add_mul]at hmul;omega
 have bk:=yE (P:=P) s.b (s.o+s.len*i'.size) T fz (aF enc ys) 0 cs w eI kv (by simpa using gE) hs.one;have yF:(storeCells ⟨s.b,s.o+s.len*i'.size,none⟩ (aF enc ys)).run P w= .ok () (w.setRow s.b (over cs (s.o+s.len*i'.size) (aF enc ys).toArray)):=by
  simpa[over]using bk
 refine⟨w.setRow s.b (over cs (s.o+s.len*i'.size) (aF enc ys).toArray),?_,?_⟩
 ·
  have jN:({s with len:=s.len+ys.length}:Sv).val= .slice (some ⟨s.b,s.o,s.sp⟩) (s.len+ys.length) s.cap:=Sv.fX (s:={s with len:=s.len+ys.length}) hn
  rw[Sv.fX hn,jN,ft];rcases hs.kind with⟨e',hk⟩|hk<;>simp[Builtin.append_,run_underlying ht.dB,run_underlying hk,sizeOf,typeInfo,aT,hs.len,lT,hs.cells,Addr.fm,yF]
 ·
  have cH:hp (w.setRow s.b (over cs (s.o+s.len*i'.size) (aF enc ys).toArray)) s.b=some (.cells (over cs (s.o+s.len*i'.size) (aF enc ys).toArray) T fz):=setRow_heap w s.b cs _ T fz eI;refine hw.change hi (fun k hk=>hk) (fun k hk=>?_) (by simp[World.setRow]) ⟨rfl,rfl,rfl⟩ ⟨sW ⟨(fun h=>by rw[hn]at h;cases h),lT,by simp only;omega,r.ok.sp⟩ (by simp[hlen]) cH fun k y hy j hj=>?_,fun _=>⟨ft,_,_,_,cH,?_,by rw[lQ gE];exact kv,kV⟩⟩
  ·
   exact setRow_other w s.b k _ (fun e=>hk ⟨hn,e⟩)
  ·
   rw[q7 gE]
   by_cases hk:k<xs.length
   ·
    rw[if_neg,←r.row k y (by rw[List.getElem?_append_left hk]at hy;exact hy) j hj]
    ·
     unfold lO;rw[eI]
    ·
     have:(k+1)*i'.size<=s.len*i'.size:=Nat.mul_le_mul_right _ (by omega);rw[Nat.add_mul]at this;intro h;have:=h.1;simp only at this;omega
   ·
    rw[List.getElem?_append_right (by omega)]at hy;have uH:=lR (enc:=enc) ys (k -xs.length) y hy j hj;have sX:s.len*i'.size+(k -xs.length)*i'.size=k*i'.size:=by rw[←Nat.add_mul];congr 1;omega
    have aW:(k -xs.length+1)*i'.size<=ys.length*i'.size:=Nat.mul_le_mul_right _ (by have:=(List.getElem?_eq_some_iff.1 hy).1;omega);rw[Nat.add_mul]at aW;rw[if_pos ⟨by simp only;omega,by rw[List.size_toArray,dC];simp only;omega⟩,←uH];simp only[List.getElem?_toArray];congr 1;omega
  ·
   rw[lQ gE];exact dW
theorem SY{P:Program}{w0 w:World}{L:List ah}{i:Nat}{s:Sv}{xs ys:List α}[he:bc enc c]{k:Nat}(hw:Mem w0 L w)(hi:L[i]? =some (own enc c s xs))(hn:s.nil=false)(hk:k+ys.length<=xs.length):
  ∃w',(storeCells ⟨s.b,s.o+k*c,none⟩ (aF enc ys)).run P w= .ok () w'/\Mem w0 (L.set i (own enc c s (xs.take k++(ys++xs.drop (k+ys.length))))) w':=by
 obtain⟨r,lS⟩:=hw.get hi;have hlen:=r.len;have hle:=r.ok.le;obtain⟨ft,cs,T,fz,eI,dW,kv,kV⟩:=lS hn;have hmul:(k+ys.length)*c<=s.cap*c:=Nat.mul_le_mul_right _ (by omega);have dC:(aF enc ys).length=ys.length*c:=fM ys;have gE:s.o+k*c+(aF enc ys).toArray.size<=cs.size:=by
  rw[List.size_toArray,dC];rw[Nat.add_mul]at hmul;omega
 have qi: ∀v∈aF enc ys,v.oneCell'=true:=sV ys;have bk:=yE (P:=P) s.b (s.o+k*c) T fz (aF enc ys) 0 cs w eI kv (by simpa using gE) qi;have yF:(storeCells ⟨s.b,s.o+k*c,none⟩ (aF enc ys)).run P w= .ok () (w.setRow s.b (over cs (s.o+k*c) (aF enc ys).toArray)):=by
  simpa[over]using bk
 refine⟨_,yF,?_⟩;have cH:hp (w.setRow s.b (over cs (s.o+k*c) (aF enc ys).toArray)) s.b=some (.cells (over cs (s.o+k*c) (aF enc ys).toArray) T fz):=setRow_heap w s.b cs _ T fz eI;have mR:(xs.take k++(ys++xs.drop (k+ys.length))).length=xs.length:=by simp only[List.length_append,List.length_take,List.length_drop];omega
 refine hw.change hi (fun k hk=>hk) (fun k hk=>?_) (by simp[World.setRow]) ⟨rfl,rfl,rfl⟩ ⟨sW r.ok (by rw[mR];exact hlen) cH fun m y hy j hj=>?_,fun _=>⟨ft,_,_,_,cH,?_,by rw[lQ gE];exact kv,kV⟩⟩
 ·
  exact setRow_other w s.b k _ (fun e=>hk ⟨hn,e⟩)
 ·
  rw[q7 gE];rcases Nat.lt_or_ge m k with h1|h1
  ·
   have vd:xs[m]? =some y:=by
    rw[List.getElem?_append_left (by rw[List.length_take];omega),List.getElem?_take,if_pos h1]at hy;exact hy
   rw[if_neg,←r.row m y vd j hj]
   ·
    unfold lO;rw[eI]
   ·
    have:(m+1)*c<=k*c:=Nat.mul_le_mul_right _ (by omega);rw[Nat.add_mul]at this;intro h;have:=h.1;omega
  ·
   rcases Nat.lt_or_ge m (k+ys.length)with h2|h2
   ·
    have vd:ys[m -k]? =some y:=by
     rw[List.getElem?_append_right (by rw[List.length_take];omega),List.length_take,Nat.min_eq_left (by omega),List.getElem?_append_left (by omega)]at hy;exact hy
    have uH:=lR (enc:=enc) ys (m -k) y vd j hj;have sX:k*c+(m -k)*c=m*c:=by rw[←Nat.add_mul];congr 1;omega
    have aW:(m -k+1)*c<=ys.length*c:=Nat.mul_le_mul_right _ (by omega);rw[Nat.add_mul]at aW;rw[if_pos ⟨by omega,by rw[List.size_toArray,dC];omega⟩,←uH];simp only[List.getElem?_toArray];congr 1;omega
   ·
    have vd:xs[m]? =some y:=by
     rw[List.getElem?_append_right (by rw[List.length_take];omega),List.length_take,Nat.min_eq_left (by omega),List.getElem?_append_right (by omega),List.getElem?_drop]at hy;rw[←hy];congr 1;omega
    rw[if_neg,←r.row m y vd j hj]
    ·
     unfold lO;rw[eI]
    ·
     have:(k+ys.length)*c<=m*c:=Nat.mul_le_mul_right _ h2;rw[Nat.add_mul]at this;intro h;have:=h.2;rw[List.size_toArray,dC]at this;omega
 ·
  rw[lQ gE];exact dW
end
section
variable {P:Program} {N:bW} {w0:World} {env:Env} {L:List ah} {l:List Oper} {Q:Exit->Act->World->Prop} {rest:List Oper} {d:Option Tmp} {ty:TypeId} {ps:String} {af:Array Edge} {gd:Option (Nat×Bool)} {K:Value->List ah->Prop}
variable {α:Type} {enc:α->Array Value} {c:Nat} {s:Sv} {xs ys:List α}
theorem SZ{t tx e:TypeId}{x y:Operand}{yv:Value}{cn i:Nat}[ht:dH P t e c cn][he:bc enc c](hx:ev env x=some s.val)(hy:ev env y=some yv)[q:dN L s enc c xs i]
  (hs: ∀w,Mem w0 L w->Src P c tx yv ys.length (aF enc ys) w) (hn:s.nil=false) (lT:s.len+ys.length<=s.cap) (gQ:s.len+ys.length<=140737488355328) {L':List ah} [hu:dX L i (own enc c {s with len:=s.len+ys.length} (xs++ys)) L']
  (hk:K (Sv.val {s with len:=s.len+ys.length}) L'):
  fN P N w0 env L ⟨d, .call {callee:= .builtin .append,args:= #[x,y],argTypes:= #[t,tx]},ty,ps,af,gd⟩ K:=
 tg fun a w ha hw=>by
  obtain⟨w',h1,h4⟩:=SX (ty:=ty) ht hw q.h (hs w hw) hn lT gQ;refine⟨_,w',L',?_,by rw[←hu.h];exact h4,hk⟩;simp[execOp,ha.ev hx,ha.ev hy,resolve,invoke,builtin,h1,Result.andThen]
theorem S0{t tx e:TypeId}{x y:Operand}{yv:Value}{cn i:Nat}[ht:dH P t e c cn][he:bc enc c](hx:ev env x=some s.val)(hy:ev env y=some yv)[q:dN L s enc c xs i]
  (hs: ∀w,Mem w0 L w->Src P c tx yv ys.length (aF enc ys) w) (hn:s.nil=false) (lT:s.len+ys.length<=s.cap) (gQ:s.len+ys.length<=140737488355328) {L':List ah} [hu:dX L i (own enc c {s with len:=s.len+ys.length} (xs++ys)) L']
  (hk:Sq P N w0 l Q rest (cd env d (Sv.val {s with len:=s.len+ys.length})) L') (hd:cO N d=true:=by rfl):
  Sq P N w0 l Q (⟨d, .call {callee:= .builtin .append,args:= #[x,y],argTypes:= #[t,tx]},ty,ps,af,none⟩::rest) env L:=
 JO rfl hd (SZ hx hy hs hn lT gQ hk)
theorem KK{D S rm:Sv}{x y:Operand}{tx eW e:TypeId}{i k:Nat}{ys:List α}[he:bc enc c](hx:ev env x=some D.val)(lY:D.nil=false)(lZ:D.sp=none)(nr:D.b=rm.b)(pg:D.o=rm.o+k*c)(hy:ev env y=some S.val)[ht:dA P tx e c][q:dN L rm enc c xs i][hS:Hd w0 L S enc c ys](hc:0<c)(hn:rm.nil=false)(h0:0<ys.length)(hl:ys.length<=D.len)(iu:k+ys.length<=xs.length)
  {L':List ah} [hu:dX L i (own enc c rm (xs.take k++(ys++xs.drop (k+ys.length)))) L'] (hk:K (.int .i64 ys.length) L'):
  fN P N w0 env L ⟨d, .call {callee:= .builtin .copy,args:= #[x,y],argTypes:= #[tx,eW]},ty,ps,af,gd⟩ K:=
 tg fun a w ha hw=>by
  have hs:=hS.h w hw;have y9:=hs.some h0;have kA:=hs.len;have za:=hs.ok.sp (by have:=hs.ok.le;omega);rw[Sv.fX lY,lZ,nr,pg]at hx;rw[Sv.fX y9,za]at hy;obtain⟨w',h1,h2⟩:=SY (P:=P) hw q.h hn iu;rw[hu.h]at h2;refine⟨_,w',L',?_,h2,hk⟩;have BY:=run_loadCells_list (P:=P) w ⟨S.b,S.o,none⟩ (aF enc ys) (fun j v hj=>by
   obtain⟨z,hz,hv⟩:=AY hc hj;rw[Addr.fm,pZ,←hv,←hs.row _ z hz (j%c) (Nat.mod_lt _ hc)];congr 1;have:=Nat.div_add_mod j c;rw[Nat.mul_comm]at this;omega)
  rw[fM]at BY
  cases hq:P.info? e with
  |none=>have:=ht.size;simp[hq]at this
  |some i'=>
   have hi:i'.size=c:=by have:=ht.size;simpa[hq]using this
   have yq:Nat.min S.len D.len=ys.length:=by rw[kA];exact Nat.min_eq_left hl
   have eU:(Builtin.copy_ #[tx,eW] ty #[.slice (some ⟨rm.b,rm.o+k*c,none⟩) D.len D.cap, .slice (some ⟨S.b,S.o,none⟩) S.len S.cap]).run P w= .ok (goInt ys.length) w':=by
    simp[Builtin.copy_,run_underlying ht.dB,Builtin.lenOf,Builtin.firstCells,sizeOf,typeInfo,hq,hi,yq,BY,h1]
   simp[execOp,ha.ev hx,ha.ev hy,resolve,invoke,builtin,eU,Result.andThen,goInt]
theorem S1{D S rm:Sv}{x y:Operand}{tx eW e:TypeId}{i k:Nat}{ys:List α}[he:bc enc c](hx:ev env x=some D.val)(lY:D.nil=false)(lZ:D.sp=none)(nr:D.b=rm.b)(pg:D.o=rm.o+k*c)(hy:ev env y=some S.val)[ht:dA P tx e c][q:dN L rm enc c xs i][hS:Hd w0 L S enc c ys](hc:0<c)(hn:rm.nil=false)(h0:0<ys.length)(hl:ys.length<=D.len)(iu:k+ys.length<=xs.length)
  {L':List ah} [hu:dX L i (own enc c rm (xs.take k++(ys++xs.drop (k+ys.length)))) L'] (hk:Sq P N w0 l Q rest (cd env d (.int .i64 ys.length)) L') (hd:cO N d=true:=by rfl):
  Sq P N w0 l Q (⟨d, .call {callee:= .builtin .copy,args:= #[x,y],argTypes:= #[tx,eW]},ty,ps,af,none⟩::rest) env L:=
 JO rfl hd (KK hx lY lZ nr pg hy hc hn h0 hl iu hk)
end
theorem Mem.w4{w0 w:World}{L:List ah}{e:ah}{es:List ah}(h:Mem w0 (e::ah.all es::L) w):Mem w0 (ah.all (es++[e])::L) w:=by
 have h1:Mem w0 (ah.all (e::es)::L) w:=Mem.EX h;rw[Mem.yJ]at h1⊢;exact h1.perm ((List.perm_append_singleton e es).symm.append_right L)
theorem Mem.BZ{w0 w:World}{L:List ah}{e e':ah}(hf: ∀k,e'.fp k->e.fp k)(hs:(e.sat fun k=>w.heap[k]?)->e'.sat fun k=>w.heap[k]?)(h:Mem w0 (e::L) w):Mem w0 (e'::L) w:=by
 have hd:=List.pairwise_cons.1 h.mA;refine⟨h.below,fun x he=>?_,fun x he k hk=>?_,List.pairwise_cons.2 ⟨fun y hy k hk=>hd.1 y hy k (hf k hk),hd.2⟩⟩
 ·
  rcases List.mem_cons.1 he with rfl|he
  ·
   exact hs (h.sat e (by simp))
  exact h.sat x (by simp[he])
 rcases List.mem_cons.1 he with rfl|he
 ·
  exact h.hM e (by simp) k (hf k hk)
 exact h.hM x (by simp[he]) k hk
end Go.aA
namespace Go.Kb
open Go.aA
theorem KL{w0 w:World}{L:List ah}{s rm:Sv}{l:List (List UInt8)}{xs:List (Sl UInt8)}(hx:xs=cQ rm 0 l)(hn:rm.nil=false)(h:Mem w0 (own (bP (τ:=UInt8)) 1 s xs::own aJ 1 rm l.flatten::L) w):Mem w0 (dP ⟨s,xs⟩::L) w:=by
 have ht:aG xs=l:=by rw[hx,tp]
 have h1:=h.perm (List.Perm.swap _ _ _);have h2:Mem w0 (wX ⟨s,xs⟩::own (bP (τ:=UInt8)) 1 s xs::L) w:=Mem.BZ (fun k hk=>by
  obtain⟨x,uY,rfl⟩:=hk;exact⟨hn,BS rm 0 l x (hx▸uY)⟩) (fun hs=> .inr ⟨rm,hn,by simp only[ht];exact hx,by simp only[ht];exact hs⟩) h1
 exact Mem.wv.2 (h2.perm (List.Perm.swap _ _ _))
theorem S2{w0 w:World}{L:List ah}{s:Sv}(h:Mem w0 (own (bP (τ:=UInt8)) 1 s []::L) w):Mem w0 (dP ⟨s,[]⟩::L) w:=by
 refine Mem.wv.2 (Mem.perm (Mem.BZ (e:= .emp) (e':=wX ⟨s,[]⟩) (fun k hk=>?_) (fun _=> .inl rfl) (Mem.yI.2 h)) (List.Perm.swap _ _ _));obtain⟨x,hx,_⟩:=hk
 cases hx
theorem S3{w0 w:World}{L:List ah}{a:Sl (Sl UInt8)}(ct:a.xs≠[])(h:Mem w0 (dP a::L) w): ∃rm:Sv,(rm.nil=false/\rm.sp=none/\a.xs=cQ rm 0 (aG a.xs))/\Mem w0 (own (bP (τ:=UInt8)) 1 a.sv a.xs::own aJ 1 rm (aG a.xs).flatten::L) w:=by
 have h1:=Mem.wv.1 h;have hr:=h1.sat (wX a) (by simp);rcases hr with hr|⟨rm,g1,g2,g3⟩
 ·
  exact absurd hr ct
 refine⟨rm,⟨g1,(g3.2 g1).1,g2⟩,?_⟩;have h2:=h1.perm (List.Perm.swap _ _ _);obtain⟨x,l,Ff⟩:=List.exists_cons_of_ne_nil ct;have hm:x∈a.xs:=by rw[Ff];simp
 have hb:x.sv.b=rm.b:=BS rm 0 _ x (g2▸hm);exact(Mem.BZ (e:=wX a) (e':=own aJ 1 rm (aG a.xs).flatten) (fun k hk=>⟨x,hm,by rw[hb];exact hk.2⟩) (fun _=>g3) h2).perm (List.Perm.swap _ _ _)
theorem B2: ∀{l:List (List UInt8)} {i:Nat} {q r:List UInt8},l[i]? =some q->r.length=q.length->(l.set i r).flatten=l.flatten.take (l.take i).flatten.length++(r++l.flatten.drop ((l.take i).flatten.length+r.length))
 |y::l,0,q,r,h,hr=>by
  obtain rfl:y=q:=by simpa using h
  simp[hr]
 |y::l,i+1,q,r,h,hr=>by
  have:=B2 (l:=l) (i:=i) (q:=q) (r:=r) (by simpa using h) hr;simp only[List.set_cons_succ,List.flatten_cons,this,List.take_succ_cons,List.length_append];rw[List.take_length_add_append,Nat.add_assoc,List.drop_length_add_append,List.append_assoc]
theorem B3{rm:Sv}: ∀{o:Nat} {l:List (List UInt8)} {i:Nat} {q:List UInt8},l[i]? =some q->(cQ rm o l)[i]? =some ⟨win rm (o+(l.take i).flatten.length) (o+(l.take i).flatten.length+q.length),q⟩
 |o,y::l,0,q,h=>by
  obtain rfl:y=q:=by simpa using h
  simp[cQ]
 |o,y::l,i+1,q,h=>by
  have:=B3 (rm:=rm) (o:=o+y.length) (l:=l) (i:=i) (q:=q) (by simpa using h);simp only[cQ,List.getElem?_cons_succ,this,List.take_succ_cons,List.flatten_cons,List.length_append,Nat.add_assoc]
def Fg(l:List (List UInt8)):Prop:=l.length<=1000000/\l.flatten.length<=1000000
theorem zk{l:List (List UInt8)}{i:Nat}{q:List UInt8}(h:l[i]? =some q):(l.take (i+1)).flatten.length=(l.take i).flatten.length+q.length:=by
 rw[List.take_add_one,h];simp
theorem zl(l:List (List UInt8))(i:Nat):(l.take i).flatten.length<=l.flatten.length:=by
 have:l.flatten=(l.take i).flatten++(l.drop i).flatten:=by rw[←List.flatten_append,List.take_append_drop]
 rw[this,List.length_append];omega
theorem S4{rm:Sv}{l:List (List UInt8)}{n i:Nat}{r q:List UInt8}(hn:n=l.length)(hr:r=(l.take i).flatten)(h:l[i]? =some q):(cQ rm 0 (l.take i)++List.replicate (n -i) (⟨Sv.none,[]⟩:Sl UInt8)).set i ⟨win rm r.length (r.length+q.length),q⟩=cQ rm 0 (l.take (i+1))++List.replicate (n -(i+1)) (⟨Sv.none,[]⟩:Sl UInt8):=by
 have hi:=(List.getElem?_eq_some_iff.1 h).1;have hl:(cQ rm 0 (l.take i)).length=i:=by rw[Fc,List.length_take];omega
 rw[List.set_append_right _ _ (by omega),hl,Nat.sub_self,List.take_add_one,h,show n -i=n -(i+1)+1 by omega,List.replicate_succ,List.set_cons_zero];simp only[Option.toList_some];rw[KF,hr,Nat.zero_add,List.append_assoc,List.singleton_append]
theorem l8{w0 w:World}{L:List ah}(d:Cp)(h:Mem w0 (own bK 4 d.blocks.sv d.blocks.xs::ah.all (d.blocks.xs.map fun b:Bk=>dP b.ae)::own cZ 4 d.bb.sv d.bb.xs::L) w):Mem w0 (fz d::L) w:=
 BW ((KI (a:=d.bb) ((SV h).perm (List.Perm.swap _ _ _))).perm (List.Perm.swap _ _ _))
theorem Fh{α:Type}{enc:α->Array Value}{c:Nat}{s:Sv}{xs ys:List α}{w0 w:World}{L:List ah}(e:xs.map enc=ys.map enc)(h:Mem w0 (own enc c s xs::L) w):Mem w0 (own enc c s ys::L) w:=
 Mem.BZ (e:=own enc c s xs) (fun _ hk=>hk) (fun hs=>⟨⟨hs.1.ok,by have:=congrArg List.length e;simp only[List.length_map]at this;rw[←this];exact hs.1.len,fun i y hy j hj=>by
  have h1:(xs.map enc)[i]? =(ys.map enc)[i]? :=by rw[e]
  rw[List.getElem?_map,List.getElem?_map,hy]at h1
  cases hx:xs[i]?with
  |none=>rw[hx]at h1;cases h1
  |some x=>
   rw[hx]at h1;have h2:enc x=enc y:=by simpa using h1
   have:=hs.1.row i x hx j hj;rw[h2]at this;exact this⟩,hs.2⟩) h
theorem B4{w0 w:World}{L:List ah}{s sp rm:Sv}{xs:List Bk}{i:Nat}{B B':Bk}{ps:List (Sl UInt8)}{l:List (List UInt8)}(hi:i<xs.length)(hp:ps.map (fun x=>x.sv)=(cQ rm 0 l).map (fun x=>x.sv))(hn:rm.nil=false)(hc:bK B=bK B')(hB:B'.ae=⟨sp,cQ rm 0 l⟩)
  (h:Mem w0 (own (bP (τ:=UInt8)) 1 sp ps::own aJ 1 rm l.flatten::own bK 4 s (xs.set i B)::ah.all ((xs.eraseIdx i).map fun b:Bk=>dP b.ae)::L) w):Mem w0 (own bK 4 s (xs.set i B')::ah.all ((xs.set i B').map fun b:Bk=>dP b.ae)::L) w:=by
 have h1:Mem w0 (own (bP (τ:=UInt8)) 1 sp (cQ rm 0 l)::own aJ 1 rm l.flatten::own bK 4 s (xs.set i B)::ah.all ((xs.eraseIdx i).map fun b:Bk=>dP b.ae)::L) w:=Fh (by
  have:=congrArg (List.map fun v:Sv=>(#[v.val]:Array Value)) hp;rw[List.map_map,List.map_map]at this;exact this) h
 have h2:=KL (xs:=cQ rm 0 l) rfl hn h1;rw[←hB]at h2;have h3:=Fh (ys:=xs.set i B') (by rw[List.map_set,List.map_set,hc]) (h2.perm (List.Perm.swap _ _ _));have h4:Mem w0 (dP B'.ae::ah.all (((xs.set i B').eraseIdx i).map fun b:Bk=>dP b.ae)::own bK 4 s (xs.set i B')::L) w:=by
  rw[List.eraseIdx_set_eq];exact h3.perm ((List.Perm.swap _ _ _).trans (List.Perm.cons _ (List.Perm.swap _ _ _)))
 have h5:=(Mem.pick (f:=fun b:Bk=>dP b.ae) (xs:=xs.set i B') (i:=i) (x:=B') (by rw[List.getElem?_set_self hi])).2 h4;exact h5.perm (List.Perm.swap _ _ _)
theorem KM{w0 w:World}{L:List ah}{s:Sv}{xs:List Bk}{i:Nat}{B:Bk}(hB:xs[i]? =some B)(ct:B.ae.xs≠[])(h:Mem w0 (own bK 4 s xs::ah.all (xs.map fun b:Bk=>dP b.ae)::L) w):
  ∃rm:Sv,(rm.nil=false/\rm.sp=none/\B.ae.xs=cQ rm 0 (aG B.ae.xs))/\Mem w0 (own (bP (τ:=UInt8)) 1 B.ae.sv B.ae.xs::own aJ 1 rm (aG B.ae.xs).flatten::own bK 4 s xs::ah.all ((xs.eraseIdx i).map fun b:Bk=>dP b.ae)::L) w:=by
 have h1:=(Mem.pick (f:=fun b:Bk=>dP b.ae) hB).1 (h.perm (List.Perm.swap _ _ _));obtain⟨rm,hr,h2⟩:=S3 ct h1;refine⟨rm,hr,h2.perm (List.Perm.cons _ (List.Perm.cons _ (List.Perm.swap _ _ _)))⟩
end Go.Kb
namespace Go.aA
section
variable {P:Program} {N:bW} {w0:World} {env:Env} {L:List ah} {d:Option Tmp} {ty:TypeId} {ps:String} {af:Array Edge} {gd:Option (Nat×Bool)} {x y:Operand} {t u:TypeId}
theorem KN{a b:UInt8}(hx:ev env x=some (.int .u8 a.toNat))(hy:ev env y=some (.int .u8 b.toNat)):
  Ry P N w0 env L ⟨d, .binOp .or t x y u,ty,ps,af,gd⟩ (.int .u8 (a|||b).toNat):=by
 have ha:=a.toNat_lt;have hb:=b.toNat_lt;rw[UInt8.toNat_or];exact yy hx hy rfl rfl (by simp only[nb];omega) (by simp only[nb];omega)
theorem S5: ∀n,n<256->(255^^^n:Nat)=255 -n:=by decide+kernel
theorem S6{p q:Nat}(hp:p<2^nb .u8)(hq:q<2^nb .u8):Op.intBits .xor .u8 (p:Int) (q:Int)=(pure (.int .u8 ((p^^^q:Nat):Int)):Sem Value):=by
 simp only[Op.intBits,wg,BitVec.toNat_xor,BitVec.toNat_ofNat,Nat.mod_eq_of_lt (n5 hp),Nat.mod_eq_of_lt (n5 hq)];rw[nk (Nat.xor_lt_two_pow hp hq)]
theorem S7{a:UInt8}(hx:ev env x=some (.int .u8 a.toNat)):
  Ry P N w0 env L ⟨d, .unOp .xor t x,ty,ps,af,gd⟩ (.int .u8 (~~~a).toNat):=fun aa w ha _=>by
 have e:(Op.intBits .xor .u8 255 (a.toNat:Int))=(pure (.int .u8 ((~~~a).toNat:Int)):Sem Value):=by
  have h3:=a.toNat_lt;have h4:(~~~a).toNat=255 -a.toNat:=UInt8.toNat_not a;have h5:(255^^^a.toNat:Nat)=255 -a.toNat:=S5 a.toNat h3;have hp:(255:Nat)<2^nb .u8:=by decide
  have hq:a.toNat<2^nb .u8:=h3;have hx:=S6 hp hq;rw[h5]at hx;rw[h4];exact hx
 simp only[execOp,ha.ev hx,Op.unary,Sem.run_bind,Result.andThen];rw[show(if IntKind.u8.signed=true then(-1:Int)else IntKind.u8.max)=255 by decide,e];rfl
end
open Go.RowKit
section
variable {P:Program} {N:bW} {w0:World} {env:Env} {L:List ah} {l:List Oper} {Q:Exit->Act->World->Prop} {rest:List Oper} {d:Option Tmp} {ty:TypeId} {ps:String} {af:Array Edge} {gd:Option (Nat×Bool)} {K:Value->List ah->Prop}
variable {α:Type} {enc:α->Array Value} {c:Nat}
theorem S8{β:Type}{l:List β}{i:Nat}{z:β}(h:l[i]? =some z):l.set i z=l:=by
 obtain⟨hi,rfl⟩:=List.getElem?_eq_some_iff.1 h;exact List.set_getElem_self hi
theorem S9{D S:Sv}{x y:Operand}{tx eW e:TypeId}(hx:ev env x=some D.val)(hy:ev env y=some S.val)[ht:dA P tx e c][hS:Hd w0 L S enc c []](hk:K (.int .i64 0) L):
  fN P N w0 env L ⟨d, .call {callee:= .builtin .copy,args:= #[x,y],argTypes:= #[tx,eW]},ty,ps,af,gd⟩ K:=
 tg fun a w ha hw=>by
  have hs:=hS.h w hw;have kA:S.len=0:=hs.len;obtain⟨ad,len,cap,e1⟩:=S.ex;have el:len=S.len:=by
   cases hn:S.nil with
   |true=>rw[Sv.pY hn]at e1;have:=hs.ok.nil hn;cases e1;omega
   |false=>rw[Sv.fX hn]at e1;cases e1;rfl
  obtain⟨KO,KP,Ta,e2⟩:=D.ex;refine⟨_,w,L,?_,hw,hk⟩
  cases hq:P.info? e with
  |none=>have:=ht.size;simp[hq]at this
  |some i'=>
   rw[e1]at hy;rw[e2]at hx;have Tb:len=0:=by omega
   have eU:(Builtin.copy_ #[tx,eW] ty #[.slice KO KP Ta, .slice ad len cap]).run P w= .ok (goInt 0) w:=by
    have BY: ∀v:Addr,(loadCells v 0).run P w= .ok #[] w:=fun v=>by
     have:=run_loadCells_list (P:=P) w v [] (fun j v hj=>by simp at hj);simpa using this
    have bk: ∀v:Addr,(storeCells v []).run P w= .ok () w:=fun v=>rfl
    cases KO<;>cases ad<;>simp[Builtin.copy_,run_underlying ht.dB,Builtin.lenOf,Builtin.firstCells,sizeOf,typeInfo,hq,Tb,BY,bk]
   simp[execOp,ha.ev hx,ha.ev hy,resolve,invoke,builtin,eU,Result.andThen,goInt]
theorem Fi{D S rm:Sv}{x y:Operand}{tx eW e:TypeId}{i k:Nat}{xs ys:List α}[he:bc enc c](hx:ev env x=some D.val)(lY:D.nil=false)(lZ:D.sp=none)(nr:D.b=rm.b)(pg:D.o=rm.o+k*c)(hy:ev env y=some S.val)[ht:dA P tx e c][q:dN L rm enc c xs i][hS:Hd w0 L S enc c ys](hc:0<c)(hn:rm.nil=false)(hl:ys.length<=D.len)(iu:k+ys.length<=xs.length)
  {L':List ah} [hu:dX L i (own enc c rm (xs.take k++(ys++xs.drop (k+ys.length)))) L'] (hk:K (.int .i64 ys.length) L'):
  fN P N w0 env L ⟨d, .call {callee:= .builtin .copy,args:= #[x,y],argTypes:= #[tx,eW]},ty,ps,af,gd⟩ K:=by
 by_cases h0:ys=[]
 ·
  subst h0;have e1:xs.take k++([]++xs.drop (k+([]:List α).length))=xs:=by simp
  have e2:L'=L:=by
   rw[←hu.h,e1];exact S8 q.h
  exact S9 (c:=c) (enc:=enc) hx hy (by rw[e2]at hk;exact hk)
 ·
  exact KK hx lY lZ nr pg hy hc hn (List.length_pos_iff.2 h0) hl iu hk
end
end Go.aA
namespace Go.Kb
open Go.aA
def du(c:Cp):Prop:=c.blocks.xs.length<=1000000/\c.bb.xs.length<=1000000/\ ∀b∈c.blocks.xs,Fg (aG b.ae.xs)
theorem w5{α:Type}{l:List α}{i:Nat}{z:α}(h:l[i]? =some z):l.set i z=l:=by
 obtain⟨hi,rfl⟩:=List.getElem?_eq_some_iff.1 h;exact List.set_getElem_self hi
theorem ve(l:List Bk)(i:Nat)(b:Bk):gx (l.set i b)=(gx l).set i (bv b):=by simp[gx,List.map_set]
theorem Tc{zs:List Bk}{i:Nat}{z z':Bk}(h:zs[i]? =some z):((zs.take i).map fun b:Bk=>dP b.ae)++[dP z'.ae]=((zs.set i z').take (i+1)).map fun b:Bk=>dP b.ae:=by
 have hi:=(List.getElem?_eq_some_iff.1 h).1;rw[List.take_add_one,List.getElem?_set_self hi,List.take_set_of_le (Nat.le_refl _),List.map_append];rfl
theorem Td{c:CV}(h: ∀f∈c.bb,f.op≠c.ops):bB c=(wW,false):=by
 have:c.bb.find? (fun f=>decide (f.op=c.ops))=none:=List.find?_eq_none.2 fun f hf=>by simpa using h f hf
 rw[bB,this]
theorem Te{c:CV}{i:Nat}{f:Ft}(hf:c.bb[i]? =some f)(h: ∀j g,j<i->c.bb[j]? =some g->g.op≠c.ops)(he:f.op=c.ops):bB c=(f,f.cut||f.fail):=by
 have:c.bb.find? (fun f=>decide (f.op=c.ops))=some f:=by
  rw[List.find?_eq_some_iff_getElem];obtain⟨hi,rfl⟩:=List.getElem?_eq_some_iff.1 hf;exact⟨by simpa using he,i,hi,rfl,fun j hj=>by
   simpa using h j (c.bb[j]'(by omega)) hj (List.getElem?_eq_getElem (by omega))⟩
 rw[bB,this]
theorem KQ: ∀l:List (List UInt8),(∀x∈l,x.length<=256)->(l.map List.length).sum<=l.length*256
 |[],_=>by simp
 |x::l,hl=>by
  have h1:=KQ l fun y hy=>hl y (List.mem_cons_of_mem _ hy);have h2:=hl x List.mem_cons_self;simp only[List.map_cons,List.sum_cons,List.length_cons];omega
theorem qo{c:Cp}(h:aX (cv c)=true):du c:=by
 obtain⟨h1,h2,h3,h4,h5⟩:=dZ.1 h;obtain⟨s1,s2,s3,s4,s5,s6⟩:=jT.1 h1;simp only[cv,fw]at*;refine⟨by omega,by omega,fun b hb=>?_⟩;have g:=fO.1 (h5 (bv b) (List.mem_map_of_mem hb));simp only[bv]at g;have hf:(aG b.ae.xs).flatten.length<=(aG b.ae.xs).length*256:=by
  rw[List.length_flatten];exact KQ _ fun x hx=>by have:=g.2.2.2.2.2 x hx;omega
 exact⟨by omega,by omega⟩
theorem Fj{rm:Sv}: ∀{o:Nat} {l l':List (List UInt8)},l.map List.length=l'.map List.length->(cQ rm o l).map (fun x=>x.sv)=(cQ rm o l').map (fun x=>x.sv)
 |_,[],[],_=>rfl
 |_,[],_::_,h=>by simp at h
 |_,_::_,[],h=>by simp at h
 |o,p::l,p'::l',h=>by
  simp only[List.map_cons,List.cons.injEq]at h;have:=Fj (rm:=rm) (o:=o+p'.length) h.2;simp only[cQ,List.map_cons,h.1,this]
theorem Tf{rm:Sv}{l:List (List UInt8)}{i:Nat}{q r:List UInt8}(h:l[i]? =some q)(hr:r.length=q.length):(cQ rm 0 l).map (fun x=>x.sv)=(cQ rm 0 (l.set i r)).map (fun x=>x.sv):=Fj (by
 rw[List.map_set,hr,w5];rw[List.getElem?_map,h];rfl)
theorem w6: ∀{l:List (List UInt8)} {i j:Nat} {q:List UInt8},l[i]? =some q->j<q.length->l.flatten[(l.take i).flatten.length+j]? =q[j]?
 |y::l,0,j,q,h,hj=>by
  obtain rfl:y=q:=by simpa using h
  simp only[List.take_zero,List.flatten_nil,List.length_nil,Nat.zero_add,List.flatten_cons];rw[List.getElem?_append_left hj]
 |y::l,i+1,j,q,h,hj=>by
  have:=w6 (l:=l) (i:=i) (j:=j) (q:=q) (by simpa using h) hj;simp only[List.take_succ_cons,List.flatten_cons,List.length_append];rw[Nat.add_assoc,List.getElem?_append_right (by omega),Nat.add_sub_cancel_left,this]
theorem KR: ∀{l:List (List UInt8)} {i j:Nat} {q:List UInt8} {v:UInt8},l[i]? =some q->j<q.length->l.flatten.set ((l.take i).flatten.length+j) v=(l.set i (q.set j v)).flatten
 |y::l,0,j,q,v,h,hj=>by
  obtain rfl:y=q:=by simpa using h
  simp only[List.take_zero,List.flatten_nil,List.length_nil,Nat.zero_add,List.flatten_cons,List.set_cons_zero];rw[List.set_append_left _ _ hj]
 |y::l,i+1,j,q,v,h,hj=>by
  have:=KR (l:=l) (i:=i) (j:=j) (q:=q) (v:=v) (by simpa using h) hj;simp only[List.take_succ_cons,List.flatten_cons,List.length_append,List.set_cons_succ];rw[Nat.add_assoc,List.set_append_right _ _ (by omega),Nat.add_sub_cancel_left,this]
theorem Fk{l:List (List UInt8)}{i:Nat}{r:List UInt8}:(l.set i r).take i=l.take i:=List.take_set_of_le (Nat.le_refl _)
theorem w7{rm:Sv}{lo n:Nat}(h:0<n):(win rm lo (lo+n)).o=rm.o+lo:=by
 simp only[win];rw[if_neg (by omega)]
theorem B5{rm:Sv}{lo n:Nat}(hn:rm.nil=false)(hs:rm.sp=none)(hb:n<=1000000):(win rm lo (lo+n)).Ok:=
 ⟨fun h=>absurd (hn.symm.trans h) (by decide),Nat.le_refl _,by simp only[win];omega,fun _=>hs⟩
theorem KS{c:CV}{x:Cp}{B:Bk}{b g:Int}{q:List UInt8}{rm:Sv}{off:Bool}(hx:cv x=c)(hB:bv B=aI c b):
  cv ⟨x.ae,x.size,⟨x.blocks.sv,x.blocks.xs.set b.toNat ⟨⟨B.ae.sv,cQ rm 0 ((aG B.ae.xs).set g.toNat q)⟩,B.used+1,B.bo,B.bad⟩⟩,x.ops+1,off,x.bb⟩={c with ops:=c.ops+1,off:=off,blocks:=c.blocks.set b.toNat {aI c b with used:=(aI c b).used+1,ae:=(aI c b).ae.set g.toNat q}}:=by
 subst hx;rw[←hB];simp only[cv,ve,bv,tp]
theorem Tg{m:UInt8}{xs:List UInt8}{i:Nat}{z:UInt8}(h:xs[i]? =some z):(cG m (xs.take i)++xs.drop i).set i (z|||m)=cG m (xs.take (i+1))++xs.drop (i+1):=by
 have hi:=(List.getElem?_eq_some_iff.1 h).1;have hl:(cG m (xs.take i)).length=i:=by rw[cG,List.length_map,List.length_take];omega
 rw[List.set_append_right _ _ (by omega),hl,Nat.sub_self,List.drop_eq_getElem_cons hi,List.set_cons_zero,List.take_add_one,h,cG,cG,List.map_append,List.append_assoc];rfl
theorem KT{m:UInt8}{xs:List UInt8}{i:Nat}(h:i<xs.length):(cG m (xs.take i)++xs.drop i)[i]? =xs[i]? :=by
 have hl:(cG m (xs.take i)).length=i:=by rw[cG,List.length_map,List.length_take];omega
 rw[List.getElem?_append_right (by omega),hl,Nat.sub_self,List.getElem?_drop,Nat.add_zero]
theorem Fl{m:UInt8}{xs:List UInt8}{i:Nat}(h:i<=xs.length):(cG m (xs.take i)++xs.drop i).length=xs.length:=by
 rw[cG,List.length_append,List.length_map,List.length_take,List.length_drop];omega
theorem KU{T:List (List UInt8)}{g i:Nat}{q xs:List UInt8}{m z:UInt8}(hq:T[g]? =some q)(hz:xs[i]? =some z):(T.set g (cG m (xs.take (i+1))++xs.drop (i+1))).flatten=(T.set g (cG m (xs.take i)++xs.drop i)).flatten.set ((T.take g).flatten.length+i) (z|||m):=by
 have hg:=(List.getElem?_eq_some_iff.1 hq).1;have hi:=(List.getElem?_eq_some_iff.1 hz).1;have h1:=KR (l:=T.set g (cG m (xs.take i)++xs.drop i)) (i:=g) (j:=i) (v:=z|||m) (List.getElem?_set_self hg) (by rw[Fl (by omega)];exact hi);rw[Fk]at h1;rw[h1,List.set_set,Tg hz]
def mixed(f:List UInt8->List UInt8)(T:List (List UInt8))(k:Nat):List (List UInt8):=(T.take k).map f++T.drop k
theorem KV{f:List UInt8->List UInt8}{T:List (List UInt8)}:mixed f T 0=T:=by simp[mixed]
theorem KW{f:List UInt8->List UInt8}{T:List (List UInt8)}{k:Nat}(h:T.length<=k):mixed f T k=T.map f:=by
 rw[mixed,List.take_of_length_le h,List.drop_eq_nil_of_le h,List.append_nil]
theorem zm{f:List UInt8->List UInt8}{T:List (List UInt8)}{k:Nat}{q:List UInt8}(h:T[k]? =some q):(mixed f T k)[k]? =some q:=by
 have hk:=(List.getElem?_eq_some_iff.1 h).1;have hl:((T.take k).map f).length=k:=by rw[List.length_map,List.length_take];omega
 rw[mixed,List.getElem?_append_right (by omega),hl,Nat.sub_self,List.getElem?_drop,Nat.add_zero,h]
theorem Fm{f:List UInt8->List UInt8}{T:List (List UInt8)}{k:Nat}{q:List UInt8}(h:T[k]? =some q):(mixed f T k).set k (f q)=mixed f T (k+1):=by
 have hk:=(List.getElem?_eq_some_iff.1 h).1;have hl:((T.take k).map f).length=k:=by rw[List.length_map,List.length_take];omega
 obtain⟨_,rfl⟩:=List.getElem?_eq_some_iff.1 h;rw[mixed,List.set_append_right _ _ (by omega),hl,Nat.sub_self,List.drop_eq_getElem_cons hk,List.set_cons_zero,mixed,List.take_add_one,List.getElem?_eq_getElem hk,List.map_append,List.append_assoc];rfl
theorem B6{f:List UInt8->List UInt8}{T:List (List UInt8)}{k:Nat}(hf: ∀x∈T,(f x).length=x.length)(hk:k<=T.length):((mixed f T k).take k).flatten.length=(T.take k).flatten.length:=by
 have hl:((T.take k).map f).length=k:=by rw[List.length_map,List.length_take];omega
 rw[mixed,List.take_append_of_le_length (by omega),List.take_of_length_le (by omega),List.length_flatten,List.length_flatten,List.map_map];congr 1;exact List.map_congr_left fun x hx=>hf x (List.mem_of_mem_take hx)
theorem Th{f:List UInt8->List UInt8}{T:List (List UInt8)}{k n:Nat}{q:List UInt8}(hq:T[k]? =some q)(hf: ∀x∈T,(f x).length=x.length)(he:f q=List.replicate n 255)(hn:n=q.length):(mixed f T (k+1)).flatten=(mixed f T k).flatten.take (T.take k).flatten.length++(List.replicate n 255++(mixed f T k).flatten.drop ((T.take k).flatten.length+n)):=by
 have hk:=(List.getElem?_eq_some_iff.1 hq).1;rw[←Fm hq,B2 (zm hq) (by rw[he,List.length_replicate,hn]),B6 hf (by omega),he,List.length_replicate]
theorem Ti{rm:Sv}{f:List UInt8->List UInt8}{T:List (List UInt8)}(hf: ∀x∈T,(f x).length=x.length):(cQ rm 0 T).map (fun x=>x.sv)=(cQ rm 0 (T.map f)).map (fun x=>x.sv):=Fj (by
 rw[List.map_map];exact(List.map_congr_left fun x hx=>(hf x hx)).symm)
theorem Tj{rm:Sv}{lo n:Nat}(hn:rm.nil=false)(hs:rm.sp=none)(h:0<n):(win rm lo (lo+n)).val= .slice (some ⟨rm.b,rm.o+lo,none⟩) n n:=by
 rw[Sv.fX (s:=win rm lo (lo+n)) hn,show(win rm lo (lo+n)).sp=rm.sp from rfl,hs,w7 h,show(win rm lo (lo+n)).len=n from Nat.add_sub_cancel_left ..,show(win rm lo (lo+n)).cap=n from Nat.add_sub_cancel_left ..];rfl
theorem vf{c:Cp}{b:Int}:bv (c.blocks.xs.getD b.toNat nt)=aI (cv c) b:=by
 simp only[aI,cv,gx,List.getD_eq_getElem?_getD,List.getElem?_map]
 cases c.blocks.xs[b.toNat]? <;>rfl
theorem Fo{c:Cp}{b:Int}(h:ke (cv c) b=true):0<=b/\b.toNat<c.blocks.xs.length:=by
 obtain⟨_,h2,h3⟩:=l5.1 h;simp only[cv,fw]at h3;exact⟨h2,by omega⟩
theorem KX{c:CV}{x:Cp}{B:Bk}{b u:Int}{l:List (List UInt8)}{rm:Sv}{off:Bool}(hx:cv x=c)(hB:bv B=aI c b):
  cv ⟨x.ae,x.size,⟨x.blocks.sv,x.blocks.xs.set b.toNat ⟨⟨B.ae.sv,cQ rm 0 l⟩,u,B.bo+1,B.bad⟩⟩,x.ops+1,off,x.bb⟩={c with ops:=c.ops+1,off:=off,blocks:=c.blocks.set b.toNat {aI c b with used:=u,bo:=(aI c b).bo+1,ae:=l}}:=by
 subst hx;rw[←hB];simp only[cv,ve,bv,tp]
theorem Tk{xs:List Bk}{i:Nat}{B B':Bk}(h:xs[i]? =some B)(hp:B'.ae=B.ae):((xs.set i B').map fun b:Bk=>dP b.ae)=xs.map fun b:Bk=>dP b.ae:=by
 rw[List.map_set,hp];refine w5 ?_;rw[List.getElem?_map,h];rfl
theorem Tl{c:CV}{x:Cp}{B:Bk}{b:Int}(hx:cv x=c)(hB:bv B=aI c b):
  cv ⟨x.ae,x.size,⟨x.blocks.sv,x.blocks.xs.set b.toNat ⟨B.ae,B.used,B.bo,true⟩⟩,x.ops,x.off,x.bb⟩={c with blocks:=c.blocks.set b.toNat {aI c b with bad:=true}}:=by
 subst hx;rw[←hB];simp only[cv,ve,bv]
theorem Fp{w0 w:World}{L:List ah}{s:Sv}{xs:List (Sl UInt8)}(h:Mem w0 (own (bP (τ:=UInt8)) 1 s xs::ah.all (xs.map fun p:Sl UInt8=>fz p)::L) w):Mem w0 (fz (⟨s,xs⟩:Sl (Sl UInt8))::L) w:=by
 have hs:=h.sat (own (bP (τ:=UInt8)) 1 s xs) (by simp);have ha:=h.sat (ah.all (xs.map fun p:Sl UInt8=>fz p)) (by simp);refine Mem.freeze (es:=[own (bP (τ:=UInt8)) 1 s xs,ah.all (xs.map fun p:Sl UInt8=>fz p)]) _ ⟨hs.1,fun x hx=>ah.wx ha (fz x) (List.mem_map_of_mem hx)⟩ (fun k hk=>?_) h;rcases hk with⟨ct,rfl⟩|⟨x,hx,hk⟩
 ·
  exact⟨_,by simp,zj hs.1 ct⟩
 exact⟨ah.all (xs.map fun p:Sl UInt8=>fz p),by simp,ah.BT (List.mem_map_of_mem (f:=fun p:Sl UInt8=>fz p) hx) hk⟩
theorem KY{w0 w:World}{L:List ah}{s:Sv}{xs:List Bk}(h:Mem w0 (own bK 4 s xs::ah.all (xs.map fun b:Bk=>fz b.ae)::L) w):Mem w0 (fz (⟨s,xs⟩:Sl Bk)::L) w:=by
 have hs:=h.sat (own bK 4 s xs) (by simp);have ha:=h.sat (ah.all (xs.map fun b:Bk=>fz b.ae)) (by simp);refine Mem.freeze (es:=[own bK 4 s xs,ah.all (xs.map fun b:Bk=>fz b.ae)]) _ ⟨hs.1,fun x hx=>ah.wx ha (fz x.ae) (List.mem_map_of_mem (f:=fun b:Bk=>fz b.ae) hx)⟩ (fun k hk=>?_) h;rcases hk with⟨ct,rfl⟩|⟨x,hx,hk⟩
 ·
  exact⟨_,by simp,zj hs.1 ct⟩
 exact⟨ah.all (xs.map fun b:Bk=>fz b.ae),by simp,ah.BT (List.mem_map_of_mem (f:=fun b:Bk=>fz b.ae) hx) hk⟩
theorem KZ{w0 w:World}{L:List ah}{s:Sv}(hs:s.Ok)(hl:s.len=0)(h:Mem w0 L w):Mem w0 (fz (⟨s,[]⟩:Sl Ft)::L) w:=
 Mem.freeze (es:=[]) _ ⟨⟨hs,hl,fun i x hx=>by cases hx⟩,fun x hx=>by cases hx⟩ (fun k hk=>by
  rcases hk with⟨ct,_⟩|⟨x,hx,_⟩
  ·
   exact absurd rfl ct
  cases hx) h
theorem K0{w0 w:World}{L:List ah}{d:Cp}(hf:d.bb=⟨Sv.none,[]⟩)(h:Mem w0 (own bK 4 d.blocks.sv d.blocks.xs::ah.all (d.blocks.xs.map fun b:Bk=>fz b.ae)::L) w):Mem w0 (fz d::L) w:=by
 have h1:=KZ (s:=Sv.none) Sv.yC rfl (KY h);rw[←hf]at h1;exact BW (h1.perm (List.Perm.swap _ _ _))
theorem K1{zs:List Bk}{i:Nat}{z z':Bk}(h:zs[i]? =some z):((zs.take i).map fun b:Bk=>fz b.ae)++[fz z'.ae]=((zs.set i z').take (i+1)).map fun b:Bk=>fz b.ae:=by
 have hi:=(List.getElem?_eq_some_iff.1 h).1;rw[List.take_add_one,List.getElem?_set_self hi,List.take_set_of_le (Nat.le_refl _),List.map_append];rfl
theorem Fq{zs:List (Sl UInt8)}{i:Nat}{z z':Sl UInt8}(h:zs[i]? =some z):((zs.take i).map fun b:Sl UInt8=>fz b)++[fz z']=((zs.set i z').take (i+1)).map fun b:Sl UInt8=>fz b:=by
 have hi:=(List.getElem?_eq_some_iff.1 h).1;rw[List.take_add_one,List.getElem?_set_self hi,List.take_set_of_le (Nat.le_refl _),List.map_append];rfl
theorem B7{α β:Type}{f:α->β}{zs:List α}{i:Nat}{z z':α}(h:zs[i]? =some z):((zs.set i z').take (i+1)).map f=(zs.take i).map f++[f z']:=by
 have hi:=(List.getElem?_eq_some_iff.1 h).1;rw[List.take_add_one,List.getElem?_set_self hi,List.take_set_of_le (Nat.le_refl _),List.map_append];rfl
theorem B8{b n:Nat}(h:n<=1000000):(⟨false,b,0,n,n,none⟩:Sv).Ok:=⟨fun h=>(by cases h),Nat.le_refl _,by simp only;omega,fun _=>rfl⟩
end Go.Kb
namespace Go.aA
theorem K2{P:Program}{N:bW}{w0:World}{env:Env}{L:List ah}{Q:Exit->Act->World->Prop}{c:Code}{X:Type}{pr:X->Prop}(Lx:X->List ah)(h: ∀w,Mem w0 L w-> ∃x,pr x/\Mem w0 (Lx x) w)(hk: ∀x,pr x->Cw P N w0 Q c env (Lx x)):Cw P N w0 Q c env L:=fun a w ha hw=>by
 obtain⟨x,h1,h2⟩:=h w hw;exact hk x h1 a w ha h2
end Go.aA
namespace Go.Kb
open Go.aA
structure dx where
 kind:Int
 id:Int
 gen:UInt64
 body:Sl UInt8
def cm(x:dx):Array Value:= #[.int .i64 x.kind, .int .i64 x.id, .int .u64 x.gen.toNat,x.body.sv.val]
instance:bc cm 4:=⟨fun _=>rfl,fun x=>by
 simp only[cm,List.all_toArray,List.all_cons,List.all_nil,Sv.one,rD,rE,Bool.and_self]⟩
instance (x:dx):eA (cm x) 4:=⟨rfl,bc.one x⟩
instance (x:dx):bL (cm x) 0 (.int .i64 x.kind):=⟨rfl⟩
instance (x:dx):bL (cm x) 1 (.int .i64 x.id):=⟨rfl⟩
instance (x:dx):bL (cm x) 2 (.int .u64 x.gen.toNat):=⟨rfl⟩
instance (x:dx):bL (cm x) 3 (x.body.sv.val):=⟨rfl⟩
instance:Deep dx where
 c:=4
 cells:=cm
 size:=bc.size
 one:=bc.one
 aU h x:=Deep.aU h x.body
 bE x:=Deep.bE x.body
 gu h x hs:=Deep.gu h x.body hs
 mono w w' x hg hb:=Deep.mono w w' x.body hg hb
variable {w0:World}{L:List ah}
instance{x:dx}[q:aO w0 L x]:aO w0 L x.body:=⟨fun w hw=>(q.h w hw)⟩
instance{kind:Int}{id:Int}{gen:UInt64}{body:Sl UInt8}[q0:aO w0 L body]:aO w0 L (dx.mk kind id gen body):=⟨fun w hw=>q0.h w hw⟩
def ma:dx:=⟨0,0,0,⟨Sv.none,[]⟩⟩
structure cK where
 gen:UInt64
 at_:Sl Int
def c8(x:cK):Array Value:= #[.int .u64 x.gen.toNat,x.at_.sv.val]
instance:bc c8 2:=⟨fun _=>rfl,fun x=>by
 simp only[c8,List.all_toArray,List.all_cons,List.all_nil,Sv.one,rD,rE,Bool.and_self]⟩
instance (x:cK):eA (c8 x) 2:=⟨rfl,bc.one x⟩
instance (x:cK):bL (c8 x) 0 (.int .u64 x.gen.toNat):=⟨rfl⟩
instance (x:cK):bL (c8 x) 1 (x.at_.sv.val):=⟨rfl⟩
instance:Deep cK where
 c:=2
 cells:=c8
 size:=bc.size
 one:=bc.one
 aU h x:=Deep.aU h x.at_
 bE x:=Deep.bE x.at_
 gu h x hs:=Deep.gu h x.at_ hs
 mono w w' x hg hb:=Deep.mono w w' x.at_ hg hb
instance{x:cK}[q:aO w0 L x]:aO w0 L x.at_:=⟨fun w hw=>(q.h w hw)⟩
instance{gen:UInt64}{at_:Sl Int}[q0:aO w0 L at_]:aO w0 L (cK.mk gen at_):=⟨fun w hw=>q0.h w hw⟩
def jU:cK:=⟨0,⟨Sv.none,[]⟩⟩
structure aD where
 live:Int
 used:Int
 bo:Int
 bad:Bool
 deriving DecidableEq
def bn(x:aD):Array Value:= #[.int .i64 x.live, .int .i64 x.used, .int .i64 x.bo, .bool x.bad]
instance:bc bn 4:=⟨fun _=>rfl,fun x=>by
 simp only[bn,List.all_toArray,List.all_cons,List.all_nil,Sv.one,rD,rE,Bool.and_self]⟩
instance (x:aD):eA (bn x) 4:=⟨rfl,bc.one x⟩
instance (x:aD):bL (bn x) 0 (.int .i64 x.live):=⟨rfl⟩
instance (x:aD):bL (bn x) 1 (.int .i64 x.used):=⟨rfl⟩
instance (x:aD):bL (bn x) 2 (.int .i64 x.bo):=⟨rfl⟩
instance (x:aD):bL (bn x) 3 (.bool x.bad):=⟨rfl⟩
def gy:aD:=⟨0,0,0,false⟩
structure bG where
 aj:Cp
 at_:Sl Int
 gen:UInt64
 last:Int
def bH(x:bG):Array Value:= #[.int .i64 x.aj.ae, .int .i64 x.aj.size,x.aj.blocks.sv.val, .int .i64 x.aj.ops, .bool x.aj.off,x.aj.bb.sv.val,x.at_.sv.val, .int .u64 x.gen.toNat, .int .i64 x.last]
instance:bc bH 9:=⟨fun _=>rfl,fun x=>by
 simp only[bH,List.all_toArray,List.all_cons,List.all_nil,Sv.one,rD,rE,Bool.and_self]⟩
instance (x:bG):eA (bH x) 9:=⟨rfl,bc.one x⟩
instance (x:bG):bL (bH x) 0 (.int .i64 x.aj.ae):=⟨rfl⟩
instance (x:bG):bL (bH x) 1 (.int .i64 x.aj.size):=⟨rfl⟩
instance (x:bG):bL (bH x) 2 (x.aj.blocks.sv.val):=⟨rfl⟩
instance (x:bG):bL (bH x) 4 (.bool x.aj.off):=⟨rfl⟩
instance (x:bG):bL (bH x) 6 (x.at_.sv.val):=⟨rfl⟩
instance (x:bG):bL (bH x) 7 (.int .u64 x.gen.toNat):=⟨rfl⟩
instance (x:bG):bL (bH x) 8 (.int .i64 x.last):=⟨rfl⟩
instance (x:bG):kS (bH x) 0 6 (aE x.aj):=⟨rfl,fun j hj=>by
 match j,hj with
 |0,_=>rfl
 |1,_=>rfl
 |2,_=>rfl
 |3,_=>rfl
 |4,_=>rfl
 |5,_=>rfl⟩
instance:Deep bG where
 c:=9
 cells:=bH
 size:=bc.size
 one:=bc.one
 aU h x:=Deep.aU h x.aj/\Deep.aU h x.at_
 bE x:= .two (Deep.bE x.aj) (Deep.bE x.at_)
 gu h x hs:=⟨Deep.gu h x.aj hs.1,Deep.gu h x.at_ hs.2.1⟩
 mono w w' x hg hb:=⟨Deep.mono w w' x.aj hg.1 hb,Deep.mono w w' x.at_ hg.2 hb⟩
instance:eK bG where
 reach x k:=eK.reach x.aj k\/eK.reach x.at_ k
 congr h h' x e hg:=⟨eK.congr h h' x.aj (fun k hk=>e k (.inl hk)) hg.1,eK.congr h h' x.at_ (fun k hk=>e k (.inr hk)) hg.2⟩
instance{x:bG}[q:aO w0 L x]:aO w0 L x.aj:=⟨fun w hw=>(q.h w hw).1⟩
instance{x:bG}[q:aO w0 L x]:aO w0 L x.at_:=⟨fun w hw=>(q.h w hw).2⟩
instance{aj:Cp}{at_:Sl Int}{gen:UInt64}{last:Int}[q0:aO w0 L aj][q1:aO w0 L at_]:aO w0 L (bG.mk aj at_ gen last):=⟨fun w hw=>⟨q0.h w hw,q1.h w hw⟩⟩
def jV:bG:=⟨fe,⟨Sv.none,[]⟩,0,0⟩
structure aM where
 aB:bG
 beyond:Bool
def aH(x:aM):Array Value:= #[.int .i64 x.aB.aj.ae, .int .i64 x.aB.aj.size,x.aB.aj.blocks.sv.val, .int .i64 x.aB.aj.ops, .bool x.aB.aj.off,x.aB.aj.bb.sv.val,x.aB.at_.sv.val, .int .u64 x.aB.gen.toNat, .int .i64 x.aB.last, .bool x.beyond]
instance (x:aM):bL (aH x) 0 (.int .i64 x.aB.aj.ae):=⟨rfl⟩
instance (x:aM):bL (aH x) 1 (.int .i64 x.aB.aj.size):=⟨rfl⟩
instance (x:aM):bL (aH x) 2 (x.aB.aj.blocks.sv.val):=⟨rfl⟩
instance (x:aM):bL (aH x) 6 (x.aB.at_.sv.val):=⟨rfl⟩
instance (x:aM):bL (aH x) 7 (.int .u64 x.aB.gen.toNat):=⟨rfl⟩
instance (x:aM):bL (aH x) 8 (.int .i64 x.aB.last):=⟨rfl⟩
instance (x:aM):bL (aH x) 9 (.bool x.beyond):=⟨rfl⟩
instance (x:aM):kS (aH x) 0 9 (bH x.aB):=⟨rfl,fun j hj=>by
 match j,hj with
 |0,_=>rfl
 |1,_=>rfl
 |2,_=>rfl
 |3,_=>rfl
 |4,_=>rfl
 |5,_=>rfl
 |6,_=>rfl
 |7,_=>rfl
 |8,_=>rfl⟩
instance (x:aM):kS (aH x) 0 6 (aE x.aB.aj):=⟨rfl,fun j hj=>by
 match j,hj with
 |0,_=>rfl
 |1,_=>rfl
 |2,_=>rfl
 |3,_=>rfl
 |4,_=>rfl
 |5,_=>rfl⟩
structure gf where
 w:aD
 ae:Int
 deriving DecidableEq
def dQ(x:gf):Array Value:= #[.int .i64 x.w.live, .int .i64 x.w.used, .int .i64 x.w.bo, .bool x.w.bad, .int .i64 x.ae]
instance:bc dQ 5:=⟨fun _=>rfl,fun x=>by
 simp only[dQ,List.all_toArray,List.all_cons,List.all_nil,Sv.one,rD,rE,Bool.and_self]⟩
instance (x:gf):eA (dQ x) 5:=⟨rfl,bc.one x⟩
instance (x:gf):bL (dQ x) 0 (.int .i64 x.w.live):=⟨rfl⟩
instance (x:gf):bL (dQ x) 1 (.int .i64 x.w.used):=⟨rfl⟩
instance (x:gf):bL (dQ x) 2 (.int .i64 x.w.bo):=⟨rfl⟩
instance (x:gf):bL (dQ x) 3 (.bool x.w.bad):=⟨rfl⟩
instance (x:gf):bL (dQ x) 4 (.int .i64 x.ae):=⟨rfl⟩
def Tm:gf:=⟨gy,0⟩
end Go.Kb
namespace Go.aA
open Go.Kb
section
variable {P:Program} {N:bW} {w0:World} {env:Env} {L:List ah} {d:Option Tmp} {ty:TypeId} {ps:String} {af:Array Edge} {gd:Option (Nat×Bool)}
theorem Tn{p:Nat}(h:p<2^32):4294967295^^^p=4294967295 -p:=by
 have e:(BitVec.allOnes 32^^^BitVec.ofNat 32 p).toNat=(~~~(BitVec.ofNat 32 p)).toNat:=by rw[BitVec.allOnes_xor]
 rw[BitVec.toNat_xor,BitVec.toNat_not,BitVec.toNat_allOnes,BitVec.toNat_ofNat,Nat.mod_eq_of_lt h]at e;simpa using e
theorem K3{x:Operand}{a:Int}{p:Nat}{t:TypeId}(hx:ev env x=some (.int .u32 a))(ea:a=(p:Int))(hp:p<2^32):
  Ry P N w0 env L ⟨d, .unOp .xor t x,ty,ps,af,gd⟩ (.int .u32 ((4294967295 -p:Nat):Int)):=fun a w ha _=>by
 subst ea;have h1:(Op.intBits .xor .u32 4294967295 (p:Int)).run P w= .ok (.int .u32 ((4294967295 -p:Nat):Int)) w:=by
  have e2:(BitVec.ofInt 32 4294967295^^^BitVec.ofInt 32 (p:Int)).toNat=4294967295 -p:=by
   rw[wg,BitVec.toNat_xor,BitVec.toNat_ofNat,Nat.mod_eq_of_lt hp,←Tn hp];rfl
  show Sem.run P (pure (Value.int .u32 (IntKind.u32.wrap ((BitVec.ofInt 32 4294967295^^^BitVec.ofInt 32 (p:Int)).toNat:Int)))) w=_;rw[e2,nk (k:= .u32) (by show 4294967295 -p<4294967296;omega)];rfl
 have h2:Op.unary .xor (.int .u32 (p:Int))=Op.intBits .xor .u32 4294967295 (p:Int):=rfl;simp only[execOp,ha.ev hx,h2,Sem.run_bind,h1,Sem.run_pure,Result.andThen]
theorem To{x y:Operand}{p:Nat}{a:Int}{k':IntKind}{t u:TypeId}(hx:ev env x=some (.int .u64 a))(hy:ev env y=some (.int k' 8))(ea:a=(p:Int))(hp:p*256<2^64):
  Ry P N w0 env L ⟨d, .binOp .shl t x y u,ty,ps,af,gd⟩ (.int .u64 ((p*256:Nat):Int)):=by
 subst ea;have h:=AN (P:=P) (N:=N) (w0:=w0) (L:=L) (d:=d) (ty:=ty) (ps:=ps) (af:=af) (gd:=gd) (t:=t) (u:=u) hx hy (by decide);have e:IntKind.u64.wrap ((p:Int)*2^min (Int.toNat 8) IntKind.u64.bits)=((p*256:Nat):Int):=by
  have e1:(p:Int)*2^min (Int.toNat 8) IntKind.u64.bits=((p*256:Nat):Int):=by
   rw[show(2:Int)^min (Int.toNat 8) IntKind.u64.bits=256 from by decide];omega
  rw[e1];exact nk hp
 rw[e]at h;exact h
theorem Tp{n many i:Nat}(h:i<many):(List.replicate (many -i) (0:UInt8)++be n i).set (many -1 -i) (b8 (n/256^i))=List.replicate (many -(i+1)) 0++be n (i+1):=by
 rw[List.set_append_left _ _ (by simp;omega)];have e:List.replicate (many -i) (0:UInt8)=List.replicate (many -(i+1)) 0++[0]:=by
  rw[show many -i=many -(i+1)+1 by omega,List.replicate_succ',]
 rw[e,List.set_append_right _ _ (by simp;omega)];simp only[List.length_replicate,show many -1 -i -(many -(i+1))=0 by omega,List.set_cons_zero,List.append_assoc];rfl
end
end Go.aA
namespace Go.Kb
open Go.aA
def da(n:Int):UInt8:=b8 (n%256).toNat
theorem w8(n:Int):IntKind.u8.wrap n=((da n).toNat:Int):=by
 unfold da;rw[D0];simp[IntKind.wrap,IntKind.bits,IntKind.signed];omega
def gg(r:Rt):List UInt8:=
 [if r.p.bits=128 then 1 else 0,da r.p.len]++(List.range 16).map (fun i=>b8 (bg r.p.key i))++[b8 (r.aY.toNat/256),b8 r.aY.toNat]
theorem qp(r:Rt):(gg r).length=20:=by simp[gg]
theorem Tq(r:Rt):(gg r)[0]? =some (if r.p.bits=128 then 1 else 0):=by simp[gg]
theorem Ts(r:Rt):(gg r)[1]? =some (da r.p.len):=by simp[gg]
theorem Tt(r:Rt)(i:Nat)(h:i<16):(gg r)[2+i]? =some (b8 (bg r.p.key i)):=by
 unfold gg;rw[List.append_assoc,List.getElem?_append_right (by simp),List.getElem?_append_left (by simp;omega)];simp[h]
theorem Tu(r:Rt):(gg r)[18]? =some (b8 (r.aY.toNat/256)):=by simp[gg]
theorem Tw(r:Rt):(gg r)[19]? =some (b8 r.aY.toNat):=by simp[gg]
theorem K4(r:Rt){w9:Array Value}(h0:w9.size=20)(hz:w9[0]? =some (.int .u8 (if r.p.bits=128 then 1 else 0:Nat))):
  (((over (w9.setIfInBounds 1 (.int .u8 (da r.p.len).toNat)) 2 (bF r.p.key)).setIfInBounds 18 (.int .u8 (b8 (r.aY.toNat/256)).toNat)).setIfInBounds 19 (.int .u8 (b8 r.aY.toNat).toNat))=(aF aJ (gg r)).toArray:=by
 have hs:(over (w9.setIfInBounds 1 (.int .u8 (da r.p.len).toNat)) 2 (bF r.p.key)).size=20:=by rw[lQ (by simp[eJ,h0])];simpa using h0
 refine Array.ext_getElem? fun j=>?_;have hf: ∀b,(gg r)[j]? =some b->(aF aJ (gg r)).toArray[j]? =some (.int .u8 b.toNat):=fun b hb=>by
  have:=lR (enc:=aJ) (gg r) j b hb 0 (by decide);simp only[Nat.mul_one,Nat.add_zero]at this;simpa[aJ]using this
 have hk:2+(bF r.p.key).size<=(w9.setIfInBounds 1 (.int .u8 (da r.p.len).toNat)).size:=by simp[eJ,h0]
 rw[Array.getElem?_setIfInBounds,Array.getElem?_setIfInBounds]
 by_cases K5:19=j
 ·
  subst K5;rw[hf _ (Tw r)];simp[hs]
 by_cases zn:18=j
 ·
  subst zn;rw[hf _ (Tu r)];simp[hs]
 rw[if_neg K5,if_neg zn,q7 hk,eJ]
 by_cases h2:2<=j/\j<2+16
 ·
  rw[if_pos h2,jl _ _ (by omega)];have:=Tt r (j -2) (by omega);rw[show 2+(j -2)=j by omega]at this;rw[hf _ this,D0];have:=iB r.p.key (j -2);rw[Nat.mod_eq_of_lt this]
 rw[if_neg h2,Array.getElem?_setIfInBounds]
 by_cases h1:1=j
 ·
  subst h1;rw[hf _ (Ts r)];simp[h0]
 rw[if_neg h1]
 by_cases hj:j=0
 ·
  subst hj;rw[hz,hf _ (Tq r)];split<;>rfl
 ·
  have e1:w9[j]? =none:=by simp;omega
  rw[e1];have:(aF aJ (gg r)).length=20:=by rw[fM,qp]
  simp;omega
structure PV where
 kind:Int
 id:Int
 gen:Nat
 body:List UInt8
 deriving DecidableEq
def iY:PV:=⟨0,0,0,[]⟩
def cf(p:dx):PV:=⟨p.kind,p.id,p.gen.toNat,p.body.xs⟩
def pv(n:Int):Bool:=decide (24<=n)&&decide (n<=256)
theorem zo{n:Int}:pv n=true↔24<=n/\n<=256:=by simp only[pv,Bool.and_eq_true,decide_eq_true_eq]
def eL(n:Int):Int:=if pv n=true then n -16 else 0
def vg(p:PV)(n:Int):Bool:=pv n&&(decide (p.kind=1)||decide (p.kind=2))&&decide (0<=p.id)&&decide (p.id<64)&&decide (p.gen<281474976710656)&&decide ((p.body.length:Int)<=eL n)
theorem K6{p:PV}{n:Int}:vg p n=true↔pv n=true/\(p.kind=1\/p.kind=2)/\0<=p.id/\p.id<64/\p.gen<281474976710656/\(p.body.length:Int)<=eL n:=by
 simp only[vg,Bool.and_eq_true,Bool.or_eq_true,decide_eq_true_eq,and_assoc]
def nw(b:List UInt8):Bool:=b.all fun x=>decide (x=255)
theorem K7{b:List UInt8}:nw b=true↔ ∀x∈b,x=255:=by simp only[nw,List.all_eq_true,decide_eq_true_eq]
def mb(p:PV)(n:Nat):List UInt8:=[da p.kind,da p.id]++be p.gen 6++be p.body.length 2++p.body++List.replicate (n -4 -10 -p.body.length) 0
def dR(p:PV)(n:Int):List UInt8×Int:=if vg p n=true then(mb p n.toNat++be (mN (mb p n.toNat)) 4,0)else([],1)
def xd(b:List UInt8):PV:=⟨(b.getD 0 0).toNat,(b.getD 1 0).toNat,de ((b.drop 2).take (8 -2)),[]⟩
def iD(b:List UInt8):Nat:=de ((b.drop 8).take (10 -8))
def mc(b:List UInt8):List UInt8:=(b.drop 0).take (b.length -4 -0)
def B9(b:List UInt8):List UInt8:=(b.drop (b.length -4)).take (b.length -(b.length -4))
def ny(b:List UInt8):List UInt8:=((mc b).drop (10+iD b)).take ((mc b).length -(10+iD b))
def xe(b:List UInt8):Bool:=b.all fun x=>decide (x=0)
theorem K8{b:List UInt8}:xe b=true↔ ∀x∈b,x=0:=by simp only[xe,List.all_eq_true,decide_eq_true_eq]
def qq(b:List UInt8):Bool:=decide ((iD b:Int)<=eL b.length)&&vg (xd b) b.length
def cS(b:List UInt8):PV×Int:=
 if pv b.length=false then(iY,3)
 else if nw b=true then(iY,0)
 else if de (B9 b)≠mN (mc b)then(iY,4)
 else if qq b=false then(iY,2)
 else if xe (ny b)=false then(iY,2)
 else({xd b with body:=(b.drop 10).take (10+iD b -10)},0)
theorem K9(b:List UInt8):iD b<65536:=by
 have h:=Kc ((b.drop 8).take (10 -8));have h2:((b.drop 8).take (10 -8)).length<=2:=by rw[List.length_take];omega
 have h3:=Nat.pow_le_pow_right (show 0<256 by decide) h2;rw[iD];omega
theorem Fs(b:List UInt8):de ((b.drop 2).take (8 -2))<281474976710656:=by
 have h:=Kc ((b.drop 2).take (8 -2));have h2:((b.drop 2).take (8 -2)).length<=6:=by rw[List.length_take];omega
 have h3:=Nat.pow_le_pow_right (show 0<256 by decide) h2;omega
def rI(b:List UInt8):dx:=⟨(b.getD 0 0).toNat,(b.getD 1 0).toNat,UInt64.ofNat (de ((b.drop 2).take (8 -2))),⟨Sv.none,[]⟩⟩
theorem La(b:List UInt8):(UInt64.ofNat (de ((b.drop 2).take (8 -2)))).toNat=de ((b.drop 2).take (8 -2)):=by
 have:=Fs b;rw[UInt64.toNat_ofNat'];omega
theorem Lb(b:List UInt8)(s:Sv)(l:List UInt8):cf {rI b with body:=⟨s,l⟩}={xd b with body:=l}:=by
 simp only[cf,rI,La];rfl
theorem Fu(b:List UInt8):cf (rI b)=xd b:=Lb b Sv.none []
theorem Tx(b:List UInt8):(mc b).length=b.length -4:=by rw[mc,List.length_take,List.length_drop];omega
theorem Ty{M:Nat}{k d:UInt8}(h:2<=M):((List.replicate M (0:UInt8)).set 0 k).set 1 d=[k,d]++List.replicate (M -2) 0:=by
 obtain⟨m,rfl⟩: ∃m,M=m+2:=⟨M -2,by omega⟩;simp[List.replicate_succ]
theorem Fv{A Y:List UInt8}{k N:Nat}(hk:k=A.length):(A++List.replicate N 0).take k++(Y++(A++List.replicate N 0).drop (k+Y.length))=A++Y++List.replicate (N -Y.length) 0:=by
 subst hk;rw[List.take_left',List.drop_append,List.drop_eq_nil_of_le (by omega),Nat.add_sub_cancel_left,List.drop_replicate,List.nil_append,List.append_assoc];rfl
theorem Tz{p:PV}{n:Nat}(h:p.body.length+14<=n):(mb p n).length=n -4:=by
 simp only[mb,List.length_append,lU,List.length_replicate,List.length_cons,List.length_nil];omega
theorem Fw(b:List UInt8):(cS b).1.body.length<=65536:=by
 have h:=K9 b;rw[cS];split
 ·
  simp[iY]
 split
 ·
  simp[iY]
 split
 ·
  simp[iY]
 split
 ·
  simp[iY]
 split
 ·
  simp[iY]
 simp only[List.length_take];omega
structure RV where
 gen:Nat
 at_:List Int
 deriving DecidableEq
def fI:RV:=⟨0,[]⟩
def cL(r:cK):RV:=⟨r.gen.toNat,r.at_.xs⟩
def kf(n:Int):Int:=min 64 (eL n/2)
def xf(x:Int):Bool:=decide (0<=x)&&decide (x<=65535)
theorem Fx{x:Int}:xf x=true↔0<=x/\x<=65535:=by simp only[xf,Bool.and_eq_true,decide_eq_true_eq]
def qt(r:RV)(n:Int):Bool:= !decide (eL n=0)&&decide (r.gen<281474976710656)&&decide ((r.at_.length:Int)<=kf n)&&r.at_.all xf
theorem zp{r:RV}{n:Int}:qt r n=true↔eL n≠0/\r.gen<281474976710656/\(r.at_.length:Int)<=kf n/\ ∀x∈r.at_,xf x=true:=by
 simp only[qt,Bool.and_eq_true,Bool.not_eq_true',decide_eq_true_eq,decide_eq_false_iff_not,and_assoc,List.all_eq_true,ne_eq]
def pw(b:List UInt8)(i:Nat):Int:=((uK (b.getD (2*i) 0) (b.getD (2*i+1) 0)).toNat:Int)
def om(b:List UInt8):List Int:=(List.range (b.length/2)).map (pw b)
def tt(p:PV):Bool:=decide (p.kind=2)&&decide (p.body.length%2=0)&&decide (p.id=max 0 ((p.body.length/2:Nat) -1:Int))
def ei(b:List UInt8):RV×Int:=
 if(cS b).2≠0 then(fI,(cS b).2)
 else if(cS b).1.kind=0 then(fI,6)
 else if tt (cS b).1=false then(fI,2)
 else(⟨(cS b).1.gen,om (cS b).1.body⟩,0)
def Ca(x:Int):List UInt8:=[da (x/256),da x]
def iE(l:List Int):List UInt8:=(l.map Ca).flatten
def c4(r:RV)(n:Int):List UInt8×Int:=if qt r n=true then dR ⟨2,max 0 ((r.at_.length:Int) -1),r.gen,iE r.at_⟩ n else([],1)
theorem TA{b:List UInt8}{i:Nat}(h:i<b.length/2):(om b).take (i+1)=(om b).take i++[pw b i]:=by
 rw[List.take_add_one,om,List.getElem?_map,List.getElem?_range h];rfl
theorem Fy(b:List UInt8):(om b).length=b.length/2:=by simp[om]
theorem TB{l:List Int}{i:Nat}{x:Int}(h:l[i]? =some x):iE (l.take (i+1))=iE (l.take i)++Ca x:=by
 simp[iE,List.take_add_one,h]
theorem TC(l:List Int):(iE l).length=2*l.length:=by
 induction l with
 |nil=>rfl
 |cons x l ih=>
  have:iE (x::l)=Ca x++iE l:=by simp[iE]
  rw[this,List.length_append,ih];simp only[Ca,List.length_cons,List.length_nil];omega
structure NS where
 at_:Int
 new:RV
 found:Bool
 blank:Bool
 deriving DecidableEq
def vh(s:NS)(i:Nat)(b:List UInt8):NS:=
 if(ei b).2=0/\(s.found=false\/s.new.gen<=(ei b).1.gen)then⟨i,(ei b).1,true,s.blank&&nw b⟩else{s with blank:=s.blank&&nw b}
def dD(l:List (List UInt8)):Nat->NS
 |0=>⟨0,fI,false,true⟩
 |k+1=>vh (dD l k) k (l.getD k [])
def eP(l:List (List UInt8)):Int×RV×Int:=
 if(dD l l.length).found=true then((dD l l.length).at_,(dD l l.length).new,0)else if(dD l l.length).blank=true then(0,fI,6)else(0,fI,2)
theorem TD{l:List (List UInt8)}{i:Nat}{b:List UInt8}(hb:l[i]? =some b)(h:(ei b).2=0/\((dD l i).found=false\/(dD l i).new.gen<=(ei b).1.gen)):dD l (i+1)=⟨i,(ei b).1,true,(dD l i).blank&&nw b⟩:=by
 rw[dD,show l.getD i []=b by simp[List.getD,hb],vh,if_pos h]
theorem TE{l:List (List UInt8)}{i:Nat}{b:List UInt8}(hb:l[i]? =some b)(h: ¬((ei b).2=0/\((dD l i).found=false\/(dD l i).new.gen<=(ei b).1.gen))):dD l (i+1)={dD l i with blank:=(dD l i).blank&&nw b}:=by
 rw[dD,show l.getD i []=b by simp[List.getD,hb],vh,if_neg h]
structure VV where
 aj:CV
 at_:List Int
 gen:Nat
 last:Int
 deriving DecidableEq
def TF:CV:=⟨0,0,[],0,false,[]⟩
def kE:VV:=⟨TF,[],0,0⟩
def vv(v:bG):VV:=⟨cv v.aj,v.at_.xs,v.gen.toNat,v.last⟩
def px(c:CV):Bool:=aX c&&decide (4<=(c.blocks.length:Int))&&decide (2<=c.ae)&&decide (24<=c.size)
theorem zq{c:CV}:px c=true↔aX c=true/\4<=(c.blocks.length:Int)/\2<=c.ae/\24<=c.size:=by simp only[px,Bool.and_eq_true,decide_eq_true_eq,and_assoc]
def xh(c:CV)(k:Int):List UInt8:=(aI c (k/c.ae)).ae.getD (k%c.ae).toNat []
def rJ(c:CV)(k:Int):Bool:=decide (2<=k/c.ae)&&decide (k/c.ae<(c.blocks.length:Int))&&decide (k%c.ae<(aI c (k/c.ae)).used)
theorem Cb{c:CV}{k:Int}:rJ c k=true↔2<=k/c.ae/\k/c.ae<(c.blocks.length:Int)/\k%c.ae<(aI c (k/c.ae)).used:=by simp only[rJ,Bool.and_eq_true,decide_eq_true_eq,and_assoc]
def Lc(p:PV×Int)(id:Int):Bool:=decide (p.2=0)&&decide (p.1.kind=1)&&decide (p.1.id=id)
def vi(c:CV)(id n:Int):Bool:=rJ c (n -1)&&Lc (cS (xh c (n -1))) id
theorem TG(c:CV):{w3 c c.bb with off:=c.off}=c:=by
 rw[w3];split<;>rfl
def rK(c:CV)(l:List Int)(i:Nat):Bool:=decide (l.getD i 0=0)||(!(l.take i).contains (l.getD i 0)&&vi c (i:Int) (l.getD i 0))
def rL(c:CV)(l:List Int):Bool:=(List.range l.length).all (rK c l)
theorem Fz{c:CV}{l:List Int}:rL c l=true↔ ∀i,i<l.length->rK c l i=true:=by simp only[rL,List.all_eq_true,List.mem_range]
def iF(l:List Int)(i:Nat):Int->Option Unit:=fun x=>if x≠0/\x∈l.take i then some ()else none
theorem zr{l:List Int}{i:Nat}{x:Int}:(iF l i x).isSome=decide (x≠0/\x∈l.take i):=by
 unfold iF;split<;>simp_all
theorem Ld{l:List Int}:(fun _=>none)=iF l 0:=by
 funext x;simp[iF]
theorem Le{l:List Int}{i:Nat}(h:l[i]? =some 0):iF l (i+1)=iF l i:=by
 funext x
 unfold iF;rw[List.take_add_one,h]
 by_cases hx:x=0
 ·
  simp[hx]
 simp[hx]
theorem Lf{l:List Int}{i:Nat}{y:Int}(h:l[i]? =some y)(hy:y≠0):(fun z=>if z=y then some ()else iF l i z)=iF l (i+1):=by
 funext x
 unfold iF;rw[List.take_add_one,h]
 by_cases hx:x=y
 ·
  subst hx;simp[hy]
 simp[hx]
theorem vj{l:List Int}{i:Nat}{y:Int}(h:l[i]? =some y):l.getD i 0=y:=by simp[List.getD,h]
def eo(l:List (Sl (Sl UInt8))):List (Sl UInt8):=(l.map Sl.xs).flatten
theorem Cc{l:List (Sl (Sl UInt8))}{i:Nat}{x:Sl (Sl UInt8)}(h:l[i]? =some x):eo (l.take (i+1))=eo (l.take i)++x.xs:=by
 rw[eo,List.take_add_one,h];simp[eo]
theorem TH(l:List (Sl (Sl UInt8)))(i:Nat):(eo (l.take i)).length<=(eo l).length:=by
 have e:eo l=eo (l.take i)++eo (l.drop i):=by
  unfold eo;rw[←List.flatten_append,←List.map_append,List.take_append_drop]
 rw[e,List.length_append];omega
class Lg(w0:World)(l:List (Sl UInt8)):Prop where
 h: ∀y∈l,Deep.aU (hp w0) y
variable {w0:World}{L:List ah}
instance aO.row{x:Sv}{l:List (Sl UInt8)}{i:Nat}[q:dN L x (bP (τ:=UInt8)) 1 l i][m:Lg w0 l]:aO w0 L (⟨x,l⟩:Sl (Sl UInt8)):=
 ⟨fun w hw=>⟨(hw.get q.h).1,fun y hy=>Deep.mono w0 w y (m.h y hy) hw.below⟩⟩
def eF(c:CV):Int×RV×Int:=eP ((aI c 0).ae++(aI c 1).ae)
def rM(c:CV):Bool:=decide ((eF c).1%c.ae<(aI c ((eF c).1/c.ae)).used)&&rL c (eF c).2.1.at_
def bq(c:CV):VV×Int:=
 if px c=false then(kE,1)
 else if c.off=true then(kE,7)
 else if(eF c).2.2≠0 then(kE,(eF c).2.2)
 else if rM c=false then(kE,2)
 else(⟨c,(eF c).2.1.at_,(eF c).2.1.gen,(eF c).1/c.ae⟩,0)
theorem Lh(l:List (List UInt8)): ∀k,k<=l.length->(dD l k).at_=0\/(0<=(dD l k).at_/\(dD l k).at_<k)
 |0,_=> .inl rfl
 |k+1,h=>by
  have:=Lh l k (by omega);rw[dD,vh];split
  ·
   exact .inr ⟨by simp only;omega,by simp only;omega⟩
  simp only;omega
theorem Li{l:List (List UInt8)}(h:0<l.length):0<=(eP l).1/\(eP l).1<l.length:=by
 have:=Lh l l.length (Nat.le_refl _);rw[eP];split
 ·
  simp only;omega
 split<;>(simp only;omega)
theorem TI(b:List UInt8): ∀x∈om b,0<=x/\x<=65535:=by
 intro x hx;obtain⟨i,_,rfl⟩:=List.mem_map.1 hx;have:=(uK (b.getD (2*i) 0) (b.getD (2*i+1) 0)).toNat_lt;simp only[pw];omega
theorem TJ(b:List UInt8): ∀x∈(ei b).1.at_,0<=x/\x<=65535:=by
 rw[ei];split
 ·
  simp[fI]
 split
 ·
  simp[fI]
 split
 ·
  simp[fI]
 exact TI _
theorem Lj(l:List (List UInt8)): ∀k,∀x∈(dD l k).new.at_,0<=x/\x<=65535
 |0=>by simp[dD,fI]
 |k+1=>by
  have:=Lj l k;rw[dD,vh];split
  ·
   exact TJ _
  exact this
theorem Lk(l:List (List UInt8)): ∀x∈(eP l).2.1.at_,0<=x/\x<=65535:=by
 rw[eP];split
 ·
  exact Lj _ _
 split<;>simp[fI]
theorem FA(a b:Sl (Sl UInt8)):aG (eo [a,b])=aG a.xs++aG b.xs:=by simp[aG,eo]
theorem FB{c:Cp}{i:Nat}{B:Bk}(h:c.blocks.xs[i]? =some B):aI (cv c) (i:Int)=bv B:=by
 rw[←vf];simp[List.getD,h]
theorem TK(b:List UInt8):(ei b).1.at_.length<=65536:=by
 have h:=Fw b;rw[ei];split
 ·
  simp[fI]
 split
 ·
  simp[fI]
 split
 ·
  simp[fI]
 simp only[Fy];omega
theorem Ll(l:List (List UInt8)): ∀k,(dD l k).new.at_.length<=65536
 |0=>by simp[dD,fI]
 |k+1=>by
  have:=Ll l k;rw[dD,vh];split
  ·
   exact TK _
  exact this
theorem TL(l:List (List UInt8)):(eP l).2.1.at_.length<=65536:=by
 rw[eP];split
 ·
  exact Ll _ _
 split<;>simp[fI]
theorem Lm(c:CV):(bq c).1.at_.length<=65536:=by
 have h:=TL ((aI c 0).ae++(aI c 1).ae);rw[bq];split
 ·
  simp[kE]
 split
 ·
  simp[kE]
 split
 ·
  simp[kE]
 split
 ·
  simp[kE]
 exact h
theorem FC{c:CV}(h:(bq c).2=0):px c=true:=by
 cases hb:px c with
 |true=>rfl
 |false=>rw[bq,if_pos hb]at h;cases h
def nz(x:VV):Bool:=decide ((bq {x.aj with off:=false}).2=0)&&decide ((bq {x.aj with off:=false}).1.gen=x.gen)&&decide ((bq {x.aj with off:=false}).1.last=x.last)&&decide ((bq {x.aj with off:=false}).1.at_=x.at_)
theorem TM{w0 w:World}{L:List ah}(h:Mem w0 L w):Mem w0 (fz fe::L) w:=
 BW (d:=fe) (Mem.freeze (es:=[]) _ ⟨bI.nil _ _ _,fun x hx=>by cases hx⟩ (fun k hk=>by
  rcases hk with⟨ct,_⟩|⟨x,hx,_⟩
  ·
   exact absurd rfl ct
  cases hx) (KZ (s:=Sv.none) Sv.yC rfl h))
class Lo(a:Cp)(b:outParam Cp):Prop where
 h:a=b
instance aO.ahN{v:bG}{c:Cp}[e:Lo v.aj c][q1:aO w0 L c][q2:aO w0 L v.at_]:aO w0 L v:=
 ⟨fun w hw=>⟨by rw[e.h];exact q1.h w hw,q2.h w hw⟩⟩
def kg(c:CV)(n:Int):List UInt8:=if(cS (xh c (n -1))).2=0 then(cS (xh c (n -1))).1.body else[]
theorem FD{c:CV}(h:(bq c).2=0):px c=true/\rM c=true/\bq c=(⟨c,(eF c).2.1.at_,(eF c).2.1.gen,(eF c).1/c.ae⟩,0):=by
 have hb:=FC h
 by_cases h1:c.off=true
 ·
  rw[bq,if_neg (by rw[hb];simp),if_pos h1]at h;cases h
 by_cases h2:(eF c).2.2≠0
 ·
  rw[bq,if_neg (by rw[hb];simp),if_neg h1,if_pos h2]at h;exact absurd h h2
 cases h3:rM c with
 |false=>rw[bq,if_neg (by rw[hb];simp),if_neg h1,if_neg h2,if_pos h3]at h;cases h
 |true=>exact⟨hb,rfl,by rw[bq,if_neg (by rw[hb];simp),if_neg h1,if_neg h2,if_neg (by rw[h3];simp)]⟩
theorem Cd{x:VV}(h:nz x=true):aX x.aj=true/\rL x.aj x.at_=true/\ ∀y∈x.at_,0<=y/\y<=65535:=by
 simp only[nz,Bool.and_eq_true,decide_eq_true_eq]at h;obtain⟨⟨⟨h1,h2⟩,h3⟩,h4⟩:=h;obtain⟨hb,hl,hf⟩:=FD h1;rw[hf]at h4;simp only at h4;simp only[rM,Bool.and_eq_true,decide_eq_true_eq]at hl;rw[h4]at hl;refine⟨(zq.1 hb).1,hl.2,?_⟩;rw[←h4];exact Lk _
theorem Lp{x:VV}(h:nz x=true){i:Nat}{y:Int}(hy:x.at_[i]? =some y)(h0:y≠0):1<=y/\y<=1000000/\rJ x.aj (y -1)=true:=by
 obtain⟨h1,h2,h3⟩:=Cd h;have hr:=h3 y (List.mem_of_getElem? hy);have hp:=Fz.1 h2 i (List.getElem?_eq_some_iff.1 hy).1;rw[rK,vj hy]at hp;simp only[Bool.or_eq_true,decide_eq_true_eq,Bool.and_eq_true]at hp;rcases hp with hp|hp
 ·
  exact absurd hp h0
 have hn:=hp.2;rw[vi,Bool.and_eq_true]at hn;exact⟨by omega,by omega,hn.1⟩
def tu(l:List Int)(j:Nat):Bool:=decide (l.getD j 0≠0)&& !(l.take j).contains (l.getD j 0)
def qu(ae:Int)(l:List Int)(k i:Nat):Nat:=((List.range k).filter fun j=>tu l j&&decide ((l.getD j 0 -1)/ae=(i:Int)+2)).length
def tv(b:BV)(live:Nat):aD:=⟨live,b.used,b.bo,b.bad⟩
def iG(c:CV)(l:List Int)(k:Nat):List aD:=(List.range (c.blocks.length -2)).map fun i:Nat=>tv (aI c ((i:Int)+2)) (qu c.ae l k i)
def gG(c:CV)(l:List Int):List aD:=iG c l l.length
theorem xi(c:CV)(l:List Int)(k:Nat):(iG c l k).length=c.blocks.length -2:=by simp[iG]
theorem FE(ae:Int)(l:List Int)(k i:Nat):qu ae l (k+1) i=qu ae l k i+(if tu l k&&decide ((l.getD k 0 -1)/ae=(i:Int)+2)then 1 else 0):=by
 rw[qu,List.range_succ,List.filter_append,List.length_append,qu];congr 1;simp only[List.filter_cons,List.filter_nil];split<;>rfl
theorem TN{c:CV}{l:List Int}{k:Nat}(h:tu l k=false):iG c l (k+1)=iG c l k:=by
 refine List.map_congr_left fun i _=>?_;rw[FE,h];simp
theorem TO{l:List Int}{i:Nat}{y:Int}(h:l[i]? =some y)(hy:y≠0/\y∈l.take i):iF l (i+1)=iF l i:=by
 funext x
 unfold iF;rw[List.take_add_one,h]
 by_cases hx:x=y
 ·
  subst hx;simp[hy.1,hy.2]
 simp[hx]
theorem TP{c:CV}{l:List Int}{k i:Nat}{x:aD}(h:tu l k=true)(hi:(l.getD k 0 -1)/c.ae=(i:Int)+2)(hx:(iG c l k)[i]? =some x):iG c l (k+1)=(iG c l k).set i {x with live:=x.live+1}:=by
 have dI:i<c.blocks.length -2:=by have:=(List.getElem?_eq_some_iff.1 hx).1;rwa [xi]at this
 have ib:x=tv (aI c ((i:Int)+2)) (qu c.ae l k i):=by
  rw[iG,List.getElem?_map,List.getElem?_range dI]at hx;exact(Option.some.inj hx).symm
 refine List.ext_getElem? fun j=>?_;rw[List.getElem?_set]
 by_cases hj:i=j
 ·
  subst hj;rw[if_pos rfl,if_pos (by rw[xi];exact dI),iG,List.getElem?_map,List.getElem?_range dI,Option.map_some,FE,h,hi,ib];simp[tv]
 rw[if_neg hj,iG,iG,List.getElem?_map,List.getElem?_map];rcases Nat.lt_or_ge j (c.blocks.length -2)with hO|hO
 ·
  rw[List.getElem?_range hO,Option.map_some,Option.map_some,FE,h,hi];simp only[Bool.true_and];rw[decide_eq_false (by omega)];simp
 rw[List.getElem?_eq_none (by simpa using hO)];rfl
def ar(l:List (Sl Int)):List Int:=(l.map Sl.xs).flatten
theorem Lr{l:List (Sl Int)}{i:Nat}{x:Sl Int}(h:l[i]? =some x):ar (l.take (i+1))=ar (l.take i)++x.xs:=by
 rw[ar,List.take_add_one,h];simp[ar]
theorem TQ{l:List (Sl Int)}{i j:Nat}{x:Sl Int}{y:Int}(h:l[i]? =some x)(hy:x.xs[j]? =some y):(ar l)[(ar (l.take i)).length+j]? =some y:=by
 have hj:=(List.getElem?_eq_some_iff.1 hy).1;have e:ar l=ar (l.take (i+1))++ar (l.drop (i+1)):=by
  unfold ar;rw[←List.flatten_append,←List.map_append,List.take_append_drop]
 rw[e,Lr h,List.getElem?_append_left (by rw[List.length_append];omega),List.getElem?_append_right (by omega),Nat.add_sub_cancel_left,hy]
def py(c:CV)(l:List Int):Prop:=(aX c=true/\l.length<=1000000)/\2<=c.blocks.length/\ ∀n∈l,n=0\/(1<=n/\n<=1000000/\2<=(n -1)/c.ae/\(n -1)/c.ae<(c.blocks.length:Int))
theorem TR(c:CV)(l:List Int):iG c l 0=(List.range (c.blocks.length -2)).map fun i:Nat=>tv (aI c ((i:Int)+2)) 0:=by
 refine List.map_congr_left fun i _=>?_;simp[qu]
theorem Ls(ae:Int)(l:List Int)(k i:Nat):qu ae l k i<=k:=by
 rw[qu];exact Nat.le_trans (List.length_filter_le _ _) (by simp)
theorem TS{c:CV}{l:List Int}{k i:Nat}{z:aD}(h:(iG c l k)[i]? =some z):0<=z.live/\z.live<=k:=by
 rw[iG,List.getElem?_map,Option.map_eq_some_iff]at h;obtain⟨j,_,rfl⟩:=h;have:=Ls c.ae l k j;simp only[tv];omega
def tw(a b:Int):Int:=if a<b then -1 else if b<a then 1 else 0
def qv(p:Int)(x:aD):Bool:= !x.bad&&decide (x.used<p)
def qw(x:aD):Bool:= !x.bad&&decide (x.live=0)&&decide (0<x.used)
def zt(p:Int)(x:aD):Bool:=if x.bad=true then decide (0<x.live)else decide (x.used=p)&&decide (0<x.live)&&decide (x.live<p)
def FF(a b:aD):Int:=tw b.used a.used
def zu(a b:aD):Int:=tw a.bo b.bo
def FG(a b:aD):Int:=tw a.live b.live
def xj(a b:aD):Int:=if a.bad=b.bad then 0 else if a.bad=true then -1 else 1
def tz(p:Int)(x:aD):Bool:=decide (0<=x.live)&&decide (x.live<=x.used)&&decide (x.used<=p)&&decide (0<=x.bo)&&decide (x.bo<=dJ)
theorem xk{p:Int}{x:aD}:tz p x=true↔0<=x.live/\x.live<=x.used/\x.used<=p/\0<=x.bo/\x.bo<=dJ:=by
 simp only[tz,Bool.and_eq_true,decide_eq_true_eq,and_assoc]
def mS(l:List aD)(p:Int):Bool:=decide (1<=(l.length:Int))&&decide ((l.length:Int)<=32)&&decide (1<=p)&&decide (p<=16)&&l.all (tz p)
theorem zv{l:List aD}{p:Int}:mS l p=true↔1<=(l.length:Int)/\(l.length:Int)<=32/\1<=p/\p<=16/\ ∀x∈l,tz p x=true:=by
 simp only[mS,Bool.and_eq_true,decide_eq_true_eq,and_assoc,List.all_eq_true]
def pz(a b:aD):List (aD->aD->Int)->Bool
 |[]=>false
 |o::r=>if o a b≠0 then decide (o a b<0)else pz a b r
def xm(l:List aD)(dk:aD->Bool)(os:List (aD->aD->Int))(i:Nat)(s:Int×Bool):Int×Bool:=
 if dk (l.getD i gy)=true/\(s.2=false\/pz (l.getD i gy) (l.getD s.1.toNat gy) os=true)then((i:Int),true)else s
def fP(l:List aD)(dk:aD->Bool)(os:List (aD->aD->Int)):Nat->Int×Bool
 |0=>(0,false)
 |k+1=>xm l dk os k (fP l dk os k)
def fx(l:List aD)(p:Int)(dk:aD->Bool)(os:List (aD->aD->Int)):Int×Bool:=
 if mS l p=true then fP l dk os l.length else(0,false)
def eQ(l:List aD)(p:Int):Int×Bool:=fx l p (qv p) [FF,zu]
def ff(l:List aD)(p:Int):Int×Bool:=fx l p qw [zu]
def rN(l:List aD)(p:Int):Int×Bool:=fx l p (zt p) [xj,FG,zu]
def ln(p:Int)(x:aD):Int:=if qw x=true then p else if qv p x=true then p -x.used else 0
def lp:List Int->Int
 |[]=>0
 |x::r=>x+lp r
def zw(l:List aD)(p:Int):Int:=if mS l p=true then lp (l.map (ln p))else 0
theorem TT(a b:List Int):lp (a++b)=lp a+lp b:=by
 induction a with
 |nil=>simp[lp]
 |cons x r ih=>simp only[List.cons_append,lp,ih];omega
theorem FH(l:List aD)(dk:aD->Bool)(os:List (aD->aD->Int)): ∀k,0<=(fP l dk os k).1/\(fP l dk os k).1<=k/\((fP l dk os k).2=true->(fP l dk os k).1<k/\dk (l.getD (fP l dk os k).1.toNat gy)=true)
 |0=>⟨by simp[fP],by simp[fP],fun h=>by simp[fP]at h⟩
 |k+1=>by
  obtain⟨h1,h2,h3⟩:=FH l dk os k;rw[fP,xm];split
  ·
   rename_i h;exact⟨by simp only;omega,by simp only;omega,fun _=>⟨by simp only;omega,by simpa using h.1⟩⟩
  exact⟨h1,by omega,fun h=>⟨by have:=(h3 h).1;omega,(h3 h).2⟩⟩
theorem Lt{l:List aD}{dk:aD->Bool}{os:List (aD->aD->Int)}: ∀{k},(fP l dk os k).2=false-> ∀i,i<k->dk (l.getD i gy)=false
 |0,_,i,hi=>by omega
 |k+1,h,i,hi=>by
  rw[fP,xm]at h;split at h
  ·
   cases h
  rename_i hn
  by_cases e:i=k
  ·
   subst e
   cases hr:dk (l.getD i gy)with
   |false=>rfl
   |true=>exact absurd ⟨hr, .inl h⟩ hn
  exact Lt h i (by omega)
theorem Ce{l:List aD}{p:Int}{dk:aD->Bool}{os:List (aD->aD->Int)}(h:(fx l p dk os).2=true):mS l p=true/\0<=(fx l p dk os).1/\(fx l p dk os).1<l.length/\dk (l.getD (fx l p dk os).1.toNat gy)=true:=by
 unfold fx at h⊢;split at h
 ·
  rename_i hw;rw[if_pos hw];obtain⟨h1,h2,h3⟩:=FH l dk os l.length;exact⟨hw,h1,(h3 h).1,(h3 h).2⟩
 cases h
theorem Lu{l:List aD}{p:Int}{dk:aD->Bool}{os:List (aD->aD->Int)}(hw:mS l p=true)(h:(fx l p dk os).2=false): ∀x∈l,dk x=false:=fun x hx=>by
 unfold fx at h;rw[if_pos hw]at h;obtain⟨i,hi⟩:=List.getElem?_of_mem hx;have dI:=(List.getElem?_eq_some_iff.1 hi).1;have:=Lt h i dI;rwa [show l.getD i gy=x by simp[List.getD,hi]]at this
theorem drop_at{α:Type}{l:List α}{i:Nat}{e:α}(he:l[i]? =some e):l.drop i=e::l.drop (i+1):=by
 obtain⟨hi,rfl⟩:=List.getElem?_eq_some_iff.1 he;rw[List.getElem_cons_drop]
theorem TU{p:Int}{x:aD}(h:tz p x=true)(hp:1<=p):0<=ln p x/\ln p x<=p:=by
 obtain⟨h1,h2,h3,_⟩:=xk.1 h;rw[ln];split
 ·
  omega
 split<;>omega
theorem Lv(p:Int): ∀l:List aD,(∀x∈l,tz p x=true)->1<=p->0<=lp (l.map (ln p))/\lp (l.map (ln p))<=(l.length:Int)*p
 |[],_,_=>by simp[lp]
 |x::r,h,hp=>by
  have h1:=Lv p r (fun y hy=>h y (List.mem_cons_of_mem _ hy)) hp;have h2:=TU (h x List.mem_cons_self) hp;rw[List.map_cons,lp,List.length_cons,Int.natCast_add,Int.add_mul];omega
theorem room_le{n:Nat}{p:Int}(h:n<=32)(h1:1<=p)(h2:p<=16):(n:Int)*p<=512:=by
 have:(n:Int)*p<=32*16:=Int.mul_le_mul (by omega) h2 (by omega) (by omega);omega
structure eC(c d:CV):Prop where
 ae:d.ae=c.ae
 size:d.size=c.size
 len:d.blocks.length=c.blocks.length
theorem eC.fJ(c:CV):eC c c:=⟨rfl,rfl,rfl⟩
theorem eC.trans{c d e:CV}(h:eC c d)(g:eC d e):eC c e:=⟨g.ae.trans h.ae,g.size.trans h.size,g.len.trans h.len⟩
theorem TV(c:CV)(b g:Int)(p:List UInt8):eC c (lj c b g p):=by
 rw[lj];split
 ·
  exact⟨rfl,rfl,by simp[qn]⟩
 exact .fJ c
theorem TW(c:CV)(b:Int):eC c (ll c b):=by
 rw[ll];split
 ·
  exact⟨rfl,rfl,by simp[tr]⟩
 exact .fJ c
theorem TX(c:CV)(b:Int):eC c (oh c b):=by
 rw[oh];split
 ·
  exact⟨rfl,rfl,by simp⟩
 exact .fJ c
theorem FI{c:CV}(h:aX c=true){o:Int}{f:Bool}(h0:0<=o)(h1:o<=dJ){i:Nat}{B:BV}(hB:nv c.ae c.size B=true):aX {c with ops:=o,off:=f,blocks:=c.blocks.set i B}=true:=by
 obtain⟨k1,k2,k3,k4,k5⟩:=dZ.1 h;refine dZ.2 ⟨by simpa using k1,h0,h1,k4,fun b hb=>?_⟩;rcases List.mem_or_eq_of_mem_set hb with hb|rfl
 ·
  exact k5 b hb
 exact hB
theorem Lw{c:CV}(h:aX c=true)(b g:Int)(p:List UInt8):aX (lj c b g p)=true:=by
 rw[lj];split
 ·
  rename_i hk;obtain⟨k1,k2,k3,k4⟩:=hk;obtain⟨j1,j2,j3,j4,j5⟩:=pq.1 k1;obtain⟨o1,o2,o3,o4,o5,o6⟩:=fO.1 (vc j1);have:=(dZ.1 h).2.1;refine FI h (by omega) (by omega) (fO.2 ⟨by simpa using o1,by simp only;omega,by simp only;omega,o4,o5,fun x hx=>?_⟩);rcases List.mem_or_eq_of_mem_set hx with hx|rfl
  ·
   exact o6 x hx
  rw[wY];split
  ·
   simpa[cG]using j4
  exact j4
 exact h
theorem Ly{c:CV}(h:aX c=true)(b:Int):aX (ll c b)=true:=by
 rw[ll];split
 ·
  rename_i hk;obtain⟨k1,k2,k3⟩:=hk;obtain⟨j1,j2,j3⟩:=wZ.1 k1;obtain⟨o1,o2,o3,o4,o5,o6⟩:=fO.1 (vc j1);have:=(dZ.1 h).2.1;have hs:=jT.1 (dZ.1 h).1;have hl:(tq c (aI c b).ae).length=(aI c b).ae.length:=by rw[tq];split<;>simp
  refine FI h (by omega) (by omega) (fO.2 ⟨by rw[hl];exact o1,?_,?_,by simp only;omega,by simp only;omega,fun x hx=>?_⟩)
  ·
   simp only;split<;>omega
  ·
   simp only;split<;>omega
  rw[tq]at hx;split at hx
  ·
   obtain⟨y,hy,rfl⟩:=List.mem_map.1 hx;simpa[cG]using o6 y hy
  obtain⟨y,hy,rfl⟩:=List.mem_map.1 hx;simp only[fZ,List.length_replicate];omega
 exact h
theorem TY{c:CV}(h:aX c=true)(b:Int):aX (oh c b)=true:=by
 rw[oh];split
 ·
  rename_i hk;have hh:ke c b=true:=by
   rw[pt]at hk;split at hk
   ·
    assumption
   cases hk
  obtain⟨o1,o2,o3,o4,o5,o6⟩:=fO.1 (vc hh);have k:=dZ.1 h;exact FI (o:=c.ops) (f:=c.off) h k.2.1 k.2.2.1 (fO.2 ⟨o1,o2,o3,o4,o5,o6⟩)
 exact h
def fg(c:CV)(b:Int):Int:=if(aI c b).bad=true then 0 else c.ae -(aI c b).used
def lq(c:CV)(b e:Int):CV:=if e=9 then oh c b else c
def bY(c:CV)(b:Int)(p:List UInt8):Int:=kD c b (aI c b).used p
def c0(c:CV)(b:Int)(p:List UInt8):CV:=lq (lj c b (aI c b).used p) b (bY c b p)
def iH(c:CV)(b:Int):CV:=lq (ll c b) b (eu c b)
def iI(c:CV):List UInt8:=(dR ⟨1,0,0,[]⟩ c.size).1
def iJ:Nat->CV->Int->CV×Int
 |0,c,b=>(iH c b,eu c b)
 |n+1,c,b=>if bY c b (iI c)≠0 then(c0 c b (iI c),bY c b (iI c))else iJ n (c0 c b (iI c)) b
def dK(c:CV)(b:Int):CV×Int:=iJ (fg c b).toNat c b
theorem Lz{c:CV}(h:aX c=true)(b e:Int):aX (lq c b e)=true:=by
 rw[lq];split
 ·
  exact TY h b
 exact h
theorem LA(c:CV)(b e:Int):eC c (lq c b e):=by
 rw[lq];split
 ·
  exact TX c b
 exact .fJ c
theorem lr{c:CV}(h:aX c=true)(b:Int)(p:List UInt8):aX (c0 c b p)=true:=Lz (Lw h _ _ _) _ _
theorem me(c:CV)(b:Int)(p:List UInt8):eC c (c0 c b p):=(TV _ _ _ _).trans (LA _ _ _)
theorem FJ{c:CV}(h:aX c=true)(b:Int):aX (iH c b)=true:=Lz (Ly h _) _ _
theorem FK(c:CV)(b:Int):eC c (iH c b):=(TW _ _).trans (LA _ _ _)
theorem LB: ∀(n:Nat) {c:CV} (b:Int),aX c=true->aX (iJ n c b).1=true/\eC c (iJ n c b).1
 |0,c,b,h=>⟨FJ h b,FK c b⟩
 |n+1,c,b,h=>by
  rw[iJ];split
  ·
   exact⟨lr h _ _,me _ _ _⟩
  have:=LB n b (lr h b (iI c));exact⟨this.1,(me _ _ _).trans this.2⟩
theorem zx{c:CV}(b:Int)(h:aX c=true):aX (dK c b).1=true/\eC c (dK c b).1:=LB _ b h
theorem xn{c:CV}{b:Int}{p:List UInt8}(h:bY c b p=0):rF c b (aI c b).used p=true/\c.off=false/\(aI c b).bad=false/\(bB c).2=false/\c0 c b p=qn c b (aI c b).used p:=by
 have h0:=h;rw[bY,kD]at h
 by_cases h1:rF c b (aI c b).used p=true
 ·
  rw[if_pos h1]at h
  by_cases h2:c.off=true
  ·
   rw[if_pos h2]at h;cases h
  rw[if_neg h2]at h
  by_cases h3:(aI c b).bad=true\/(aI c b).used≠(aI c b).used
  ·
   rw[if_pos h3]at h;cases h
  rw[if_neg h3]at h;have wa:(aI c b).bad=false:=by
   cases hb:(aI c b).bad with
   |false=>rfl
   |true=>exact absurd (.inl hb) h3
  by_cases h4:(bB c).2=true
  ·
   rw[if_pos h4,mQ]at h;split at h<;>cases h
  refine⟨h1,by simpa using h2,wa,by simpa using h4,?_⟩;rw[c0,lq,h0,if_neg (by decide),lj,if_pos ⟨h1,by simpa using h2,wa,rfl⟩]
 rw[if_neg h1]at h;cases h
theorem FL{c:CV}{b:Int}(h:ke c b=true){o:Int}{f:Bool}{B:BV}:aI {c with ops:=o,off:=f,blocks:=c.blocks.set b.toNat B} b=B:=by
 obtain⟨_,h2,h3⟩:=l5.1 h;simp only[aI,List.getD,List.getElem?_set_self (show b.toNat<c.blocks.length by omega),Option.getD_some]
theorem LC{c:CV}{b:Int}{p:List UInt8}(h:bY c b p=0):fg (c0 c b p) b=fg c b -1:=by
 obtain⟨h1,h2,h3,h4,h5⟩:=xn h;have hh:=(pq.1 h1).1;rw[h5,fg,fg,qn,FL hh];simp only[h3];simp only[Bool.false_eq_true,if_false];omega
theorem TZ{c:CV}{b:Int}(h:0<fg c b):dK c b=if bY c b (iI c)≠0 then(c0 c b (iI c),bY c b (iI c))else dK (c0 c b (iI c)) b:=by
 obtain⟨n,hn⟩: ∃n,(fg c b).toNat=n+1:=⟨(fg c b).toNat -1,by omega⟩;rw[dK,hn,iJ];split
 ·
  rfl
 rename_i h0;have rp:bY c b (iI c)=0:=by simpa using h0
 rw[dK,LC rp,show(fg c b -1).toNat=n by omega]
theorem T0{c:CV}{b:Int}(h: ¬0<fg c b):dK c b=(iH c b,eu c b):=by
 rw[dK,show(fg c b).toNat=0 by omega];rfl
theorem Cf(c:CV)(b e:Int):(lq c b e).ops=c.ops:=by
 rw[lq];split
 ·
  rw[oh];split<;>rfl
 rfl
theorem T1(c:CV)(b g:Int)(p:List UInt8):c.ops<=(lj c b g p).ops:=by
 rw[lj];split
 ·
  simp only[qn];omega
 omega
theorem T2(c:CV)(b:Int):c.ops<=(ll c b).ops:=by
 rw[ll];split
 ·
  simp only[tr];omega
 omega
theorem tA{c:CV}{b:Int}{p:List UInt8}(hb:(aI c b).bad=false)(he:bY c b p=9\/bY c b p=0):(c0 c b p).ops=c.ops+1:=by
 rw[c0,Cf,lj];rw[bY,kD]at he
 by_cases h1:rF c b (aI c b).used p=true
 ·
  rw[if_pos h1]at he
  by_cases h2:c.off=true
  ·
   rw[if_pos h2]at he;omega
  rw[if_pos ⟨h1,by simpa using h2,hb,rfl⟩];rfl
 rw[if_neg h1]at he;omega
theorem T3{c:CV}{b:Int}(hb:(aI c b).bad=false)(he:eu c b=9\/eu c b=0):(iH c b).ops=c.ops+1:=by
 rw[iH,Cf,ll];rw[eu]at he
 by_cases h1:rG c b=true
 ·
  rw[if_pos h1]at he
  by_cases h2:c.off=true
  ·
   rw[if_pos h2]at he;omega
  rw[if_pos ⟨h1,by simpa using h2,hb⟩];rfl
 rw[if_neg h1]at he;omega
theorem T4{c:CV}{b:Int}{p:List UInt8}(h:bY c b p=0):(aI (c0 c b p) b).bad=false:=by
 obtain⟨h1,h2,h3,h4,h5⟩:=xn h;rw[h5,qn,FL (pq.1 h1).1];exact h3
theorem vl(c:CV)(b:Int)(p:List UInt8):c.ops<=(c0 c b p).ops:=by rw[c0,Cf];exact T1 _ _ _ _
theorem LD(c:CV)(b:Int):c.ops<=(iH c b).ops:=by rw[iH,Cf];exact T2 _ _
theorem xo: ∀(n:Nat) (c:CV) (b:Int),c.ops<=(iJ n c b).1.ops
 |0,c,b=>LD c b
 |n+1,c,b=>by
  rw[iJ];split
  ·
   exact vl _ _ _
  have:=xo n (c0 c b (iI c)) b;have:=vl c b (iI c);omega
theorem LF: ∀(n:Nat) {c:CV} {b:Int},(aI c b).bad=false->(iJ n c b).2=9\/(iJ n c b).2=0->c.ops<(iJ n c b).1.ops
 |0,c,b,hb,he=>by have:=T3 hb he;simp only[iJ];omega
 |n+1,c,b,hb,he=>by
  rw[iJ]at he⊢
  by_cases h0:bY c b (iI c)≠0
  ·
   rw[if_pos h0]at he⊢;have:=tA hb (p:=iI c) (he.imp id fun h=>h);simp only;omega
  rw[if_neg h0]at he⊢;have rp:bY c b (iI c)=0:=by simpa using h0
  have:=LF n (T4 rp) he;have:=vl c b (iI c);omega
theorem Cg{c:CV}{b:Int}(hb:(aI c b).bad=false)(he:(dK c b).2=9\/(dK c b).2=0):c.ops<(dK c b).1.ops:=LF _ hb he
def bT:aD:=⟨0,0,0,true⟩
def nA(x:aD):aD:=if x.bad=true then bT else x
def aQ(c:CV)(fl:List Int):List aD:=(gG c fl).map nA
def kF(R:aD->Bool)(x:aD):aD:=if x.bad=true\/R x=false then bT else x
def cg(R:aD->Bool)(l:List aD):List aD:=l.map (kF R)
theorem pA(c:CV)(fl:List Int):(aQ c fl).length=c.blocks.length -2:=by rw[aQ,List.length_map,gG,xi]
theorem Ci(R:aD->Bool)(l:List aD):(cg R l).length=l.length:=by simp[cg]
structure WV where
 v:VV
 beyond:Bool
 deriving DecidableEq
def WV.on(x:WV)(c:CV):WV:={x with v:={x.v with aj:=c}}
theorem qx{c:Cp}{b:Int}{B:Bk}(h:c.blocks.xs[b.toNat]? =some B):aI (cv c) b=bv B:=by
 rw[←vf];simp[List.getD,h]
def kG(c:CV):Nat:=(c.blocks.filter fun b=>b.bad).length
def rO(p:List UInt8):Nat:=if(ei p).2=0 then(ei p).1.gen else 0
def qy(l:List (List UInt8)):Nat:=l.foldl (fun m p=>max m (rO p)) 0
def mf(c:CV)(b:Int):Nat:=qy (aI c b).ae
theorem T5{l:List (List UInt8)}{i:Nat}{p:List UInt8}(h:l[i]? =some p):qy (l.take (i+1))=max (qy (l.take i)) (rO p):=by
 rw[qy,List.take_add_one,h];simp[qy]
theorem LG(b:List UInt8):(cS b).1.gen<281474976710656:=by
 have:=Fs b;rw[cS];split
 ·
  simp[iY]
 split
 ·
  simp[iY]
 split
 ·
  simp[iY]
 split
 ·
  simp[iY]
 split
 ·
  simp[iY]
 exact this
theorem LH(p:List UInt8):rO p<281474976710656:=by
 rw[rO];split
 ·
  rw[ei];split
  ·
   simp[fI]
  split
  ·
   simp[fI]
  split
  ·
   simp[fI]
  exact LG p
 omega
theorem FM(l:List (List UInt8)):qy l<281474976710656:=by
 have: ∀(l:List (List UInt8)) (m:Nat),m<281474976710656->l.foldl (fun m p=>max m (rO p)) m<281474976710656:=by
  intro l
  induction l with
  |nil=>intro m h;exact h
  |cons p r ih=>
   intro m h;have:=LH p;exact ih _ (Nat.max_lt.2 ⟨h,this⟩)
 exact this l 0 (by omega)
def xp(c:CV)(b:Int):Bool:= !(aI c b).bad&&(decide (0<(aI c b).used)||(decide (b<2)&&decide (0<mf c b)))
def eR(c:CV)(b:Int):Nat:=max 1 (mf c (1 -b)+(1 -b).toNat)
def tB(c:CV)(last:Int):Int:=if(aI c (1 -last)).bad=true then fg c last else if(aI c last).bad=true/\0<fg c (1 -last)then fg c (1 -last)else c.ae
def xq(g:Nat):Bool:=decide (281474976710656<=g+2)
def kh(e:Int):Int:=if e=9 then 0 else e
theorem LK{f:aD->aD}{l:List aD}{i:Nat}{x:aD}(h:l[i]? =some x):((l.take i).map f++l.drop i).set i (f x)=(l.take (i+1)).map f++l.drop (i+1):=by
 have hi:=(List.getElem?_eq_some_iff.1 h).1;have hl:((l.take i).map f).length=i:=by rw[List.length_map,List.length_take];omega
 rw[List.set_append_right _ _ (by omega),hl,Nat.sub_self,drop_at h,List.set_cons_zero,List.take_add_one,h];simp
theorem LL{f:aD->aD}{l:List aD}{i:Nat}{x:aD}(h:l[i]? =some x)(hf:f x=x):(l.take i).map f++l.drop i=(l.take (i+1)).map f++l.drop (i+1):=by
 rw[drop_at h,List.take_add_one,h];simp[hf]
theorem LM{f:aD->aD}{l:List aD}{i:Nat}{x:aD}(h:l[i]? =some x):((l.take i).map f++l.drop i)[i]? =some x:=by
 have hi:=(List.getElem?_eq_some_iff.1 h).1;have hl:((l.take i).map f).length=i:=by rw[List.length_map,List.length_take];omega
 rw[List.getElem?_append_right (by omega),hl,Nat.sub_self,List.getElem?_drop,Nat.add_zero,h]
theorem T6{l:List BV}{i:Nat}{x:BV}(h:l[i]? =some x):((l.take (i+1)).filter fun b=>b.bad).length=((l.take i).filter fun b=>b.bad).length+(if x.bad=true then 1 else 0):=by
 rw[List.take_add_one,h,List.filter_append,List.length_append];congr 1;simp only[Option.toList_some,List.filter_cons,List.filter_nil];split<;>simp_all
def gh(c:CV)(l:List Int):Prop:= ∀n∈l,n=0\/(1<=n/\2<=(n -1)/c.ae/\(n -1)/c.ae<(c.blocks.length:Int))
theorem gh.iZ{c d:CV}{l:List Int}(h:gh c l)(g:eC c d):gh d l:=fun n hn=>by
  rcases h n hn with h|h
  ·exact .inl h
  ·exact .inr (by rw[g.ae,g.len];exact h)
theorem gh.append{c:CV}{a b:List Int}(h:gh c a)(g:gh c b):gh c (a++b):=fun n hn=>(List.mem_append.1 hn).elim (h n) (g n)
theorem kH{c:CV}(h:aX c=true):1<=(c.blocks.length:Int)/\(c.blocks.length:Int)<=32/\1<=c.ae/\c.ae<=16/\1<=c.size/\c.size<=256:=jT.1 (dZ.1 h).1
theorem LN{n p b:Int}(hp:1<=p)(fQ:p<=16)(hb:b<=32)(h:(n -1)/p<b):n<=512:=by
  have h1:n -1=p*((n -1)/p)+(n -1)%p:=(Int.mul_ediv_add_emod (n -1) p).symm;have h2:=Int.emod_lt_of_pos (n -1) (show 0<p by omega);have h3:(n -1)/p<=31:=by omega
  have h4:p*((n -1)/p)<=p*31:=Int.mul_le_mul_of_nonneg_left h3 (by omega);omega
theorem gh.kn{c:CV}{l:List Int}(h:gh c l)(hk:aX c=true)(h2:2<=c.blocks.length)(hl:l.length<=1000000):py c l:=
  ⟨⟨hk,hl⟩,h2,fun n hn=>by
    rcases h n hn with h|h
    ·exact .inl h
    ·have hd:=kH hk
     have:=LN (n:=n) hd.2.2.1 hd.2.2.2.1 hd.2.1 h.2.2;exact .inr ⟨h.1,by omega,h.2.1,h.2.2⟩⟩
theorem LO{c:CV}{fl:List Int}{i:Nat}(hi:i<c.blocks.length -2):(aQ c fl)[i]? =some (nA (tv (aI c ((i:Int)+2)) (qu c.ae fl fl.length i))):=by
  rw[aQ,gG,iG,List.getElem?_map,List.getElem?_map,List.getElem?_range hi];rfl
theorem Cj{c:CV}{fl:List Int}{i:Nat}{x:aD}(h:(aQ c fl)[i]? =some x):x.bad=(aI c ((i:Int)+2)).bad:=by
  have hi:=(List.getElem?_eq_some_iff.1 h).1;rw[pA]at hi;rw[LO hi]at h;obtain rfl:=Option.some.inj h;rw[nA];split
  ·rename_i hb;exact hb.symm
  ·rfl
theorem zy{c:CV}(hk:aX c=true){b:Int}(h0:0<=b)(h1:b<c.blocks.length):nv c.ae c.size (aI c b)=true:=vc (l5.2 ⟨hk,h0,h1⟩)
structure Ck(c:CV)(n:Nat)(x:aD):Prop where
  T7:0<=x.live
  T8:x.live<=n
  Cl:0<=x.used
  Cm:x.used<=c.ae
  T9:0<=x.bo
  Ua:x.bo<=dJ
theorem Cn{c:CV}{fl:List Int}(hk:aX c=true){x:aD}(h:x∈aQ c fl):Ck c fl.length x:=by
  obtain⟨i,hi⟩:=List.getElem?_of_mem h;have dI:=(List.getElem?_eq_some_iff.1 hi).1;rw[pA]at dI;rw[LO dI]at hi;obtain rfl:=Option.some.inj hi;have hd:=kH hk;have vm:dJ=1099511627776:=rfl;rw[nA];split
  ·exact⟨by simp[bT],by simp[bT],by simp[bT],by simp only[bT];omega,by simp[bT],by simp only[bT];omega⟩
  ·have ho:=fO.1 (zy hk (b:=(i:Int)+2) (by omega) (by omega))
   have:=Ls c.ae fl fl.length i;exact⟨by simp only[tv];omega,by simp only[tv];omega,ho.2.1,ho.2.2.1,ho.2.2.2.1,ho.2.2.2.2.1⟩
theorem LP{R:aD->Bool}{l:List aD}{i:Nat}{x:aD}(h:(cg R l)[i]? =some x): ∃y,l[i]? =some y/\x=kF R y:=by
  rw[cg,List.getElem?_map,Option.map_eq_some_iff]at h;obtain⟨y,hy,rfl⟩:=h;exact⟨y,hy,rfl⟩
theorem Ub{R:aD->Bool}{y:aD}(h:(kF R y).bad=false):kF R y=y/\y.bad=false/\R y=true:=by
  unfold kF at h⊢;split at h
  ·cases h
  ·rename_i hn
   rw[if_neg hn];refine⟨rfl,h,?_⟩
   cases hR:R y with
   |true=>rfl
   |false=>exact absurd (.inr hR) hn
theorem zA{p:Int}{x:aD}(h:qv p x=true):x.bad=false/\x.used<p:=by
  simpa[qv]using h
theorem vn{x:aD}(h:qw x=true):x.bad=false/\x.live=0/\0<x.used:=by
  simpa[qw,and_assoc]using h
theorem Co{R:aD→Bool}{l:List aD}{p:Int}{dk:aD→Bool}{os:List (aD→aD→Int)}(hr: ∀x,dk x=true→x.bad=false)(h:(fx (cg R l) p dk os).2=true):
    ∃x,l[(fx (cg R l) p dk os).1.toNat]? =some x/\x.bad=false/\R x=true/\dk x=true/\0<=(fx (cg R l) p dk os).1/\(fx (cg R l) p dk os).1<l.length:=by
  obtain⟨h1,h2,h3,h4⟩:=Ce h;rw[Ci]at h3;have hi:(cg R l)[(fx (cg R l) p dk os).1.toNat]? =some ((cg R l).getD (fx (cg R l) p dk os).1.toNat gy):=kW (by rw[Ci];omega);obtain⟨y,hy,he⟩:=LP hi;rw[he]at h4;obtain⟨k1,k2,k3⟩:=Ub (hr _ h4);rw[k1]at h4;exact⟨y,hy,k2,k3,h4,h2,h3⟩
def vo(x:aD):Bool:=decide (0<x.live)
def ja(x:aD):Bool:=decide (x.live=0)
def oo(l:List aD):Nat:=(l.filter fun x=> !x.bad&&decide (x.live=0)).length
def nB(c:CV)(fl:List Int):Int×Bool:=eQ (cg vo (aQ c fl)) c.ae
def mg(c:CV)(fl:List Int):Int×Bool:=eQ (cg ja (aQ c fl)) c.ae
def nC(c:CV)(fl:List Int):Int:=(ff (cg ja (aQ c fl)) c.ae).1
def bx(c:CV)(fl:List Int)(bm:Bool):CV×Int×Int:=
  if(nB c fl).2=true then(c,(nB c fl).1+2,0)
  else if oo (aQ c fl)=0\/(oo (aQ c fl)=1/\bm=false)then(c,0,5)
  else if(mg c fl).2=true then(c,(mg c fl).1+2,0)
  else((dK c (nC c fl+2)).1,nC c fl+2,(dK c (nC c fl+2)).2)
theorem Uc{l:List aD}{i:Nat}{x:aD}(h:l[i]? =some x):((l.take (i+1)).filter fun z=> !z.bad&&decide (z.live=0)).length=((l.take i).filter fun z=> !z.bad&&decide (z.live=0)).length+(if x.bad=false/\x.live=0 then 1 else 0):=by
  rw[List.take_add_one,h,List.filter_append,List.length_append];congr 1;simp only[Option.toList_some,List.filter_cons,List.filter_nil];split<;>simp_all
theorem Ud(l:List aD):(l.filter fun z=> !z.bad&&decide (z.live=0)).length<=l.length:=List.length_filter_le _ _
theorem LQ{c:CV}{fl:List Int}(hk:aX c=true)(h2:3<=c.blocks.length)(hi:oo (aQ c fl)≠0)(hb: ¬(mg c fl).2=true):0<=nC c fl/\nC c fl<(c.blocks.length:Int) -2/\(aI c (nC c fl+2)).bad=false:=by
  have hd:=kH hk;have dS:=pA c fl;have hw:mS (cg ja (aQ c fl)) c.ae=true:=zv.2 ⟨by rw[Ci];omega,by rw[Ci];omega,by omega,by omega,fun x hx=>by
    obtain⟨i,hi⟩:=List.getElem?_of_mem hx;obtain⟨y,hy,rfl⟩:=LP hi;have t:=Cn hk (List.mem_of_getElem? hy);have vm:dJ=1099511627776:=rfl;unfold kF;split
    ·exact xk.2 (by simp only[bT];omega)
    ·rename_i hn
     have hl:y.live=0:=by
        cases hR:ja y with
        |true=>simpa[ja]using hR
        |false=>exact absurd (.inr hR) hn
     exact xk.2 ⟨by omega,by have:=t.Cl;omega,t.Cm,t.T9,t.Ua⟩⟩
  have qz:(mg c fl).2=false:=by simpa using hb
  have FN:=Lu hw (show(fx _ _ _ _).2=false from qz);have FO:0<((aQ c fl).filter fun x=> !x.bad&&decide (x.live=0)).length:=by rw[oo]at hi;omega
  obtain⟨x,hx⟩:=List.exists_mem_of_length_pos FO;obtain⟨oq,ib⟩:=List.mem_filter.1 hx;simp only[Bool.and_eq_true,Bool.not_eq_true',decide_eq_true_eq]at ib;have xr:kF ja x=x:=by
    unfold kF;rw[if_neg];rintro(g|g)
    ·rw[ib.1]at g;cases g
    ·rw[show ja x=true by simp[ja,ib.2]]at g;cases g
  have FP:x∈cg ja (aQ c fl):=by
    rw[←xr];exact List.mem_map_of_mem oq
  have LR:=FN x FP;have t:=Cn hk oq;have Ue:qw x=true:=by
    have: ¬x.used<c.ae:=fun h=>by
      rw[qv,ib.1,decide_eq_true h]at LR;cases LR
    simp only[qw,ib.1,Bool.not_false,Bool.true_and,Bool.and_eq_true,decide_eq_true_eq];omega
  have hf:(ff (cg ja (aQ c fl)) c.ae).2=true:=by
    cases hq:(ff (cg ja (aQ c fl)) c.ae).2 with
    |true=>rfl
    |false=>have:=Lu hw hq x FP;rw[Ue]at this;cases this
  obtain⟨y,hy,k1,_,_,k4,k5⟩:=Co (fun x h=>(vn h).1) hf;have mh:=Cj hy;change 0<=nC c fl at k4;change nC c fl<_ at k5;refine⟨k4,by omega,?_⟩;rw[←k1,mh];congr 2;change _=((nC c fl).toNat:Int)+2;omega
theorem LS{c:CV}{fl:List Int}(h:(nB c fl).2=true):0<=(nB c fl).1/\(nB c fl).1<((c.blocks.length -2:Nat):Int)/\(aI c ((nB c fl).1+2)).bad=false:=by
  obtain⟨y,hy,k1,_,_,k4,k5⟩:=Co (fun x h=>(zA h).1) h;have mh:=Cj hy;rw[pA]at k5;refine⟨k4,k5,?_⟩;rw[←k1,mh];congr 2;change _=((nB c fl).1.toNat:Int)+2;change 0<=(nB c fl).1 at k4;omega
theorem LU{c:CV}{fl:List Int}(h:(mg c fl).2=true):0<=(mg c fl).1/\(mg c fl).1<((c.blocks.length -2:Nat):Int)/\(aI c ((mg c fl).1+2)).bad=false:=by
  obtain⟨y,hy,k1,_,_,k4,k5⟩:=Co (fun x h=>(zA h).1) h;have mh:=Cj hy;rw[pA]at k5;refine⟨k4,k5,?_⟩;rw[←k1,mh];congr 2;change _=((mg c fl).1.toNat:Int)+2;change 0<=(mg c fl).1 at k4;omega
theorem Uf{c:CV}{b:Int}(h:eu c b=0):rG c b=true/\c.off=false/\(aI c b).bad=false/\(bB c).2=false/\iH c b=tr c b:=by
  have h0:=h;rw[eu]at h
  by_cases h1:rG c b=true
  ·rw[if_pos h1]at h
   by_cases h2:c.off=true
   ·rw[if_pos h2]at h;cases h
   ·rw[if_neg h2]at h
    by_cases h3:(aI c b).bad=true
    ·rw[if_pos h3]at h;cases h
    ·rw[if_neg h3]at h
     by_cases h4:(bB c).2=true
     ·rw[if_pos h4,mQ]at h
      split at h<;>cases h
     ·refine⟨h1,by simpa using h2,by simpa using h3,by simpa using h4,?_⟩
      rw[iH,lq,h0,if_neg (by decide),ll,if_pos ⟨h1,by simpa using h2,by simpa using h3⟩]
  ·rw[if_neg h1]at h;cases h
theorem LV{c:CV}{b:Int}(h:eu c b=0):(aI (iH c b) b).bad=false:=by
  obtain⟨h1,h2,h3,h4,h5⟩:=Uf h;rw[h5,tr,FL (wZ.1 h1).1];exact h3
theorem Cq: ∀(n:Nat) {c:CV} {b:Int},(iJ n c b).2=0->(aI (iJ n c b).1 b).bad=false
  |0,c,b,h=>LV h
  |n+1,c,b,h=>by
   rw[iJ]at h⊢
   by_cases h0:bY c b (iI c)≠0
   ·rw[if_pos h0]at h;exact absurd h h0
   ·rw[if_neg h0]at h⊢;exact Cq n h
theorem LW{c:CV}{fl:List Int}{bm:Bool}(hk:aX c=true)(h2:3≤c.blocks.length):aX (bx c fl bm).1=true∧eC c (bx c fl bm).1∧c.ops≤(bx c fl bm).1.ops∧
    ((bx c fl bm).2.2=0->2<=(bx c fl bm).2.1/\(bx c fl bm).2.1<c.blocks.length/\(aI (bx c fl bm).1 (bx c fl bm).2.1).bad=false)/\((bx c fl bm).2.2=9->c.ops<(bx c fl bm).1.ops):=by
  rw[bx]
  by_cases h1:(nB c fl).2=true
  ·rw[if_pos h1]
   have:=LS h1;exact⟨hk, .fJ c,Int.le_refl _,fun _=>⟨by simp only;omega,by simp only;omega,this.2.2⟩,fun h=>absurd (show(0:Int)=9 from h) (by decide)⟩
  ·rw[if_neg h1]
   by_cases h3:oo (aQ c fl)=0\/(oo (aQ c fl)=1/\bm=false)
   ·rw[if_pos h3]
    exact⟨hk, .fJ c,Int.le_refl _,fun h=>absurd (show(5:Int)=0 from h) (by decide),fun h=>absurd (show(5:Int)=9 from h) (by decide)⟩
   ·rw[if_neg h3]
    by_cases h4:(mg c fl).2=true
    ·rw[if_pos h4]
     have:=LU h4;exact⟨hk, .fJ c,Int.le_refl _,fun _=>⟨by simp only;omega,by simp only;omega,this.2.2⟩,fun h=>absurd (show(0:Int)=9 from h) (by decide)⟩
    ·rw[if_neg h4]
     obtain⟨d1,d2,d3⟩:=LQ hk h2 (fun e=>h3 (.inl e)) h4;have hc:=zx (nC c fl+2) hk;exact⟨hc.1,hc.2,xo _ _ _,fun h=>⟨by simp only;omega,by simp only;omega,Cq _ h⟩,fun h=>Cg d3 (.inl h)⟩
def jW:Nat->CV->List Int->Bool->List UInt8->CV×Int×Int
  |0,c,_,_,_=>(c,0,0)
  |n+1,c,fl,bm,b=>
   if(bx c fl bm).2.2=0 then
      (if bY (bx c fl bm).1 (bx c fl bm).2.1 b=0 then(c0 (bx c fl bm).1 (bx c fl bm).2.1 b,(bx c fl bm).2.1*c.ae+(aI (bx c fl bm).1 (bx c fl bm).2.1).used+1,0)
       else if bY (bx c fl bm).1 (bx c fl bm).2.1 b≠9 then(c0 (bx c fl bm).1 (bx c fl bm).2.1 b,0,bY (bx c fl bm).1 (bx c fl bm).2.1 b)
       else jW n (c0 (bx c fl bm).1 (bx c fl bm).2.1 b) fl bm b)
   else if(bx c fl bm).2.2≠9 then((bx c fl bm).1,0,(bx c fl bm).2.2)
   else jW n (bx c fl bm).1 fl bm b
def dv(c:CV)(fl:List Int)(bm:Bool)(p:PV):CV×Int×Int:=
  if(dR p c.size).2≠0 then(c,0,(dR p c.size).2)else jW ((dJ -c.ops).toNat+1) c fl bm (dR p c.size).1
theorem tC{c:CV}(h:aX c=true):c.ops<=dJ:=(dZ.1 h).2.2.1
theorem FQ: ∀(n:Nat) {c:CV} {fl:List Int} {bm:Bool} {b:List UInt8},aX c=true→3≤c.blocks.length→(dJ -c.ops).toNat<n→
    aX (jW n c fl bm b).1=true/\eC c (jW n c fl bm b).1/\c.ops<=(jW n c fl bm b).1.ops/\((jW n c fl bm b).2.2=0->1<=(jW n c fl bm b).2.1/\2<=((jW n c fl bm b).2.1 -1)/c.ae/\((jW n c fl bm b).2.1 -1)/c.ae<c.blocks.length)
  |0,c,fl,bm,b,_,_,hn=>by omega
  |n+1,c,fl,bm,b,hk,h2,hn=>by
   obtain⟨f1,f2,f3,f4,f5⟩:=LW (fl:=fl) (bm:=bm) hk h2;have hd:=kH hk;rw[jW]
   by_cases h0:(bx c fl bm).2.2=0
   ·rw[if_pos h0]
    obtain⟨g1,g2,g3⟩:=f4 h0
    by_cases h1:bY (bx c fl bm).1 (bx c fl bm).2.1 b=0
    ·rw[if_pos h1]
     have hl:=f2.trans (me (bx c fl bm).1 (bx c fl bm).2.1 b);have hp:=pq.1 (xn h1).1;rw[f2.ae]at hp;have hu:0<=(aI (bx c fl bm).1 (bx c fl bm).2.1).used:=hp.2.1;have FR:=hp.2.2.1
     have hq:((bx c fl bm).2.1*c.ae+(aI (bx c fl bm).1 (bx c fl bm).2.1).used+1 -1)/c.ae=(bx c fl bm).2.1:=by
          rw[Int.add_sub_cancel,Int.add_comm,Int.add_mul_ediv_right _ _ (by omega),Int.ediv_eq_zero_of_lt hu FR,Int.zero_add]
     refine⟨lr f1 _ _,hl,?_,fun _=>⟨?_,by simp only;rw[hq];exact g1,by simp only;rw[hq];exact g2⟩⟩
     ·have:=vl (bx c fl bm).1 (bx c fl bm).2.1 b;simp only;omega
     ·have:0<=(bx c fl bm).2.1*c.ae:=Int.mul_nonneg (by omega) (by omega)
      simp only;omega
    ·rw[if_neg h1]
     by_cases h9:bY (bx c fl bm).1 (bx c fl bm).2.1 b≠9
     ·rw[if_pos h9]
      exact⟨lr f1 _ _,f2.trans (me _ _ _),by have:=vl (bx c fl bm).1 (bx c fl bm).2.1 b;simp only;omega,fun h=>absurd h h1⟩
     ·rw[if_neg h9]
      have ho:=tA g3 (p:=b) (.inl (by simpa using h9));have bZ:=lr f1 (bx c fl bm).2.1 b;have hl:=f2.trans (me (bx c fl bm).1 (bx c fl bm).2.1 b);have hle:=tC bZ;have:=FQ n (fl:=fl) (bm:=bm) (b:=b) bZ (by rw[hl.len];exact h2) (by omega);refine⟨this.1,hl.trans this.2.1,by omega,fun h=>?_⟩;have g:=this.2.2.2 h;rw[hl.ae,hl.len]at g;exact g
   ·rw[if_neg h0]
    by_cases h9:(bx c fl bm).2.2≠9
    ·rw[if_pos h9]
     exact⟨f1,f2,f3,fun h=>absurd h h0⟩
    ·rw[if_neg h9]
     have ho:=f5 (by simpa using h9);have hle:=tC f1;have:=FQ n (fl:=fl) (bm:=bm) (b:=b) f1 (by rw[f2.len];exact h2) (by omega);refine⟨this.1,f2.trans this.2.1,by omega,fun h=>?_⟩;have g:=this.2.2.2 h;rw[f2.ae,f2.len]at g;exact g
theorem LX{c:CV}{fl:List Int}{bm:Bool}{p:PV}(hk:aX c=true)(h2:3≤c.blocks.length):
    aX (dv c fl bm p).1=true/\eC c (dv c fl bm p).1/\c.ops<=(dv c fl bm p).1.ops/\((dv c fl bm p).2.2=0->1<=(dv c fl bm p).2.1/\2<=((dv c fl bm p).2.1 -1)/c.ae/\((dv c fl bm p).2.1 -1)/c.ae<c.blocks.length):=by
  rw[dv];split
  ·rename_i h;exact⟨hk, .fJ c,Int.le_refl _,fun h'=>absurd h' h⟩
  ·exact FQ _ hk h2 (by omega)
def pB(p:Int)(x:aD):Int:=if x.live=0/\p -x.used=0 then p else p -x.used
def vp(p:Int)(s:Int×Int)(x:aD):Int×Int:=if x.bad=true then s else(s.1+pB p x,if x.live=0 then max s.2 (pB p x)else s.2)
def eD(p:Int)(l:List aD):Int×Int:=l.foldl (vp p) (0,0)
def mi(c:CV)(fl:List Int):Int×Int:=((eD c.ae (aQ c fl)).1 -(eD c.ae (aQ c fl)).2,(eD c.ae (aQ c fl)).1)
theorem LY{p:Int}{l:List aD}{i:Nat}{x:aD}(h:l[i]? =some x):eD p (l.take (i+1))=vp p (eD p (l.take i)) x:=by
  rw[eD,List.take_add_one,h];simp[eD]
theorem Ug{c:CV}{n:Nat}{x:aD}(h:Ck c n x)(hk:aX c=true):0<=pB c.ae x/\pB c.ae x<=c.ae:=by
  have hd:=kH hk;have:=h.Cl;have:=h.Cm;rw[pB];split<;>omega
theorem LZ{c:CV}{n:Nat}(hk:aX c=true)(l:List aD)(h: ∀x∈l,Ck c n x): ∀i,i<=l.length->0<=(eD c.ae (l.take i)).1/\(eD c.ae (l.take i)).1<=16*(i:Int)/\0<=(eD c.ae (l.take i)).2/\(eD c.ae (l.take i)).2<=16
  |0,_=>by simp[eD]
  |i+1,hi=>by
   obtain⟨x,hx⟩:=get_some (xs:=l) (i:=i) (by omega);have ih:=LZ hk l h i (by omega);have hr:=Ug (h x (List.mem_of_getElem? hx)) hk;have hd:=kH hk;rw[LY hx,vp];split
   ·omega
   ·refine⟨by simp only;omega,by simp only;omega,?_,?_⟩
    ·simp only;split<;>omega
    ·simp only;split<;>omega
structure c6(x:WV):Prop where
 aj:aX x.v.aj=true
 len:4<=(x.v.aj.blocks.length:Int)
 ae:2<=x.v.aj.ae
 size:24<=x.v.aj.size
 last:x.v.last=0\/x.v.last=1
 gen:x.v.gen<281474976710656
 rP:gh x.v.aj x.v.at_
 rQ:x.v.at_.length<=64
theorem c6.on{x:WV}(h:c6 x){c:CV}(hk:aX c=true)(hl:eC x.v.aj c):c6 (x.on c):=
 ⟨hk,by simp only[WV.on];rw[hl.len];exact h.len,by simp only[WV.on];rw[hl.ae];exact h.ae,by simp only[WV.on];rw[hl.size];exact h.size,h.last,h.gen,h.rP.iZ hl,h.rQ⟩
theorem c6.rR{x:WV}(h:c6 x):4<=x.v.aj.blocks.length:=by have:=h.len;omega
def bC(c:CV)(last:Int):CV×Int×Int:=
 if 0<fg c last then(c,last,0)
 else if 0<fg c (1 -last)then(c,1 -last,0)
 else if(aI c (1 -last)).bad=true then(c,0,9)
 else(iH c (1 -last),1 -last,eu c (1 -last))
theorem L3{c:CV}{b:Int}(h:0<fg c b):(aI c b).bad=false:=by
 rw[fg]at h;split at h
 ·
  omega
 rename_i hn;simpa using hn
theorem L4{c:CV}{last:Int}(hk:aX c=true)(hl:last=0\/last=1):aX (bC c last).1=true/\eC c (bC c last).1/\c.ops<=(bC c last).1.ops/\
  ((bC c last).2.2=0->((bC c last).2.1=0\/(bC c last).2.1=1)/\(aI (bC c last).1 (bC c last).2.1).bad=false):=by
 rw[bC]
 by_cases h1:0<fg c last
 ·
  rw[if_pos h1];exact⟨hk, .fJ c,Int.le_refl _,fun _=>⟨hl,L3 h1⟩⟩
 ·
  rw[if_neg h1]
  by_cases h2:0<fg c (1 -last)
  ·
   rw[if_pos h2];exact⟨hk, .fJ c,Int.le_refl _,fun _=>⟨by simp only;omega,L3 h2⟩⟩
  ·
   rw[if_neg h2]
   by_cases h3:(aI c (1 -last)).bad=true
   ·
    rw[if_pos h3];exact⟨hk, .fJ c,Int.le_refl _,fun h=>absurd (show(9:Int)=0 from h) (by decide)⟩
   ·
    rw[if_neg h3];exact⟨FJ hk _,FK _ _,LD _ _,fun h=>⟨by simp only;omega,LV h⟩⟩
def nD:Nat->WV->List Int->List UInt8->WV×Int
 |0,x,_,_=>(x,0)
 |n+1,x,a,b=>
  if(bC x.v.aj x.v.last).2.2≠0 then(x.on (bC x.v.aj x.v.last).1,(bC x.v.aj x.v.last).2.2)
  else if bY (bC x.v.aj x.v.last).1 (bC x.v.aj x.v.last).2.1 b=0 then
   (⟨⟨c0 (bC x.v.aj x.v.last).1 (bC x.v.aj x.v.last).2.1 b,a,x.v.gen+1,if mf (c0 (bC x.v.aj x.v.last).1 (bC x.v.aj x.v.last).2.1 b) 1=x.v.gen+1 then 1 else(bC x.v.aj x.v.last).2.1⟩,x.beyond⟩,0)
  else if bY (bC x.v.aj x.v.last).1 (bC x.v.aj x.v.last).2.1 b≠9 then
   (x.on (c0 (bC x.v.aj x.v.last).1 (bC x.v.aj x.v.last).2.1 b),bY (bC x.v.aj x.v.last).1 (bC x.v.aj x.v.last).2.1 b)
  else nD n (x.on (c0 (bC x.v.aj x.v.last).1 (bC x.v.aj x.v.last).2.1 b)) a b
def gR(x:WV)(a:List Int):WV×Int:=
 if(c4 ⟨x.v.gen+1,a⟩ x.v.aj.size).2≠0 then(x,(c4 ⟨x.v.gen+1,a⟩ x.v.aj.size).2)
 else nD ((dJ -x.v.aj.ops).toNat+1) x a (c4 ⟨x.v.gen+1,a⟩ x.v.aj.size).1
structure gH(x y:WV):Prop where
 ok:c6 y
 iZ:eC x.v.aj y.v.aj
 ops:x.v.aj.ops<=y.v.aj.ops
 xt:y.v.at_.length=x.v.at_.length
theorem gH.fJ{x:WV}(h:c6 x):gH x x:=⟨h, .fJ _,Int.le_refl _,rfl⟩
theorem gH.trans{x y z:WV}(h:gH x y)(g:gH y z):gH x z:=⟨g.ok,h.iZ.trans g.iZ,Int.le_trans h.ops g.ops,g.xt.trans h.xt⟩
theorem gH.on{x:WV}(h:c6 x){c:CV}(hk:aX c=true)(hl:eC x.v.aj c)(ho:x.v.aj.ops<=c.ops):gH x (x.on c):=⟨h.on hk hl,hl,ho,rfl⟩
theorem Uh{r:RV}{n:Int}(h:(c4 r n).2=0):r.gen<281474976710656/\(r.at_.length:Int)<=kf n:=by
 rw[c4]at h;split at h
 ·
  rename_i hm;have:=zp.1 hm;exact⟨this.2.1,this.2.2.1⟩
 cases h
theorem Ui(n:Int):kf n<=64:=by rw[kf];omega
theorem L5: ∀(n:Nat) {x:WV} {a:List Int} {b:List UInt8},c6 x->gh x.v.aj a->a.length=x.v.at_.length->x.v.gen+1<281474976710656->(dJ -x.v.aj.ops).toNat<n->gH x (nD n x a b).1/\((nD n x a b).2=0->x.v.aj.ops<(nD n x a b).1.v.aj.ops)
 |0,x,a,b,_,_,_,_,hn=>by omega
 |n+1,x,a,b,hx,ha,iT,hg,hn=>by
  obtain⟨r1,r2,r3,r4⟩:=L4 (c:=x.v.aj) (last:=x.v.last) hx.aj hx.last;rw[nD]
  by_cases h0:(bC x.v.aj x.v.last).2.2≠0
  ·
   rw[if_pos h0];exact⟨.on hx r1 r2 r3,fun h=>absurd h h0⟩
  rw[if_neg h0];obtain⟨r5,r6⟩:=r4 (by simpa using h0);have jw:=lr r1 (bC x.v.aj x.v.last).2.1 b;have gq:=r2.trans (me (bC x.v.aj x.v.last).1 (bC x.v.aj x.v.last).2.1 b);have ki:=vl (bC x.v.aj x.v.last).1 (bC x.v.aj x.v.last).2.1 b
  by_cases h1:bY (bC x.v.aj x.v.last).1 (bC x.v.aj x.v.last).2.1 b=0
  ·
   rw[if_pos h1];have ho:=tA r6 (p:=b) (.inr h1);have jI:=hx.on jw gq;refine⟨⟨⟨jw,jI.len,jI.ae,jI.size,?_,hg,ha.iZ gq,by simp only;rw[iT];exact hx.rQ⟩,gq,by simp only;omega,iT⟩,fun _=>by simp only;omega⟩;simp only;split
   ·
    exact .inr rfl
   exact r5
  rw[if_neg h1]
  by_cases h9:bY (bC x.v.aj x.v.last).1 (bC x.v.aj x.v.last).2.1 b≠9
  ·
   rw[if_pos h9];exact⟨.on hx jw gq (by omega),fun h=>absurd h h1⟩
  rw[if_neg h9];have ho:=tA r6 (p:=b) (.inl (by simpa using h9));have hle:=tC jw;have jI:=hx.on jw gq;have:=L5 n (x:=x.on (c0 (bC x.v.aj x.v.last).1 (bC x.v.aj x.v.last).2.1 b)) (a:=a) (b:=b) jI (ha.iZ gq) iT hg (by simp only[WV.on];omega);exact⟨(gH.on hx jw gq (by omega)).trans this.1,fun h=>by
   have h2:(c0 (bC x.v.aj x.v.last).1 (bC x.v.aj x.v.last).2.1 b).ops<_:=this.2 h;omega⟩
theorem L6{x:WV}{a:List Int}(hx:c6 x)(ha:gh x.v.aj a)(iT:a.length=x.v.at_.length):gH x (gR x a).1/\((gR x a).2=0->x.v.aj.ops<(gR x a).1.v.aj.ops):=by
 rw[gR];split
 ·
  rename_i h;exact⟨.fJ hx,fun h'=>absurd h' h⟩
 rename_i h;have:=Uh (r:=⟨x.v.gen+1,a⟩) (n:=x.v.aj.size) (by simpa using h);exact L5 _ hx ha iT this.1 (by omega)
def kI:Nat->Int->CV->CV×Int
 |0,_,c=>(c,0)
 |n+1,b,c=>if xp c b=false then kI n (b+1) c
  else if eu c b≠0/\eu c b≠9 then(iH c b,eu c b)else kI n (b+1) (iH c b)
def mj(c:CV)(b:Int)(ids:Nat):List UInt8×Int:=c4 ⟨eR c b,List.replicate ids 0⟩ c.size
def Cr(c:CV)(b:Int)(ids:Nat)(g:Nat):VV:=⟨c,List.replicate ids 0,g,b⟩
def tD:Nat->Int->WV->Nat->WV×Int
 |0,_,x,_=>(x,9)
 |n+1,b,x,ids=>
  if(mj x.v.aj b ids).2≠0\/fg x.v.aj b=0 then tD n (b+1) x ids
  else if bY x.v.aj b (mj x.v.aj b ids).1=0 then(⟨Cr (c0 x.v.aj b (mj x.v.aj b ids).1) b ids (eR x.v.aj b),x.beyond⟩,0)
  else if bY x.v.aj b (mj x.v.aj b ids).1≠9 then(x.on (c0 x.v.aj b (mj x.v.aj b ids).1),bY x.v.aj b (mj x.v.aj b ids).1)
  else tD n (b+1) (x.on (c0 x.v.aj b (mj x.v.aj b ids).1)) ids
def ot(x:WV)(ids:Nat):WV×Int:=
 if(kI x.v.aj.blocks.length 0 x.v.aj).2≠0 then(x.on (kI x.v.aj.blocks.length 0 x.v.aj).1,(kI x.v.aj.blocks.length 0 x.v.aj).2)
 else tD 2 0 (x.on (kI x.v.aj.blocks.length 0 x.v.aj).1) ids
def xu(s:Int×Int)(i:Nat)(x:aD):Int×Int:=
 if x.bad=true\/x.live=0\/dJ<=x.bo then s else if s.2<x.used -x.live then((i:Int),x.used -x.live)else s
def jb(l:List aD):Nat->Int×Int
 |0=>(0,0)
 |k+1=>xu (jb l k) k (l.getD k gy)
def ic(l:List aD)(p:Int):Int×Bool:=if(rN l p).2=true then((rN l p).1,true)else((jb l l.length).1,decide (0<(jb l l.length).2))
theorem FT(l:List aD): ∀k,0<=(jb l k).1/\0<=(jb l k).2/\(0<(jb l k).2->(jb l k).1<k)
 |0=>by simp[jb]
 |k+1=>by
  have:=FT l k;rw[jb,xu];split
  ·
   exact⟨this.1,this.2.1,fun h=>by have:=this.2.2 h;omega⟩
  split
  ·
   exact⟨by simp only;omega,by simp only;omega,fun _=>by simp only;omega⟩
  exact⟨this.1,this.2.1,fun h=>by have:=this.2.2 h;omega⟩
theorem Uj{l:List aD}{p:Int}(h:(ic l p).2=true):0<=(ic l p).1/\(ic l p).1<l.length:=by
 rw[ic]at h⊢;split
 ·
  rename_i hv;have:=Ce hv;exact⟨this.2.1,this.2.2.1⟩
 rename_i hv;rw[if_neg hv]at h;have:=FT l l.length;exact⟨this.1,this.2.2 (by simpa using h)⟩
def vq(x:aD):Bool:=decide (x.used=0)
def vr(p:Int)(x:aD):Bool:=decide (x.used=p)
def vt(x:aD):Bool:=decide (x.bo<dJ)
def qA(c:CV)(l:List aD):Int×Bool:=eQ (cg vq l) c.ae
def mn(c:CV)(l:List aD):Int×Bool:=ff (cg (vr c.ae) l) c.ae
def mo(c:CV)(l:List aD):Int×Bool:=ff (cg vt l) c.ae
def cD(c:CV)(l:List aD):CV×Int×Int:=
 if(qA c l).2=true then(c,(qA c l).1+2,0)
 else if(mn c l).2=true then((dK c ((mn c l).1+2)).1,(mn c l).1+2,(dK c ((mn c l).1+2)).2)
 else if(mo c l).2=true then((dK c ((mo c l).1+2)).1,(mo c l).1+2,(dK c ((mo c l).1+2)).2)
 else(c,0,6)
def jX(c:CV)(l:List aD):Prop:=l.length=c.blocks.length -2/\ ∀(i:Nat) (x:aD),l[i]? =some x->x.bad=false->(aI c ((i:Int)+2)).bad=false
theorem FU(c:CV)(fl:List Int):jX c (aQ c fl):=⟨pA c fl,fun i x hx hb=>by rw[←Cj hx];exact hb⟩
theorem jX.set{c:CV}{l:List aD}(h:jX c l)(i:Nat):jX c (l.set i bT):=⟨by rw[List.length_set];exact h.1,fun j x hx hb=>by
 rw[List.getElem?_set]at hx;split at hx
 ·
  split at hx
  ·
   obtain rfl:=Option.some.inj hx;cases hb
  cases hx
 exact h.2 j x hx hb⟩
theorem tE{c:CV}{R:aD->Bool}{l:List aD}{dk:aD->Bool}{os:List (aD->aD->Int)}(ht:jX c l)(hr: ∀x,dk x=true->x.bad=false)(h:(fx (cg R l) c.ae dk os).2=true):
  0<=(fx (cg R l) c.ae dk os).1/\(fx (cg R l) c.ae dk os).1<((c.blocks.length -2:Nat):Int)/\(aI c ((fx (cg R l) c.ae dk os).1+2)).bad=false:=by
 obtain⟨x,hx,k1,_,_,k4,k5⟩:=Co hr h;rw[ht.1]at k5;refine⟨k4,k5,?_⟩;have:=ht.2 _ x hx k1;rwa [show(((fx (cg R l) c.ae dk os).1.toNat:Nat):Int)=(fx (cg R l) c.ae dk os).1 by omega]at this
theorem FW{c:CV}{l:List aD}(hk:aX c=true)(ht:jX c l):aX (cD c l).1=true/\eC c (cD c l).1/\c.ops<=(cD c l).1.ops/\
  ((cD c l).2.2=0->2<=(cD c l).2.1/\(cD c l).2.1<c.blocks.length/\(aI (cD c l).1 (cD c l).2.1).bad=false)/\((cD c l).2.2=9->c.ops<(cD c l).1.ops)/\((cD c l).2.2=6->(cD c l).1=c):=by
 rw[cD];have e6: ∀{b:Int},(dK c b).2≠6:=fun{b}=>by
  have: ∀n {c:CV},(iJ n c b).2≠6:=by
   intro n
   induction n with
   |zero=>
    intro c;simp only[iJ,eu];split
    ·
     split
     ·
      decide
     ·
      split
      ·
       decide
      ·
       split
       ·
        rw[mQ];split<;>decide
       ·
        decide
    ·
     decide
   |succ n ih=>
    intro c;rw[iJ];split
    ·
     simp only[bY,kD];split
     ·
      split
      ·
       decide
      ·
       split
       ·
        decide
       ·
        split
        ·
         rw[mQ];split<;>decide
        ·
         decide
     ·
      decide
    ·
     exact ih
  exact this _
 by_cases h1:(qA c l).2=true
 ·
  rw[if_pos h1];have:=tE ht (fun x h=>(zA h).1) h1;change 0<=(qA c l).1/\(qA c l).1<_/\(aI c ((qA c l).1+2)).bad=false at this;exact⟨hk, .fJ c,Int.le_refl _,fun _=>⟨by simp only;omega,by simp only;omega,this.2.2⟩,fun h=>absurd (show(0:Int)=9 from h) (by decide),fun h=>absurd (show(0:Int)=6 from h) (by decide)⟩
 ·
  rw[if_neg h1]
  by_cases h2:(mn c l).2=true
  ·
   rw[if_pos h2];have:=tE ht (fun x h=>(vn h).1) h2;change 0<=(mn c l).1/\(mn c l).1<_/\(aI c ((mn c l).1+2)).bad=false at this;have hc:=zx ((mn c l).1+2) hk;exact⟨hc.1,hc.2,xo _ _ _,fun h=>⟨by simp only;omega,by simp only;omega,Cq _ h⟩,fun h=>Cg this.2.2 (.inl h),fun h=>absurd h e6⟩
  ·
   rw[if_neg h2]
   by_cases h3:(mo c l).2=true
   ·
    rw[if_pos h3];have:=tE ht (fun x h=>(vn h).1) h3;change 0<=(mo c l).1/\(mo c l).1<_/\(aI c ((mo c l).1+2)).bad=false at this;have hc:=zx ((mo c l).1+2) hk;exact⟨hc.1,hc.2,xo _ _ _,fun h=>⟨by simp only;omega,by simp only;omega,Cq _ h⟩,fun h=>Cg this.2.2 (.inl h),fun h=>absurd h e6⟩
   ·
    rw[if_neg h3];exact⟨hk, .fJ c,Int.le_refl _,fun h=>absurd (show(6:Int)=0 from h) (by decide),fun h=>absurd (show(6:Int)=9 from h) (by decide),fun _=>rfl⟩
def cj(c:CV)(a0 a:List Int)(src tgt:Int):Int×Bool:=
 if tgt<0 then(if(eQ ((aQ c (a0++a)).set (src -2).toNat bT) c.ae).2=true then((eQ ((aQ c (a0++a)).set (src -2).toNat bT) c.ae).1+2,true)else(0,false))else(tgt,true)
def fy(c:CV)(g id n:Int):List UInt8×Int:=dR ⟨1,id,g.toNat,kg c n⟩ c.size
structure MV where
 c:CV
 a:List Int
 e:Option Int
def dU(v:VV)(src tgt:Int):List Int->Nat->CV->List Int->MV
 |[],_,c,a=>⟨c,a,none⟩
 |n::r,id,c,a=>
  if n=0\/(n -1)/v.aj.ae≠src then dU v src tgt r (id+1) c a
  else if(cj c v.at_ a src tgt).2=false then⟨c,a,some 6⟩
  else if(fy c ((v.gen:Int)+1) id n).2≠0 then⟨c,a,some (fy c ((v.gen:Int)+1) id n).2⟩
  else if bY c (cj c v.at_ a src tgt).1 (fy c ((v.gen:Int)+1) id n).1≠0 then
   ⟨c0 c (cj c v.at_ a src tgt).1 (fy c ((v.gen:Int)+1) id n).1,a,some (kh (bY c (cj c v.at_ a src tgt).1 (fy c ((v.gen:Int)+1) id n).1))⟩
  else dU v src tgt r (id+1) (c0 c (cj c v.at_ a src tgt).1 (fy c ((v.gen:Int)+1) id n).1) (a.set id ((cj c v.at_ a src tgt).1*v.aj.ae+(aI c (cj c v.at_ a src tgt).1).used+1))
def db(x:WV)(src tgt:Int):WV×Bool×Int:=
 match(dU x.v src tgt x.v.at_ 0 x.v.aj x.v.at_).e with
 |some e=>(x.on (dU x.v src tgt x.v.at_ 0 x.v.aj x.v.at_).c,false,e)
 |none=>((gR (x.on (dU x.v src tgt x.v.at_ 0 x.v.aj x.v.at_).c) (dU x.v src tgt x.v.at_ 0 x.v.aj x.v.at_).a).1,decide ((gR (x.on (dU x.v src tgt x.v.at_ 0 x.v.aj x.v.at_).c) (dU x.v src tgt x.v.at_ 0 x.v.aj x.v.at_).a).2=0),(gR (x.on (dU x.v src tgt x.v.at_ 0 x.v.aj x.v.at_).c) (dU x.v src tgt x.v.at_ 0 x.v.aj x.v.at_).a).2)
theorem FX{x:WV}{src tgt:Int}{c:CV}{a:List Int}{e:Int}(h:dU x.v src tgt x.v.at_ 0 x.v.aj x.v.at_=⟨c,a,some e⟩):db x src tgt=(x.on c,false,e):=by
 rw[db,h]
theorem Uk{x:WV}{src tgt:Int}{c:CV}{a:List Int}(h:dU x.v src tgt x.v.at_ 0 x.v.aj x.v.at_=⟨c,a,none⟩):db x src tgt=((gR (x.on c) a).1,decide ((gR (x.on c) a).2=0),(gR (x.on c) a).2):=by
 rw[db,h]
theorem Ul{c:CV}{a0 a:List Int}{src tgt:Int}(h:(cj c a0 a src tgt).2=true)(ht:0<=tgt->2<=tgt/\tgt<c.blocks.length/\(aI c tgt).bad=false):
  2<=(cj c a0 a src tgt).1/\(cj c a0 a src tgt).1<c.blocks.length/\(aI c (cj c a0 a src tgt).1).bad=false:=by
 rw[cj]at h⊢
 by_cases h1:tgt<0
 ·
  rw[if_pos h1]at h⊢
  by_cases h2:(eQ ((aQ c (a0++a)).set (src -2).toNat bT) c.ae).2=true
  ·
   rw[if_pos h2];have hT:=(FU c (a0++a)).set (src -2).toNat;obtain⟨k1,k2,k3,k4⟩:=Ce h2;change 0<=(eQ ((aQ c (a0++a)).set (src -2).toNat bT) c.ae).1 at k2;change(eQ ((aQ c (a0++a)).set (src -2).toNat bT) c.ae).1<_ at k3;change qv _ (List.getD _ (eQ ((aQ c (a0++a)).set (src -2).toNat bT) c.ae).1.toNat _)=true at k4;rw[hT.1]at k3;have hi:((aQ c (a0++a)).set (src -2).toNat bT)[(eQ ((aQ c (a0++a)).set (src -2).toNat bT) c.ae).1.toNat]? =some _:=kW (d:=gy) (by rw[hT.1];omega);have:=hT.2 _ _ hi (zA k4).1;rw[show(((eQ ((aQ c (a0++a)).set (src -2).toNat bT) c.ae).1.toNat:Nat):Int)=(eQ ((aQ c (a0++a)).set (src -2).toNat bT) c.ae).1 by omega]at this;exact⟨by simp only;omega,by simp only;omega,this⟩
  ·
   rw[if_neg h2]at h;cases h
 ·
  rw[if_neg h1];exact ht (by omega)
theorem Cs(c:CV)(b g:Int)(p:List UInt8):kD c b g p=0\/kD c b g p=1\/kD c b g p=7\/kD c b g p=9:=by
 rw[kD];split
 ·
  split
  ·
   omega
  split
  ·
   omega
  split
  ·
   rw[mQ];split<;>omega
  omega
 omega
theorem FY(p:PV)(n:Int):(dR p n).2=0\/(dR p n).2=1:=by
 rw[dR];split<;>simp
theorem L7{c:CV}{b:Int}{p:List UInt8}(h:bY c b p=0)(b':Int):(aI (c0 c b p) b').bad=(aI c b').bad:=by
 obtain⟨h1,h2,h3,h4,h5⟩:=xn h;have hh:=(pq.1 h1).1;obtain⟨_,g2,g3⟩:=l5.1 hh;rw[h5,qn];simp only[aI,List.getD,List.getElem?_set]
 by_cases e:b.toNat=b'.toNat
 ·
  rw[if_pos e,if_pos (by omega),e];simp
 rw[if_neg e]
theorem FZ{v:VV}{src tgt:Int}: ∀(l:List Int) (id:Nat) {c:CV} {a:List Int},aX c=true->eC v.aj c->v.aj.ops<=c.ops->gh v.aj a->(0<=tgt->2<=tgt/\tgt<c.blocks.length/\(aI c tgt).bad=false)->
  aX (dU v src tgt l id c a).c=true/\eC v.aj (dU v src tgt l id c a).c/\c.ops<=(dU v src tgt l id c a).c.ops/\gh v.aj (dU v src tgt l id c a).a/\(dU v src tgt l id c a).a.length=a.length/\
   ((dU v src tgt l id c a).e=some 0->c.ops<(dU v src tgt l id c a).c.ops)/\((dU v src tgt l id c a).e=some 6-> ∀b,(aI (dU v src tgt l id c a).c b).bad=(aI c b).bad)
 |[],id,c,a,hk,hl,ho,ha,ht=>⟨hk,hl,Int.le_refl _,ha,rfl,fun h=>by simp[dU]at h,fun h=>by simp[dU]at h⟩
 |n::r,id,c,a,hk,hl,ho,ha,ht=>by
  rw[dU]
  by_cases h1:n=0\/(n -1)/v.aj.ae≠src
  ·
   rw[if_pos h1];exact FZ r (id+1) hk hl ho ha ht
  ·
   rw[if_neg h1]
   by_cases h2:(cj c v.at_ a src tgt).2=false
   ·
    rw[if_pos h2];exact⟨hk,hl,Int.le_refl _,ha,rfl,fun h=>by simp at h,fun _ _=>rfl⟩
   ·
    rw[if_neg h2];obtain⟨m1,m2,m3⟩:=Ul (by simpa using h2) ht
    by_cases h3:(fy c ((v.gen:Int)+1) id n).2≠0
    ·
     rw[if_pos h3];have F0:(fy c ((v.gen:Int)+1) id n).2=1:=(FY _ _).resolve_left h3;exact⟨hk,hl,Int.le_refl _,ha,rfl,fun h=>absurd (Option.some.inj h) h3,fun h=>absurd (F0.symm.trans (Option.some.inj h)) (by decide)⟩
    ·
     rw[if_neg h3]
     by_cases h4:bY c (cj c v.at_ a src tgt).1 (fy c ((v.gen:Int)+1) id n).1≠0
     ·
      rw[if_pos h4];have fG:bY c (cj c v.at_ a src tgt).1 (fy c ((v.gen:Int)+1) id n).1=1\/bY c (cj c v.at_ a src tgt).1 (fy c ((v.gen:Int)+1) id n).1=7\/bY c (cj c v.at_ a src tgt).1 (fy c ((v.gen:Int)+1) id n).1=9:=(Cs _ _ _ _).resolve_left h4;refine⟨lr hk _ _,hl.trans (me _ _ _),vl _ _ _,ha,rfl,fun h=>?_,fun h=>?_⟩
      ·
       have h:=Option.some.inj h;rw[kh]at h;split at h
       ·
        rename_i h9;have:=tA m3 (.inl h9);simp only;omega
       ·
        exact absurd h h4
      ·
       have h:=Option.some.inj h;rw[kh]at h;split at h
       ·
        cases h
       ·
        omega
     ·
      rw[if_neg h4];have Ct:bY c (cj c v.at_ a src tgt).1 (fy c ((v.gen:Int)+1) id n).1=0:=by simpa using h4
      have jw:=pq.1 (xn Ct).1;have hd:=kH hk;have mR:=hl.trans (me c (cj c v.at_ a src tgt).1 (fy c ((v.gen:Int)+1) id n).1);have aY:=tA m3 (p:=(fy c ((v.gen:Int)+1) id n).1) (.inr Ct);have Um:v.aj.ae=c.ae:=hl.ae.symm;have ih:=FZ r (id+1) (src:=src) (tgt:=tgt) (lr hk (cj c v.at_ a src tgt).1 (fy c ((v.gen:Int)+1) id n).1) mR (by omega) (a:=a.set id ((cj c v.at_ a src tgt).1*v.aj.ae+(aI c (cj c v.at_ a src tgt).1).used+1)) (fun y hy=>by
       rcases List.mem_or_eq_of_mem_set hy with hy|rfl
       ·
        exact ha y hy
       ·
        have hq:((cj c v.at_ a src tgt).1*v.aj.ae+(aI c (cj c v.at_ a src tgt).1).used+1 -1)/v.aj.ae=(cj c v.at_ a src tgt).1:=by
         rw[Um,Int.add_sub_cancel,Int.add_comm,Int.add_mul_ediv_right _ _ (by omega),Int.ediv_eq_zero_of_lt jw.2.1 jw.2.2.1,Int.zero_add]
        have h0:0<=(cj c v.at_ a src tgt).1*v.aj.ae:=Int.mul_nonneg (by omega) (by omega);have:=jw.2.1;exact .inr ⟨by omega,by rw[hq];exact m1,by rw[hq,←hl.len];exact m2⟩) (fun h=>by
       have:=ht h;rw[(me c _ _).len,L7 Ct];exact this)
      obtain⟨i1,i2,i3,i4,i5,i6,i7⟩:=ih;refine⟨i1,i2,by omega,i4,by rw[i5,List.length_set],fun h=>by have:=i6 h;omega,fun h b=>?_⟩;rw[i7 h b,L7 Ct]
theorem L8(c:CV)(b:Int):eu c b=0\/eu c b=1\/eu c b=7\/eu c b=9:=by
 rw[eu];split
 ·
  split
  ·
   omega
  split
  ·
   omega
  split
  ·
   rw[mQ];split<;>omega
  omega
 omega
theorem Un(c:CV)(l:Int):(bC c l).2.2=0\/(bC c l).2.2=1\/(bC c l).2.2=7\/(bC c l).2.2=9:=by
 rw[bC];split
 ·
  exact .inl rfl
 split
 ·
  exact .inl rfl
 split
 ·
  exact .inr (.inr (.inr rfl))
 exact L8 _ _
theorem L9: ∀(n:Nat) (y:WV) (a:List Int) (b:List UInt8),(nD n y a b).2≠6
 |0,y,a,b=>by simp[nD]
 |n+1,y,a,b=>by
  rw[nD];split
  ·
   have:=Un y.v.aj y.v.last;simp only;omega
  split
  ·
   simp
  split
  ·
   have:=Cs (bC y.v.aj y.v.last).1 (bC y.v.aj y.v.last).2.1 (aI (bC y.v.aj y.v.last).1 (bC y.v.aj y.v.last).2.1).used b;simp only[bY];omega
  exact L9 n _ _ _
theorem Ma(y:WV)(a:List Int):(gR y a).2≠6:=by
 rw[gR];split
 ·
  rw[c4];split
  ·
   have:=FY ⟨2,max 0 ((a.length:Int) -1),y.v.gen+1,iE a⟩ y.v.aj.size;simp only;omega
  simp
 exact L9 _ _ _ _
theorem F1{x:WV}{src tgt:Int}(hx:c6 x)(ht:0<=tgt->2<=tgt/\tgt<x.v.aj.blocks.length/\(aI x.v.aj tgt).bad=false):
  gH x (db x src tgt).1/\((db x src tgt).2.2=0->x.v.aj.ops<(db x src tgt).1.v.aj.ops)/\((db x src tgt).2.1=true->(db x src tgt).2.2=0)/\((db x src tgt).2.1=false/\(db x src tgt).2.2=6-> ∀b,(aI (db x src tgt).1.v.aj b).bad=(aI x.v.aj b).bad):=by
 obtain⟨h1,h2,h3,h4,h5,h6,h7⟩:=FZ x.v.at_ 0 (src:=src) hx.aj (.fJ _) (Int.le_refl _) hx.rP ht;rw[db];split
 ·
  rename_i e he;refine⟨.on hx h1 h2 h3,fun h=>h6 (by rw[he];exact congrArg some h),fun h=>absurd (show false=true from h) (by simp),fun h b=>h7 (by rw[he];exact congrArg some h.2) b⟩
 ·
  rename_i he;have jI:=hx.on h1 h2;have hw:=L6 jI (a:=(dU x.v src tgt x.v.at_ 0 x.v.aj x.v.at_).a) (h4.iZ h2) h5;refine⟨(gH.on hx h1 h2 h3).trans hw.1,fun h=>?_,fun h=>by simpa using h,fun h=>?_⟩
  ·
   have g:(dU x.v src tgt x.v.at_ 0 x.v.aj x.v.at_).c.ops<_:=hw.2 h;simp only;omega
  ·
   exact absurd h.2 (Ma _ _)
theorem Mc: ∀(n:Nat) (c:CV) (b:Int),(iJ n c b).2≠6
 |0,c,b=>by have:=L8 c b;simp only[iJ];omega
 |n+1,c,b=>by
  rw[iJ];split
  ·
   have:=Cs c b (aI c b).used (iI c);simp only[bY];omega
  exact Mc n _ _
theorem Uo(c:CV)(b:Int):(dK c b).2≠6:=Mc _ _ _
def vu(c:CV)(l:List aD)(i:Int):Bool:=decide ((cD c (l.set i.toNat bT)).2.2=6)&&decide ((l.getD i.toNat gy).live<=zw (l.set i.toNat bT) c.ae)
def cW(c:CV)(l:List aD)(i:Int):Int×Int:=if vu c l i=true then(-1,0)else(cD c (l.set i.toNat bT)).2
def ie(x:WV)(l:List aD)(i:Int):WV×Int:=
 if(cW x.v.aj l i).2≠0 then(x.on (cD x.v.aj (l.set i.toNat bT)).1,kh (cW x.v.aj l i).2)
 else if(db (x.on (cD x.v.aj (l.set i.toNat bT)).1) (i+2) (cW x.v.aj l i).1).2.1=false\/(l.getD i.toNat gy).used=x.v.aj.ae then
  ((db (x.on (cD x.v.aj (l.set i.toNat bT)).1) (i+2) (cW x.v.aj l i).1).1,(db (x.on (cD x.v.aj (l.set i.toNat bT)).1) (i+2) (cW x.v.aj l i).1).2.2)
 else((db (x.on (cD x.v.aj (l.set i.toNat bT)).1) (i+2) (cW x.v.aj l i).1).1.on (dK (db (x.on (cD x.v.aj (l.set i.toNat bT)).1) (i+2) (cW x.v.aj l i).1).1.v.aj (i+2)).1,
  kh (dK (db (x.on (cD x.v.aj (l.set i.toNat bT)).1) (i+2) (cW x.v.aj l i).1).1.v.aj (i+2)).2)
theorem Md{e:Int}(h:kh e=0):e=0\/e=9:=by
 rw[kh]at h;split at h
 ·
  exact .inr (by assumption)
 exact .inl h
theorem F2{e:Int}(h:kh e=6):e=6:=by
 rw[kh]at h;split at h
 ·
  cases h
 exact h
theorem F3{c:CV}{l:List aD}{i:Int}(hk:aX c=true)(ht:jX c l):(cW c l i).2=0->0<=(cW c l i).1->2<=(cW c l i).1/\(cW c l i).1<c.blocks.length/\(aI (cD c (l.set i.toNat bT)).1 (cW c l i).1).bad=false:=by
 intro h h0;rw[cW]at h h0⊢;split at h
 ·
  rename_i ha;rw[if_pos ha]at h0;exact absurd (show(0:Int)<= -1 from h0) (by decide)
 rename_i ha;rw[if_neg ha];exact(FW hk (ht.set i.toNat)).2.2.2.1 h
theorem Up{x:WV}{src tgt:Int}(hx:c6 x)(ht:0<=tgt->2<=tgt/\tgt<x.v.aj.blocks.length/\(aI x.v.aj tgt).bad=false):c6 (db x src tgt).1/\eC x.v.aj (db x src tgt).1.v.aj:=
 ⟨(F1 hx ht).1.ok,(F1 hx ht).1.iZ⟩
theorem Me{x:WV}{l:List aD}{i:Int}(hx:c6 x)(ht:jX x.v.aj l):
  gH x (ie x l i).1/\((ie x l i).2=0->x.v.aj.ops<(ie x l i).1.v.aj.ops)/\((ie x l i).2=6-> ∀b,(aI (ie x l i).1.v.aj b).bad=(aI x.v.aj b).bad):=by
 obtain⟨t1,t2,t3,t4,t5,t6⟩:=FW hx.aj (ht.set i.toNat);have hn:=gH.on hx t1 t2 t3;rw[ie]
 by_cases h0:(cW x.v.aj l i).2≠0
 ·
  rw[if_pos h0];have he:(cW x.v.aj l i).2=(cD x.v.aj (l.set i.toNat bT)).2.2:=by
   rw[cW]at h0⊢;split at h0
   ·
    exact absurd rfl h0
   ·
    rename_i ha;rw[if_neg ha]
  refine⟨hn,fun h=>?_,fun h b=>?_⟩
  ·
   rcases Md h with g|g
   ·
    exact absurd g h0
   ·
    exact t5 (he▸g)
  ·
   have:=t6 (he▸F2 h);simp only[WV.on];rw[this]
 ·
  rw[if_neg h0];have rp:(cW x.v.aj l i).2=0:=by simpa using h0
  have hr:=F3 (i:=i) hx.aj ht rp;obtain⟨m1,m2,m3,m4⟩:=F1 (x:=x.on (cD x.v.aj (l.set i.toNat bT)).1) (src:=i+2) (tgt:=(cW x.v.aj l i).1) hn.ok (fun h=>by
   have:=hr h;exact⟨this.1,by simp only[WV.on];rw[t2.len];exact this.2.1,this.2.2⟩)
  have hb:(cW x.v.aj l i).2=0->(cD x.v.aj (l.set i.toNat bT)).2.2=6->(cD x.v.aj (l.set i.toNat bT)).1=x.v.aj:=fun _ h=>t6 h
  by_cases h1:(db (x.on (cD x.v.aj (l.set i.toNat bT)).1) (i+2) (cW x.v.aj l i).1).2.1=false\/(l.getD i.toNat gy).used=x.v.aj.ae
  ·
   rw[if_pos h1];refine⟨hn.trans m1,fun h=>?_,fun h b=>?_⟩
   ·
    have g:(cD x.v.aj (l.set i.toNat bT)).1.ops<_:=m2 h;simp only;omega
   ·
    have hf:(db (x.on (cD x.v.aj (l.set i.toNat bT)).1) (i+2) (cW x.v.aj l i).1).2.1=false:=by
     cases hq:(db (x.on (cD x.v.aj (l.set i.toNat bT)).1) (i+2) (cW x.v.aj l i).1).2.1 with
     |false=>rfl
     |true=>have:=m3 hq;exact absurd (this.symm.trans h) (by decide)
    rw[m4 ⟨hf,h⟩ b]
    by_cases ha:vu x.v.aj l i=true
    ·
     simp only[vu,Bool.and_eq_true,decide_eq_true_eq]at ha;simp only[WV.on];rw[t6 ha.1]
    ·
     exact absurd h (Uq (by
      have:(cW x.v.aj l i).1=(cD x.v.aj (l.set i.toNat bT)).2.1:=by rw[cW,if_neg ha]
      have g:(cD x.v.aj (l.set i.toNat bT)).2.2=0:=by
       rw[cW,if_neg ha]at rp;exact rp
      have:=(t4 g).1;omega))
  ·
   rw[if_neg h1];have hm:(db (x.on (cD x.v.aj (l.set i.toNat bT)).1) (i+2) (cW x.v.aj l i).1).2.1=true:=by
    cases hq:(db (x.on (cD x.v.aj (l.set i.toNat bT)).1) (i+2) (cW x.v.aj l i).1).2.1 with
    |true=>rfl
    |false=>exact absurd (.inl hq) h1
   have hz:=m2 (m3 hm);have hc:=zx (i+2) m1.ok.aj;have ho:=xo (fg (db (x.on (cD x.v.aj (l.set i.toNat bT)).1) (i+2) (cW x.v.aj l i).1).1.v.aj (i+2)).toNat (db (x.on (cD x.v.aj (l.set i.toNat bT)).1) (i+2) (cW x.v.aj l i).1).1.v.aj (i+2);refine⟨(hn.trans m1).trans (.on m1.ok hc.1 hc.2 ho),fun _=>?_,fun h=>absurd (F2 h) (Uo _ _)⟩;have g:(cD x.v.aj (l.set i.toNat bT)).1.ops<_:=hz;have g2:(db (x.on (cD x.v.aj (l.set i.toNat bT)).1) (i+2) (cW x.v.aj l i).1).1.v.aj.ops<=(dK (db (x.on (cD x.v.aj (l.set i.toNat bT)).1) (i+2) (cW x.v.aj l i).1).1.v.aj (i+2)).1.ops:=ho;simp only[WV.on]at*;omega
where
 Uq {x:WV} {src tgt:Int} (h:0<=tgt):(db x src tgt).2.2≠6:=by
  have key: ∀(l:List Int) (id:Nat) (c:CV) (a:List Int),(dU x.v src tgt l id c a).e≠some 6:=by
   intro l
   induction l with
   |nil=>intro id c a;simp[dU]
   |cons n r ih=>
    intro id c a;rw[dU];split
    ·
     exact ih _ _ _
    split
    ·
     rename_i h2;rw[cj,if_neg (by omega)]at h2;cases h2
    split
    ·
     rename_i h3;have:=(FY ⟨1,id,((x.v.gen:Int)+1).toNat,kg c n⟩ c.size).resolve_left h3;intro h;have h:=Option.some.inj h;rw[fy]at h;omega
    split
    ·
     intro h;have h:=F2 (Option.some.inj h);have:=Cs c (cj c x.v.at_ a src tgt).1 (aI c (cj c x.v.at_ a src tgt).1).used (fy c ((x.v.gen:Int)+1) id n).1;rw[bY]at h;omega
    exact ih _ _ _
  rw[db];split
  ·
   rename_i e he;intro h;exact key _ _ _ _ (by rw[he];exact congrArg some h)
  exact Ma _ _
def ou(p:Int)(x:aD):Bool:=decide (x.used<p)&&decide (x.bo<dJ)
def tF(c:CV)(l:List aD):Int×Bool:=ff (cg (ou c.ae) l) c.ae
def nE(x:WV)(l:List aD):WV×Int:=
 if(tF x.v.aj l).2=false then(x,6)else(x.on (dK x.v.aj ((tF x.v.aj l).1+2)).1,kh (dK x.v.aj ((tF x.v.aj l).1+2)).2)
def rS(x:WV):List aD:=aQ x.v.aj x.v.at_
def xv(x:WV):Int×Bool:=ic (rS x) x.v.aj.ae
def fA(x:WV):WV×Int:=
 if(xv x).2=true/\xq x.v.gen=false then
  (if(ie x (rS x) (xv x).1).2≠6 then ie x (rS x) (xv x).1 else nE (ie x (rS x) (xv x).1).1 (rS x))
 else nE x (rS x)
theorem jX.iZ{c d:CV}{l:List aD}(h:jX c l)(hl:eC c d)(hb: ∀b,(aI d b).bad=(aI c b).bad):jX d l:=⟨by rw[h.1,hl.len],fun i x hx ib=>by rw[hb];exact h.2 i x hx ib⟩
theorem Mf{x:WV}{l:List aD}(hx:c6 x)(ht:jX x.v.aj l):gH x (nE x l).1/\((nE x l).2=0->x.v.aj.ops<(nE x l).1.v.aj.ops):=by
 rw[nE];split
 ·
  exact⟨.fJ hx,fun h=>absurd (show(6:Int)=0 from h) (by decide)⟩
 rename_i h;have hd:=tE ht (fun x h=>(vn h).1) (show(tF x.v.aj l).2=true by simpa using h);change 0<=(tF x.v.aj l).1/\(tF x.v.aj l).1<_/\(aI x.v.aj ((tF x.v.aj l).1+2)).bad=false at hd;have hc:=zx ((tF x.v.aj l).1+2) hx.aj;exact⟨.on hx hc.1 hc.2 (xo _ _ _),fun h=>Cg hd.2.2 (Md h).symm⟩
theorem Mg{x:WV}(hx:c6 x):gH x (fA x).1/\((fA x).2=0->x.v.aj.ops<(fA x).1.v.aj.ops):=by
 have ht:jX x.v.aj (rS x):=FU _ _;rw[fA];split
 ·
  obtain⟨r1,r2,r3⟩:=Me (i:=(xv x).1) hx ht;split
  ·
   exact⟨r1,r2⟩
  rename_i h6;have Ur:(ie x (rS x) (xv x).1).2=6:=by simpa using h6
  have:=Mf r1.ok (ht.iZ r1.iZ (r3 Ur));exact⟨r1.trans this.1,fun h=>by have:=this.2 h;have:=r1.ops;omega⟩
 exact Mf hx ht
def vw:Nat->WV->Int->WV×Int
 |0,x,_=>(x,0)
 |n+1,x,need=>
  if need<=(mi x.v.aj x.v.at_).1 then(x,0)
  else if need<=(mi x.v.aj x.v.at_).2/\tB x.v.aj x.v.last<2 then({x with beyond:=true},0)
  else if(fA x).2=0 then vw n (fA x).1 need
  else if(fA x).2≠6 then fA x
  else if need<=(mi x.v.aj x.v.at_).2 then({(fA x).1 with beyond:=true},0)
  else((fA x).1,5)
def nF(x:WV)(need:Int):WV×Int:=vw ((dJ -x.v.aj.ops).toNat+1) x need
theorem c6.by{x:WV}(h:c6 x)(b:Bool):c6 {x with beyond:=b}:=⟨h.aj,h.len,h.ae,h.size,h.last,h.gen,h.rP,h.rQ⟩
theorem gH.by{x y:WV}(h:gH x y)(b:Bool):gH x {y with beyond:=b}:=⟨h.ok.by b,h.iZ,h.ops,h.xt⟩
theorem Mh: ∀(n:Nat) {x:WV} {need:Int},c6 x->gH x (vw n x need).1
 |0,x,need,hx=> .fJ hx
 |n+1,x,need,hx=>by
  have hc:=Mg hx;rw[vw];split
  ·
   exact .fJ hx
  split
  ·
   exact(gH.fJ hx).by true
  split
  ·
   exact hc.1.trans (Mh n hc.1.ok)
  split
  ·
   exact hc.1
  split
  ·
   exact hc.1.by true
  exact hc.1
theorem Us{x:WV}{need:Int}(hx:c6 x):gH x (nF x need).1:=Mh _ hx
def bh(x:It):Int×List UInt8:=(x.id,x.body.xs)
def xw(l:List (Int×List UInt8)):Nat:=(l.filter fun x=>decide (0<x.2.length)).length
theorem Ut{l:List (Int×List UInt8)}{i:Nat}{x:Int×List UInt8}(h:l[i]? =some x):((l.take (i+1)).filter fun x=>decide (0<x.2.length)).length=((l.take i).filter fun x=>decide (0<x.2.length)).length+(if 0<x.2.length then 1 else 0):=by
 rw[List.take_add_one,h,List.filter_append,List.length_append];congr 1;simp only[Option.toList_some,List.filter_cons,List.filter_nil];split<;>simp_all
def iK(v:VV)(x:Int×List UInt8):PV:=⟨1,x.1,v.gen+1,x.2⟩
def mT(v:VV)(bm:Bool):List (Int×List UInt8)->CV->List Int->CV×List Int×Int
 |[],c,a=>(c,a,0)
 |x::r,c,a=>
  if x.2.length=0 then mT v bm r c (a.set x.1.toNat 0)
  else if(dv c (v.at_++a) bm (iK v x)).2.2≠0 then((dv c (v.at_++a) bm (iK v x)).1,a,(dv c (v.at_++a) bm (iK v x)).2.2)
  else mT v bm r (dv c (v.at_++a) bm (iK v x)).1 (a.set x.1.toNat (dv c (v.at_++a) bm (iK v x)).2.1)
def jY(x:WV)(l:List (Int×List UInt8)):WV×Int:=nF {x with beyond:=false} (xw l)
def rT(x:WV)(l:List (Int×List UInt8)):CV×List Int×Int:=mT (jY x l).1.v (jY x l).1.beyond l (jY x l).1.v.aj (jY x l).1.v.at_
def jc(x:WV)(l:List (Int×List UInt8)):WV×Int:=
 if(jY x l).2≠0 then jY x l
 else if(rT x l).2.2≠0 then((jY x l).1.on (rT x l).1,(rT x l).2.2)
 else gR ((jY x l).1.on (rT x l).1) (rT x l).2.1
theorem F4{v:VV}{bm:Bool}: ∀(l:List (Int×List UInt8)) {c:CV} {a:List Int},aX c=true->3<=c.blocks.length->gh c a->
  aX (mT v bm l c a).1=true/\eC c (mT v bm l c a).1/\c.ops<=(mT v bm l c a).1.ops/\gh c (mT v bm l c a).2.1/\(mT v bm l c a).2.1.length=a.length
 |[],c,a,hk,h2,ha=>⟨hk, .fJ c,Int.le_refl _,ha,rfl⟩
 |x::r,c,a,hk,h2,ha=>by
  rw[mT];split
  ·
   have:=F4 r (v:=v) (bm:=bm) hk h2 (a:=a.set x.1.toNat 0) (fun y hy=>by
    rcases List.mem_or_eq_of_mem_set hy with hy|rfl
    ·
     exact ha y hy
    ·
     exact .inl rfl)
   rwa [List.length_set]at this
  ·
   obtain⟨p1,p2,p3,p4⟩:=LX (fl:=v.at_++a) (bm:=bm) (p:=iK v x) hk h2;split
   ·
    exact⟨p1,p2,p3,ha,rfl⟩
   ·
    rename_i h0;have p5:=p4 (by simpa using h0);have:=F4 r (v:=v) (bm:=bm) p1 (by rw[p2.len];exact h2) (a:=a.set x.1.toNat (dv c (v.at_++a) bm (iK v x)).2.1) (fun y hy=>by
     rw[p2.ae,p2.len];rcases List.mem_or_eq_of_mem_set hy with hy|rfl
     ·
      exact ha y hy
     ·
      exact .inr p5)
    obtain⟨i1,i2,i3,i4,i5⟩:=this;refine⟨i1,p2.trans i2,by omega,fun y hy=>?_,by rw[i5,List.length_set]⟩;have:=i4 y hy;rwa [p2.ae,p2.len]at this
theorem Mi{x:WV}{l:List (Int×List UInt8)}(hx:c6 x):gH x (jY x l).1:=by
 have:=Us (need:=xw l) (hx.by false);exact⟨this.ok,this.iZ,this.ops,this.xt⟩
theorem Uu{x:WV}{l:List (Int×List UInt8)}(hx:c6 x):gH x (jc x l).1:=by
 have hs:=Mi (l:=l) hx;rw[jc];split
 ·
  exact hs
 have hl:=hs.ok.rR;obtain⟨i1,i2,i3,i4,i5⟩:=F4 (v:=(jY x l).1.v) (bm:=(jY x l).1.beyond) l hs.ok.aj (by omega) hs.ok.rP;have jI:=hs.trans (.on hs.ok i1 i2 i3);split
 ·
  exact jI
 exact jI.trans (L6 jI.ok (i4.iZ i2) i5).1
def qB:Nat->WV->List (Int×List UInt8)->WV×Int
 |0,x,_=>(x,0)
 |n+1,x,l=>if(jc x l).2=5/\kG x.v.aj<kG (jc x l).1.v.aj then qB n (jc x l).1 l else jc x l
theorem Uv(c:CV):kG c<=c.blocks.length:=List.length_filter_le _ _
def tG(v:VV)(x:Int×List UInt8):Bool:=decide (0<=x.1)&&decide (x.1<(v.at_.length:Int))&&decide ((x.2.length:Int)<=eL v.aj.size)
def tH(v:VV)(l:List (Int×List UInt8))(i:Nat):Bool:=tG v (l.getD i (0,[]))&& !((l.take i).map Prod.fst).contains (l.getD i (0,[])).1
def pC(v:VV)(l:List (Int×List UInt8)):Bool:=(List.range l.length).all (tH v l)
theorem F5{v:VV}{l:List (Int×List UInt8)}:pC v l=true↔ ∀i,i<l.length->tH v l i=true:=by simp only[pC,List.all_eq_true,List.mem_range]
def qC(l:List Int)(i:Nat):Int->Option Unit:=fun x=>if x∈l.take i then some ()else none
theorem Mj{l:List Int}{i:Nat}{x:Int}:(qC l i x).isSome=decide (x∈l.take i):=by
 unfold qC;split<;>simp_all
theorem Uw{l:List Int}:(fun _=>none)=qC l 0:=by
 funext x;simp[qC]
theorem Ux{l:List Int}{i:Nat}{y:Int}(h:l[i]? =some y):(fun z=>if z=y then some ()else qC l i z)=qC l (i+1):=by
 funext x
 unfold qC;rw[List.take_add_one,h]
 by_cases hx:x=y
 ·
  subst hx;simp
 simp[hx]
def fR(v:VV)(l:List (Int×List UInt8)):VV×Int:=
 if ¬(nz v=true/\v.gen<281474976710655/\pC v l=true)then(v,1)
 else if v.aj.off=true then(v,7)
 else((qB (v.aj.blocks.length+1) ⟨v,false⟩ l).1.v,(qB (v.aj.blocks.length+1) ⟨v,false⟩ l).2)
def tI(b p:Int):Int:=if b<4\/32<b\/p<1\/16<p then 0 else(b -4)*p
def lu(c:CV)(ids:Int):WV×Int:=ot ⟨⟨c,[],0,0⟩,false⟩ ids.toNat
def kJ(c:CV)(ids:Int):VV×Int:=
 if ¬(px c=true/\1<=ids/\ids<=kf c.size)then(⟨c,[],0,0⟩,1)
 else if c.off=true then(⟨c,[],0,0⟩,7)
 else if(lu c ids).2≠0 then(⟨(lu c ids).1.v.aj,[],0,0⟩,(lu c ids).2)
 else((lu c ids).1.v,0)
theorem Uy{b:List UInt8}:(ei b).1.at_.length<=64/\(ei b).1.gen<281474976710656:=by
 rw[ei];split
 ·
  simp[fI]
 rename_i h1;split
 ·
  simp[fI]
 rename_i h2;split
 ·
  simp[fI]
 rename_i h3;have hf:tt (cS b).1=true:=by simpa using h3
 simp only[tt,Bool.and_eq_true,decide_eq_true_eq]at hf;refine⟨?_,LG b⟩;have hid:(cS b).1.id<64:=by
  have pD:(cS b).2=0:=by simpa using h1
  rw[cS]at pD h2⊢
  by_cases g1:pv b.length=false
  ·
   rw[if_pos g1]at pD;cases pD
  rw[if_neg g1]at pD h2⊢
  by_cases g2:nw b=true
  ·
   rw[if_pos g2]at h2;exact absurd rfl h2
  rw[if_neg g2]at pD h2⊢
  by_cases g3:de (B9 b)≠mN (mc b)
  ·
   rw[if_pos g3]at pD;cases pD
  rw[if_neg g3]at pD h2⊢
  by_cases g4:qq b=false
  ·
   rw[if_pos g4]at pD;cases pD
  rw[if_neg g4]at pD h2⊢;have g5:qq b=true:=by simpa using g4
  simp only[qq,Bool.and_eq_true]at g5;have:=(K6.1 g5.2).2.2.2.1;split
  ·
   simp[iY]
  exact this
 simp only[Fy];omega
theorem Mk(l:List (List UInt8)): ∀k,(dD l k).new.at_.length<=64/\(dD l k).new.gen<281474976710656
 |0=>by simp[dD,fI]
 |k+1=>by
  rw[dD,vh];split
  ·
   exact Uy
  exact Mk l k
theorem Uz(l:List (List UInt8)):(eP l).2.1.at_.length<=64/\(eP l).2.1.gen<281474976710656:=by
 rw[eP];split
 ·
  exact Mk _ _
 split<;>simp[fI]
theorem UA{v:VV}{b:Bool}(h:nz v=true):c6 ⟨v,b⟩:=by
 have hr:=Cd h;have ha:= @Lp v h;simp only[nz,Bool.and_eq_true,decide_eq_true_eq]at h;obtain⟨⟨⟨h1,h2⟩,h3⟩,h4⟩:=h;obtain⟨hb,hl,hf⟩:=FD h1;obtain⟨b1,b2,b3,b4⟩:=zq.1 hb;have xx:=Uz ((aI {v.aj with off:=false} 0).ae++(aI {v.aj with off:=false} 1).ae)
 rw[hf]at h2 h3 h4;simp only at h2 h3 h4;have hd:=kH hr.1;have mh:4<=(v.aj.blocks.length:Int):=b2;refine⟨hr.1,b2,b3,b4,?_,by rw[←h2];exact xx.2,fun n hn=>?_,by rw[←h4];exact xx.1⟩
 ·
  rw[←h3];have ho0:=fO.1 (zy hr.1 (b:=0) (by omega) (by omega));have ho1:=fO.1 (zy hr.1 (b:=1) (by omega) (by omega));have hlen:((aI v.aj 0).ae++(aI v.aj 1).ae).length=(aI v.aj 0).ae.length+(aI v.aj 1).ae.length:=List.length_append;have kK:=Li (l:=(aI v.aj 0).ae++(aI v.aj 1).ae) (by rw[hlen];omega);change 0<=(eF {v.aj with off:=false}).1/\(eF {v.aj with off:=false}).1<_ at kK
  rw[hlen]at kK;have g0:0<=(eF {v.aj with off:=false}).1/v.aj.ae:=Int.ediv_nonneg kK.1 (by omega)
  have g1:(eF {v.aj with off:=false}).1/v.aj.ae<2:=Int.ediv_lt_of_lt_mul (by omega) (by
   have h9:(eF {v.aj with off:=false}).1<(((aI v.aj 0).ae.length+(aI v.aj 1).ae.length:Nat):Int):=kK.2
   omega)
  change(eF {v.aj with off:=false}).1/v.aj.ae=0\/(eF {v.aj with off:=false}).1/v.aj.ae=1
  omega
 by_cases h0:n=0
 ·
  exact .inl h0
 obtain⟨i,hi⟩:=List.getElem?_of_mem hn;have:=ha hi h0;have hp:=Cb.1 this.2.2;exact .inr ⟨this.1,hp.1,hp.2.1⟩
theorem UB{c:CV}(h:(bq c).2≠0):(bq c).1=kE:=by
 rw[bq]at h⊢
 repeat' split
 all_goals first|rfl|(exfalso;simp_all)
theorem UC(c:CV):(if(bq c).2=0 then(bq c).1 else kE)=(bq c).1:=by
 by_cases h:(bq c).2=0
 ·
  rw[if_pos h]
 rw[if_neg h,UB h]
def rU(t:List Rt)(n id:Nat):List UInt8:=((t.drop (id*n)).take n).flatMap gg
def nG(t:List Rt)(ids n:Nat):List (List UInt8):=(List.range ids).map (rU t n)
def lv(a b:Int):Int:=if a<1\/64<a\/b<20\/240<b then 0 else min (a*(b/20)) 256
def jd(t:List Rt)(ids room:Int):Int:=if fb t=false\/lv ids room=0 then 1 else if lv ids room<t.length then 5 else 0
def jZ(t:List Rt)(ids room:Int):List (List UInt8):=if jd t ids room=0 then nG t ids.toNat (room/20).toNat else[]
theorem tJ(t:List Rt)(ids n:Nat):(nG t ids n).length=ids:=by simp[nG]
theorem UD(l:List Rt):(l.flatMap gg).length=20*l.length:=by
 induction l with
 |nil=>rfl
 |cons a l ih=>rw[List.flatMap_cons,List.length_append,ih,qp,List.length_cons];omega
theorem UE(t:List Rt)(n id:Nat):(rU t n id).length=20*min n (t.length -id*n):=by
 rw[rU,UD,List.length_take,List.length_drop]
theorem Ml(t:List Rt)(n id:Nat):(rU t n id).length<=20*n:=by rw[UE];omega
theorem F6{a b:Int}(h: ¬lv a b=0):1<=a/\a<=64/\20<=b/\b<=240/\lv a b=min (a*(b/20)) 256/\1<=b/20/\b/20<=12:=by
 unfold lv at h⊢;split at h
 ·
  exact absurd rfl h
 rename_i hn;rw[if_neg hn];have:1<=b/20/\b/20<=12:=by omega
 exact⟨by omega,by omega,by omega,by omega,rfl,this.1,this.2⟩
theorem UF{t:List Rt}{r:Rt}{i n id:Nat}(hn:0<n)(hr:t[i]? =some r):rU (t.take (i+1)) n id=rU (t.take i) n id++(if id=i/n then gg r else[]):=by
 have aW:i<t.length:=(List.getElem?_eq_some_iff.1 hr).1;have e1:t.take (i+1)=t.take i++[r]:=by rw[List.take_add_one,hr];rfl
 have hd:=Nat.div_add_mod i n;have hm:=Nat.mod_lt i hn;have hc:n*(i/n)=i/n*n:=Nat.mul_comm _ _;unfold rU;have l1:(t.take i).length=i:=by rw[List.length_take];omega
 rw[e1]
 by_cases h1:id=i/n
 ·
  subst h1;have e2:(t.take i++[r]).drop (i/n*n)=(t.take i).drop (i/n*n)++[r]:=List.drop_append_of_le_length (by rw[l1];omega);have e3:((t.take i).drop (i/n*n)++[r]).take n=(t.take i).drop (i/n*n)++[r]:=List.take_of_length_le (by rw[List.length_append,List.length_drop,l1];simp only[List.length_cons,List.length_nil];omega);have e4:((t.take i).drop (i/n*n)).take n=(t.take i).drop (i/n*n):=List.take_of_length_le (by rw[List.length_drop,l1];omega);rw[if_pos rfl,e2,e3,e4];simp
 rw[if_neg h1,List.append_nil];rcases Nat.lt_or_gt_of_ne h1 with h2|h2
 ·
  have:(id+1)*n<=i/n*n:=Nat.mul_le_mul_right _ h2;rw[Nat.add_mul]at this;rw[List.drop_append_of_le_length (by rw[l1];omega),List.take_append_of_le_length (by rw[List.length_drop,l1];omega)]
 have:(i/n+1)*n<=id*n:=Nat.mul_le_mul_right _ h2;rw[Nat.add_mul]at this;rw[List.drop_eq_nil_of_le (by rw[List.length_append,l1];simp;omega),List.drop_eq_nil_of_le (by rw[l1];omega)]
theorem UG{t:List Rt}{r:Rt}{i n ids:Nat}{x:List UInt8}(hn:0<n)(hr:t[i]? =some r)(hx:(nG (t.take i) ids n)[i/n]? =some x):
  nG (t.take (i+1)) ids n=(nG (t.take i) ids n).set (i/n) (x++gg r):=by
 refine List.ext_getElem? fun j=>?_;rw[List.getElem?_set];have hk:i/n<ids:=by have:=(List.getElem?_eq_some_iff.1 hx).1;rwa [tJ]at this
 by_cases hj:j<ids
 ·
  have e: ∀t',(nG t' ids n)[j]? =some (rU t' n j):=fun t'=>by simp[nG,hj]
  rw[e,UF hn hr]
  by_cases h:i/n=j
  ·
   subst h;rw[e]at hx;rw[if_pos rfl,if_pos rfl,if_pos (by rw[tJ];exact hk)];rw[Option.some.inj hx]
  ·
   rw[if_neg (fun e=>h e.symm),if_neg h,List.append_nil,e]
 ·
  rw[List.getElem?_eq_none (by rw[tJ];omega),if_neg (by omega),List.getElem?_eq_none (by rw[tJ];omega)]
theorem UH(t:List Rt)(ids n:Nat):nG (t.take 0) ids n=List.replicate ids []:=by
 refine List.eq_replicate_iff.2 ⟨tJ _ _ _,fun x hx=>?_⟩;obtain⟨j,_,rfl⟩:=List.mem_map.1 hx;simp[rU]
def nH(b:List UInt8):Rt:=⟨⟨if b.getD 0 0=1 then 128 else 32,(b.getD 1 0).toNat,mE fun i=>(b.getD (2+i) 0).toNat⟩,UInt16.ofNat ((b.getD 18 0).toNat*256+(b.getD 19 0).toNat)⟩
def rd(b:List UInt8):Option Rt:=if b.getD 0 0<=1 then some (nH b)else none
def kL(b:List UInt8):Option (List Rt):=
 if h:b.length<20 then(if b.length=0 then some []else none)
 else match rd (b.take 20),kL (b.drop 20)with
  |some r,some l=>some (r::l)
  |_,_=>none
termination_by b.length
decreasing_by rw[List.length_drop];omega
theorem UI:kL []=some []:=by rw[kL];simp
theorem Mm{b:List UInt8}(h:20<=b.length):kL b=(rd (b.take 20)).bind fun r=>(kL (b.drop 20)).map (r:: ·):=by
 rw[kL,dif_neg (by omega)]
 cases rd (b.take 20)<;>simp
 cases kL (b.drop 20)<;>simp
theorem Mn: ∀(k:Nat) (b:List UInt8),b.length<=k-> ¬b.length%20=0->kL b=none
 |0,b,h,hm=>by have:b.length=0:=by omega
               rw[this]at hm;simp at hm
 |k+1,b,h,hm=>by
  by_cases h2:b.length<20
  ·
   rw[kL,dif_pos h2,if_neg (fun e=>by rw[e]at hm;simp at hm)]
  rw[Mm (by omega),Mn k (b.drop 20) (by rw[List.length_drop];omega) (by rw[List.length_drop];omega)]
  cases rd (b.take 20)<;>rfl
def gI:List (List UInt8)->Option (List Rt)
 |[]=>some []
 |b::r=>(kL b).bind fun l=>(gI r).map (l++ ·)
theorem F7: ∀a b:List (List UInt8),gI (a++b)=(gI a).bind fun l=>(gI b).map (l++ ·)
 |[],b=>by simp[gI]
 |x::a,b=>by
  rw[List.cons_append,gI,gI,F7 a b]
  cases kL x<;>simp
  cases gI a<;>simp
  cases gI b<;>simp
theorem F8{bs:List (List UInt8)}{i:Nat}{b:List UInt8}(h:bs[i]? =some b):gI (bs.take (i+1))=(gI (bs.take i)).bind fun l=>(kL b).map (l++ ·):=by
 rw[List.take_add_one,h,Option.toList_some,F7,gI,gI]
 cases gI (bs.take i)with
 |none=>rfl
 |some l=>cases kL b<;>simp
theorem Mo{bs:List (List UInt8)}{i:Nat}(h:gI (bs.take i)=none):gI bs=none:=by
 rw[←List.take_append_drop i bs,F7,h];rfl
def ly(bs:List (List UInt8)):List Rt:=match gI bs with
 |some t=>if fb t=true then t else[]
 |none=>[]
def mU(bs:List (List UInt8)):Int:=match gI bs with
 |some t=>if fb t=true then 0 else 2
 |none=>2
theorem Cu{bs:List (List UInt8)}(h:gI bs=none):ly bs=[]/\mU bs=2:=by simp[ly,mU,h]
theorem Mp{bs:List (List UInt8)}{t:List Rt}(h:gI bs=some t)(hr:fb t=false):ly bs=[]/\mU bs=2:=by simp[ly,mU,h,hr]
theorem Mq{bs:List (List UInt8)}{t:List Rt}(h:gI bs=some t)(hr:fb t=true):ly bs=t/\mU bs=0:=by simp[ly,mU,h,hr]
def xz(a b:List (List UInt8))(i:Nat):Option (Int×List UInt8):=if a.getD i []=b.getD i []then none else some ((i:Int),b.getD i [])
def qD(a b:List (List UInt8))(n:Nat):List (Int×List UInt8):=(List.range n).filterMap (xz a b)
def jx(a b:List (List UInt8)):List (Int×List UInt8):=qD a b (max a.length b.length)
theorem UJ{a b:List (List UInt8)}{n:Nat}(h:a.getD n []=b.getD n []):qD a b (n+1)=qD a b n:=by
 have e:xz a b n=none:=by rw[xz,if_pos h]
 simp[qD,List.range_succ,e]
theorem UK{a b:List (List UInt8)}{n:Nat}(h: ¬a.getD n []=b.getD n []):qD a b (n+1)=qD a b n++[((n:Int),b.getD n [])]:=by
 have e:xz a b n=some ((n:Int),b.getD n []):=by rw[xz,if_neg h]
 simp[qD,List.range_succ,e]
theorem F9(a b:List (List UInt8))(n:Nat):(qD a b n).length<=n:=by
 have:=List.length_filterMap_le (xz a b) (List.range n);simpa[qD]using this
def ov(b:List UInt8):Bool:=decide (b.getD 0 0<=1)
def rdv(b:List UInt8):Rt:=if ov b=true then nH b else fu
theorem UL(b:List UInt8):rd b=if ov b=true then some (nH b)else none:=by simp[rd,ov]
theorem UM(b:List UInt8):(nH b).aY=uK (b.getD 18 0) (b.getD 19 0):=rfl
theorem UN{b:List UInt8}(hb:b.length=20)(v:Int)(hv:v=if b.getD 0 0=1 then 128 else 32):
  (over (((av fu).setIfInBounds 0 (.int .i64 v)).setIfInBounds 1 (.int .i64 (b.getD 1 0).toNat)) 2 (aF aJ ((b.drop 2).take 16)).toArray).setIfInBounds 18 (.int .u16 (uK (b.getD 18 0) (b.getD 19 0)).toNat)=av (nH b):=by
 have hk:(aF aJ ((b.drop 2).take 16)).toArray.size=16:=by rw[List.size_toArray,fM,List.length_take,List.length_drop,hb];rfl
 have h0:(av fu).size=19:=jm _;have hs:2+(aF aJ ((b.drop 2).take 16)).toArray.size<=(((av fu).setIfInBounds 0 (.int .i64 v)).setIfInBounds 1 (.int .i64 (b.getD 1 0).toNat)).size:=by rw[hk];simp[h0]
 refine Array.ext_getElem? fun j=>?_;rw[Array.getElem?_setIfInBounds,lQ hs,q7 hs,hk]
 by_cases zn:18=j
 ·
  subst zn;rw[if_pos rfl,wF,UM];simp[h0]
 rw[if_neg zn]
 by_cases h2:2<=j/\j<2+16
 ·
  rw[if_pos h2,mF _ j (by omega),show j=2+(j -2) by omega,n8,jl _ _ (by omega),show 2+(j -2) -2=j -2 by omega];have hg:((b.drop 2).take 16)[j -2]? =some (b.getD j 0):=by
   rw[List.getElem?_take,if_pos (by omega),List.getElem?_drop,show 2+(j -2)=j by omega,List.getD,List.getElem?_eq_getElem (by omega)];rfl
  have:=lR (enc:=aJ) ((b.drop 2).take 16) (j -2) _ hg 0 (by decide);simp only[Nat.mul_one,Nat.add_zero]at this;rw[show(aF aJ ((b.drop 2).take 16)).toArray[j -2]? =(aF aJ ((b.drop 2).take 16))[j -2]?by simp,this];have e:bg (nH b).p.key (j -2)=(b.getD j 0).toNat:=by
   show bg (mE fun i=>(b.getD (2+i) 0).toNat) (j -2)=_;rw[rf _ _ (by omega),show 2+(j -2)=j by omega];have:=(b.getD j 0).toNat_lt;omega
  rw[e];rfl
 rw[if_neg h2,Array.getElem?_setIfInBounds]
 by_cases h1:1=j
 ·
  subst h1;rw[if_pos rfl,mF _ 1 (by decide),uP];simp[h0,nH]
 rw[if_neg h1,Array.getElem?_setIfInBounds]
 by_cases hj:0=j
 ·
  subst hj;rw[if_pos rfl,mF _ 0 (by decide),uO];simp[h0,nH,hv]
 ·
  rw[if_neg hj,Array.getElem?_eq_none (by rw[h0];omega),Array.getElem?_eq_none (by rw[jm];omega)]
theorem Ms{t:List Rt}{ids room:Int}(h:lv ids room=0\/fb t=false):jd t ids room=1/\jZ t ids room=[]:=by
 have e:jd t ids room=1:=if_pos h.symm;exact⟨e,by rw[jZ,e];rfl⟩
theorem Mt{t:List Rt}{ids room:Int}(h: ¬lv ids room=0)(h':fb t=true)(h2:lv ids room<t.length):jd t ids room=5/\jZ t ids room=[]:=by
 have e:jd t ids room=5:=by
  rw[jd,if_neg (by simp[h,h']),if_pos h2]
 exact⟨e,by rw[jZ,e];rfl⟩
theorem Mu{t:List Rt}{ids room:Int}(h: ¬lv ids room=0)(h':fb t=true)(h2: ¬lv ids room<t.length):jd t ids room=0/\jZ t ids room=nG t ids.toNat (room/20).toNat:=by
 have e:jd t ids room=0:=by
  rw[jd,if_neg (by simp[h,h']),if_neg h2]
 exact⟨e,by rw[jZ,if_pos e]⟩
theorem UO{s:Sv}{xs:List (Sl UInt8)}{i:Nat}{y:Sl UInt8}:lx (⟨s,xs.set i y⟩:Sl (Sl UInt8))=(xs.map (·.xs)).set i y.xs:=by simp[lx,List.map_set]
def qE(m i:Nat)(nd:Nd)(b:Nat)(a:List Int):Option (List Int):=
 if(nd.sl b).len<0\/4*a.getD i 0+1<(nd.sl b).len then none
 else if nd.nx b=0 then some a
 else if nd.nx b<=(i:Int)\/(m:Int)<=nd.nx b\/a.getD (nd.nx b).toNat 0≠0 then none
 else some (a.set (nd.nx b).toNat (a.getD i 0+1))
def kj(m i:Nat)(nd:Nd):Nat->List Int->Option (List Int)
 |0,a=>some a
 |b+1,a=>(kj m i nd b a).bind (qE m i nd b)
def je(bits:Int)(ns:List Nd):Nat->Option (List Int)
 |0=>some ((List.replicate ns.length 0).set 0 1)
 |i+1=>(je bits ns i).bind fun a=>if a.getD i 0=0\/bits/4<a.getD i 0 then none else kj ns.length i (ns.getD i Nd.zero) 16 a
def ig(bits:Int)(ns:List Nd):Option (List Int):=if(bits=32\/bits=128)/\1<=ns.length/\ns.length<=512 then je bits ns ns.length else none
theorem UP{bits:Int}{ns:List Nd}{i:Nat}(h:je bits ns i=none): ∀j,i<=j->je bits ns j=none:=by
 intro j hj
 induction j with
 |zero=>obtain rfl:i=0:=by omega
        exact h
 |succ j ih=>
  rcases Nat.lt_or_ge j i with h'|h'
  ·
   obtain rfl:i=j+1:=by omega
   exact h
  rw[je,ih h'];rfl
theorem UQ{m i:Nat}{nd:Nd}{a:List Int}{b:Nat}(h:kj m i nd b a=none): ∀c,b<=c->kj m i nd c a=none:=by
 intro c hc
 induction c with
 |zero=>obtain rfl:b=0:=by omega
        exact h
 |succ c ih=>
  rcases Nat.lt_or_ge c b with h'|h'
  ·
   obtain rfl:b=c+1:=by omega
   exact h
  rw[kj,ih h'];rfl
theorem Mv{bits:Int}{ns:List Nd}{i:Nat}(hi:i<=ns.length)(h:je bits ns i=none):ig bits ns=none:=by
 rw[ig];split
 ·
  exact UP h _ hi
 rfl
section
variable {bits:Int} {ns:List Nd} {i:Nat} {a a2:List Int} {nd:Nd}
theorem UR(hi:i<ns.length)(h:je bits ns i=some a)(hx:a.getD i 0=0\/bits/4<a.getD i 0):ig bits ns=none:=
 Mv (i:=i+1) hi (by rw[je,h,Option.bind_some,if_pos hx])
theorem Mw{b:Nat}(hi:i<ns.length)(h:je bits ns i=some a)(hn:ns[i]? =some nd)(hb:b<16)(h2:kj ns.length i nd b a=some a2)(h3:qE ns.length i nd b a2=none):ig bits ns=none:=
 Mv (i:=i+1) hi (by
  rw[je,h,Option.bind_some];split
  ·
   rfl
  have e:ns.getD i Nd.zero=nd:=by rw[List.getD_eq_getElem?_getD,hn];rfl
  rw[e];exact UQ (b:=b+1) (by rw[kj,h2,Option.bind_some,h3]) _ hb)
theorem US(h:je bits ns i=some a)(hn:ns[i]? =some nd)(hx: ¬(a.getD i 0=0\/bits/4<a.getD i 0))(h2:kj ns.length i nd 16 a=some a2):je bits ns (i+1)=some a2:=by
 have e:ns.getD i Nd.zero=nd:=by rw[List.getD_eq_getElem?_getD,hn];rfl
 rw[je,h,Option.bind_some,if_neg hx,e,h2]
theorem getD_some{α:Type}{xs:List α}{i:Nat}{x d:α}(h:xs[i]? =some x):xs.getD i d=x:=by rw[List.getD_eq_getElem?_getD,h];rfl
end
def Mx(ns:List Nd):Prop:= ∀(i:Nat) (nd:Nd),ns[i]? =some nd-> ∀b:Nat,b<16->0<=nd.nx b/\nd.nx b<ns.length
theorem UT{m i:Nat}{nd:Nd}{a a2:List Int}: ∀{n:Nat},kj m i nd n a=some a2-> ∀b,b<n->nd.nx b=0\/(i:Int)<nd.nx b/\nd.nx b<m:=by
 intro n
 induction n generalizing a2 with
 |zero=>intro _ b hb;omega
 |succ n ih=>
  intro h b hb;rw[kj]at h
  cases e:kj m i nd n a with
  |none=>rw[e]at h;cases h
  |some a3=>
   rcases Nat.lt_or_ge b n with h'|h'
   ·
    exact ih e b h'
   obtain rfl:b=n:=by omega
   rw[e,Option.bind_some,qE]at h;split at h
   ·
    cases h
   split at h
   ·
    left;assumption
   split at h
   ·
    cases h
   right;omega
theorem UU{bits:Int}{ns:List Nd}{a:List Int}: ∀{n:Nat},je bits ns n=some a-> ∀i nd,i<n->ns[i]? =some nd-> ∀b,b<16->nd.nx b=0\/(i:Int)<nd.nx b/\nd.nx b<ns.length:=by
 intro n
 induction n generalizing a with
 |zero=>intro _ i nd hi;omega
 |succ n ih=>
  intro h i nd hi hn b hb;rw[je]at h
  cases e:je bits ns n with
  |none=>rw[e]at h;cases h
  |some a3=>
   rcases Nat.lt_or_ge i n with h'|h'
   ·
    exact ih e i nd h' hn b hb
   obtain rfl:i=n:=by omega
   rw[e,Option.bind_some]at h;split at h
   ·
    cases h
   rw[getD_some hn]at h;exact UT h b hb
theorem Cv{bits:Int}{ns:List Nd}(h:(ig bits ns).isSome=true):Mx ns/\(bits=32\/bits=128)/\1<=ns.length/\ns.length<=512:=by
 rw[ig]at h;split at h
 ·
  rename_i hc;refine⟨fun i nd hi b hb=>?_,hc⟩;obtain⟨a,ha⟩:=Option.isSome_iff_exists.1 h;have dI:=(List.getElem?_eq_some_iff.1 hi).1;rcases UU ha i nd dI hi b hb with h1|h1
  ·
   omega
  omega
 cases h
theorem UW{m i:Nat}{nd:Nd}{a a2:List Int}: ∀{n:Nat},kj m i nd n a=some a2->a2.getD i 0=a.getD i 0/\ ∀b,b<n->0<=(nd.sl b).len/\(nd.sl b).len<=4*a.getD i 0+1:=by
 intro n
 induction n generalizing a2 with
 |zero=>intro h;rw[kj]at h;exact⟨by rw[Option.some.inj h],fun b hb=>by omega⟩
 |succ n ih=>
  intro h;rw[kj]at h
  cases e:kj m i nd n a with
  |none=>rw[e]at h;cases h
  |some a3=>
   obtain⟨Ga,UX⟩:=ih e;rw[e,Option.bind_some,qE]at h;split at h
   ·
    cases h
   rename_i h1;have mh: ∀b,b<n+1->0<=(nd.sl b).len/\(nd.sl b).len<=4*a.getD i 0+1:=fun b hb=>by
    rcases Nat.lt_or_ge b n with h'|h'
    ·
     exact UX b h'
    obtain rfl:b=n:=by omega
    rw[←Ga];omega
   split at h
   ·
    exact⟨by rw[←Option.some.inj h];exact Ga,mh⟩
   split at h
   ·
    cases h
   refine⟨?_,mh⟩;rw[←Option.some.inj h,←Ga,List.getD_eq_getElem?_getD,List.getD_eq_getElem?_getD,List.getElem?_set_ne (by omega)]
theorem UY{bits:Int}{ns:List Nd}{a:List Int}: ∀{n:Nat},je bits ns n=some a-> ∀(i:Nat) (nd:Nd),i<n->ns[i]? =some nd-> ∀b,b<16->0<=(nd.sl b).len/\(nd.sl b).len<=4*(bits/4)+1:=by
 intro n
 induction n generalizing a with
 |zero=>intro _ i nd hi;omega
 |succ n ih=>
  intro h i nd hi hn b hb;rw[je]at h
  cases e:je bits ns n with
  |none=>rw[e]at h;cases h
  |some a3=>
   rcases Nat.lt_or_ge i n with h'|h'
   ·
    exact ih e i nd h' hn b hb
   obtain rfl:i=n:=by omega
   rw[e,Option.bind_some]at h;split at h
   ·
    cases h
   rw[getD_some hn]at h;have:=(UW h).2 b hb;omega
theorem UZ{bits:Int}{ns:List Nd}(h:(ig bits ns).isSome=true){i:Nat}{nd:Nd}(hn:ns[i]? =some nd){b:Nat}(hb:b<16):0<=(nd.sl b).len/\(nd.sl b).len<=129:=by
 obtain⟨_,Kx,_⟩:=Cv h;rw[ig]at h;split at h
 ·
  obtain⟨a,ha⟩:=Option.isSome_iff_exists.1 h;have:=UY ha i nd (List.getElem?_eq_some_iff.1 hn).1 hn b hb;omega
 cases h
def chain(ns:List Nd)(k:Key):Nat->Nat
 |0=>0
 |n+1=>((ns.getD (chain ns k n) Nd.zero).nx (eY k n)).toNat
theorem Cx{ns:List Nd}{k:Key}(h:Mx ns)(h0:0<ns.length): ∀n,chain ns k n<ns.length
 |0=>h0
 |n+1=>by
  have ih:=Cx (k:=k) h h0 n;obtain⟨nd,hn⟩: ∃nd,ns[chain ns k n]? =some nd:=⟨ns[chain ns k n],by simp[ih]⟩;have:=h _ nd hn (eY k n) (rv k n);rw[chain,getD_some hn];omega
def zB(ns:List Nd)(k:Key)(n:Nat):Nat:=((List.range n).find? fun j=>chain ns k (j+1)==0).getD n
theorem U0{ns:List Nd}{k:Key}{n i:Nat}(hi:i<n)(h: ∀j,j<i->chain ns k (j+1)≠0)(h0:chain ns k (i+1)=0):zB ns k n=i:=by
 unfold zB;have:(List.range n).find? (fun j=>chain ns k (j+1)==0)=some i:=by
  rw[List.find?_range_eq_some];exact⟨by simpa using h0,by simpa using hi,fun j hj=>by simpa using h j hj⟩
 rw[this];rfl
theorem U1{ns:List Nd}{k:Key}{n:Nat}(h: ∀j,j<n->chain ns k (j+1)≠0):zB ns k n=n:=by
 unfold zB;have:(List.range n).find? (fun j=>chain ns k (j+1)==0)=none:=by
  rw[List.find?_range_eq_none];intro j hj;simpa using h j hj
 rw[this];rfl
def rV(ns:List Nd)(k:Key)(n:Nat):List Int:=(List.range (n+1)).map fun j=>((chain ns k j:Nat):Int)
theorem U2(ns:List Nd)(k:Key)(n:Nat):rV ns k (n+1)=rV ns k n++[((chain ns k (n+1):Nat):Int)]:=by simp[rV,List.range_succ]
theorem zC(ns:List Nd)(k:Key)(n:Nat):(rV ns k n).length=n+1:=by simp[rV]
theorem My{ns:List Nd}{k:Key}{n i:Nat}(h:i<=n):(rV ns k n)[i]? =some ((chain ns k i:Nat):Int):=by
 simp[rV,show i<n+1 by omega]
def pE(bits:Int)(ns:List Nd)(k:Key):Bool:=(ig bits ns).isSome&&decide (cJ k bits=k)
def kl(bits:Int)(ns:List Nd)(k:Key):List Int:=if pE bits ns k=true then rV ns k (zB ns k (bits/4).toNat)else[]
def mq(ns:List Nd)(k:Key):Nat->eO
 |0=>eO.no
 |n+1=>let s:=(ns.getD (chain ns k n) Nd.zero).sl (eY k n)
  if(mq ns k n).len<s.len then s else mq ns k n
theorem Mz{bits:Int}{ns:List Nd}{k:Key}(h:(ig bits ns).isSome=true): ∀n,0<=(mq ns k n).len/\(mq ns k n).len<=129
 |0=>by simp[mq,eO.no]
 |n+1=>by
  obtain⟨h1,_,h3,_⟩:=Cv h;have ih:=Mz (k:=k) h n;have hl:=Cx (k:=k) h1 (by omega) n;obtain⟨nd,hn⟩: ∃nd,ns[chain ns k n]? =some nd:=⟨ns[chain ns k n],by simp[hl]⟩;have:=UZ h hn (rv k n);simp only[mq,getD_some hn];split<;>omega
theorem MA{bits:Int}{ns:List Nd}{k:Key}:(kl bits ns k).length=0↔pE bits ns k=false:=by
 unfold kl;split
 ·
  rename_i h;simp[zC,h]
 rename_i h;simpa using h
theorem U3{bits:Int}{ns:List Nd}{k:Key}{i:Nat}(h:i<(kl bits ns k).length):(kl bits ns k)[i]? =some ((chain ns k i:Nat):Int):=by
 unfold kl at h⊢;split at h
 ·
  rename_i hk;rw[if_pos hk];rw[zC]at h;exact My (by omega)
 simp at h
def vz(bits:Int)(ns:List Nd)(k:Key):eO:=mq ns k (kl bits ns k).length
def nI(bits:Int)(ns:List Nd)(k:Key):Int:=if pE bits ns k=true then(if(vz bits ns k).len=0 then 6 else 0)else 1
def tK(bits:Int)(ns:List Nd)(k:Key):Int:=if nI bits ns k=0 then(vz bits ns k).len -1 else 0
def tL(bits:Int)(ns:List Nd)(k:Key):UInt16:=if nI bits ns k=0 then(vz bits ns k).aY else 0
section
variable {bits:Int} {W:List Wy} {R:List Rt}
end
section
variable {bits:Int} {t:List Rt}
end
def iL(p:Nat->Bool):Nat->Nat->Nat->Nat
 |0,i,_=>i
 |f+1,i,j=>if i<j then(if p ((i+j)/2)=true then iL p f i ((i+j)/2)else iL p f ((i+j)/2+1) j)else i
def bs(p:Nat->Bool)(n:Nat):Nat:=iL p (n+1) 0 n
theorem Cy(p:Nat->Bool): ∀(f g i j:Nat),j -i<f->j -i<g->iL p f i j=iL p g i j
 |0,_,_,_,h,_=>by omega
 |_+1,0,_,_,_,h=>by omega
 |f+1,g+1,i,j,h1,h2=>by
  rw[iL,iL];split
  ·
   split
   ·
    exact Cy p f g _ _ (by omega) (by omega)
   exact Cy p f g _ _ (by omega) (by omega)
  rfl
theorem Cz{p:Nat->Bool}{f i j:Nat}(h:i<j)(hf:j -i<f):iL p f i j=if p ((i+j)/2)=true then iL p f i ((i+j)/2)else iL p f ((i+j)/2+1) j:=by
 match f,hf with
 |f+1,hf=>
  rw[iL,if_pos h];split
  ·
   exact Cy p f (f+1) _ _ (by omega) (by omega)
  exact Cy p f (f+1) _ _ (by omega) (by omega)
theorem MB{p:Nat->Bool}{f i j:Nat}(h: ¬i<j)(hf:0<f):iL p f i j=i:=by
 match f,hf with
 |f+1,_=>rw[iL,if_neg h]
theorem Gd{p:Nat->Bool}{n:Nat}(hm: ∀a b,a<=b->b<n->p a=true->p b=true): ∀(f i j:Nat),j -i<f->i<=j->j<=n->(∀a,a<i->p a=false)->(∀a,j<=a->a<n->p a=true)->
  iL p f i j<=n/\(∀a,a<iL p f i j->p a=false)/\ ∀a,iL p f i j<=a->a<n->p a=true
 |0,_,_,h,_,_,_,_=>by omega
 |f+1,i,j,h,ng,sL,h1,h2=>by
  rw[iL];split
  ·
   rename_i aW;split
   ·
    rename_i hp;exact Gd hm f _ _ (by omega) (by omega) (by omega) h1 fun a ha U4=>hm _ a ha U4 hp
   ·
    rename_i hp;refine Gd hm f _ _ (by omega) (by omega) sL (fun a ha=>?_) h2
    cases pF:p a with
    |false=>rfl
    |true=>exact absurd (hm a ((i+j)/2) (by omega) (by omega) pF) hp
  ·
   obtain rfl:i=j:=by omega
   exact⟨sL,h1,h2⟩
theorem U5{p:Nat->Bool}{n:Nat}(hm: ∀a b,a<=b->b<n->p a=true->p b=true):bs p n<=n/\(∀a,a<bs p n->p a=false)/\ ∀a,bs p n<=a->a<n->p a=true:=
 Gd hm (n+1) 0 n (by omega) (Nat.zero_le _) (Nat.le_refl _) (fun a ha=>by omega) (fun a h1 h2=>by omega)
def behind(t:List Rt)(q:cc)(j:Nat):Bool:=match t[j]?with
 |some r=> !oX r.p q
 |none=>true
def eM(t:List Rt)(q:cc):Nat:=bs (behind t q) t.length
def mV(t:List Rt)(q:cc):Bool:=match t[eM t q]?with
 |some r=>decide (r.p=q)
 |none=>false
theorem Gj{p:Nat->Bool}: ∀(f i j:Nat),i<=j->iL p f i j<=j
 |0,_,_,h=>h
 |f+1,i,j,h=>by
  rw[iL];split
  ·
   split
   ·
    exact Nat.le_trans (Gj f _ _ (by omega)) (by omega)
   exact Gj f _ _ (by omega)
  exact h
theorem MC(t:List Rt)(q:cc):eM t q<=t.length:=Gj _ _ _ (Nat.zero_le _)
theorem U6(t:List Rt)(q:cc):mV t q=(decide (((eM t q:Nat):Int)<(t.length:Int))&&decide ((t.getD (eM t q) fu).p=q)):=by
 rcases Nat.lt_or_ge (eM t q) t.length with h|h
 ·
  have e:t[eM t q]? =some t[eM t q]:=by simp[h]
  rw[mV,e,List.getD_eq_getElem?_getD,e];simp[h]
 rw[mV,List.getElem?_eq_none h,decide_eq_false (by omega)];rfl
def xA(t:List Rt)(k:Key)(bits:Int)(n:Nat):Option Rt:=if mV t ⟨bits,n,cJ k n⟩=true then t[eM t ⟨bits,n,cJ k n⟩]?else none
def pG(t:List Rt)(k:Key)(bits:Int):Nat->Option Rt
 |0=>xA t k bits 0
 |n+1=>match xA t k bits (n+1)with
  |some r=>some r
  |none=>pG t k bits n
def vA(t:List Rt)(k:Key)(bits:Int):Bool:=fb t&&cU ⟨bits,bits,k⟩
def km(t:List Rt)(k:Key)(bits:Int):Rt:=if vA t k bits=true then(pG t k bits bits.toNat).getD fu else fu
def rW(t:List Rt)(k:Key)(bits:Int):Int:=if vA t k bits=true then(if(pG t k bits bits.toNat).isSome=true then 0 else 6)else 1
theorem Gk{t:List Rt}{q:cc}(h:mV t q=true): ∃r∈t,t[eM t q]? =some r/\r.p=q:=by
 rw[mV]at h
 cases e:t[eM t q]?with
 |none=>rw[e]at h;cases h
 |some r=>rw[e]at h;exact⟨r,List.mem_of_getElem? e,rfl,by simpa using h⟩
section
variable {t:List Rt} {k:Key} {bits:Int}
end
def U7(r:Rt)(p:cc):Bool:=decide (r.p≠p)&&Qv r.p p
def U8(t:List Rt)(p:cc):Option Rt:=t.reverse.find? fun r=>U7 r p
def ahO(t:List Rt)(r:Rt):Bool:=match U8 t r.p with
 |none=>true
 |some o=> !decide (o.aY=r.aY)
structure Ch where
 r:Rt
 gone:Bool
 deriving DecidableEq
def MD:Ch:=⟨fu,false⟩
def gJ(x:Ch):Array Value:=av x.r++ #[.bool x.gone]
theorem ME(x:Ch):(gJ x).size=20:=by unfold gJ;rw[Array.size_append,jm];rfl
theorem MF(x:Ch)(j:Nat)(h:j<19):(gJ x)[j]? =(av x.r)[j]? :=by
 unfold gJ;rw[Array.getElem?_append_left (by rw[jm];exact h)]
theorem U9(x:Ch):(gJ x)[19]? =some (.bool x.gone):=by
 unfold gJ;rw[Array.getElem?_append_right (by rw[jm];omega),jm];rfl
def gS(t:List Rt)(c:Ch):Int:=if cU c.r.p=true then(if mV t c.r.p=true then 0 else if c.gone=true then 6 else if 256<=t.length then 5 else 0)else 1
def lz(t:List Rt)(c:Ch):List Rt:=
 if gS t c=0 then(if c.gone=true then t.take (eM t c.r.p)++t.drop (eM t c.r.p+1)else if mV t c.r.p=true then t.set (eM t c.r.p) c.r else t.take (eM t c.r.p)++c.r::t.drop (eM t c.r.p))else t
theorem Va{t:List Rt}(h:t.length<=256)(c:Ch):(lz t c).length<=256:=by
 unfold lz;split
 ·
  rename_i he;split
  ·
   simp only[List.length_append,List.length_take,List.length_drop];omega
  split
  ·
   simpa using h
  rename_i h1 h2;have:t.length<256:=by
   apply Classical.byContradiction;intro hn;unfold gS at he;rw[if_neg h2,if_neg h1,if_pos (show 256<=t.length by omega)]at he;split at he<;>omega
  have hp:=MC t c.r.p;simp only[List.length_append,List.length_take,List.length_cons,List.length_drop];omega
 exact h
def qF:List Rt->List Ch->List Rt×Int
 |t,[]=>(t,0)
 |t,c::l=>if gS t c=0 then qF (lz t c) l else(t,gS t c)
theorem MG{t:List Rt}{l:List Ch}{i:Nat}{c:Ch}(hc:l[i]? =some c):qF t (l.drop i)=if gS t c=0 then qF (lz t c) (l.drop (i+1))else(t,gS t c):=by
 obtain⟨hi,rfl⟩:=List.getElem?_eq_some_iff.1 hc;rw[List.drop_eq_getElem_cons hi,qF]
def j6(t:List Rt)(l:List Ch):Int:=if fb t=true then(qF t l).2 else 1
def eG(t:List Rt)(l:List Ch):List Rt:=if j6 t l=0 then(qF t l).1 else t
end Go.Kb
namespace Go.aA
def rX:Nat->Value->Value->Prop
 |0, .int k _, .int k' _=>k=k'
 |1, .bool _, .bool _=>True
 |2, .string _, .string _=>True
 |_,_,_=>False
def nJ:Value->Bool
 | .agg _=>true
 |_=>false
def xB(P:Program)(d:Nat)(t:TypeId)(ij:Bool)(ks:List Nat):Prop:=
 ∀(w:World) (x y:Value),nJ x=ij->nJ y=ij->x.cells.size=ks.length->y.cells.size=ks.length->
  (∀(i k:Nat),ks[i]? =some k-> ∃u v,x.cells[i]? =some u/\y.cells[i]? =some v/\rX k u v)->
  ∃r:Bool,(Op.equalIn d t x y).run P w= .ok r w/\(r=true↔ ∀i,i<ks.length->x.cells[i]? =y.cells[i]?)
section
variable {P:Program} {d:Nat} {t:TypeId}
theorem CA{x:Value}(h:nJ x=false):x.cells= #[x]:=by
 cases x<;>simp_all[nJ,Value.cells]
theorem Gl{q:IntKind}(hu:P.underlying t=some (.int q)):xB P (d+1) t false [0]:=fun w x y hx hy _ _ hk=>by
 obtain⟨u,v,h1,h2,h3⟩:=hk 0 0 rfl;rw[CA hx]at h1⊢;rw[CA hy]at h2⊢;simp at h1 h2;subst h1 h2
 cases x<;>cases y<;>simp only[rX]at h3
 subst h3;exact⟨_,run_equalIn_int w d t _ q _ _ hu,by simp⟩
theorem MH{e:TypeId}{ij:Bool}{n:Nat}(hA: ∃de,P.underlying e=some de/\sM de=ij)(hn:(P.info? e).map (·.size)=some n)(h1:ij=false->n=1)
  {xs:Array Value} {off:Nat} (aW:off+n<=xs.size) (hp: ∀i u,off<=i->i<off+n->xs[i]? =some u->nJ u=false) (w:World):
  ∃a,(part e xs off).run P w= .ok a w/\nJ a=ij/\a.cells.size=n/\ ∀i,i<n->a.cells[i]? =xs[off+i]? :=by
 obtain⟨de,hu,hr⟩:=hA
 cases ij with
 |true=>
  refine⟨.agg (xs.extract off (off+n)),?_,rfl,by simp[Value.cells];omega,fun i hi=>?_⟩
  ·
   simp only[part,Sem.run_bind,AJ w hu,hr,Result.andThen_ok,if_true,jL w hn,Sem.run_pure]
  ·
   simp[Value.cells,Array.getElem?_extract];intro h;omega
 |false=>
  have:=h1 rfl;subst this;have hx:xs[off]? =some xs[off]:=by simp[show off<xs.size by omega]
  have Gm:=hp off _ (Nat.le_refl _) (by omega) hx;refine⟨xs[off],?_,Gm,by rw[CA Gm];rfl,fun i hi=>?_⟩
  ·
   simp only[part,Sem.run_bind,AJ w hu,hr,Result.andThen_ok,hx,Bool.false_eq_true,if_false,Sem.run_pure]
  ·
   obtain rfl:i=0:=by omega
   rw[CA Gm,Nat.add_zero,hx];rfl
theorem MI{k:Nat}{u v:Value}(h:rX k u v):nJ u=false/\nJ v=false:=by
 unfold rX at h;split at h<;>simp_all[nJ]
structure qG(P:Program)(d:Nat)(e:TypeId)(ij:Bool)(ks:List Nat):Prop where
 row: ∃de,P.underlying e=some de/\sM de=ij
 size:(P.info? e).map (·.size)=some ks.length
 one:ij=false->ks.length=1
 eq:xB P d e ij ks
theorem MJ{e:TypeId}{ij:Bool}{ks:List Nat}(he:qG P d e ij ks){xs ys:Array Value}{off:Nat}(hx:off+ks.length<=xs.size)(hy:off+ks.length<=ys.size)
  (hk: ∀(i k:Nat),ks[i]? =some k-> ∃u v,xs[off+i]? =some u/\ys[off+i]? =some v/\rX k u v) (w:World):
  ∃a b r,(part e xs off).run P w= .ok a w/\(part e ys off).run P w= .ok b w/\(Op.equalIn d e a b).run P w= .ok r w/\(r=true↔ ∀i,i<ks.length->xs[off+i]? =ys[off+i]?):=by
 have plain: ∀i,off<=i->i<off+ks.length-> ∃u v k,xs[i]? =some u/\ys[i]? =some v/\rX k u v:=fun i h1 h2=>by
  obtain⟨u,v,h3,h4,h5⟩:=hk (i -off) _ (List.getElem?_eq_getElem (by omega));rw[show off+(i -off)=i by omega]at h3 h4;exact⟨u,v,_,h3,h4,h5⟩
 obtain⟨a,a1,a2,a3,a4⟩:=MH he.row he.size he.one hx (fun i u h1 h2 h3=>by
  obtain⟨u',v,k,h4,h5,h6⟩:=plain i h1 h2;rw[h4]at h3;cases h3;exact(MI h6).1) w
 obtain⟨b,b1,b2,b3,b4⟩:=MH he.row he.size he.one hy (fun i u h1 h2 h3=>by
  obtain⟨u',v,k,h4,h5,h6⟩:=plain i h1 h2;rw[h5]at h3;cases h3;exact(MI h6).2) w
 obtain⟨r,r1,r2⟩:=he.eq w a b a2 b2 a3 b3 (fun i k mK=>by
  obtain⟨u,v,h1,h2,h3⟩:=hk i k mK;have hi:i<ks.length:=(List.getElem?_eq_some_iff.1 mK).1;exact⟨u,v,by rw[a4 i hi];exact h1,by rw[b4 i hi];exact h2,h3⟩)
 refine⟨a,b,r,a1,b1,r1,r2.trans ⟨fun h i hi=>?_,fun h i hi=>?_⟩⟩
 ·
  rw[←a4 i hi,←b4 i hi];exact h i hi
 ·
  rw[a4 i hi,b4 i hi];exact h i hi
theorem MK{e:TypeId}{ij:Bool}{ks:List Nat}(he:qG P d e ij ks){xs ys:Array Value}(w:World): ∀(is:List Nat),
  (∀j∈is,j*ks.length+ks.length<=xs.size/\j*ks.length+ks.length<=ys.size/\ ∀(i k:Nat),ks[i]? =some k-> ∃u v,xs[j*ks.length+i]? =some u/\ys[j*ks.length+i]? =some v/\rX k u v)->
  ∃r:Bool,(Op.eqItems d e ks.length xs ys is).run P w= .ok r w/\(r=true↔ ∀j∈is,∀i,i<ks.length->xs[j*ks.length+i]? =ys[j*ks.length+i]?)
 |[],_=>⟨true,by simp[Op.eqItems],by simp⟩
 |j::is,h=>by
  obtain⟨h1,h2,h3⟩:=h j (by simp);obtain⟨a,b,r,p1,p2,p3,rY⟩:=MJ he h1 h2 h3 w;obtain⟨r',Gn,Gt⟩:=MK he w is (fun j' jj=>h j' (by simp[jj]));simp only[Op.eqItems,Sem.run_bind,p1,p2,p3,Result.andThen_ok]
  cases r
  ·
   refine⟨false,by simp,?_⟩;simp only[Bool.false_eq_true,false_iff];intro e;exact absurd (rY.2 (e j (by simp))) (by simp)
  ·
   refine⟨r',by simpa using Gn,?_⟩;rw[Gt];have:=rY.1 rfl;constructor
   ·
    intro e j' jj;rcases List.mem_cons.1 jj with rfl|jj
    ·
     exact this
    ·
     exact e j' jj
   ·
    intro e j' jj;exact e j' (by simp[jj])
theorem w6{ks:List Nat}: ∀{n j i:Nat},j<n->i<ks.length->(List.replicate n ks).flatten[j*ks.length+i]? =ks[i]?
 |0,j,i,h,_=>by omega
 |n+1,0,i,_,hi=>by
  rw[List.replicate_succ,List.flatten_cons,Nat.zero_mul,Nat.zero_add,List.getElem?_append_left hi]
 |n+1,j+1,i,h,hi=>by
  rw[List.replicate_succ,List.flatten_cons,List.getElem?_append_right (by rw[Nat.add_mul];omega),Nat.add_mul,show j*ks.length+1*ks.length+i -ks.length=j*ks.length+i by omega];exact w6 (by omega) hi
theorem Vb{e:TypeId}{n:Nat}{ij:Bool}{ks:List Nat}(hu:P.underlying t=some (.array n e))(he:qG P d e ij ks):xB P (d+1) t true (List.replicate n ks).flatten:=fun w x y hx hy sx sy hk=>by
 cases x<;>simp only[nJ,Bool.false_eq_true]at hx
 cases y<;>simp only[nJ,Bool.false_eq_true]at hy
 rename_i xs ys;simp only[Value.cells]at sx sy hk⊢;have hl:(List.replicate n ks).flatten.length=n*ks.length:=by simp
 rw[hl]at sx sy⊢;obtain⟨i,hi⟩: ∃i,P.info? e=some i:=by
  cases h:P.info? e with
  |none=>have:=he.size;simp[h]at this
  |some i=>exact⟨i,rfl⟩
 have hc:P.cellsOf e=ks.length:=by have:=he.size;simp[Program.cellsOf,hi]at this⊢;exact this
 have bound: ∀j,j<n->j*ks.length+ks.length<=n*ks.length:=fun j hj=>by
  rw[←Nat.succ_mul];exact Nat.mul_le_mul_right _ hj
 obtain⟨r,hr,rY⟩:=MK he (xs:=xs) (ys:=ys) w (List.range n) (fun j hj=>by
  have jj:=List.mem_range.1 hj;have:=bound j jj;refine⟨by omega,by omega,fun i k mK=>?_⟩;have dI:i<ks.length:=(List.getElem?_eq_some_iff.1 mK).1;exact hk (j*ks.length+i) k (by rw[w6 jj dI];exact mK))
 refine⟨r,by rw[run_equalIn_array w d xs ys hu hi,hc];exact hr,rY.trans ⟨fun h q hq=>?_,fun h j hj i hi=>?_⟩⟩
 ·
  have FO:0<ks.length:=by
   rcases Nat.eq_zero_or_pos ks.length with h0|h0
   ·
    rw[h0]at hq;omega
   exact h0
  have h1:q/ks.length<n:=Nat.div_lt_of_lt_mul (by rw[Nat.mul_comm];exact hq);have h2:=h (q/ks.length) (List.mem_range.2 h1) (q%ks.length) (Nat.mod_lt _ FO);rw[Nat.div_add_mod']at h2;exact h2
 have:=bound j (List.mem_range.1 hj);exact h _ (by omega)
def CB(P:Program)(d:Nat):Nat->List Field->List Nat->Prop
 |_,[],ks=>ks=[]
 |off,f::fs,ks=>f.name≠ "_" ∧f.offset=off∧ ∃ij k1 k2,ks=k1++k2∧qG P d f.type ij k1∧CB P d (off+k1.length) fs k2
theorem ML{xs ys:Array Value}(w:World): ∀(fs:List Field) (off:Nat) (ks:List Nat),CB P d off fs ks->off+ks.length<=xs.size->off+ks.length<=ys.size->
  (∀(i k:Nat),ks[i]? =some k-> ∃u v,xs[off+i]? =some u/\ys[off+i]? =some v/\rX k u v)->
  ∃r:Bool,(Op.eqFields d xs ys fs).run P w= .ok r w/\(r=true↔ ∀i,i<ks.length->xs[off+i]? =ys[off+i]?)
 |[],off,ks,h,_,_,_=>by
  simp only[CB]at h;subst h;exact⟨true,by simp[Op.eqFields],by simp⟩
 |f::fs,off,ks,h,hx,hy,hk=>by
  obtain⟨hn,ho,ij,k1,k2,rfl,hp,Bs⟩:=h;simp only[List.length_append]at hx hy;obtain⟨a,b,r,p1,p2,p3,rY⟩:=MJ hp (xs:=xs) (ys:=ys) (off:=off) (by omega) (by omega) (fun i k mK=>by
   have hi:i<k1.length:=(List.getElem?_eq_some_iff.1 mK).1;exact hk i k (by rw[List.getElem?_append_left hi];exact mK)) w
  obtain⟨r',Gn,Gt⟩:=ML (xs:=xs) (ys:=ys) w fs (off+k1.length) k2 Bs (by omega) (by omega) (fun i k mK=>by
   have:=hk (k1.length+i) k (by rw[List.getElem?_append_right (by omega)];simpa using mK);rw[Nat.add_assoc];exact this)
  subst ho;simp only[Op.eqFields,hn,ne_eq,not_false_eq_true,if_true,Sem.run_bind,p1,p2,p3,Result.andThen_ok]
  cases r
  ·
   refine⟨false,by simp,?_⟩;simp only[Bool.false_eq_true,false_iff];intro e;exact absurd (rY.2 fun i hi=>e i (by simp;omega)) (by simp)
  ·
   refine⟨r',by simpa using Gn,?_⟩;rw[Gt];have:=rY.1 rfl;simp only[List.length_append];constructor
   ·
    intro e i hi
    by_cases h1:i<k1.length
    ·
     exact this i h1
    ·
     have:=e (i -k1.length) (by omega);rw[show f.offset+k1.length+(i -k1.length)=f.offset+i by omega]at this;exact this
   ·
    intro e i hi;have:=e (k1.length+i) (by omega);rw[Nat.add_assoc];exact this
theorem MM{fs:Array Field}{ks:List Nat}(hu:P.underlying t=some (.struct fs))(hp:P.stoodInHeld t=false)(hf:CB P d 0 fs.toList ks):xB P (d+1) t true ks:=fun w x y hx hy sx sy hk=>by
 cases x<;>simp only[nJ,Bool.false_eq_true]at hx
 cases y<;>simp only[nJ,Bool.false_eq_true]at hy
 rename_i xs ys;simp only[Value.cells]at sx sy hk⊢;have nK:P.fieldsOf t=fs:=by simp[Program.fieldsOf,hu]
 obtain⟨r,hr,rY⟩:=ML (xs:=xs) (ys:=ys) w fs.toList 0 ks hf (by omega) (by omega) (fun i k mK=>by
  have:=hk i k mK;simpa using this)
 refine⟨r,?_,by simpa using rY⟩;rw[run_equalIn_struct w d t xs ys (by rw[nK];exact hu) hp,nK];exact hr
theorem xB.val{ij:Bool}{ks:List Nat}(h:xB P 10000 t ij ks)(hA:ij=true)(hg:P.eqGuardType P.depth t=false){xs ys:Array Value}{r:Bool}(sx:xs.size=ks.length)(sy:ys.size=ks.length)
  (hk: ∀(i k:Nat),ks[i]? =some k-> ∃u v,xs[i]? =some u/\ys[i]? =some v/\rX k u v) (hr:xs=ys↔r=true):vZ P t (.agg xs) (.agg ys) r where
 h w:=by
  subst hA;obtain⟨q,h1,h2⟩:=h w (.agg xs) (.agg ys) rfl rfl sx sy hk;have:q=r:=by
   rw[Bool.eq_iff_iff,h2,←hr];simp only[Value.cells];constructor
   ·
    intro e;apply Array.ext_getElem?;intro i
    by_cases hi:i<ks.length
    ·
     exact e i hi
    ·
     simp[show ¬i<xs.size by omega,show ¬i<ys.size by omega]
   ·
    rintro rfl i _;rfl
  rw[h1,this]
 plain:=hg
 agg:=⟨xs,ys,rfl,rfl⟩
end
end Go.aA
namespace Go.Proofs.YtkggjjnhnjjokaaGreatDoor
open Go.aA Go.Kb
instance (k:Key):eA (bF k) 16:=⟨eJ k,by
 rw[Array.all_eq_true_iff_forall_mem];intro v hv;simp only[bF,List.mem_toArray,List.mem_map]at hv;obtain⟨i,_,rfl⟩:=hv;rfl⟩
instance (p:cc):eA (cA p) 18:=⟨nn p,by
 have h:(bF p.key).all (·.oneCell')=true:=(inferInstance:eA (bF p.key) 16).one;rw[cA,Array.all_append,h];simp[Value.oneCell']⟩
instance (p:cc):bL (cA p) 0 (.int .i64 p.bits):=⟨uO p⟩
instance (p:cc):bL (cA p) 1 (.int .i64 p.len):=⟨uP p⟩
instance (p:cc):kS (cA p) 2 16 (bF p.key):=⟨eJ _,fun j _=>n8 p j⟩
theorem Vc(d:Nat):qG Tryz.prog (d+1) 5 false [0]:=⟨⟨_,Tryz.underlying5,rfl⟩,by kernel_rfl,fun _=>rfl,Gl Tryz.underlying5⟩
theorem MN(d:Nat):qG Tryz.prog (d+1) 3 false [0]:=⟨⟨_,Tryz.underlying3,rfl⟩,by kernel_rfl,fun _=>rfl,Gl Tryz.underlying3⟩
theorem MO(d:Nat):qG Tryz.prog (d+1+1) 25 true (List.replicate 16 [0]).flatten:=⟨⟨_,Tryz.underlying25,rfl⟩,by kernel_rfl,(fun h=>by cases h),Vb Tryz.underlying25 (Vc d)⟩
theorem Vd:Tryz.prog.stoodInHeld 32=false:=by kernel_rfl
theorem MP(d:Nat):qG Tryz.prog (d+1+1+1) 32 true ([0]++([0]++((List.replicate 16 [0]).flatten++[]))):=⟨⟨_,Tryz.underlying32,rfl⟩,by kernel_rfl,(fun h=>by cases h),
 MM Tryz.underlying32 Vd ⟨by decide,rfl,_,_,_,rfl,MN _,by decide,rfl,_,_,_,rfl,MN _,by decide,rfl,_,_,_,rfl,MO _,rfl⟩⟩
theorem Ve:Tryz.prog.eqGuardType Tryz.prog.depth 25=false:=by kernel_rfl
theorem Vf:Tryz.prog.eqGuardType Tryz.prog.depth 32=false:=by kernel_rfl
instance (a b:Key):vZ Tryz.prog 25 (.agg (bF a)) (.agg (bF b)) (decide (a=b)):=
 (MO 9998).eq.val rfl Ve (eJ a) (eJ b) (fun i k hk=>by
  have hi:i<16:=(List.getElem?_eq_some_iff.1 hk).1;have h0:k=0:=by
   have:k∈(List.replicate 16 [0]).flatten:=List.mem_of_getElem? hk;simpa using this
  subst h0;exact⟨_,_,jl a i hi,jl b i hi,rfl⟩) (by rw[decide_eq_true_iff];exact⟨Ja,fun h=>by rw[h]⟩)
instance (a b:cc):vZ Tryz.prog 32 (.agg (cA a)) (.agg (cA b)) (decide (a=b)):=
 (MP 9997).eq.val rfl Vf (nn a) (nn b) (fun i k hk=>by
  have h0:k=0:=by
   have:k∈([0]++([0]++((List.replicate 16 [0]).flatten++[]))):=List.mem_of_getElem? hk;simpa using this
  subst h0;have hi:i<18:=(List.getElem?_eq_some_iff.1 hk).1
  match i,hi with
  |0,_=>exact⟨_,_,uO a,uO b,rfl⟩
  |1,_=>exact⟨_,_,uP a,uP b,rfl⟩
  |j+2,hi=>rw[Nat.add_comm j 2];exact⟨_,_,(n8 a j).trans (jl _ j (by omega)),(n8 b j).trans (jl _ j (by omega)),rfl⟩) (by rw[decide_eq_true_iff];exact⟨Jd,fun h=>by rw[h]⟩)
theorem tM:bF 0#128=(List.replicate 16 (Value.int .u8 0)).toArray:=by
 apply Array.ext';simp only[bF];refine List.eq_replicate_iff.2 ⟨by simp,fun v hv=>?_⟩;simp only[List.mem_map]at hv;obtain⟨i,_,rfl⟩:=hv;simp[bg]
instance (n m:Int)(k:Key):nj Tryz.prog 32 [(0, .int .i64 n),(1, .int .i64 m),(2, .agg (bF k))] (.agg (cA ⟨n,m,k⟩)):=⟨fun w=>by kernel_rfl⟩
instance:dj Tryz.prog 25 (.agg (bF 0#128)):=⟨by rw[tM];kernel_rfl⟩
instance:dj Tryz.prog 32 (.agg (cA ⟨0,0,0#128⟩)):=⟨by unfold cA;rw[tM];kernel_rfl⟩
theorem Vg(n:Int):mC Tryz.prog 126 [.int .i64 n] (.bool (decide (n=32)||decide (n=128))):=⟨fun w=>by
 refine bS Tryz.func126 rfl Tryz.ntmps126 rfl ?_;refine aS ?_;refine bp rfl rfl rfl (fun hg=>(aZ rfl).yl) ?_;refine bp rfl rfl rfl (fun hg=>(c2 (ay hg rfl) rfl rfl).yl) ?_;refine ak ?_;refine fW (.inl rfl) (jO rfl rfl) (fun w hw=>?_);exact⟨rfl,hw.sub (List.nil_sublist _)⟩⟩
instance ahP(n:Int):mC Tryz.prog 126 [.int .i64 n] (.bool (decide (n=32)||decide (n=128))):=Vg n
theorem Vh(k:Key)(h:Nat)(hh:h<=16):over (bF 0#128) 0 ((bF k).extract 0 h)=bF (cJ k ((8*h:Nat):Int)):=by
 refine Ef (by simp[over,eJ];omega) fun i hi=>?_;have hl:((bF k).extract 0 h).size=h:=by simp[eJ];omega
 rw[yO k (8*h) i hi];simp only[over,hl,List.take_zero,List.nil_append,Nat.zero_add,List.getElem?_toArray]
 by_cases h1:i<h
 ·
  rw[List.getElem?_append_left (by simp[eJ];omega),if_pos oM];have:=jl k i hi;simpa[h1]using this
 rw[List.getElem?_append_right (by simp[eJ];omega),if_neg oM];have h2:(bF 0#128)[i]? =some (.int .u8 ((0:Nat):Int)):=by rw[jl _ i hi];simp[bg]
 simp only[Array.length_toList,hl,List.getElem?_drop,show h+(i -h)=i by omega];rw[Array.getElem?_toList,h2]
 by_cases h3:8*i<=8*h
 ·
  rw[if_pos h3,show 8 -(8*h -8*i)=8 by omega,Nat.div_eq_of_lt (iB k i),Nat.zero_mul]
 rw[if_neg h3]
theorem Vi(b r:Nat)(hb:b<256)(hr:r<=8):jK .andNot .u8 b ((255/2^r:Nat):Int)=some (.int .u8 ((b/2^(8 -r)*2^(8 -r):Nat):Int)):=by
 have hm:255/2^r<256:=Nat.lt_of_le_of_lt (Nat.div_le_self _ _) oM;rw[Pk hb hm];have key:b&&&(256 -1 -255/2^r)=b/2^(8 -r)*2^(8 -r):=by
  have e1:255/2^r=2^(8 -r) -1:=by
   match r,hr with
   |0,_|1,_|2,_|3,_|4,_|5,_|6,_|7,_|8,_=>rfl
   |n+9,h=>omega
  rw[e1];apply Nat.eq_of_testBit_eq;intro j;have e2:256 -1 -(2^(8 -r) -1)=2^8 -(2^(8 -r) -1+1):=by omega
  rw[Nat.testBit_and,e2,Nat.testBit_two_pow_sub_succ (by have:2^(8 -r)<=2^8:=Nat.pow_le_pow_right (by decide) oM;have:=Nat.two_pow_pos (8 -r);omega),Nat.testBit_two_pow_sub_one,Nat.testBit_mul_two_pow,Nat.testBit_div_two_pow]
  by_cases hj:8 -r<=j
  ·
   simp only[hj,show ¬j<8 -r by omega,decide_true,decide_false,Bool.not_false,Bool.and_true,Bool.true_and,show j -(8 -r)+(8 -r)=j by omega]
   by_cases h8:j<8
   ·
    simp[h8]
   have:b.testBit j=false:=Nat.testBit_lt_two_pow (Nat.lt_of_lt_of_le hb (by have:=Nat.pow_le_pow_right (n:=2) (by decide) (show 8<=j by omega);simpa using this));simp[this]
  simp[hj,show j<8 -r by omega]
 show some (Value.int .u8 ((b&&&(256 -1 -255/2^r):Nat):Int))=_;rw[key]
theorem Vj(k:Key)(n:Int)(h0:1<=n)(h1:n<128)(h2:0<n%8):(bF (cJ k ((8*(n/8).toNat:Nat):Int))).setIfInBounds (n/8).toNat (.int .u8 ((bg k (n/8).toNat/2^(8 -(n%8).toNat)*2^(8 -(n%8).toNat):Nat):Int))=bF (cJ k n):=by
 have hb:=iB k (n/8).toNat;rw[Qm _ _ _ oM (Nat.lt_of_le_of_lt (Nat.div_mul_le_self _ _) hb)];congr 1;refine re fun i hi=>?_;rw[Ee _ _ _ i hi (Nat.lt_of_le_of_lt (Nat.div_mul_le_self _ _) hb),yO k _ i hi];have e:cJ k n=cJ k ((n.toNat:Nat):Int):=by rw[Int.toNat_of_nonneg oM]
 rw[e,yO k n.toNat i hi]
 by_cases hj:i=(n/8).toNat
 ·
  rw[if_pos hj,if_neg oM,if_pos oM,hj,show n.toNat -8*(n/8).toNat=(n%8).toNat by omega]
 rw[if_neg hj]
 by_cases aW:i<(n/8).toNat
 ·
  rw[if_pos oM,if_pos oM]
 rw[if_neg oM,if_neg oM,if_neg oM,if_neg oM]
theorem Vk(k:Key)(n:Int)(h0:1<=n)(h2: ¬0<n%8):cJ k ((8*(n/8).toNat:Nat):Int)=cJ k n:=by
 congr 1;omega
theorem Vl(k:Key)(n:Int):mC Tryz.prog 22 [.agg (bF k), .int .i64 n] (.agg (bF (cJ k n))):=⟨fun w=>by
 refine cl Tryz.func22 rfl Tryz.ntmps22 rfl ?_;refine Gc ?_;refine bM rfl fun b2=>?_;refine bj fun b4=>?_;refine aq ?_;refine iw rfl (fun h0=>?_) (fun h0=>?_)
 ·
  have h0:=of_decide_eq_true h0;refine aq ?_;refine fW (.inl rfl) (AW rfl rfl) (fun w hw=>?_);exact⟨by rw[Jb k n oM],hw.sub (List.nil_sublist _)⟩
 have h0:=of_decide_eq_false h0;refine Gc ?_;refine bj fun b5=>?_;refine aq ?_;refine iw rfl (fun h1=>?_) (fun h1=>?_)
 ·
  have h1:=of_decide_eq_true h1;refine aq ?_;refine fW (.inl rfl) (AW rfl rfl) (fun w hw=>?_);exact⟨by rw[Bb k n oM],hw.sub (List.nil_sublist _)⟩
 have h1:=of_decide_eq_false h1;refine au ?_;refine ag (kb rfl rfl oM oM) ?_;refine Gs ?_;refine iW ?_;refine uC 4 [] oK oK ?_;simp only[List.take_succ_cons,List.take_zero];refine Gq ?_;refine bu (Im rfl rfl oM oM) ?_;refine Gq ?_;refine bu (Im rfl rfl oM oM) ?_;refine sP ?_;refine sQ ?_;simp only[List.drop_succ_cons,List.drop_zero];refine DL (vs:=(bF k).extract 0 (n/8).toNat) rfl rfl (by have e:Nat.min (n/8).toNat (n/8).toNat=(n/8).toNat:=Nat.min_self _;rw[e,Array.size_extract,eJ];omega) (fun w hw j hj=>by rw[Addr.fm,hw.cell (Has.h (b:=b2)),Nat.zero_add];simp at hj;simp[hj]) (Pq (eA.one (cs:=bF k)) _ _) (by rw[Array.size_extract,eJ,eJ];omega) (Vh k _ oM) ?_;refine au ?_;refine ag (we rfl rfl oM oM) ?_;refine aK ?_;refine iw rfl (fun h2=>?_) (fun h2=>?_)
 ·
  have h2:=of_decide_eq_true h2;refine uC 8 [] oK oK ?_;simp only[List.take_succ_cons,List.take_zero];refine au ?_;refine bu (ni rfl rfl oM oM) ?_;refine bu (v8 rfl (jl _ _ oM)) ?_;refine Gq ?_;refine bu (qZ (p:=255) rfl rfl (by decide) oM) ?_;refine bu (c2 rfl rfl (Vi _ _ (iB _ _) oM)) ?_;refine bu (ni rfl rfl oM oM) ?_;refine sP ?_;refine sQ ?_;simp only[List.drop_succ_cons,List.drop_zero];refine dw rfl rfl (by rw[eJ];omega) rfl (Vj k n oM oM h2) ?_;refine aq ?_;refine fW (.inl rfl) (AW rfl rfl) (fun w hw=>?_);exact⟨rfl,hw.sub (List.nil_sublist _)⟩
 have h2:=of_decide_eq_false h2;refine aq ?_;refine fW (.inl rfl) (AW rfl rfl) (fun w hw=>?_);exact⟨by rw[Vk k n oM h2],hw.sub (List.nil_sublist _)⟩⟩
instance ahQ(k:Key)(n:Int):mC Tryz.prog 22 [.agg (bF k), .int .i64 n] (.agg (bF (cJ k n))):=Vl k n
theorem Vm(k:Key)(n:Int):mC Tryz.prog 125 [.agg (bF k), .int .i64 n] (.int .i64 (gv k n)):=⟨fun w=>by
 refine cl Tryz.func125 rfl Tryz.ntmps125 rfl ?_;refine Gc ?_;refine bM rfl fun b2=>?_;refine aK ?_;refine bp rfl rfl rfl (fun hg=>(aZ rfl).yl) ?_;refine bp rfl rfl rfl (fun hg=>(c2 (ay hg rfl) rfl rfl).yl) ?_;refine au ?_;refine iw rfl (fun h0=>?_) (fun h0=>?_)
 ·
  simp at h0;refine ak ?_;refine fW (.inl rfl) (jO rfl rfl) (fun w hw=>?_);exact⟨by rw[Qp k n oM],hw.sub (List.nil_sublist _)⟩
 simp at h0;refine au ?_;refine ag (kb rfl rfl oM oM) ?_;refine ag (ni rfl rfl oM oM) ?_;refine ag (v8 rfl (jl _ _ oM)) ?_;refine ag (kc rfl (Nat.lt_of_lt_of_le (iB _ _) (by decide))) ?_;refine ak ?_;refine ag (we rfl rfl oM oM) ?_;refine au ?_;refine iw rfl (fun h1=>?_) (fun h1=>?_)
 ·
  simp at h1;refine au ?_;refine ag (qZ rfl rfl (Nat.lt_of_lt_of_le (iB _ _) (by decide)) oM) ?_;refine au ?_;refine fW (.inl rfl) (jO rfl rfl) (fun w hw=>?_);exact⟨by rw[Qs k n oM oM oM];rfl,hw.sub (List.nil_sublist _)⟩
 simp at h1;refine au ?_;refine ag (Ip (q:=15) rfl rfl rfl rfl (Nat.lt_of_lt_of_le (iB _ _) (by decide)) (by decide)) ?_;refine au ?_;refine fW (.inl rfl) (jO rfl rfl) (fun w hw=>?_);exact⟨by rw[Qu k n oM oM oM,←Nat.and_two_pow_sub_one_eq_mod _ 4],hw.sub (List.nil_sublist _)⟩⟩
instance ahR(k:Key)(n:Int):mC Tryz.prog 125 [.agg (bF k), .int .i64 n] (.int .i64 (gv k n)):=Vm k n
theorem Vn(p:cc):mC Tryz.prog 57 [.agg (cA p)] (.bool (cU p)):=⟨fun w=>by
 refine bS Tryz.func57 rfl Tryz.ntmps57 rfl ?_;refine Gc ?_;refine bM rfl fun b1=>?_;refine aq ?_;refine dm (wb rfl) ?_;refine au ?_;refine bp rfl rfl rfl (fun hg=>(aN (o':=1) rfl rfl).yl) ?_;refine bp rfl rfl rfl (fun hg=>(bN (ay hg rfl)).yl) ?_;refine bp rfl rfl rfl (fun hg=>(c2 (ay hg rfl) rfl rfl).yl) ?_;refine au ?_;refine bp rfl rfl rfl (fun hg=>(aN (o':=1) rfl rfl).yl) ?_;refine bp rfl rfl rfl (fun hg=>(bN (ay hg rfl)).yl) ?_;refine bp rfl rfl rfl (fun hg=>(aN (o':=0) rfl rfl).yl) ?_;refine bp rfl rfl rfl (fun hg=>(bN (ay hg rfl)).yl) ?_;refine bp rfl rfl rfl (fun hg=>(c2 (ay hg rfl) (ay hg rfl) rfl).yl) ?_;refine au ?_;refine iw rfl (fun h0=>?_) (fun h0=>?_)
 ·
  refine ak ?_;refine fW (.inl rfl) (jO rfl rfl) (fun w hw=>?_);refine⟨?_,hw.sub (List.nil_sublist _)⟩;have:cU p=false:=by unfold cU;simp at h0⊢;omega
  rw[this]
 refine Gc ?_;refine fH oK oK ?_;refine Gq ?_;refine bu (gD rfl) ?_;refine au ?_;refine nm (wb rfl) ?_;refine Gq ?_;refine bu (gD rfl) ?_;refine bu (DG rfl rfl) ?_;refine au ?_;refine fW (.inl rfl) (jO rfl rfl) (fun w hw=>?_);refine⟨?_,hw.sub (List.nil_sublist _)⟩;congr 2;unfold cU;simp at h0⊢;obtain⟨⟨h1,h2⟩,h3⟩:=h0;simp[h2,h3,show p.bits=32\/p.bits=128 by omega]⟩
instance ahS(p:cc):mC Tryz.prog 57 [.agg (cA p)] (.bool (cU p)):=Vn p
open Go.RowKit
def pH(k:Key):List Int:=(List.range 16).map fun i=>(bg k i:Int)
theorem MQ(k:Key)(j:Nat)(x:Int)(h:(pH k)[j]? =some x):j<16/\x=bg k j:=by
 have hl:j<16:=by have:=(List.getElem?_eq_some_iff.1 h).1;simpa[pH]using this
 refine⟨hl,?_⟩;simp[pH,hl]at h;exact h.symm
theorem Vo{x y:UInt8}{xs ys:List UInt8}:Lib.compareBytes (x::xs) (y::ys)=if x.toNat<y.toNat then -1 else if y.toNat<x.toNat then 1 else Lib.compareBytes xs ys:=by
 simp[Lib.compareBytes,UInt8.lt_iff_toNat_lt]
theorem MR(a b:Key): ∀(n i:Nat),i+n=16->(∀j,j<i->bg a j=bg b j)->
  Lib.compareBytes ((List.range' i n).map fun j=>(bg a j).toUInt8) ((List.range' i n).map fun j=>(bg b j).toUInt8)=n9 a b
 |0,i,hi,hs=>by
  have:a=b:=re fun j hj=>hs j (by omega);subst this;simp[Lib.compareBytes,n9]
 |n+1,i,hi,hs=>by
  have ha:=iB a i;have hb:=iB b i;rw[List.range'_succ,List.map_cons,List.map_cons,Vo];have ea:(bg a i).toUInt8.toNat=bg a i:=by simp;omega
  have eb:(bg b i).toUInt8.toNat=bg b i:=by simp;omega
  rw[ea,eb]
  by_cases h1:bg a i<bg b i
  ·
   rw[if_pos h1];have:=Jf (by omega) hs h1;unfold n9;rw[if_pos this]
  ·
   rw[if_neg h1]
   by_cases h2:bg b i<bg a i
   ·
    rw[if_pos h2];have:=Jf (by omega) (fun j hj=>(hs j hj).symm) h2;unfold n9;rw[if_neg (by omega),if_pos this]
   ·
    rw[if_neg h2];exact MR a b n (i+1) (by omega) fun j hj=>by
     by_cases e:j=i
     ·
      subst e;omega
     ·
      exact hs j (by omega)
theorem MS(k:Key):(⟨ByteArray.empty.data++(Lib.bytesOf (pH k)).toArray⟩:ByteArray).data.toList=(List.range' 0 16).map fun j=>(bg k j).toUInt8:=by
 simp[Lib.bytesOf,pH,List.range_eq_range']
theorem Vp(a b:Key)(p q:Addr)(c c':Nat)(w:World)(hp: ∀j,j<16->w.cell? (p.add j)=some (.int .u8 (bg a j)))(hq: ∀j,j<16->w.cell? (q.add j)=some (.int .u8 (bg b j))):
  Calls Tryz.prog 66 [.slice (some p) 16 c, .slice (some q) 16 c'].toArray w fun e w'=>e= .returned (.int .i64 (n9 a b))/\Mem w [] w':=by
 refine uE (args:=[_,_]) Tryz.func66 rfl Tryz.ntmps66 rfl ?_;change Cw _ _ _ _ _ [(0, .slice (some p) 16 c),(1, .slice (some q) 16 c')] [];refine AQ ?_;refine AR ?_;refine ag (fL rfl) ?_;refine AO ?_;refine AU ?_;refine AQ ?_;refine AR ?_;refine ag (aZ rfl) ?_;refine ag (aZ rfl) ?_;refine ag (v:= .int .i64 (n9 a b)) ?_ ?_
 ·
  intro aa w1 ha hw;have mO: ∀j,j<16->w1.cell? (p.add j)=some (.int .u8 (bg a j)):=fun j hj=>by
   rw[←hp j hj];exact hw.below.cell (block_lt_of_cell (hp j hj))
  have Vq: ∀j,j<16->w1.cell? (q.add j)=some (.int .u8 (bg b j)):=fun j hj=>by
   rw[←hq j hj];exact hw.below.cell (block_lt_of_cell (hq j hj))
  have r1:=Lib.run_loadBytesX (P:=Tryz.prog) w1 (pH a) p .empty (fun j x hx=>by obtain⟨h1,rfl⟩:=MQ a j x hx;exact mO j h1);have r2:=Lib.run_loadBytesX (P:=Tryz.prog) w1 (pH b) q .empty (fun j x hx=>by obtain⟨h1,rfl⟩:=MQ b j x hx;exact Vq j h1);have l1:(pH a).length=16:=by simp[pH]
  have l2:(pH b).length=16:=by simp[pH]
  rw[l1]at r1;rw[l2]at r2;have e5:=ha.ev (x:= .tmp 5) (v:= .slice (some p) 16 c) rfl;have e6:=ha.ev (x:= .tmp 6) (v:= .slice (some q) 16 c') rfl;have eU:(callFunc 136 #[.slice (some p) 16 c, .slice (some q) 16 c']).run Tryz.prog w1= .ok (.value (.int .i64 (n9 a b))) w1:=by
   rw[run_callFunc_extern Tryz.func136 (by kernel_rfl) (by kernel_rfl) (by kernel_rfl) (e:=Extern.BytealgCompare.compare) (by kernel_rfl)];have:(Extern.BytealgCompare.compare #[.slice (some p) 16 c, .slice (some q) 16 c']).run Tryz.prog w1= .ok (.int .i64 (n9 a b)) w1:=by
    change Sem.run Tryz.prog (do pure (goInt (Extern.BytealgCompare.cmp (←Extern.Bytes.bytesOf (.slice (some p) 16 c)) (←Extern.Bytes.bytesOf (.slice (some q) 16 c'))))) w1=_;simp only[Extern.Bytes.bytesOf,Sem.run_bind,r1,r2,Sem.run_pure,Result.andThen];rw[Lib.cmp_eq,MS,MS,MR a b 16 0 rfl (fun j h=>by omega)];rfl
   rw[this];rfl
  simp[execOp,resolve,Act.eval,Deferred.ofValue,invoke]at e5 e6⊢;rw[e5,e6,eU]
 refine ag (fL rfl) ?_;refine AO ?_;refine AU ?_;refine DN ?_;refine fW (.inl rfl) (jO rfl rfl) (fun w hw=>?_);exact⟨rfl,hw.sub (List.nil_sublist _)⟩
theorem MT{w0 w:World}{L:List ah}{b:Nat}{p:cc}{T:TypeId}{i:Nat}(hw:Mem w0 L w)[hh:Has L b (cA p) T i](j:Nat)(hj:j<16):w.cell? ((⟨b,2,none⟩:Addr).add j)=some (.int .u8 (bg p.key j)):=by
 rw[Addr.fm,hw.cell hh.h,n8,jl _ j hj]
theorem Gu{p q:cc}(h1:cU p=true)(h2:cU q=true):oX p q=(if p.bits≠q.bits then decide (p.bits=32)else if p.key≠q.key then decide (p.key.toNat<q.key.toNat)else decide (p.len<q.len)):=by
 unfold oX;rw[h1,h2];rfl
theorem Vr(p q:cc):mC Tryz.prog 58 [.agg (cA p), .agg (cA q)] (.bool (oX p q)):=⟨fun w=>by
 refine cl Tryz.func58 rfl Tryz.ntmps58 rfl ?_;refine Gc ?_;refine bM rfl fun b2=>?_;refine bM rfl fun b3=>?_;refine ak ?_;refine dm (wb rfl) ?_;refine au ?_;refine bp rfl rfl rfl (fun hg=>(iv rfl).yl) ?_;refine bp rfl rfl rfl (fun hg=>wb (di (ay hg rfl) fF)) ?_;refine bp rfl rfl rfl (fun hg=>(jJ (ay hg rfl)).yl) ?_;refine au ?_;refine iw rfl (fun h0=>?_) (fun h0=>?_)
 ·
  simp at h0;refine ak ?_;refine fW (.inl rfl) (jO rfl rfl) (fun w hw=>?_);refine⟨?_,hw.sub (List.nil_sublist _)⟩;have:oX p q=false:=by unfold oX;cases h1:cU p<;>cases h2:cU q<;>simp_all
  rw[this]
 simp at h0;obtain⟨m1,m2⟩:=h0;refine cw ?_;refine iw rfl (fun h1=>?_) (fun h1=>?_)
 ·
  simp at h1;refine aS ?_;refine fW (.inl rfl) (jO rfl rfl) (fun w hw=>?_);exact⟨by rw[Gu m1 m2,if_pos h1],hw.sub (List.nil_sublist _)⟩
 simp at h1;refine Gc ?_;refine fH oK oK ?_;refine Gq ?_;refine bu (uA rfl) ?_;refine Gq ?_;refine bu (uA rfl) ?_;refine nm (AL rfl (fun w hw=>Vp p.key q.key _ _ _ _ w (MT hw) (MT hw))) ?_;refine aK ?_;refine iw rfl (fun h2=>?_) (fun h2=>?_)
 ·
  simp at h2;refine aK ?_;refine fW (.inl rfl) (jO rfl rfl) (fun w hw=>?_);exact⟨by rw[Gu m1 m2,if_neg (by simpa using h1),if_pos (fun e=>h2 ((Jh _ _).2 e)),decide_eq_decide.2 (Qw _ _)],hw.sub (List.nil_sublist _)⟩
 simp at h2;refine dr ?_;refine fW (.inl rfl) (jO rfl rfl) (fun w hw=>?_);exact⟨by rw[Gu m1 m2,if_neg (by simpa using h1),if_neg (by simpa using(Jh _ _).1 h2)],hw.sub (List.nil_sublist _)⟩⟩
instance ahT(p q:cc):mC Tryz.prog 58 [.agg (cA p), .agg (cA q)] (.bool (oX p q)):=Vr p q
instance ahU:dH Tryz.prog 22 34 19 40:=⟨Tryz.underlying22,by kernel_rfl⟩
instance ahV:dH Tryz.prog 23 133 2 32:=⟨Tryz.underlying23,by kernel_rfl⟩
instance ahW:dH Tryz.prog 45 47 20 48:=⟨Tryz.underlying45,by kernel_rfl⟩
instance ahX:dj Tryz.prog 53 (.slice none 0 0):=⟨by kernel_rfl⟩
instance ahY:dH Tryz.prog 53 5 1 1:=⟨Tryz.underlying53,by kernel_rfl⟩
instance ahZ:dH Tryz.prog 56 180 4 48:=⟨Tryz.underlying56,by kernel_rfl⟩
instance ah0:dH Tryz.prog 57 97 4 16:=⟨Tryz.underlying57,by kernel_rfl⟩
instance ah1:dH Tryz.prog 60 3 1 8:=⟨Tryz.underlying60,by kernel_rfl⟩
instance ah2:dH Tryz.prog 122 225 48 384:=⟨Tryz.underlying122,by kernel_rfl⟩
instance ah3:dH Tryz.prog 131 142 2 16:=⟨Tryz.underlying131,by kernel_rfl⟩
instance ah4:dH Tryz.prog 178 53 1 24:=⟨Tryz.underlying178,by kernel_rfl⟩
instance ah5:dH Tryz.prog 191 269 2 32:=⟨Tryz.underlying191,by kernel_rfl⟩
instance ah6:dH Tryz.prog 366 60 1 24:=⟨Tryz.underlying366,by kernel_rfl⟩
instance ah7:dH Tryz.prog 396 178 1 24:=⟨Tryz.underlying396,by kernel_rfl⟩
instance ah8:dH Tryz.prog 399 402 4 32:=⟨Tryz.underlying399,by kernel_rfl⟩
instance ah9:dH Tryz.prog 443 433 1 8:=⟨Tryz.underlying443,by kernel_rfl⟩
instance:bc av 19:=⟨jm,fun r=>by
 have h:(cA r.p).all (·.oneCell')=true:=(inferInstance:eA (cA r.p) 18).one;rw[av,Array.all_append,h];simp[Value.oneCell']⟩
instance:Deep Rt:=Deep.flat av 19
instance:dY Rt av 19:=⟨rfl,fun _=>rfl⟩
instance (r:Rt):eA (av r) 19:=⟨jm r,bc.one r⟩
instance (r:Rt):kS (av r) 0 18 (cA r.p):=⟨nn _,fun j hj=>by rw[Nat.zero_add];exact mF r j hj⟩
instance (r:Rt):bL (av r) 18 (.int .u16 r.aY.toNat):=⟨wF r⟩
instance (r:Rt):bL (av r) 0 (.int .i64 r.p.bits):=⟨(mF r 0 (by decide)).trans (uO r.p)⟩
instance (r:Rt):bL (av r) 1 (.int .i64 r.p.len):=⟨(mF r 1 (by decide)).trans (uP r.p)⟩
instance (r:Rt):kS (av r) 2 16 (bF r.p.key):=⟨eJ _,fun j hj=>(mF r (2+j) (by omega)).trans (n8 r.p j)⟩
theorem Vs(d:Nat):qG Tryz.prog (d+1) 27 false [0]:=⟨⟨_,Tryz.underlying27,rfl⟩,by kernel_rfl,fun _=>rfl,Gl Tryz.underlying27⟩
theorem Vt:Tryz.prog.stoodInHeld 34=false:=by kernel_rfl
theorem Vu(d:Nat):qG Tryz.prog (d+1+1+1+1) 34 true (([0]++([0]++((List.replicate 16 [0]).flatten++[])))++([0]++[])):=⟨⟨_,Tryz.underlying34,rfl⟩,by kernel_rfl,(fun h=>by cases h),
 MM Tryz.underlying34 Vt ⟨by decide,rfl,_,_,_,rfl,MP _,by decide,rfl,_,_,_,rfl,Vs _,rfl⟩⟩
theorem Vv:Tryz.prog.eqGuardType Tryz.prog.depth 34=false:=by kernel_rfl
instance (a b:Rt):vZ Tryz.prog 34 (.agg (av a)) (.agg (av b)) (decide (a=b)):=
 (Vu 9996).eq.val rfl Vv (jm a) (jm b) (fun i k hk=>by
  have h0:k=0:=by
   have:k∈(([0]++([0]++((List.replicate 16 [0]).flatten++[])))++([0]++[])):=List.mem_of_getElem? hk;simpa using this
  subst h0;have hi:i<19:=(List.getElem?_eq_some_iff.1 hk).1
  match i,hi with
  |0,_=>exact⟨_,_,(inferInstance:bL (av a) 0 _).h,(inferInstance:bL (av b) 0 _).h,rfl⟩
  |1,_=>exact⟨_,_,(inferInstance:bL (av a) 1 _).h,(inferInstance:bL (av b) 1 _).h,rfl⟩
  |j+2,hi=>
   rcases Nat.lt_or_ge j 16 with h|h
   ·
    rw[Nat.add_comm j 2];exact⟨_,_,(mF a _ (by omega)).trans ((n8 a.p j).trans (jl _ j h)),(mF b _ (by omega)).trans ((n8 b.p j).trans (jl _ j h)),rfl⟩
   obtain rfl:j=16:=by omega
   exact⟨_,_,wF a,wF b,rfl⟩) (by rw[decide_eq_true_iff];exact⟨QD,fun h=>by rw[h]⟩)
instance:nj Tryz.prog 34 [] (.agg (av fu)):=⟨fun w=>by unfold av cA fu;rw[tM];kernel_rfl⟩
instance (p:cc)(h:UInt16):nj Tryz.prog 34 [(0, .agg (cA p)),(1, .int .u16 h.toNat)] (.agg (av ⟨p,h⟩)):=⟨fun w=>by kernel_rfl⟩
instance:dj Tryz.prog 34 (.agg (av fu)):=⟨by unfold av cA fu;rw[tM];kernel_rfl⟩
end Go.Proofs.YtkggjjnhnjjokaaGreatDoor
namespace Go.Kb
open Go.aA
instance:Plain Rt:=⟨fun _=>rfl⟩
instance:eK Rt:=eK.flat fun _ _=>trivial
structure cB where
 aB:bG
 table:Sl Rt
def cM(x:cB):Array Value:= #[.int .i64 x.aB.aj.ae, .int .i64 x.aB.aj.size,x.aB.aj.blocks.sv.val, .int .i64 x.aB.aj.ops, .bool x.aB.aj.off,x.aB.aj.bb.sv.val,x.aB.at_.sv.val, .int .u64 x.aB.gen.toNat, .int .i64 x.aB.last,x.table.sv.val]
instance:bc cM 10:=⟨fun _=>rfl,fun x=>by
 simp only[cM,List.all_toArray,List.all_cons,List.all_nil,Sv.one,rD,rE,Bool.and_self]⟩
instance (x:cB):eA (cM x) 10:=⟨rfl,bc.one x⟩
instance (x:cB):bL (cM x) 1 (.int .i64 x.aB.aj.size):=⟨rfl⟩
instance (x:cB):bL (cM x) 6 (x.aB.at_.sv.val):=⟨rfl⟩
instance (x:cB):bL (cM x) 7 (.int .u64 x.aB.gen.toNat):=⟨rfl⟩
instance (x:cB):bL (cM x) 8 (.int .i64 x.aB.last):=⟨rfl⟩
instance (x:cB):bL (cM x) 9 (x.table.sv.val):=⟨rfl⟩
instance (x:cB):kS (cM x) 0 9 (bH x.aB):=⟨rfl,fun j hj=>by
 match j,hj with
 |0,_=>rfl
 |1,_=>rfl
 |2,_=>rfl
 |3,_=>rfl
 |4,_=>rfl
 |5,_=>rfl
 |6,_=>rfl
 |7,_=>rfl
 |8,_=>rfl⟩
instance (x:cB):kS (cM x) 0 6 (aE x.aB.aj):=⟨rfl,fun j hj=>by
 match j,hj with
 |0,_=>rfl
 |1,_=>rfl
 |2,_=>rfl
 |3,_=>rfl
 |4,_=>rfl
 |5,_=>rfl⟩
instance:Deep cB where
 c:=10
 cells:=cM
 size:=bc.size
 one:=bc.one
 aU h x:=Deep.aU h x.aB/\Deep.aU h x.table
 bE x:= .two (Deep.bE x.aB) (Deep.bE x.table)
 gu h x hs:=⟨Deep.gu h x.aB hs.1,Deep.gu h x.table hs.2.1⟩
 mono w w' x hg hb:=⟨Deep.mono w w' x.aB hg.1 hb,Deep.mono w w' x.table hg.2 hb⟩
instance:eK cB where
 reach x k:=eK.reach x.aB k\/eK.reach x.table k
 congr h h' x e hg:=⟨eK.congr h h' x.aB (fun k hk=>e k (.inl hk)) hg.1,eK.congr h h' x.table (fun k hk=>e k (.inr hk)) hg.2⟩
variable {w0:World}{L:List ah}
instance{x:cB}[q:aO w0 L x]:aO w0 L x.aB:=⟨fun w hw=>(q.h w hw).1⟩
instance{x:cB}[q:aO w0 L x]:aO w0 L x.table:=⟨fun w hw=>(q.h w hw).2⟩
instance{aB:bG}{table:Sl Rt}[q0:aO w0 L aB][q1:aO w0 L table]:aO w0 L (cB.mk aB table):=⟨fun w hw=>⟨q0.h w hw,q1.h w hw⟩⟩
def lA:cB:=⟨jV,⟨Sv.none,[]⟩⟩
structure FV where
 aB:VV
 table:List Rt
 deriving DecidableEq
def bU(f:cB):FV:=⟨vv f.aB,f.table.xs⟩
def ow:FV:=⟨kE,[]⟩
def xC(b p s:Int):Int:=min (tI b p/2) (kf s)
def CC(b p s:Int):Int:=lv (xC b p s) (eL s)
def fS(c:CV):Int:=xC c.blocks.length c.ae c.size
def ox(c:CV):Int:=CC c.blocks.length c.ae c.size
def jy(c:CV)(y:Int):List UInt8:=if y -1<0 then[]else kg c y
def nL(v:VV):List (List UInt8):=v.at_.map (jy v.aj)
def df(c:CV):FV×Int:=
 if ox c=0 then(ow,1)
 else if(bq c).2≠0 then(ow,(bq c).2)
 else if((bq c).1.at_.length:Int)≠fS c then(ow,2)
 else if mU (nL (bq c).1)≠0 then(ow,2)
 else(⟨(bq c).1,ly (nL (bq c).1)⟩,0)
def jf(c:CV):List (List UInt8):=if(df c).2=0 then nL (bq c).1 else[]
theorem MU{c:CV}(h:ox c=0):df c=(ow,1)/\jf c=[]:=by
 have e:df c=(ow,1):=by rw[df,if_pos h]
 exact⟨e,by rw[jf,e];rfl⟩
theorem MW{c:CV}(h: ¬ox c=0)(h1:(bq c).2≠0):df c=(ow,(bq c).2)/\jf c=[]:=by
 have e:df c=(ow,(bq c).2):=by rw[df,if_neg h,if_pos h1]
 exact⟨e,by rw[jf,e,if_neg h1]⟩
theorem MX{c:CV}(h: ¬ox c=0)(h1:(bq c).2=0)(h2:((bq c).1.at_.length:Int)≠fS c):df c=(ow,2)/\jf c=[]:=by
 have e:df c=(ow,2):=by rw[df,if_neg h,if_neg (fun g=>g h1),if_pos h2]
 exact⟨e,by rw[jf,e];rfl⟩
theorem MY{c:CV}(h: ¬ox c=0)(h1:(bq c).2=0)(h2:((bq c).1.at_.length:Int)=fS c)(h3:mU (nL (bq c).1)≠0):df c=(ow,2)/\jf c=[]:=by
 have e:df c=(ow,2):=by rw[df,if_neg h,if_neg (fun g=>g h1),if_neg (fun g=>g h2),if_pos h3]
 exact⟨e,by rw[jf,e];rfl⟩
theorem Vw{c:CV}(h: ¬ox c=0)(h1:(bq c).2=0)(h2:((bq c).1.at_.length:Int)=fS c)(h3:mU (nL (bq c).1)=0):df c=(⟨(bq c).1,ly (nL (bq c).1)⟩,0)/\jf c=nL (bq c).1:=by
 have e:df c=(⟨(bq c).1,ly (nL (bq c).1)⟩,0):=by rw[df,if_neg h,if_neg (fun g=>g h1),if_neg (fun g=>g h2),if_neg (fun g=>g h3)]
 exact⟨e,by rw[jf,e,if_pos rfl]⟩
theorem Vx{c:CV}(h:(df c).2=0): ¬ox c=0/\(bq c).2=0/\((bq c).1.at_.length:Int)=fS c/\mU (nL (bq c).1)=0:=by
 by_cases h0:ox c=0
 ·
  rw[(MU h0).1]at h;cases h
 by_cases h1:(bq c).2=0
 ·
  by_cases h2:((bq c).1.at_.length:Int)=fS c
  ·
   by_cases h3:mU (nL (bq c).1)=0
   ·
    exact⟨h0,h1,h2,h3⟩
   rw[(MY h0 h1 h2 h3).1]at h;cases h
  rw[(MX h0 h1 h2).1]at h;cases h
 rw[(MW h0 h1).1]at h;exact absurd h h1
def jz(f:FV):Bool:=decide ((df {f.aB.aj with off:=false}).2=0)&&decide (f.aB.gen=(df {f.aB.aj with off:=false}).1.aB.gen)&&decide (f.aB.last=(df {f.aB.aj with off:=false}).1.aB.last)&&decide (f.aB.at_=(df {f.aB.aj with off:=false}).1.aB.at_)&&decide (f.table=(df {f.aB.aj with off:=false}).1.table)
theorem Vy{f:FV}:jz f=true↔(df {f.aB.aj with off:=false}).2=0/\f.aB.gen=(df {f.aB.aj with off:=false}).1.aB.gen/\f.aB.last=(df {f.aB.aj with off:=false}).1.aB.last/\f.aB.at_=(df {f.aB.aj with off:=false}).1.aB.at_/\f.table=(df {f.aB.aj with off:=false}).1.table:=by
 simp only[jz,Bool.and_eq_true,decide_eq_true_eq,and_assoc]
def jA(f:FV)(l:List Ch):FV×Int:=
 if jz f=false then(f,1)
 else if j6 f.table l≠0 then(f,j6 f.table l)
 else if jd (eG f.table l) (fS f.aB.aj) (eL f.aB.aj.size)≠0 then(f,jd (eG f.table l) (fS f.aB.aj) (eL f.aB.aj.size))
 else if jx (jf {f.aB.aj with off:=false}) (jZ (eG f.table l) (fS f.aB.aj) (eL f.aB.aj.size))=[]then(⟨f.aB,eG f.table l⟩,0)
 else(⟨(fR f.aB (jx (jf {f.aB.aj with off:=false}) (jZ (eG f.table l) (fS f.aB.aj) (eL f.aB.aj.size)))).1,if(fR f.aB (jx (jf {f.aB.aj with off:=false}) (jZ (eG f.table l) (fS f.aB.aj) (eL f.aB.aj.size)))).2≠0 then f.table else eG f.table l⟩,(fR f.aB (jx (jf {f.aB.aj with off:=false}) (jZ (eG f.table l) (fS f.aB.aj) (eL f.aB.aj.size)))).2)
def pI(c:CV):FV×Int:=if ox c=0 then(⟨⟨c,[],0,0⟩,[]⟩,1)else(⟨(kJ c (fS c)).1,[]⟩,(kJ c (fS c)).2)
theorem zD{w0 w:World}{L:List ah}{a:Sl Rt}(h:Mem w0 (own av 19 a.sv a.xs::L) w):Mem w0 (fz a::L) w:=BU (fun _ _ h=>h) (fun _ _=>trivial) h
theorem CD{w0 w:World}{L:List ah}{f:cB}(h:Mem w0 (fz f.aB.aj::fz f.aB.at_::fz f.table::L) w):Mem w0 (fz f::L) w:=by
 refine Mem.freeze (es:=[fz f.aB.aj,fz f.aB.at_,fz f.table]) f ⟨⟨h.sat (fz f.aB.aj) (by simp),h.sat (fz f.aB.at_) (by simp)⟩,h.sat (fz f.table) (by simp)⟩ (fun k hk=>?_) h;rcases hk with(hk|hk)|hk
 ·
  exact⟨fz f.aB.aj,by simp,hk⟩
 ·
  exact⟨fz f.aB.at_,by simp,hk⟩
 exact⟨fz f.table,by simp,hk⟩
theorem MZ{w0 w:World}{L:List ah}{f:cB}(h:Mem w0 (fz f.aB.aj::own bl 1 f.aB.at_.sv f.aB.at_.xs::own av 19 f.table.sv f.table.xs::L) w):Mem w0 (fz f::L) w:=by
 have h1:=vb (a:=f.aB.at_) (h.perm (List.Perm.swap _ _ _));have h2:=zD (a:=f.table) (h1.perm ((List.Perm.cons _ (List.Perm.swap _ _ _)).trans (List.Perm.swap _ _ _)));exact CD (h2.perm ((List.Perm.cons _ (List.Perm.swap _ _ _)).trans ((List.Perm.swap _ _ _).trans (List.Perm.cons _ (List.Perm.swap _ _ _)))))
theorem CE{w0 w:World}{L:List ah}(h:Mem w0 L w):Mem w0 (fz lA::L) w:=
 Mem.freeze (es:=[]) lA ⟨⟨⟨uN,uN⟩,uN⟩,uN⟩ (fun k hk=>by
  rcases hk with(((⟨ct,_⟩|⟨x,hx,_⟩)|⟨ct,_⟩|⟨x,hx,_⟩)|⟨ct,_⟩|⟨x,hx,_⟩)|⟨ct,_⟩|⟨x,hx,_⟩
  all_goals first|exact absurd rfl ct|cases hx) h
theorem xD{w0 w:World}{L:List ah}:Mem w0 L w->Mem w0 (fz (⟨Sv.none,[]⟩:Sl (Sl UInt8))::L) w:=
 Mem.freeze (es:=[]) _ uN (fun k hk=>by
  rcases hk with⟨ct,_⟩|⟨x,hx,_⟩
  ·
   exact absurd rfl ct
  cases hx)
theorem M0(s:Int):0<=kf s/\kf s<=64:=by
 rw[kf,eL];split
 ·
  rename_i h;have:=zo.1 h;omega
 omega
theorem M1(c:CV):fS c<=64:=by
 have:=M0 c.size;rw[fS,xC];omega
theorem Vz(b p:Int):0<=tI b p/\tI b p<=448:=by
 rw[tI];split
 ·
  omega
 rename_i h;have h1:0<=b -4/\b -4<=28:=by omega
 have h2:1<=p/\p<=16:=by omega
 exact⟨Int.mul_nonneg h1.1 (by omega),Int.le_trans (Int.mul_le_mul h1.2 h2.2 (by omega) (by omega)) (by decide)⟩
theorem VA{c:CV}(h:(bq c).2=0):(bq c).1.aj=c:=by
 obtain⟨_,_,e⟩:=FD h;rw[e]
theorem VB{c:CV}(h:(bq c).2=0):c.off=false:=by
 cases ho:c.off with
 |false=>rfl
 |true=>rw[bq,if_neg (by rw[FC h];simp),if_pos ho]at h;cases h
theorem VC{c:CV}(h:(bq c).2=0):nz (bq c).1=true:=by
 have e:{(bq c).1.aj with off:=false}=c:=by rw[VA h,←VB h]
 simp only[nz,e,h,decide_true,Bool.and_self]
theorem VD(c:CV)(n:Int):(kg c n).length<=65536:=by
 rw[kg];split
 ·
  exact Fw _
 simp
theorem VE(v:VV):(nL v).length=v.at_.length:=by rw[nL,List.length_map]
theorem VF(c:CV)(n:Int):(jy c n).length<=65536:=by
 rw[jy];split
 ·
  simp
 exact VD c n
theorem VG(c:CV):(jf c).length<=64:=by
 rw[jf];split
 ·
  rename_i h;obtain⟨g0,g1,g2,g3⟩:=Vx h;have:=M1 c;rw[VE];omega
 simp
def lB(f:FV):List (List UInt8):=jf {f.aB.aj with off:=false}
def xE(f:FV)(l:List Ch):Int:=jd (eG f.table l) (fS f.aB.aj) (eL f.aB.aj.size)
def kM(f:FV)(l:List Ch):List (List UInt8):=jZ (eG f.table l) (fS f.aB.aj) (eL f.aB.aj.size)
theorem VH{f:FV}{l:List Ch}(h0:jz f=false):jA f l=(f,1):=by rw[jA,if_pos h0]
theorem CF(f:FV)(l:List Ch):jA f l=(if jz f=false then(f,1)
 else if j6 f.table l≠0 then(f,j6 f.table l)
 else if xE f l≠0 then(f,xE f l)
 else if jx (lB f) (kM f l)=[]then(⟨f.aB,eG f.table l⟩,0)
 else(⟨(fR f.aB (jx (lB f) (kM f l))).1,if(fR f.aB (jx (lB f) (kM f l))).2≠0 then f.table else eG f.table l⟩,(fR f.aB (jx (lB f) (kM f l))).2)):=rfl
theorem VI{f:FV}{l:List Ch}(h0:jz f=true)(h1:j6 f.table l≠0):jA f l=(f,j6 f.table l):=by
 rw[CF,if_neg (by rw[h0];simp),if_pos h1]
theorem VJ{f:FV}{l:List Ch}(h0:jz f=true)(h1:j6 f.table l=0)(h2:xE f l≠0):jA f l=(f,xE f l):=by
 rw[CF,if_neg (by rw[h0];simp),if_neg (fun h=>h h1),if_pos h2]
theorem VK{f:FV}{l:List Ch}(h0:jz f=true)(h1:j6 f.table l=0)(h2:xE f l=0)(h3:jx (lB f) (kM f l)=[]):jA f l=(⟨f.aB,eG f.table l⟩,0):=by
 rw[CF,if_neg (by rw[h0];simp),if_neg (fun h=>h h1),if_neg (fun h=>h h2),if_pos h3]
theorem VL{f:FV}{l:List Ch}(h0:jz f=true)(h1:j6 f.table l=0)(h2:xE f l=0)(h3: ¬jx (lB f) (kM f l)=[]):jA f l=(⟨(fR f.aB (jx (lB f) (kM f l))).1,if(fR f.aB (jx (lB f) (kM f l))).2≠0 then f.table else eG f.table l⟩,(fR f.aB (jx (lB f) (kM f l))).2):=by
 rw[CF,if_neg (by rw[h0];simp),if_neg (fun h=>h h1),if_neg (fun h=>h h2),if_neg h3]
def M3(f:FV):Bool:=aX f.aB.aj&&decide (f.aB.at_.length<=1000000)&&decide (f.table.length<=1000000)
end Go.Kb

/- Part of a proof. -/
import Derived.Test.YtkggjjnhnjjokaaGreatDoorE1
import Derived.ProofKit
import Derived.Deep.Slices
import Derived.HandedShaped
import Derived.Handed
import Derived.Lay
import Derived.MakeChecks
import Derived.Stop.Joined
import Derived.LaidLaws
import Derived.Test.YtkggjjnhnjjokaaGreatDoorE4
import Derived.Test.YtkggjjnhnjjokaaGreatDoorE2
import Derived.Test.YtkggjjnhnjjokaaGreatDoorE5
set_option maxRecDepth 20000
set_option linter.unusedSimpArgs false
set_option linter.unusedVariables false
namespace Go.ax
open Go.ChangeShapes Go.WideShapes Go.ChangeAt Go.RowKit Go.Kb
variable {H:Type} {enc:TypeId×Value->H} {P:Program}
theorem VO(hl:laidOutB P=true){W W':World}{sp:Nat->Bool}: ∀{ts:List TypeId} {vs:List Value} {ds:List (DataW H)} {ps:List MemPlace},
  (∀t∈ts,P.readableRec t=true/\t<P.types.size)->DataW.TrodAll enc P W 0 (fun _=>true) true ts vs ds ps->(∀p∈ps,W.sameAt W' p)->(∀p∈ps,sp p.block=true)->
  DataW.TrodAll enc P W' 0 sp true ts vs ds ps
 |[],_,_,_,_,h,_,_=>by
  obtain⟨rfl,rfl,rfl⟩:=trodAll_nil h;exact rfl
 |t::_,_,_,_,ht,h,hs,hp=>by
  obtain⟨v,VP,d,VQ,a,b,rfl,rfl,rfl,h1,h2⟩:=trodAll_cons h;exact⟨a,b,WideElems.Trod_stays hl (ht t (by simp)).1 (ht t (by simp)).2 h1 (fun p h=>hs p (by simp[h])) (fun p h=>hp p (by simp[h])),
   VO hl (fun t h=>ht t (by simp[h])) h2 (fun p h=>hs p (by simp[h])) (fun p h=>hp p (by simp[h])),rfl⟩
theorem MX{W:World}{b:Nat}{sp:Nat->Bool}{hd:Bool}: ∀{ts:List TypeId} {vs:List Value} {ds:List (DataW H)} {ps:List MemPlace},
  DataW.TrodAll enc P W b sp hd ts vs ds ps->vs.length=ts.length/\ds.length=ts.length
 |[],_,_,_,h=>by
  obtain⟨rfl,rfl,rfl⟩:=trodAll_nil h;exact⟨rfl,rfl⟩
 |_::_,_,_,_,h=>by
  obtain⟨v,VP,d,VQ,a,b,rfl,rfl,rfl,h1,h2⟩:=trodAll_cons h;have:=MX h2;simp[this.1,this.2]
theorem ahy(hl:laidOutB P=true){f:Func}{s:ChangeSpec}{apart fresh handsOn:Bool}{W W':World}{args:Array Value}{ds gs:List (DataW H)}{before:List MemPlace}{tb:TypeId}
  (hp:f.params.toList.all (fun t=>P.readableRec t&&decide (t<P.types.size))=true) (hr:f.resultTypes= #[tb]) (hb:P.underlying tb=some .bool) (hv:s.vars=[])
  (DK: ∀ds:List (DataW H),ds.length=f.params.size->s.fn H ds={results:=[.lit (.bool true)],args:=ds})
  (hW:DataW.Whole enc P f.params.toList s.vars apart W args.toList ds gs before) (VR:Below W.heap.size W W'):
  s.post enc P f apart fresh handsOn false W args (.bool true) W':=by
 have bb:=hW.lt;have hW0:=hW;obtain⟨p,q,hA,hV,rfl,mR,cy⟩:=hW;rw[hv]at hV;obtain⟨rfl,rfl⟩:=trodVars_none hV;have hlen:=MX hA;have e1:s.fn H (ds++[])={results:=[.lit (.bool true)],args:=ds}:=by rw[arL];exact DK ds (by rw[hlen.2];simp)
 have mz: ∀t∈f.params.toList,P.readableRec t=true/\t<P.types.size:=fun t ht=>by
  simpa using aq8.1 hp t ht
 refine⟨ds,[],p++[],[],p,[],hW0,?_,?_,?_,VR.frame _,fun h=>by cases h⟩
 ·
  rw[e1,hr];exact trodAll_mk1 (shut_bool hb true)
 ·
  rw[e1];exact VO hl mz hA (fun x hx=>VR.same (bb x (by simp[hx]))) (fun x hx=>by simpa using bb x (by simp[hx]))
 ·
  rw[e1,hv];exact rfl
theorem ahz{w:World}{b:Nat}{e:TypeId}{v:Value}(he:P.underlying e=some (.int .u8))(h:Cell.okWide P w .any b e v): ∃n:Nat,n<256/\v= .int .u8 n:=by
 cases v with
 |int k n=>
  simp only[Cell.okWide,he,Cell.ok,IntKind.has]at h;obtain⟨rfl,h1,h2⟩:=h;have a1:(0:Int)<=n:=h1;have a2:n<=(255:Int):=h2;exact⟨n.toNat,by omega,by rw[arY a1]⟩
 |_=>simp[Cell.okWide,he,Cell.ok]at h
theorem ahA{w:World}{b:Nat}{t:TypeId}{v:Value}(he:P.underlying t=some (.int .u8))(h:Value.okWide P w .any b t v): ∃n:Nat,n<256/\v= .int .u8 n:=by
 unfold Value.okWide at h;rw[he]at h;exact ahz he h
theorem VS{α:Type}{l:List α}(h:l.length=4): ∃a b c d,l=[a,b,c,d]:=match l,h with|[a,b,c,d],_=>⟨a,b,c,d,rfl⟩
theorem MY{w:World}{b:Nat}{t:TypeId}{v:Value}(he:P.underlying t=some (.int .u8))(h:Value.okWide P w .any b t v): ∃n:UInt8,v= .int .u8 n.toNat:=by
 obtain⟨n,hn,rfl⟩:=ahA he h;exact⟨UInt8.ofNat n,by simp;omega⟩
variable {P:Program}
theorem MZ{α:Type}{p:Nat->α->Prop}: ∀{n:Nat},(∀i,i<n-> ∃x,p i x)-> ∃l:List α,l.length=n/\ ∀i x,l[i]? =some x->p i x
 |0,_=>⟨[],rfl,fun i x h=>by simp at h⟩
 |n+1,h=>by
  obtain⟨l,hl,hp⟩:=MZ (n:=n) fun i hi=>h i (by omega);obtain⟨x,hx⟩:=h n (by omega);refine⟨l++[x],by simp[hl],fun i y hy=>?_⟩
  by_cases hi:i<n
  ·
   rw[aq4 (by omega)]at hy;exact hp i y hy
  have:i=n:=by
   have:=(ad2.1 hy).1;rw[af0,hl]at this;simp at this;omega
  subst this;rw[aq3 (by omega),hl]at hy;have:x=y:=by simpa using hy
  exact this▸hx
class kW(P:Program)(t:TypeId)(τ:Type)[Deep τ]:Prop where
 sz:P.cellsOf t=Deep.c τ
 h: ∀{H:Type} {enc:TypeId×Value->H} {w:World} {fuel:Nat} {cs:List Value} {d:DataW H} {ps:List MemPlace},DataW.trod enc P w 0 (fun _=>true) true fuel t cs=some (d,ps)->(∀n∈d.weights P t,n<=reachBytes)->
  ∃x:τ,(Deep.cells x).toList=cs/\Deep.cF (hp w) x
theorem ahB{w:World}{b:Nat}{a:Addr}{n:Nat}{cs:List Value}(h:w.cells? b a n=some cs):cs.length=n/\ ∀j,j<n->w.cell? (a.add j)=cs[j]? :=by
 unfold World.cells? at h;split at h
 ·
  have hl:=mapM_some_length h;refine⟨by simpa using hl,fun j hj=>?_⟩;exact mapM_some_get h j j (by simp[hj])
 cases h
theorem M0{H:Type}{e:TypeId}{n:Nat}: ∀{l:List (DataW H)} {d:DataW H},d∈l->n∈d.weights P e->n∈DataW.weightsAll P e l
 |x::l,d,hd,hn=>by
  rw[DataW.weightsAll];rcases aqW.1 hd with rfl|hd
  ·
   exact aro _ hn
  exact asg _ (M0 hd hn)
theorem M1{H:Type}{n:Nat}: ∀{ts:List TypeId} {l:List (DataW H)} {i:Nat} {t:TypeId} {d:DataW H},ts[i]? =some t->l[i]? =some d->n∈d.weights P t->n∈DataW.weightsEach P ts l
 |[],_,i,_,_,h,_,_=>by simp at h
 |_::_,[],i,_,_,_,h,_=>by simp at h
 |t0::ts,d0::l,0,t,d,ht,hd,hn=>by
  obtain rfl:t0=t:=by simpa using ht
  obtain rfl:d0=d:=by simpa using hd
  rw[DataW.weightsEach];exact aro _ hn
 |t0::ts,d0::l,i+1,t,d,ht,hd,hn=>by
  rw[DataW.weightsEach];exact asg _ (M1 (i:=i) (by simpa using ht) (by simpa using hd) hn)
theorem ahC:reachBytes<=140737488355328:=by decide
theorem zB{t e:TypeId}{τ:Type}[Deep τ](hu:P.underlying t=some (.slice e))(cU:Nat.ble 1 (P.bytesOf e)=true)(hc:1<=Deep.c τ)(hs:P.cellsOf t=1)[o:kW P e τ]:kW P t (Sl τ):=⟨hs,fun{H enc w fuel cs d ps} h hw=>by
 have hb:1<=P.bytesOf e:=Nat.le_of_ble_eq_true cU;rcases Go.Deep.open_slice hu h with⟨rfl,_⟩|⟨a,len,cap,m,n,D,Pl,rfl,_,hl,_,hm,hx,EN⟩
 ·
  exact⟨⟨Sv.none,[]⟩,rfl,vU⟩
 simp only[if_true]at hm;subst hm;have hd:d= .slice ((List.range len).map D) ((List.range (m -len)).map fun j=>D (len+j)):=congrArg Prod.fst hx;subst hd;simp only[DataW.weights,hu,arA,atQ]at hw;have uw:m<=140737488355328:=by
  have h1:=hw _ (aqU ..);have h2:(len+(m -len))*1<=(len+(m -len))*P.bytesOf e:=Nat.mul_le_mul_left _ hb;have:=ahC;omega
 have EI: ∀i,i<m-> ∃cs',(cs'.length=Deep.c τ/\ ∀j,j<Deep.c τ->w.cell? ((a.add (i*Deep.c τ)).add j)=cs'[j]?)/\DataW.trod enc P w 0 (fun _=>true) true n e cs'=some (D i,Pl i):=fun i hi=>by
  obtain⟨cs',h1,h2⟩:=EN i hi;rw[o.sz]at h1;exact⟨cs',ahB h1,h2⟩
 have VT:0<m->a.spot=none:=fun hm=>by
  obtain⟨cs',⟨h1,h2⟩,_⟩:=EI 0 hm;have h3:=h2 0 (by omega);have e0:(a.add (0*Deep.c τ)).add 0=a:=by simp[Addr.add]
  rw[e0,aqR (by omega)]at h3;unfold World.cell? at h3;split at h3
  ·
   split at h3
   ·
    cases h3
   rename_i hs;simpa using hs
  cases h3
 obtain⟨l,oE,HH⟩:=MZ (p:=fun i (x:τ)=>(∀j,j<Deep.c τ->w.cell? ((a.add (i*Deep.c τ)).add j)=(Deep.cells x)[j]?)/\Deep.cF (hp w) x) (n:=len) fun i hi=>by
  obtain⟨cs',⟨h1,h2⟩,h3⟩:=EI i (by omega);obtain⟨x,oO,gz⟩:=o.h h3 (fun k hk=>hw k (aq2 _ (aro _ (M0 (ar0.2 ⟨i,arw.2 hi,rfl⟩) hk))));refine⟨x,fun j hj=>?_,gz⟩;rw[h2 j hj,←oO];simp
 refine⟨⟨⟨false,a.block,a.off,len,m,a.spot⟩,l⟩,rfl,⟨⟨(fun h=>by cases h),hl,by simp only;omega,VT⟩,by simp[oE],fun i x hi j hj=>?_⟩,fun x hx=>?_⟩
 ·
  have dD:i<len:=by rw[←oE];exact(ad2.1 hi).1
  have h1:=(HH i x hi).1 j hj;have hs:=VT (by omega);have ea:(a.add (i*Deep.c τ)).add j=⟨a.block,a.off+i*Deep.c τ+j,none⟩:=by
   obtain⟨ab,ao,asp⟩:=a;simp only at hs;subst hs;rw[Addr.gN,Addr.gN]
  rw[ea,rI]at h1;exact h1
 obtain⟨i,hi⟩:=arc hx;exact(HH i x hi).2⟩
theorem yX{H:Type}{enc:TypeId×Value->H}{w:World}{fuel:Nat}{t:TypeId}{cs:List Value}{d:DataW H}{ps:List MemPlace}{fs:Array Field}(hu:P.underlying t=some (.struct fs))(h:DataW.trod enc P w 0 (fun _=>true) true fuel t cs=some (d,ps))(hw: ∀n∈d.weights P t,n<=reachBytes)
  {i tf off:Nat} (nt:(fs[i]?).map (fun f=>(f.type,f.offset))=some (tf,off)) (τ:Type) [Deep τ] [o:kW P tf τ]:cs.length=P.cellsOf t/\ ∃x:τ,(Deep.cells x).toList=(cs.drop off).take (Deep.c τ)/\Deep.cF (hp w) x:=by
 obtain⟨f,hf,e⟩:=asI.1 nt;obtain⟨rfl,rfl⟩:=Prod.mk.inj e;obtain⟨xs,n,_,hx,hl,hlen,hg⟩:=DataW.trod_struct hu h;have h1:=hg i f hf;have hi:i<xs.length:=by rw[hlen];exact(asB.1 hf).1
 rw[aqR hi,o.sz]at h1;have hd:d= .agg (xs.map (·.1)):=congrArg Prod.fst hx;subst hd;obtain⟨x,oO,gz⟩:=o.h (d:=xs[i].1) (ps:=xs[i].2) h1 (fun k hk=>hw k (by
  simp only[DataW.weights,hu];exact M1 (i:=i) (t:=f.type) (d:=xs[i].1) (by
   have:fs.toList[i]? =some f:=by simpa using hf
   rw[aq1,this];rfl) (by simp[hi]) hk))
 exact⟨hl,x,oO,gz⟩
theorem ahD{H:Type}{enc:TypeId×Value->H}{w:World}{fuel:Nat}{t e:TypeId}{m:Nat}{cs:List Value}{d:DataW H}{ps:List MemPlace}(hu:P.underlying t=some (.array m e))(h:DataW.trod enc P w 0 (fun _=>true) true fuel t cs=some (d,ps))(hw: ∀n∈d.weights P t,n<=reachBytes)
  (τ:Type) [Deep τ] [o:kW P e τ]:cs.length=P.cellsOf t/\ ∀i,i<m-> ∃x:τ,(Deep.cells x).toList=(cs.drop (i*Deep.c τ)).take (Deep.c τ)/\Deep.cF (hp w) x:=by
 cases fuel with
 |zero=>simp[DataW.trod]at h
 |succ n=>
  unfold DataW.trod at h;rw[hu]at h;split at h<;>simp_all
  rename_i m' e' heq;obtain⟨hl,xs,fv,hd⟩:=h;obtain⟨rfl,rfl⟩:=heq;intro i hi;have hlen:=mapM_some_length fv;have pn:i<xs.length:=by simpa[hlen]using hi
  have h1:=mapM_some_get fv i i (by simp[hi]);rw[aqR pn,o.sz]at h1;obtain⟨rfl,-⟩:=hd;exact o.h (d:=xs[i].1) (ps:=xs[i].2) h1 (fun k hk=>hw k (by
   simp only[DataW.weights,hu];exact M0 (ard (asG pn)) hk))
theorem M3{α:Type}{cs:List α}{a b:Nat}(h:cs.length=a+b):(cs.drop 0).take a++(cs.drop a).take b=cs:=by
 rw[ase,aq5 (l:=cs.drop a) (by rw[aq9];omega),arC]
theorem ahE{α:Type}{cs:List α}{a b c:Nat}(h:cs.length=a+b+c):(cs.drop 0).take a++(cs.drop a).take b++(cs.drop (a+b)).take c=cs:=by
 have h1:=M3 (cs:=cs) (a:=a+b) (b:=c) (by omega)
 conv=>rhs;rw[←h1]
 congr 1;rw[ase,List.take_add]
def M4(n:Int):Array Value:= #[.int .i64 n]
instance:bm M4 1:=⟨fun _=>rfl,fun _=>by simp[M4,Value.oneCell']⟩
instance:Deep Int:=Deep.flat M4 1
def DL(n:UInt16):Array Value:= #[.int .u16 n.toNat]
instance:bm DL 1:=⟨fun _=>rfl,fun _=>by simp[DL,Value.oneCell']⟩
instance:Deep UInt16:=Deep.flat DL 1
def HI(b:Bool):Array Value:= #[.bool b]
instance:bm HI 1:=⟨fun _=>rfl,fun _=>by simp[HI,Value.oneCell']⟩
instance:Deep Bool:=Deep.flat HI 1
theorem ahF{t:TypeId}(hu:P.underlying t=some (.int .i64))(hs:P.cellsOf t=1):kW P t Int:=⟨hs,fun h _=>by
 obtain⟨n,rfl,_,_⟩:=DataW.trod_int hu h;exact⟨n,rfl,trivial⟩⟩
theorem ahG{t:TypeId}(hu:P.underlying t=some (.int .u8))(hs:P.cellsOf t=1):kW P t UInt8:=⟨hs,fun h _=>by
 obtain⟨n,rfl,_,hw⟩:=DataW.trod_int hu h;simp only[Lit.wf,alM,decide_eq_true_eq]at hw;have h1:(0:Int)<=n:=hw.1;have h2:n<=(255:Int):=hw.2;refine⟨UInt8.ofNat n.toNat,?_,trivial⟩;have:((UInt8.ofNat n.toNat).toNat:Int)=n:=by simp;omega
 show(aN (UInt8.ofNat n.toNat)).toList=_;simp only[aN,this]⟩
theorem ahH{t:TypeId}(hu:P.underlying t=some (.int .u16))(hs:P.cellsOf t=1):kW P t UInt16:=⟨hs,fun h _=>by
 obtain⟨n,rfl,_,hw⟩:=DataW.trod_int hu h;simp only[Lit.wf,alM,decide_eq_true_eq]at hw;have h1:(0:Int)<=n:=hw.1;have h2:n<=(65535:Int):=hw.2;refine⟨UInt16.ofNat n.toNat,?_,trivial⟩;have:((UInt16.ofNat n.toNat).toNat:Int)=n:=by simp;omega
 show(DL (UInt16.ofNat n.toNat)).toList=_;simp only[DL,this]⟩
theorem open_bool{t:TypeId}(hu:P.underlying t=some .bool)(hs:P.cellsOf t=1):kW P t Bool:=⟨hs,fun h _=>by
 obtain⟨n,rfl,_⟩:=DataW.trod_bool hu h;exact⟨n,rfl,trivial⟩⟩
theorem ahI{H:Type}{enc:TypeId×Value->H}{w:World}{b:Nat}{t e:TypeId}{τ:Type}[Deep τ][o:kW P t (Sl τ)](hu:P.underlying t=some (.slice e)){v:Value}{d:DataW H}{ps:List MemPlace}(hv:Value.okWide P w .any b t v)(h:DataW.Trod enc P w 0 (fun _=>true) true t v d ps)(hw: ∀n∈d.weights P t,n<=reachBytes):
  ∃x:Sl τ,v=x.sv.val/\Deep.cF (hp w) x:=by
 obtain⟨fuel,h⟩:=h;obtain⟨x,h1,h2⟩:=o.h h hw;refine⟨x,?_,h2⟩;have hc:v.cells= #[v]:=by
  unfold Value.okWide at hv;rw[hu]at hv;unfold Cell.okWide at hv;rw[hu]at hv
  cases v<;>simp_all[Cell.ok,Value.cells]
 rw[hc]at h1;have:[x.sv.val]=[v]:=h1;simpa using this.symm
theorem ahJ{H:Type}{enc:TypeId×Value->H}{w:World}{b:Nat}{t:TypeId}{τ:Type}[Deep τ][o:kW P t τ](hu: ∃d,P.underlying t=some d/\vJ d=true){v:Value}{d:DataW H}{ps:List MemPlace}(hv:Value.okWide P w .any b t v)(h:DataW.Trod enc P w 0 (fun _=>true) true t v d ps)(hw: ∀n∈d.weights P t,n<=reachBytes):
  ∃x:τ,v= .agg (Deep.cells x)/\Deep.cF (hp w) x:=by
 obtain⟨fuel,h⟩:=h;obtain⟨x,h1,h2⟩:=o.h h hw;refine⟨x,?_,h2⟩;obtain⟨dd,w8,J5⟩:=hu;have hc: ∃cs,v= .agg cs:=by
  unfold Value.okWide at hv;rw[w8]at hv
  cases dd<;>simp[vJ]at J5
  ·
   obtain⟨cs,rfl,_⟩:=hv;exact⟨cs,rfl⟩
  ·
   obtain⟨cs,rfl,_⟩:=hv;exact⟨cs,rfl⟩
 obtain⟨cs,rfl⟩:=hc;have:(Deep.cells x).toList=cs.toList:=h1;rw[Array.toList_inj.1 this]
structure Arg(H:Type)(enc:TypeId×Value->H)(P:Program)(W:World)(b:Nat)(t:TypeId)(v:Value):Prop where
 ok:Value.okWide P W .any b t v
 trod: ∃d ps,DataW.Trod enc P W 0 (fun _=>true) true t v d ps/\ ∀n∈d.weights P t,n<=reachBytes
theorem Arg.sl{H:Type}{enc:TypeId×Value->H}{W:World}{b:Nat}{t e:TypeId}{v:Value}(h:Arg H enc P W b t v)(hu:P.underlying t=some (.slice e))(τ:Type)[Deep τ][o:kW P t (Sl τ)]: ∃x:Sl τ,v=x.sv.val/\Deep.cF (hp W) x:=by
 obtain⟨d,ps,h1,h2⟩:=h.trod;exact ahI hu h.ok h1 h2
theorem Arg.agg{H:Type}{enc:TypeId×Value->H}{W:World}{b:Nat}{t:TypeId}{v:Value}(h:Arg H enc P W b t v){n:Nat}(hu:fE P t n)(τ:Type)[Deep τ][o:kW P t τ]: ∃x:τ,v= .agg (Deep.cells x)/\Deep.cF (hp W) x:=by
 obtain⟨d,ps,h1,h2⟩:=h.trod;exact ahJ hu.row h.ok h1 h2
theorem VU{H:Type}{enc:TypeId×Value->H}{W:World}{sp:Nat->Bool}{hd:Bool}: ∀{ts:List TypeId} {vs:List Value} {ds:List (DataW H)} {ps:List MemPlace},DataW.TrodAll enc P W 0 sp hd ts vs ds ps-> ∀(j:Nat) (t:TypeId) (v:Value),ts[j]? =some t->vs[j]? =some v->
  ∃d p,ds[j]? =some d/\DataW.Trod enc P W 0 sp hd t v d p
 |[],_,_,_,h,j,_,_,ht,_=>by simp at ht
 |t0::ts,vs,ds,ps,h,j,t,v,ht,hv=>by
  obtain⟨v0,VP,d0,VQ,a,b,rfl,rfl,rfl,h1,h2⟩:=trodAll_cons h
  cases j with
  |zero=>
   obtain rfl:t0=t:=by simpa using ht
   obtain rfl:v0=v:=by simpa using hv
   exact⟨d0,a,rfl,h1⟩
  |succ j=>exact VU h2 j t v (by simpa using ht) (by simpa using hv)
variable {P:Program}
theorem ahK{H:Type}{enc:TypeId×Value->H}{C:Checked}{os:Os}{f:FuncId}{fn:Func}{s:ChangeSpec}{conds:List PathCond}{apart fresh handsOn:Bool}{tb:TypeId}{laid:List (String×DataW Unit)}
  (own:ownKnob C.prog.godebug=none) (started:os.Started) (ahL:C.prog.inits.idxOf? f=none) (ahM:C.prog.funcs[f]? =some fn)
  (wit: ∃(w:World) (tape:Tape) (i:Input),w.os=os/\(w.forCall tape i).Shaped C.prog/\i.vars=[]/\Input.okWide C.prog (w.forCall tape i) .any w.heap.size f i/\
   ((s.pre enc C.prog fn conds apart (w.forCall tape i).memory i.args/\laidMetH C.prog laid (w.forCall tape i).memory)/\sizedMet enc C.prog fn (OpenSpec.ofChange s) apart (w.forCall tape i).memory i.args)/\({}:Assume).holds C.prog (lone (Frame.enter C.prog f i.args .normal) [] (w.forCall tape i)))
  (hl:laidOutB C.prog=true) (hp:fn.params.toList.all (fun t=>C.prog.readableRec t&&decide (t<C.prog.types.size))=true) (hr:fn.resultTypes= #[tb]) (hb:C.prog.underlying tb=some .bool)
  (hv:s.vars=[]) (DK: ∀ds:List (DataW H),ds.length=fn.params.size->s.fn H ds={results:=[.lit (.bool true)],args:=ds})
  (ahN: ∀(W:World) (base:Nat) (vs:List Value),W.ShapedOpen C.prog->laidMetH C.prog laid W->vs.length=fn.params.size->(∀(j:Nat) t v,fn.params[j]? =some t->vs[j]? =some v->Arg H enc C.prog W base t v)->
   Calls C.prog f vs.toArray W fun e W'=>e= .returned (.bool true)/\Mem W [] W'):
  ReturnsInHanded {} C os f .any (fun w args=>(s.pre enc C.prog fn conds apart w args/\laidMetH C.prog laid w)/\sizedMet enc C.prog fn (OpenSpec.ofChange s) apart w args) (s.post enc C.prog fn apart fresh handsOn false):=by
 refine returnsInHanded_of_calls own started ahL wit ?_;intro w tape i _ hsh _ bF aG aqH;obtain⟨_,_,_,VW,ahO,_,_,_,_,ahP⟩:=bF;have e:VW=fn:=aqP (ahO.symm.trans ahM);subst e;obtain⟨⟨⟨ds,gs,before,hw,hc⟩,hx⟩,hz⟩:=aG;have hW:=DataW.Whole.of_heap (w':=w.forCall tape i) (by rfl) hw;have qM:=hz.weights hw;have hlen:i.args.toList.length=VW.params.size:=by
  obtain⟨p,q,hA,_⟩:=hW;rw[(MX hA).1];simp
 have h:=ahN (w.forCall tape i) w.heap.size i.args.toList hsh (laidMetH.of_heap (by rfl) hx) hlen (fun j t v h1 h2=>⟨ahP j t v h1 (by simpa using h2),by
  obtain⟨p,q,hA,_⟩:=hW;obtain⟨d,pp,hd,ht⟩:=VU hA j t v (by simpa using h1) h2;refine⟨d,pp,ht,fun n hn=>?_⟩;have hh:=aq8.1 qM n (M1 (i:=j) (t:=t) (d:=d) (by rw[aq4 (by have:=(asB.1 h1).1;simpa using this)];simpa using h1)
   (by rw[aq4 (ad2.1 hd).1];exact hd) hn)
  simpa using hh⟩)
 rw[Array.toArray_toList]at h;refine h.mono fun e W' hh=>?_;obtain⟨he,hm⟩:=hh;subst he;exact ChangeSpec.post_blind (ahy hl hp hr hb hv DK hW hm.below)
end Go.ax
namespace Go.Proofs.YtkggjjnhnjjokaaGreatDoor
open Go.ax Go.Kb
instance op3:kW Tryz.prog 3 Int:=ahF Tryz.underlying3 (by kernel_rfl)
instance op4:kW Tryz.prog 4 Bool:=open_bool Tryz.underlying4 (by kernel_rfl)
instance op5:kW Tryz.prog 5 UInt8:=ahG Tryz.underlying5 (by kernel_rfl)
instance aqI:kW Tryz.prog 27 UInt16:=ahH Tryz.underlying27 (by kernel_rfl)
instance:bm bN 16:=⟨fR,fun k=>(inferInstance:fP (bN k) 16).one⟩
instance:Deep Key:=Deep.flat bN 16
instance:bm db 18:=⟨qd,fun k=>(inferInstance:fP (db k) 18).one⟩
instance:Deep bo:=Deep.flat db 18
instance aqJ:kW Tryz.prog 25 Key:=⟨by kernel_rfl,fun h hw=>by
 obtain⟨hl,he⟩:=ahD Tryz.underlying25 h hw UInt8;rw[show Tryz.prog.cellsOf 25=16 from by kernel_rfl]at hl;obtain⟨l,oE,HH⟩:=MZ (p:=fun i (x:UInt8)=>_) he;refine⟨nw fun i=>(l.getD i 0).toNat,?_,trivial⟩;refine arS fun i=>?_;rw[Array.getElem?_toList];rcases aqX i 16 with hi|hi
 ·
  have hx:l[i]? =some (l.getD i 0):=pt (by omega);have h1:=congrArg (·[0]?) (HH i _ hx).1;simp only[as1,asa]at h1;rw[if_pos (by decide),show i*Deep.c UInt8+0=i from ass i]at h1;have h3:some (Value.int .u8 (l.getD i 0).toNat)=_:=h1;have e8:(l.getD i 0).toNat%2^8=(l.getD i 0).toNat:=arF (l.getD i 0).toNat_lt;show(bN _)[i]? =_;rw[jQ _ _ hi,te _ _ hi,e8,←h3]
 show(bN _)[i]? =_;rw[N9 _ _ hi,aqV (by omega)]⟩
instance aqK:kW Tryz.prog 32 bo:=⟨by kernel_rfl,fun h hw=>by
 obtain⟨hl,x0,h0,-⟩:=yX Tryz.underlying32 h hw (i:=0) (tf:=3) (off:=0) rfl Int;obtain⟨-,x1,h1,-⟩:=yX Tryz.underlying32 h hw (i:=1) (tf:=3) (off:=1) rfl Int;obtain⟨-,x2,h2,-⟩:=yX Tryz.underlying32 h hw (i:=2) (tf:=25) (off:=2) rfl Key;refine⟨⟨x0,x1,x2⟩,?_,trivial⟩;refine Eq.trans ?_ (ahE (a:=1) (b:=1) (c:=16) (hl.trans (by kernel_rfl)));rw[show(Deep.cells (⟨x0,x1,x2⟩:bo)).toList=(Deep.cells x0).toList++(Deep.cells x1).toList++(Deep.cells x2).toList from by show(db _).toList=_;unfold db;rw[Array.toList_append];rfl,h0,h1,h2];rfl⟩
instance aqL:kW Tryz.prog 34 Rt:=⟨by kernel_rfl,fun h hw=>by
 obtain⟨hl,x0,h0,-⟩:=yX Tryz.underlying34 h hw (i:=0) (tf:=32) (off:=0) rfl bo;obtain⟨-,x1,h1,-⟩:=yX Tryz.underlying34 h hw (i:=1) (tf:=27) (off:=18) rfl UInt16;refine⟨⟨x0,x1⟩,?_,trivial⟩;refine Eq.trans ?_ (M3 (a:=18) (b:=1) (hl.trans (by kernel_rfl)));rw[show(Deep.cells (⟨x0,x1⟩:Rt)).toList=(Deep.cells x0).toList++(Deep.cells x1).toList from by show(aA _).toList=_;unfold aA;rw[Array.toList_append];rfl,h0,h1];rfl⟩
end Go.Proofs.YtkggjjnhnjjokaaGreatDoor
namespace Go.ax
open Go.RowKit Go.Kb
structure Arr(τ:Type)(m:Nat) where
 l:List τ
 h:l.length=m
instance Deep.arr{τ:Type}{m:Nat}[d:Deep τ]:Deep (Arr τ m) where
 c:=m*Deep.c τ
 cells a:=(aJ (Deep.cells (τ:=τ)) a.l).toArray
 size a:=by rw[arO,gQ (c:=Deep.c τ),a.h]
 one a:=by rw[arx];intro v hv;exact uv (enc:=Deep.cells (τ:=τ)) (c:=Deep.c τ) a.l v (by simpa using hv)
 cF h a:= ∀x∈a.l,d.cF h x
 cc a:= .all (a.l.map d.cc)
 jg h _ hs:=fun x hx=>d.jg h x (aj.zA hs _ (ard hx))
 mono w w' _ hg hb:=fun x hx=>d.mono w w' x (hg x hx) hb
end Go.ax
namespace Go.Proofs.YtkggjjnhnjjokaaGreatDoor
open Go.ax Go.Kb
instance (priority:=high) aqM:Deep Bool:=Deep.flat HI 1
instance aqN:kW Tryz.prog 47 Ch:=⟨by kernel_rfl,fun h hw=>by
 obtain⟨hl,x0,h0,-⟩:=yX Tryz.underlying47 h hw (i:=0) (tf:=34) (off:=0) rfl Rt;obtain⟨-,x1,h1,-⟩:=yX Tryz.underlying47 h hw (i:=1) (tf:=4) (off:=19) rfl Bool;refine⟨⟨x0,x1⟩,?_,trivial⟩;refine Eq.trans ?_ (M3 (a:=19) (b:=1) (hl.trans (by kernel_rfl)));rw[show(Deep.cells (⟨x0,x1⟩:Ch)).toList=(Deep.cells x0).toList++(Deep.cells x1).toList from by show(ia _).toList=_;unfold ia;rw[Array.toList_append];rfl,h0,h1];rfl⟩
instance aqO:kW Tryz.prog 45 (Sl Ch):=zB Tryz.underlying45 (by kernel_rfl) (by decide) (by kernel_rfl)
end Go.Proofs.YtkggjjnhnjjokaaGreatDoor

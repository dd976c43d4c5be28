/- Part of a proof. -/
import Derived.Test.YtkggjjnhnjjokaaGreatDoorC1
import Derived.ProofKit
import Derived.Deep.Slices
import Derived.HandedShaped
import Derived.Handed
import Derived.Lay
import Derived.MakeChecks
import Derived.Stop.Joined
import Derived.LaidLaws
import Derived.Test.YtkggjjnhnjjokaaGreatDoorC3
import Derived.Test.YtkggjjnhnjjokaaGreatDoorC2
import Derived.Test.YtkggjjnhnjjokaaGreatDoorC6
set_option maxRecDepth 20000
set_option linter.unusedSimpArgs false
set_option linter.unusedVariables false
namespace Go.aA
open Go.ChangeShapes Go.WideShapes Go.ChangeAt Go.RowKit Go.Kb
variable {H:Type} {enc:TypeId×Value->H} {P:Program}
theorem OM(hl:laidOutB P=true){W W':World}{sp:Nat->Bool}: ∀{ts:List TypeId} {vs:List Value} {ds:List (DataW H)} {ps:List MemPlace},
  (∀t∈ts,P.readableRec t=true/\t<P.types.size)->DataW.TrodAll enc P W 0 (fun _=>true) true ts vs ds ps->(∀p∈ps,W.sameAt W' p)->(∀p∈ps,sp p.block=true)->
  DataW.TrodAll enc P W' 0 sp true ts vs ds ps
 |[],_,_,_,_,h,_,_=>by
  obtain⟨rfl,rfl,rfl⟩:=trodAll_nil h;exact rfl
 |t::_,_,_,_,ht,h,hs,hp=>by
  obtain⟨v,ON,d,OO,a,b,rfl,rfl,rfl,h1,h2⟩:=trodAll_cons h;exact⟨a,b,WideElems.Trod_stays hl (ht t (by simp)).1 (ht t (by simp)).2 h1 (fun p h=>hs p (by simp[h])) (fun p h=>hp p (by simp[h])),
   OM hl (fun t h=>ht t (by simp[h])) h2 (fun p h=>hs p (by simp[h])) (fun p h=>hp p (by simp[h])),rfl⟩
theorem HW{W:World}{b:Nat}{sp:Nat->Bool}{hd:Bool}: ∀{ts:List TypeId} {vs:List Value} {ds:List (DataW H)} {ps:List MemPlace},
  DataW.TrodAll enc P W b sp hd ts vs ds ps->vs.length=ts.length/\ds.length=ts.length
 |[],_,_,_,h=>by
  obtain⟨rfl,rfl,rfl⟩:=trodAll_nil h;exact⟨rfl,rfl⟩
 |_::_,_,_,_,h=>by
  obtain⟨v,ON,d,OO,a,b,rfl,rfl,rfl,h1,h2⟩:=trodAll_cons h;have:=HW h2;simp[this.1,this.2]
theorem acf(hl:laidOutB P=true){f:Func}{s:ChangeSpec}{apart fresh handsOn:Bool}{W W':World}{args:Array Value}{ds gs:List (DataW H)}{before:List MemPlace}{tb:TypeId}
  (hp:f.params.toList.all (fun t=>P.readableRec t&&decide (t<P.types.size))=true) (hr:f.resultTypes= #[tb]) (hb:P.underlying tb=some .bool) (hv:s.vars=[])
  (Ap: ∀ds:List (DataW H),ds.length=f.params.size->s.fn H ds={results:=[.lit (.bool true)],args:=ds})
  (hW:DataW.Whole enc P f.params.toList s.vars apart W args.toList ds gs before) (OP:Below W.heap.size W W'):
  s.post enc P f apart fresh handsOn false W args (.bool true) W':=by
 have aW:=hW.lt;have hW0:=hW;obtain⟨p,q,hA,hV,rfl,kv,bX⟩:=hW;rw[hv]at hV;obtain⟨rfl,rfl⟩:=trodVars_none hV;have hlen:=HW hA;have e1:s.fn H (ds++[])={results:=[.lit (.bool true)],args:=ds}:=by rw[List.append_nil];exact Ap ds (by rw[hlen.2];simp)
 have ki: ∀t∈f.params.toList,P.readableRec t=true/\t<P.types.size:=fun t ht=>by
  simpa using List.all_eq_true.1 hp t ht
 refine⟨ds,[],p++[],[],p,[],hW0,?_,?_,?_,OP.frame _,fun h=>by cases h⟩
 ·
  rw[e1,hr];exact trodAll_mk1 (shut_bool hb true)
 ·
  rw[e1];exact OM hl ki hA (fun x hx=>OP.same (aW x (by simp[hx]))) (fun x hx=>by simpa using aW x (by simp[hx]))
 ·
  rw[e1,hv];exact rfl
theorem acg{w:World}{b:Nat}{e:TypeId}{v:Value}(he:P.underlying e=some (.int .i64))(h:Cell.okWide P w .any b e v): ∃n:Int,v= .int .i64 n/\ -2^63<=n/\n<2^63:=by
 cases v with
 |int k n=>
  simp only[Cell.okWide,he,Cell.ok,IntKind.has]at h;obtain⟨rfl,h1,h2⟩:=h;have a1:(-2^63:Int)<=n:=h1;have a2:n<=(2^63 -1:Int):=h2;exact⟨n,rfl,a1,by omega⟩
 |_=>simp[Cell.okWide,he,Cell.ok]at h
theorem ach{w:World}{b:Nat}{t:TypeId}{v:Value}(he:P.underlying t=some (.int .i64))(h:Value.okWide P w .any b t v): ∃n:Int,v= .int .i64 n/\ -2^63<=n/\n<2^63:=by
 unfold Value.okWide at h;rw[he]at h;exact acg he h
theorem OQ{α:Type}{l:List α}(h:l.length=6): ∃a b c d e f,l=[a,b,c,d,e,f]:=match l,h with|[a,b,c,d,e,f],_=>⟨a,b,c,d,e,f,rfl⟩
theorem aci{w:World}{b:Nat}{t:TypeId}{v:Value}(he:P.underlying t=some (.int .u16))(h:Value.okWide P w .any b t v): ∃n:UInt16,v= .int .u16 n.toNat:=by
 unfold Value.okWide at h;rw[he]at h
 cases v with
 |int k n=>
  simp only[Cell.okWide,he,Cell.ok,IntKind.has]at h;obtain⟨rfl,h1,h2⟩:=h;have a1:(0:Int)<=n:=h1;have a2:n<=(65535:Int):=h2;exact⟨UInt16.ofNat n.toNat,by simp;omega⟩
 |_=>simp[Cell.okWide,he,Cell.ok]at h
theorem acj{w:World}{b:Nat}{t:TypeId}{v:Value}(he:P.underlying t=some (.int .u32))(h:Value.okWide P w .any b t v): ∃n:UInt32,v= .int .u32 n.toNat:=by
 unfold Value.okWide at h;rw[he]at h
 cases v with
 |int k n=>
  simp only[Cell.okWide,he,Cell.ok,IntKind.has]at h;obtain⟨rfl,h1,h2⟩:=h;have a1:(0:Int)<=n:=h1;have a2:n<=(4294967295:Int):=h2;exact⟨UInt32.ofNat n.toNat,by simp;omega⟩
 |_=>simp[Cell.okWide,he,Cell.ok]at h
variable {P:Program}
theorem HX{α:Type}{p:Nat->α->Prop}: ∀{n:Nat},(∀i,i<n-> ∃x,p i x)-> ∃l:List α,l.length=n/\ ∀i x,l[i]? =some x->p i x
 |0,_=>⟨[],rfl,fun i x h=>by simp at h⟩
 |n+1,h=>by
  obtain⟨l,hl,hp⟩:=HX (n:=n) fun i hi=>h i (by omega);obtain⟨x,hx⟩:=h n (by omega);refine⟨l++[x],by simp[hl],fun i y hy=>?_⟩
  by_cases hi:i<n
  ·
   rw[List.getElem?_append_left (by omega)]at hy;exact hp i y hy
  have:i=n:=by
   have:=(List.getElem?_eq_some_iff.1 hy).1;rw[List.length_append,hl]at this;simp at this;omega
  subst this;rw[List.getElem?_append_right (by omega),hl]at hy;have:x=y:=by simpa using hy
  exact this▸hx
class iO(P:Program)(t:TypeId)(τ:Type)[Deep τ]:Prop where
 sz:P.cellsOf t=Deep.c τ
 h: ∀{H:Type} {enc:TypeId×Value->H} {w:World} {fuel:Nat} {cs:List Value} {d:DataW H} {ps:List MemPlace},DataW.trod enc P w 0 (fun _=>true) true fuel t cs=some (d,ps)->(∀n∈d.weights P t,n<=reachBytes)->
  ∃x:τ,(Deep.cells x).toList=cs/\Deep.aU (hp w) x
theorem ack{w:World}{b:Nat}{a:Addr}{n:Nat}{cs:List Value}(h:w.cells? b a n=some cs):cs.length=n/\ ∀j,j<n->w.cell? (a.add j)=cs[j]? :=by
 unfold World.cells? at h;split at h
 ·
  have hl:=mapM_some_length h;refine⟨by simpa using hl,fun j hj=>?_⟩;exact mapM_some_get h j j (by simp[hj])
 cases h
theorem HY{H:Type}{e:TypeId}{n:Nat}: ∀{l:List (DataW H)} {d:DataW H},d∈l->n∈d.weights P e->n∈DataW.weightsAll P e l
 |x::l,d,hd,hn=>by
  rw[DataW.weightsAll];rcases List.mem_cons.1 hd with rfl|hd
  ·
   exact List.mem_append_left _ hn
  exact List.mem_append_right _ (HY hd hn)
theorem HZ{H:Type}{n:Nat}: ∀{ts:List TypeId} {l:List (DataW H)} {i:Nat} {t:TypeId} {d:DataW H},ts[i]? =some t->l[i]? =some d->n∈d.weights P t->n∈DataW.weightsEach P ts l
 |[],_,i,_,_,h,_,_=>by simp at h
 |_::_,[],i,_,_,_,h,_=>by simp at h
 |t0::ts,d0::l,0,t,d,ht,hd,hn=>by
  obtain rfl:t0=t:=by simpa using ht
  obtain rfl:d0=d:=by simpa using hd
  rw[DataW.weightsEach];exact List.mem_append_left _ hn
 |t0::ts,d0::l,i+1,t,d,ht,hd,hn=>by
  rw[DataW.weightsEach];exact List.mem_append_right _ (HZ (i:=i) (by simpa using ht) (by simpa using hd) hn)
theorem acm:reachBytes<=140737488355328:=by decide
theorem sY{t e:TypeId}{τ:Type}[Deep τ](hu:P.underlying t=some (.slice e))(cH:Nat.ble 1 (P.bytesOf e)=true)(hc:1<=Deep.c τ)(hs:P.cellsOf t=1)[o:iO P e τ]:iO P t (Sl τ):=⟨hs,fun{H enc w fuel cs d ps} h hw=>by
 have hb:1<=P.bytesOf e:=Nat.le_of_ble_eq_true cH;rcases Go.Deep.open_slice hu h with⟨rfl,_⟩|⟨a,len,cap,m,n,D,Pl,rfl,_,hl,_,hm,hx,Bp⟩
 ·
  exact⟨⟨Sv.none,[]⟩,rfl,uN⟩
 simp only[if_true]at hm;subst hm;have hd:d= .slice ((List.range len).map D) ((List.range (m -len)).map fun j=>D (len+j)):=congrArg Prod.fst hx;subst hd;simp only[DataW.weights,hu,List.length_map,List.length_range]at hw;have uG:m<=140737488355328:=by
  have h1:=hw _ (List.mem_cons_self ..);have h2:(len+(m -len))*1<=(len+(m -len))*P.bytesOf e:=Nat.mul_le_mul_left _ hb;have:=acm;omega
 have OR: ∀i,i<m-> ∃cs',(cs'.length=Deep.c τ/\ ∀j,j<Deep.c τ->w.cell? ((a.add (i*Deep.c τ)).add j)=cs'[j]?)/\DataW.trod enc P w 0 (fun _=>true) true n e cs'=some (D i,Pl i):=fun i hi=>by
  obtain⟨cs',h1,h2⟩:=Bp i hi;rw[o.sz]at h1;exact⟨cs',ack h1,h2⟩
 have OS:0<m->a.spot=none:=fun hm=>by
  obtain⟨cs',⟨h1,h2⟩,_⟩:=OR 0 hm;have h3:=h2 0 (by omega);have e0:(a.add (0*Deep.c τ)).add 0=a:=by simp[Addr.add]
  rw[e0,List.getElem?_eq_getElem (by omega)]at h3;unfold World.cell? at h3;split at h3
  ·
   split at h3
   ·
    cases h3
   rename_i hs;simpa using hs
  cases h3
 obtain⟨l,mR,Dp⟩:=HX (p:=fun i (x:τ)=>(∀j,j<Deep.c τ->w.cell? ((a.add (i*Deep.c τ)).add j)=(Deep.cells x)[j]?)/\Deep.aU (hp w) x) (n:=len) fun i hi=>by
  obtain⟨cs',⟨h1,h2⟩,h3⟩:=OR i (by omega);obtain⟨x,oq,ib⟩:=o.h h3 (fun k hk=>hw k (List.mem_cons_of_mem _ (List.mem_append_left _ (HY (List.mem_map.2 ⟨i,List.mem_range.2 hi,rfl⟩) hk))));refine⟨x,fun j hj=>?_,ib⟩;rw[h2 j hj,←oq];simp
 refine⟨⟨⟨false,a.block,a.off,len,m,a.spot⟩,l⟩,rfl,⟨⟨(fun h=>by cases h),hl,by simp only;omega,OS⟩,by simp[mR],fun i x hi j hj=>?_⟩,fun x hx=>?_⟩
 ·
  have dI:i<len:=by rw[←mR];exact(List.getElem?_eq_some_iff.1 hi).1
  have h1:=(Dp i x hi).1 j hj;have hs:=OS (by omega);have ea:(a.add (i*Deep.c τ)).add j=⟨a.block,a.off+i*Deep.c τ+j,none⟩:=by
   obtain⟨ab,ao,asp⟩:=a;simp only at hs;subst hs;rw[Addr.fm,Addr.fm]
  rw[ea,pZ]at h1;exact h1
 obtain⟨i,hi⟩:=List.getElem?_of_mem hx;exact(Dp i x hi).2⟩
theorem sH{H:Type}{enc:TypeId×Value->H}{w:World}{fuel:Nat}{t:TypeId}{cs:List Value}{d:DataW H}{ps:List MemPlace}{fs:Array Field}(hu:P.underlying t=some (.struct fs))(h:DataW.trod enc P w 0 (fun _=>true) true fuel t cs=some (d,ps))(hw: ∀n∈d.weights P t,n<=reachBytes)
  {i tf off:Nat} (kV:(fs[i]?).map (fun f=>(f.type,f.offset))=some (tf,off)) (τ:Type) [Deep τ] [o:iO P tf τ]:cs.length=P.cellsOf t/\ ∃x:τ,(Deep.cells x).toList=(cs.drop off).take (Deep.c τ)/\Deep.aU (hp w) x:=by
 obtain⟨f,hf,e⟩:=Option.map_eq_some_iff.1 kV;obtain⟨rfl,rfl⟩:=Prod.mk.inj e;obtain⟨xs,n,_,hx,hl,hlen,hg⟩:=DataW.trod_struct hu h;have h1:=hg i f hf;have hi:i<xs.length:=by rw[hlen];exact(Array.getElem?_eq_some_iff.1 hf).1
 rw[List.getElem?_eq_getElem hi,o.sz]at h1;have hd:d= .agg (xs.map (·.1)):=congrArg Prod.fst hx;subst hd;obtain⟨x,oq,ib⟩:=o.h (d:=xs[i].1) (ps:=xs[i].2) h1 (fun k hk=>hw k (by
  simp only[DataW.weights,hu];exact HZ (i:=i) (t:=f.type) (d:=xs[i].1) (by
   have:fs.toList[i]? =some f:=by simpa using hf
   rw[List.getElem?_map,this];rfl) (by simp[hi]) hk))
 exact⟨hl,x,oq,ib⟩
theorem acn{H:Type}{enc:TypeId×Value->H}{w:World}{fuel:Nat}{t e:TypeId}{m:Nat}{cs:List Value}{d:DataW H}{ps:List MemPlace}(hu:P.underlying t=some (.array m e))(h:DataW.trod enc P w 0 (fun _=>true) true fuel t cs=some (d,ps))(hw: ∀n∈d.weights P t,n<=reachBytes)
  (τ:Type) [Deep τ] [o:iO P e τ]:cs.length=P.cellsOf t/\ ∀i,i<m-> ∃x:τ,(Deep.cells x).toList=(cs.drop (i*Deep.c τ)).take (Deep.c τ)/\Deep.aU (hp w) x:=by
 cases fuel with
 |zero=>simp[DataW.trod]at h
 |succ n=>
  unfold DataW.trod at h;rw[hu]at h;split at h<;>simp_all
  rename_i m' e' heq;obtain⟨hl,xs,eB,hd⟩:=h;obtain⟨rfl,rfl⟩:=heq;intro i hi;have hlen:=mapM_some_length eB;have nY:i<xs.length:=by simpa[hlen]using hi
  have h1:=mapM_some_get eB i i (by simp[hi]);rw[List.getElem?_eq_getElem nY,o.sz]at h1;obtain⟨rfl,-⟩:=hd;exact o.h (d:=xs[i].1) (ps:=xs[i].2) h1 (fun k hk=>hw k (by
   simp only[DataW.weights,hu];exact HY (List.mem_map_of_mem (List.getElem_mem nY)) hk))
theorem Dq{α:Type}{cs:List α}{a b:Nat}(h:cs.length=a+b):(cs.drop 0).take a++(cs.drop a).take b=cs:=by
 rw[List.drop_zero,List.take_of_length_le (l:=cs.drop a) (by rw[List.length_drop];omega),List.take_append_drop]
theorem aco{α:Type}{cs:List α}{a b c:Nat}(h:cs.length=a+b+c):(cs.drop 0).take a++(cs.drop a).take b++(cs.drop (a+b)).take c=cs:=by
 have h1:=Dq (cs:=cs) (a:=a+b) (b:=c) (by omega)
 conv=>rhs;rw[←h1]
 congr 1;rw[List.drop_zero,List.take_add]
def Dr(n:Int):Array Value:= #[.int .i64 n]
instance:bc Dr 1:=⟨fun _=>rfl,fun _=>by simp[Dr,Value.oneCell']⟩
instance:Deep Int:=Deep.flat Dr 1
def Aq(n:UInt16):Array Value:= #[.int .u16 n.toNat]
instance:bc Aq 1:=⟨fun _=>rfl,fun _=>by simp[Aq,Value.oneCell']⟩
instance:Deep UInt16:=Deep.flat Aq 1
theorem acp{t:TypeId}(hu:P.underlying t=some (.int .i64))(hs:P.cellsOf t=1):iO P t Int:=⟨hs,fun h _=>by
 obtain⟨n,rfl,_,_⟩:=DataW.trod_int hu h;exact⟨n,rfl,trivial⟩⟩
theorem acq{t:TypeId}(hu:P.underlying t=some (.int .u8))(hs:P.cellsOf t=1):iO P t UInt8:=⟨hs,fun h _=>by
 obtain⟨n,rfl,_,hw⟩:=DataW.trod_int hu h;simp only[Lit.wf,Bool.and_eq_true,decide_eq_true_eq]at hw;have h1:(0:Int)<=n:=hw.1;have h2:n<=(255:Int):=hw.2;refine⟨UInt8.ofNat n.toNat,?_,trivial⟩;have:((UInt8.ofNat n.toNat).toNat:Int)=n:=by simp;omega
 show(aJ (UInt8.ofNat n.toNat)).toList=_;simp only[aJ,this]⟩
theorem acr{t:TypeId}(hu:P.underlying t=some (.int .u16))(hs:P.cellsOf t=1):iO P t UInt16:=⟨hs,fun h _=>by
 obtain⟨n,rfl,_,hw⟩:=DataW.trod_int hu h;simp only[Lit.wf,Bool.and_eq_true,decide_eq_true_eq]at hw;have h1:(0:Int)<=n:=hw.1;have h2:n<=(65535:Int):=hw.2;refine⟨UInt16.ofNat n.toNat,?_,trivial⟩;have:((UInt16.ofNat n.toNat).toNat:Int)=n:=by simp;omega
 show(Aq (UInt16.ofNat n.toNat)).toList=_;simp only[Aq,this]⟩
theorem acs{H:Type}{enc:TypeId×Value->H}{w:World}{b:Nat}{t e:TypeId}{τ:Type}[Deep τ][o:iO P t (Sl τ)](hu:P.underlying t=some (.slice e)){v:Value}{d:DataW H}{ps:List MemPlace}(hv:Value.okWide P w .any b t v)(h:DataW.Trod enc P w 0 (fun _=>true) true t v d ps)(hw: ∀n∈d.weights P t,n<=reachBytes):
  ∃x:Sl τ,v=x.sv.val/\Deep.aU (hp w) x:=by
 obtain⟨fuel,h⟩:=h;obtain⟨x,h1,h2⟩:=o.h h hw;refine⟨x,?_,h2⟩;have hc:v.cells= #[v]:=by
  unfold Value.okWide at hv;rw[hu]at hv;unfold Cell.okWide at hv;rw[hu]at hv
  cases v<;>simp_all[Cell.ok,Value.cells]
 rw[hc]at h1;have:[x.sv.val]=[v]:=h1;simpa using this.symm
theorem acu{H:Type}{enc:TypeId×Value->H}{w:World}{b:Nat}{t:TypeId}{τ:Type}[Deep τ][o:iO P t τ](hu: ∃d,P.underlying t=some d/\sM d=true){v:Value}{d:DataW H}{ps:List MemPlace}(hv:Value.okWide P w .any b t v)(h:DataW.Trod enc P w 0 (fun _=>true) true t v d ps)(hw: ∀n∈d.weights P t,n<=reachBytes):
  ∃x:τ,v= .agg (Deep.cells x)/\Deep.aU (hp w) x:=by
 obtain⟨fuel,h⟩:=h;obtain⟨x,h1,h2⟩:=o.h h hw;refine⟨x,?_,h2⟩;obtain⟨dd,NG,FR⟩:=hu;have hc: ∃cs,v= .agg cs:=by
  unfold Value.okWide at hv;rw[NG]at hv
  cases dd<;>simp[sM]at FR
  ·
   obtain⟨cs,rfl,_⟩:=hv;exact⟨cs,rfl⟩
  ·
   obtain⟨cs,rfl,_⟩:=hv;exact⟨cs,rfl⟩
 obtain⟨cs,rfl⟩:=hc;have:(Deep.cells x).toList=cs.toList:=h1;rw[Array.toList_inj.1 this]
structure Arg(H:Type)(enc:TypeId×Value->H)(P:Program)(W:World)(b:Nat)(t:TypeId)(v:Value):Prop where
 ok:Value.okWide P W .any b t v
 trod: ∃d ps,DataW.Trod enc P W 0 (fun _=>true) true t v d ps/\ ∀n∈d.weights P t,n<=reachBytes
theorem Arg.sl{H:Type}{enc:TypeId×Value->H}{W:World}{b:Nat}{t e:TypeId}{v:Value}(h:Arg H enc P W b t v)(hu:P.underlying t=some (.slice e))(τ:Type)[Deep τ][o:iO P t (Sl τ)]: ∃x:Sl τ,v=x.sv.val/\Deep.aU (hp W) x:=by
 obtain⟨d,ps,h1,h2⟩:=h.trod;exact acs hu h.ok h1 h2
theorem Arg.agg{H:Type}{enc:TypeId×Value->H}{W:World}{b:Nat}{t:TypeId}{v:Value}(h:Arg H enc P W b t v){n:Nat}(hu:dG P t n)(τ:Type)[Deep τ][o:iO P t τ]: ∃x:τ,v= .agg (Deep.cells x)/\Deep.aU (hp W) x:=by
 obtain⟨d,ps,h1,h2⟩:=h.trod;exact acu hu.row h.ok h1 h2
theorem OT{H:Type}{enc:TypeId×Value->H}{W:World}{sp:Nat->Bool}{hd:Bool}: ∀{ts:List TypeId} {vs:List Value} {ds:List (DataW H)} {ps:List MemPlace},DataW.TrodAll enc P W 0 sp hd ts vs ds ps-> ∀(j:Nat) (t:TypeId) (v:Value),ts[j]? =some t->vs[j]? =some v->
  ∃d p,ds[j]? =some d/\DataW.Trod enc P W 0 sp hd t v d p
 |[],_,_,_,h,j,_,_,ht,_=>by simp at ht
 |t0::ts,vs,ds,ps,h,j,t,v,ht,hv=>by
  obtain⟨v0,ON,d0,OO,a,b,rfl,rfl,rfl,h1,h2⟩:=trodAll_cons h
  cases j with
  |zero=>
   obtain rfl:t0=t:=by simpa using ht
   obtain rfl:v0=v:=by simpa using hv
   exact⟨d0,a,rfl,h1⟩
  |succ j=>exact OT h2 j t v (by simpa using ht) (by simpa using hv)
variable {P:Program}
theorem acv{H:Type}{enc:TypeId×Value->H}{C:Checked}{os:Os}{f:FuncId}{fn:Func}{s:ChangeSpec}{conds:List PathCond}{apart fresh handsOn:Bool}{tb:TypeId}{laid:List (String×DataW Unit)}
  (own:ownKnob C.prog.godebug=none) (started:os.Started) (acw:C.prog.inits.idxOf? f=none) (acx:C.prog.funcs[f]? =some fn)
  (wit: ∃(w:World) (tape:Tape) (i:Input),w.os=os/\(w.forCall tape i).Shaped C.prog/\i.vars=[]/\Input.okWide C.prog (w.forCall tape i) .any w.heap.size f i/\
   ((s.pre enc C.prog fn conds apart (w.forCall tape i).memory i.args/\laidMetH C.prog laid (w.forCall tape i).memory)/\sizedMet enc C.prog fn (OpenSpec.ofChange s) apart (w.forCall tape i).memory i.args)/\({}:Assume).holds C.prog (lone (Frame.enter C.prog f i.args .normal) [] (w.forCall tape i)))
  (hl:laidOutB C.prog=true) (hp:fn.params.toList.all (fun t=>C.prog.readableRec t&&decide (t<C.prog.types.size))=true) (hr:fn.resultTypes= #[tb]) (hb:C.prog.underlying tb=some .bool)
  (hv:s.vars=[]) (Ap: ∀ds:List (DataW H),ds.length=fn.params.size->s.fn H ds={results:=[.lit (.bool true)],args:=ds})
  (acy: ∀(W:World) (base:Nat) (vs:List Value),W.ShapedOpen C.prog->laidMetH C.prog laid W->vs.length=fn.params.size->(∀(j:Nat) t v,fn.params[j]? =some t->vs[j]? =some v->Arg H enc C.prog W base t v)->
   Calls C.prog f vs.toArray W fun e W'=>e= .returned (.bool true)/\Mem W [] W'):
  ReturnsInHanded {} C os f .any (fun w args=>(s.pre enc C.prog fn conds apart w args/\laidMetH C.prog laid w)/\sizedMet enc C.prog fn (OpenSpec.ofChange s) apart w args) (s.post enc C.prog fn apart fresh handsOn false):=by
 refine returnsInHanded_of_calls own started acw wit ?_;intro w tape i _ hsh _ bZ aP alJ;obtain⟨_,_,_,OU,acz,_,_,_,_,acA⟩:=bZ;have e:OU=fn:=Option.some.inj (acz.symm.trans acx);subst e;obtain⟨⟨⟨ds,gs,before,hw,hc⟩,hx⟩,hz⟩:=aP;have hW:=DataW.Whole.of_heap (w':=w.forCall tape i) (by rfl) hw;have nZ:=hz.weights hw;have hlen:i.args.toList.length=OU.params.size:=by
  obtain⟨p,q,hA,_⟩:=hW;rw[(HW hA).1];simp
 have h:=acy (w.forCall tape i) w.heap.size i.args.toList hsh (laidMetH.of_heap (by rfl) hx) hlen (fun j t v h1 h2=>⟨acA j t v h1 (by simpa using h2),by
  obtain⟨p,q,hA,_⟩:=hW;obtain⟨d,pp,hd,ht⟩:=OT hA j t v (by simpa using h1) h2;refine⟨d,pp,ht,fun n hn=>?_⟩;have hh:=List.all_eq_true.1 nZ n (HZ (i:=j) (t:=t) (d:=d) (by rw[List.getElem?_append_left (by have:=(Array.getElem?_eq_some_iff.1 h1).1;simpa using this)];simpa using h1)
   (by rw[List.getElem?_append_left (List.getElem?_eq_some_iff.1 hd).1];exact hd) hn)
  simpa using hh⟩)
 rw[Array.toArray_toList]at h;refine h.mono fun e W' hh=>?_;obtain⟨he,hm⟩:=hh;subst he;exact ChangeSpec.post_blind (acf hl hp hr hb hv Ap hW hm.below)
end Go.aA
namespace Go.Proofs.YtkggjjnhnjjokaaGreatDoor
open Go.aA Go.Kb
instance op3:iO Tryz.prog 3 Int:=acp Tryz.underlying3 (by kernel_rfl)
instance op5:iO Tryz.prog 5 UInt8:=acq Tryz.underlying5 (by kernel_rfl)
instance alK:iO Tryz.prog 27 UInt16:=acr Tryz.underlying27 (by kernel_rfl)
instance:bc bF 16:=⟨eJ,fun k=>(inferInstance:eA (bF k) 16).one⟩
instance:Deep Key:=Deep.flat bF 16
instance:bc cA 18:=⟨nn,fun k=>(inferInstance:eA (cA k) 18).one⟩
instance:Deep cc:=Deep.flat cA 18
instance alL:iO Tryz.prog 25 Key:=⟨by kernel_rfl,fun h hw=>by
 obtain⟨hl,he⟩:=acn Tryz.underlying25 h hw UInt8;rw[show Tryz.prog.cellsOf 25=16 from by kernel_rfl]at hl;obtain⟨l,mR,Dp⟩:=HX (p:=fun i (x:UInt8)=>_) he;refine⟨mE fun i=>(l.getD i 0).toNat,?_,trivial⟩;refine List.ext_getElem? fun i=>?_;rw[Array.getElem?_toList];rcases Nat.lt_or_ge i 16 with hi|hi
 ·
  have hx:l[i]? =some (l.getD i 0):=kW (by omega);have h1:=congrArg (·[0]?) (Dp i _ hx).1;simp only[List.getElem?_take,List.getElem?_drop]at h1;rw[if_pos (by decide),show i*Deep.c UInt8+0=i from Nat.mul_one i]at h1;have h3:some (Value.int .u8 (l.getD i 0).toNat)=_:=h1;have e8:(l.getD i 0).toNat%2^8=(l.getD i 0).toNat:=Nat.mod_eq_of_lt (l.getD i 0).toNat_lt;show(bF _)[i]? =_;rw[jl _ _ hi,rf _ _ hi,e8,←h3]
 show(bF _)[i]? =_;rw[I9 _ _ hi,List.getElem?_eq_none (by omega)]⟩
instance alN:iO Tryz.prog 32 cc:=⟨by kernel_rfl,fun h hw=>by
 obtain⟨hl,x0,h0,-⟩:=sH Tryz.underlying32 h hw (i:=0) (tf:=3) (off:=0) rfl Int;obtain⟨-,x1,h1,-⟩:=sH Tryz.underlying32 h hw (i:=1) (tf:=3) (off:=1) rfl Int;obtain⟨-,x2,h2,-⟩:=sH Tryz.underlying32 h hw (i:=2) (tf:=25) (off:=2) rfl Key;refine⟨⟨x0,x1,x2⟩,?_,trivial⟩;refine Eq.trans ?_ (aco (a:=1) (b:=1) (c:=16) (hl.trans (by kernel_rfl)));rw[show(Deep.cells (⟨x0,x1,x2⟩:cc)).toList=(Deep.cells x0).toList++(Deep.cells x1).toList++(Deep.cells x2).toList from by show(cA _).toList=_;unfold cA;rw[Array.toList_append];rfl,h0,h1,h2];rfl⟩
instance alO:iO Tryz.prog 34 Rt:=⟨by kernel_rfl,fun h hw=>by
 obtain⟨hl,x0,h0,-⟩:=sH Tryz.underlying34 h hw (i:=0) (tf:=32) (off:=0) rfl cc;obtain⟨-,x1,h1,-⟩:=sH Tryz.underlying34 h hw (i:=1) (tf:=27) (off:=18) rfl UInt16;refine⟨⟨x0,x1⟩,?_,trivial⟩;refine Eq.trans ?_ (Dq (a:=18) (b:=1) (hl.trans (by kernel_rfl)));rw[show(Deep.cells (⟨x0,x1⟩:Rt)).toList=(Deep.cells x0).toList++(Deep.cells x1).toList from by show(av _).toList=_;unfold av;rw[Array.toList_append];rfl,h0,h1];rfl⟩
instance alP:iO Tryz.prog 22 (Sl Rt):=sY Tryz.underlying22 (by kernel_rfl) (by decide) (by kernel_rfl)
end Go.Proofs.YtkggjjnhnjjokaaGreatDoor
namespace Go.aA
open Go.RowKit Go.Kb
instance (priority:=high) alQ:Deep Int:=Deep.flat Dr 1
end Go.aA
namespace Go.Proofs.YtkggjjnhnjjokaaGreatDoor
open Go.aA Go.Kb
instance alR:iO Tryz.prog 142 Mr:=⟨by kernel_rfl,fun h hw=>by
 obtain⟨hl,x0,h0,-⟩:=sH Tryz.underlying142 h hw (i:=0) (tf:=27) (off:=0) rfl UInt16;obtain⟨-,x1,h1,-⟩:=sH Tryz.underlying142 h hw (i:=1) (tf:=3) (off:=1) rfl Int;refine⟨⟨x0,x1⟩,?_,trivial⟩;refine Eq.trans ?_ (Dq (a:=1) (b:=1) (hl.trans (by kernel_rfl)));rw[show(Deep.cells (⟨x0,x1⟩:Mr)).toList=(Deep.cells x0).toList++(Deep.cells x1).toList from rfl,h0,h1];rfl⟩
instance alS:iO Tryz.prog 131 (Sl Mr):=sY Tryz.underlying131 (by kernel_rfl) (by decide) (by kernel_rfl)
instance alT:iO Tryz.prog 133 Gp:=⟨by kernel_rfl,fun h hw=>by
 obtain⟨hl,x0,h0,-⟩:=sH Tryz.underlying133 h hw (i:=0) (tf:=27) (off:=0) rfl UInt16;obtain⟨-,x1,h1,g1⟩:=sH Tryz.underlying133 h hw (i:=1) (tf:=131) (off:=1) rfl (Sl Mr);refine⟨⟨x0,x1⟩,?_,g1⟩;refine Eq.trans ?_ (Dq (a:=1) (b:=1) (hl.trans (by kernel_rfl)));rw[show(Deep.cells (⟨x0,x1⟩:Gp)).toList=(Deep.cells x0).toList++(Deep.cells x1).toList from rfl,h0,h1];rfl⟩
instance alU:iO Tryz.prog 23 (Sl Gp):=sY Tryz.underlying23 (by kernel_rfl) (by decide) (by kernel_rfl)
end Go.Proofs.YtkggjjnhnjjokaaGreatDoor

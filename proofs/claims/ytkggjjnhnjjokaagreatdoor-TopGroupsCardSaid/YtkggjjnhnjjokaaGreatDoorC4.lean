/- Part of a proof. -/
import Derived.Test.YtkggjjnhnjjokaaGreatDoorC2
import Derived.Maps.Keyed
import Derived.Test.YtkggjjnhnjjokaaGreatDoorC3
set_option maxRecDepth 20000
set_option linter.unusedSimpArgs false
set_option linter.unusedVariables false
namespace Go.aA
open Go.RowKit
theorem Gw{P:Program}{fn:Func}{N:bW}{env:Env}{w0:World}{L:List ah}(hf:fn.results= #[]): ∀a w,cE N env a->Mem w0 L w->(results fn a.tmps).run P w= .ok (.tuple #[]) w:=fun a w _ _=>by
 simp[results,hf]
section
variable {P:Program} {w0:World} {env:Env}
theorem M4{N:bW}{L:List ah}{d:Option Tmp}{ty:TypeId}{ps:String}{af:Array Edge}{gd:Option (Nat×Bool)}{t:TypeId}{x:Operand}{p:Addr}{v:Value}[ht:ez P t](hx:ev env x=some (.pointer (some p)))(hc:w0.cell? p=some v):Ry P N w0 env L ⟨d, .load t x,ty,ps,af,gd⟩ v:=
 v7 ht hx fun w hw=>(hw.below.cell (by
  unfold World.cell? at hc
  cases ho:w0.heap[p.block]?with
  |none=>simp[ho]at hc
  |some o=>exact(Array.getElem?_eq_some_iff.1 ho).1)).trans hc
end
section
variable {P:Program} {N:bW} {w0:World} {env:Env} {L:List ah} {l:List Oper} {Q:Exit->Act->World->Prop} {rest:List Oper} {d:Option Tmp} {ty:TypeId} {ps:String} {af:Array Edge} {K:Value->List ah->Prop}
instance bL.one{v:Value}:bL #[v] 0 v:=⟨rfl⟩
theorem VM{t:TypeId}{x:Operand}{v:Value}(hc:v.cells= #[v])(hx:ev env x=some v)(hk: ∀b,Sq P N w0 l Q rest (cd env d (.pointer (some ⟨b,0,none⟩))) (an b #[v] t::L))(hd:cO N d=true:=by rfl):
  Sq P N w0 l Q (⟨d, .box t x,ty,ps,af,none⟩::rest) env L:=DK hx (by rw[hc];exact hk) hd
theorem VN{t:TypeId}{z:Value}[hz:dj P t z](hc:z.cells= #[z])(hk: ∀b,Sq P N w0 l Q rest (cd env d (.pointer (some ⟨b,0,none⟩))) (an b #[z] t::L))(hd:cO N d=true:=by rfl):
  Sq P N w0 l Q (⟨d, .alloc t,ty,ps,af,none⟩::rest) env L:=Is (z:=z) (by rw[hc];exact hk) hd
theorem VO{t:TypeId}{x y:Operand}{i b:Nat}{u:Value}{T:TypeId}{v:Value}(hv:v.oneCell'=true)(hx:ev env x=some (.pointer (some ⟨b,0,none⟩)))(hy:ev env y=some v)[ht:ez P t][hh:Has L b #[u] T i]{L':List ah}[hu:dX L i (an b #[v] T) L'](hk:Sq P N w0 l Q rest env L'):
  Sq P N w0 l Q (⟨none, .store t x y,ty,ps,af,none⟩::rest) env L:=dw (cs':= #[v]) hx hy (by show 0<1;decide) hv rfl hk
end
theorem VP{P:Program}{N:bW}{w0:World}{env:Env}{L:List ah}{l:List Oper}{Q:Exit->Act->World->Prop}{rest:List Oper}{ty:TypeId}{ps:String}{af:Array Edge}{t:TypeId}{x y:Operand}{i k p:Nat}{s:Sv}{xs:List UInt8}{a v:UInt8}[ht:ez P t](hx:ev env x=some (.pointer (some ⟨s.b,p,none⟩)))(hy:ev env y=some (.int .u8 v.toNat))[q:dN L s aJ 1 xs i](ha:xs[k]? =some a)(eB:p=s.o+k*1){L':List ah}[hu:dX L i (own aJ 1 s (xs.set k v)) L'](hk:Sq P N w0 l Q rest env L'):
  Sq P N w0 l Q (⟨none, .store t x y,ty,ps,af,none⟩::rest) env L:=
 iz (j:=0) (n:=1) (a':=v) ht.size hx hy (q:=q) (by omega) ha (by simp[Value.cells,Value.oneCell']) rfl (by omega) (by rfl) hk
section
variable {P:Program} {N:bW} {w0:World} {env:Env} {L:List ah} {Q:Exit->Act->World->Prop}
end
section
variable {P:Program} {n:Nat} {w0:World} {env:Env} {L:List ah} {Q:Exit->Act->World->Prop} {l:List Oper} {k:Nat} {rest:List Oper}
theorem drop_at{α:Type}{l rest:List α}{k:Nat}{o:α}(h:l.drop k=o::rest):l[k]? =some o/\l.drop (k+1)=rest:=by
 constructor
 ·
  have:=congrArg (·[0]?) h;simpa using this
 have:=congrArg (List.drop 1) h;simpa[List.drop_drop,Nat.add_comm]using this
end
def omap(P:Program)(k:TypeId){α β:Type}(cC:α->Value)(dt:β->Value)(b:Nat)(f:α->Option β):ah:=
  ⟨fun i=>i=b,fun h=> ∃(es:Array MapEntry) (clock:Nat) (m:List (α×β)),h b=some (.map es clock)/\es.toList.map (fun e=>(e.key,e.val))=m.map (fun p=>(cC p.1,dt p.2))/\
    (∀p∈m,∃l,keyOf P k (cC p.1)=some l)/\(m.map Prod.fst).Nodup/\(∀x v,f x=some v↔(x,v)∈m),
   fun h h' e st=>by rw[e b rfl];exact st⟩
class xF(P:Program)(t:TypeId)(k e:outParam TypeId):Prop where
  dB:P.underlying t=some (.map k e)
class zE(P:Program)(k:TypeId):Prop where
  K:Maps.Keyed P k
class zF{α:Type}(cC:α->Value):Prop where
  inj: ∀{a b:α},cC a=cC b->a=b
class tN(P:Program)(L:List ah)(b:Nat){α β:outParam Type}(k:TypeId)(cC:outParam (α->Value))(dt:outParam (β->Value))(f:outParam (α->Option β))(i:outParam Nat):Prop where
  h:L[i]? =some (omap P k cC dt b f)
instance (priority:=high) tN.here {P:Program}{L:List ah}{b:Nat}{α β:Type}{k:TypeId}{cC:α->Value}{dt:β->Value}{f:α->Option β}:tN P (omap P k cC dt b f::L) b k cC dt f 0:=⟨rfl⟩
instance tN.there{P:Program}{L:List ah}{e:ah}{b:Nat}{α β:Type}{k:TypeId}{cC:α->Value}{dt:β->Value}{f:α->Option β}{i:Nat}[q:tN P L b k cC dt f i]:tN P (e::L) b k cC dt f (i+1):=⟨by simpa using q.h⟩
theorem M5{P:Program}{k:TypeId}{α β:Type}{cC:α→Value}{dt:β→Value}{f:α→Option β}[K:zE P k][I:zF cC]{es:Array MapEntry}{m:List (α×β)}(h1:es.toList.map (fun e=>(e.key,e.val))=m.map (fun p=>(cC p.1,dt p.2)))
    (h2: ∀p∈m,∃l,keyOf P k (cC p.1)=some l) (h3: ∀x v,f x=some v↔(x,v)∈m) {x:α} (hx: ∃l,keyOf P k (cC x)=some l) (w:World):
    ((Instr.findKey k (cC x) es.toList).run P w= .ok none w/\f x=none/\ ∀v,(x,v)∉m)\/ ∃(j:Nat) (v:β),(Instr.findKey k (cC x) es.toList).run P w= .ok (some (j,dt v)) w/\m[j]? =some (x,v)/\f x=some v/\(es[j]?).map (·.key)=some (cC x):=by
  have kK: ∀j:Nat,(es.toList[j]?).map (fun e=>(e.key,e.val))=(m[j]?).map (fun p=>(cC p.1,dt p.2)):=fun j=>by rw[←List.getElem?_map,←List.getElem?_map,h1]
  have ku: ∀e∈es.toList,∃l,keyOf P k e.key=some l:=fun e he=>by
    obtain⟨j,hj,rfl⟩:=List.getElem_of_mem he;have:=kK j;rw[List.getElem?_eq_getElem hj]at this
    cases hm:m[j]?with
    |none=>rw[hm]at this;cases this
    |some p=>
     rw[hm]at this;simp only[Option.map_some,Option.some.injEq,Prod.mk.injEq]at this;rw[this.1];exact h2 p (List.mem_of_getElem? hm)
  obtain⟨lx,rZ⟩:=hx;rcases K.K.find w rZ es.toList ku with⟨hr,hn⟩|⟨j,e,hr,hj,hk⟩
  ·have nM: ∀v,(x,v)∉m:=fun v hv=>by
      obtain⟨j,hj,VQ⟩:=List.getElem_of_mem hv;have:=kK j;rw[List.getElem?_eq_getElem hj,VQ]at this
      cases he:es.toList[j]?with
      |none=>rw[he]at this;cases this
      |some e=>
       rw[he]at this;simp only[Option.map_some,Option.some.injEq,Prod.mk.injEq]at this;exact hn e (List.mem_of_getElem? he) this.1
   refine .inl ⟨hr,?_,nM⟩
   cases hf:f x with
   |none=>rfl
   |some v=>exact absurd ((h3 x v).1 hf) (nM v)
  ·have:=kK j
   rw[hj]at this
   cases hm:m[j]?with
   |none=>rw[hm]at this;cases this
   |some p=>
    rw[hm]at this;simp only[Option.map_some,Option.some.injEq,Prod.mk.injEq]at this;have hp:p.1=x:=I.inj (this.1.symm.trans hk);refine .inr ⟨j,p.2,by rw[hr,this.2],by rw[hm,←hp],(h3 x p.2).2 (by rw[←hp];exact List.mem_of_getElem? hm),?_⟩;have jj:es[j]? =some e:=by simpa using hj
    rw[jj,Option.map_some,hk]
section
variable {P:Program} {N:bW} {w0:World} {env:Env} {L:List ah} {d:Option Tmp} {ty:TypeId} {ps:String} {af:Array Edge} {gd:Option (Nat×Bool)} {α β:Type} {cC:α->Value} {dt:β->Value} {f:α->Option β}
theorem run_getObj_map{w:World}{b:Nat}{es:Array MapEntry}{clock:Nat}(h:w.heap[b]? =some (.map es clock)):(getObj b).run P w= .ok (.map es clock) w:=by simp[getObj,Sem.run,h]
theorem run_setObj_map{w:World}{b:Nat}{es:Array MapEntry}{clock:Nat}(o:Obj)(h:w.heap[b]? =some (.map es clock)):(setObj b o).run P w= .ok () (w.putObj b o):=by simp[setObj,Sem.run,h,World.putObj]
theorem Gx{t k e:TypeId}{m x:Operand}{b i:Nat}{z:β}{v:α}[ht:xF P t k e][K:zE P k][I:zF cC][hz:dj P e (dt z)](hm:ev env m=some (.map (some b)))(hx:ev env x=some (cC v))[q:tN P L b k cC dt f i](hv: ∃l,keyOf P k (cC v)=some l):
    Ry P N w0 env L ⟨d, .lookup t m x true,ty,ps,af,gd⟩ (.tuple #[dt ((f v).getD z), .bool (f v).isSome]):=fun a w ha hw=>by
  obtain⟨es,clock,ml,h0,h1,h2,_,h3⟩:=hw.get q.h;obtain⟨l,hl⟩:=hv;have hc:=K.K.check w es.isEmpty hl;simp only[execOp,ha.ev hm,ha.ev hx,Instr.lookup,Sem.run_bind,run_underlying ht.dB,Result.andThen,run_getObj_map h0,Sem.run_pure,hc];rcases M5 (P:=P) (k:=k) h1 h2 h3 ⟨l,hl⟩ w with⟨hr,hf,_⟩|⟨j,u,hr,_,hf,_⟩
  ·simp only[hr,hf,Option.getD_none,AI w hz,Sem.run_bind,Result.andThen,Sem.run_pure];rfl
  ·simp only[hr,hf,Option.getD_some,Sem.run_pure];rfl
end
section
variable {P:Program} {N:bW} {w0:World} {env:Env} {L:List ah} {l:List Oper} {Q:Exit->Act->World->Prop} {rest:List Oper} {d:Option Tmp} {ty:TypeId} {ps:String} {af:Array Edge} {α β:Type} {cC:α->Value} {dt:β->Value} {f:α->Option β}
theorem Mem.M6{w:World}(P:Program)(k:TypeId)(cC:α->Value)(dt:β->Value)(h:Mem w0 L w):Mem w0 (omap P k cC dt w.heap.size (fun _=>none)::L) (w.alloc (.map #[] 0)):=by
  refine h.call (E:=[omap P k cC dt w.heap.size (fun _=>none)]) ⟨(Below.refl _ _).alloc (Nat.le_refl _) _,fun e he=>?_,fun e he j hj=>?_,by simp⟩
  ·obtain rfl:e=omap P k cC dt w.heap.size (fun _=>none):=by simpa using he
   exact⟨#[],0,[],Below.As w _,rfl,by simp,by simp,by simp⟩
  ·obtain rfl:e=omap P k cC dt w.heap.size (fun _=>none):=by simpa using he
   have:j=w.heap.size:=hj;subst this;simp
theorem VR{t k e:TypeId}(cC:α→Value)(dt:β→Value){r:Operand}{kk:IntKind}{n:Int}[ht:xF P t k e](hr:ev env r=some (.int kk n))(hk: ∀b,Sq P N w0 l Q rest (cd env d (.map (some b))) (omap P k cC dt b (fun _=>none)::L))(hd:cO N d=true:=by rfl):
    Sq P N w0 l Q (⟨d, .makeMap t (some r),ty,ps,af,none⟩::rest) env L:=
  lN rfl hd fun a w ha hw=>⟨_,_,_,by
    simp only[execOp,Option.map_some,ha.ev hr,Instr.makeMap,Sem.run_bind,run_underlying ht.dB,Result.andThen,Sem.run_pure,asInt,asIntOf,newObj,Sem.run];rfl,hw.M6 P k cC dt,hk _⟩
theorem M7{t k e:TypeId}(cC:α→Value)(dt:β→Value)[ht:xF P t k e](hk: ∀b,Sq P N w0 l Q rest (cd env d (.map (some b))) (omap P k cC dt b (fun _=>none)::L))(hd:cO N d=true:=by rfl):
    Sq P N w0 l Q (⟨d, .makeMap t none,ty,ps,af,none⟩::rest) env L:=
  lN rfl hd fun a w ha hw=>⟨_,_,_,by
    simp only[execOp,Option.map_none,Instr.makeMap,Sem.run_bind,Result.andThen,Sem.run_pure,newObj,Sem.run];rfl,hw.M6 P k cC dt,hk _⟩
theorem VS{t k e:TypeId}{m x y:Operand}{b i:Nat}{v:α}{u:β}[DecidableEq α][ht:xF P t k e][K:zE P k][I:zF cC](hm:ev env m=some (.map (some b)))(hx:ev env x=some (cC v))(hy:ev env y=some (dt u))[q:tN P L b k cC dt f i](hv: ∃l,keyOf P k (cC v)=some l)
    {L':List ah} [hu:dX L i (omap P k cC dt b (fun z=>if z=v then some u else f z)) L'] {a:Act} {w:World} (ha:cE N env a) (hw:Mem w0 L w):
    ∃w',(execOp a.eval ⟨none, .mapUpdate t m x y,ty,ps,af,none⟩).run P w= .ok .skip w'/\Mem w0 L' w':=by
  obtain⟨es,clock,ml,h0,h1,h2,bX,h3⟩:=hw.get q.h;obtain⟨lk,hl⟩:=hv;have hc:=K.K.check w false hl;have bk:=K.K.stays w hl;have step: ∀o:Obj,(omap P k cC dt b (fun z=>if z=v then some u else f z)).sat (fun j=>(w.putObj b o).heap[j]?)->Mem w0 L' (w.putObj b o):=fun o ho=>by
    rw[←hu.h];exact hw.change q.h (fun j hj=>hj) (fun j hj=>World.putObj_heap_other (fun e=>hj e)) World.putObj_size ⟨rfl,rfl,rfl⟩ ho
  have aW:b<w.heap.size:=(Array.getElem?_eq_some_iff.1 h0).1;rcases M5 (P:=P) (k:=k) h1 h2 h3 ⟨lk,hl⟩ w with⟨hr,hf,nM⟩|⟨j,u0,hr,hj,hf,VT⟩
  ·refine⟨w.putObj b (.map (es.push {key:=cC v,val:=dt u,born:=clock}) (clock+1)),?_,step _ ⟨_,_,ml++[(v,u)],World.putObj_heap_same aW,?_,?_,?_,?_⟩⟩
   ·simp only[execOp,ha.ev hm,ha.ev hx,ha.ev hy,Instr.mapUpdate,Sem.run_bind,run_underlying ht.dB,Result.andThen,run_getObj_map h0,hc,hr,run_setObj_map _ h0,Sem.run_pure]
   ·simp[h1]
   ·intro p hp
    rcases List.mem_append.1 hp with hp|hp
    ·exact h2 p hp
    ·obtain rfl:p=(v,u):=by simpa using hp
     exact⟨lk,hl⟩
   ·rw[List.map_append,List.nodup_append]
    refine⟨bX,by simp,fun x1 oq y1 Gy e1=>?_⟩;obtain rfl:y1=v:=by simpa using Gy
    subst e1;obtain⟨p,hp,rfl⟩:=List.mem_map.1 oq;exact nM p.2 hp
   ·intro x' v'
    show(if x'=v then some u else f x')=some v'↔_
    by_cases e:x'=v
    ·subst e;rw[if_pos rfl]
     constructor
     ·intro h;cases h;simp
     ·intro h
      rcases List.mem_append.1 h with h|h
      ·exact absurd h (nM v')
      ·simp at h;rw[h]
    ·rw[if_neg e,h3 x' v'];simp[e]
  ·have hO:j<ml.length:=(List.getElem?_eq_some_iff.1 hj).1
   refine⟨w.putObj b (.map (es.modify j fun e=>{e with key:=cC v,val:=dt u}) clock),?_,step _ ⟨_,_,ml.set j (v,u),World.putObj_heap_same aW,?_,?_,?_,?_⟩⟩
   ·simp only[execOp,ha.ev hm,ha.ev hx,ha.ev hy,Instr.mapUpdate,Sem.run_bind,run_underlying ht.dB,Result.andThen,run_getObj_map h0,hc,hr,VT,Option.getD_some,bk,run_setObj_map _ h0,Sem.run_pure]
   ·refine List.ext_getElem? fun n=>?_
    have:=congrArg (·[n]?) h1;simp only[List.getElem?_map]at this⊢;rw[List.getElem?_set]
    by_cases e:j=n
    ·subst e
     rw[if_pos rfl,if_pos hO];rw[hj]at this
     cases he:es.toList[j]?with
     |none=>rw[he]at this;cases this
     |some e0=>
      have oT:es[j]? =some e0:=by simpa using he
      simp[Array.getElem?_modify,oT]
    ·rw[if_neg e,←this]
     simp[Array.getElem?_modify,e]
   ·intro p hp
    rcases List.mem_or_eq_of_mem_set hp with hp|rfl
    ·exact h2 p hp
    ·exact⟨lk,hl⟩
   ·rw[List.map_set]
    have:(ml.map Prod.fst)[j]? =some v:=by rw[List.getElem?_map,hj];rfl
    rw[show(ml.map Prod.fst).set j (v,u).1=ml.map Prod.fst from by
        refine List.ext_getElem? fun n=>?_;rw[List.getElem?_set]
        by_cases e:j=n
        ·subst e;rw[if_pos rfl,if_pos (by simpa using hO),this]
        ·rw[if_neg e]]
    exact bX
   ·intro x' v'
    have VU: ∀n p,ml[n]? =some p→p.1=v→n=j:=fun n p hn hp=>by
        have a1:(ml.map Prod.fst)[n]? =some v:=by rw[List.getElem?_map,hn,Option.map_some,hp]
        have a2:(ml.map Prod.fst)[j]? =some v:=by rw[List.getElem?_map,hj];rfl
        exact(List.getElem?_inj (by simpa using(List.getElem?_eq_some_iff.1 hn).1) bX).1 (a1.trans a2.symm)
    show(if x'=v then some u else f x')=some v'↔_
    by_cases e:x'=v
    ·subst e;rw[if_pos rfl]
     constructor
     ·intro h;cases h
      exact List.mem_of_getElem? (i:=j) (by rw[List.getElem?_set,if_pos rfl,if_pos hO])
     ·intro h
      obtain⟨n,hn⟩:=List.mem_iff_getElem?.1 h;rw[List.getElem?_set]at hn
      by_cases en:j=n
      ·rw[if_pos en,if_pos hO]at hn;simp only[Option.some.injEq,Prod.mk.injEq,true_and]at hn;rw[hn]
      ·rw[if_neg en]at hn;exact absurd (VU n _ hn rfl).symm en
    ·rw[if_neg e,h3 x' v']
     constructor
     ·intro h
      obtain⟨n,hn⟩:=List.mem_iff_getElem?.1 h;refine List.mem_of_getElem? (i:=n) ?_;rw[List.getElem?_set,if_neg,hn];rintro rfl;rw[hj]at hn;simp only[Option.some.injEq,Prod.mk.injEq]at hn;exact e hn.1.symm
     ·intro h
      rcases List.mem_or_eq_of_mem_set h with h|h
      ·exact h
      ·simp only[Prod.mk.injEq]at h;exact absurd h.1 e
theorem GA{t k e:TypeId}{m x y:Operand}{b i:Nat}{v:α}{u:β}[DecidableEq α][ht:xF P t k e][K:zE P k][I:zF cC](hm:ev env m=some (.map (some b)))(hx:ev env x=some (cC v))(hy:ev env y=some (dt u))[q:tN P L b k cC dt f i](hv: ∃l,keyOf P k (cC v)=some l)
    {L':List ah} [hu:dX L i (omap P k cC dt b (fun z=>if z=v then some u else f z)) L'] (hk:Sq P N w0 l Q rest env L'):
    Sq P N w0 l Q (⟨none, .mapUpdate t m x y,ty,ps,af,none⟩::rest) env L:=
  AP rfl rfl fun a w ha hw=>by
    obtain⟨w',h1,h2⟩:=VS (t:=t) (k:=k) (e:=e) (ty:=ty) (ps:=ps) (af:=af) hm hx hy hv (L':=L') ha hw;exact⟨w',L',h1,h2,hk⟩
end
open Go.Kb
theorem GB{w0 w:World}{L R:List ah}{e:ah}{i:Nat}(q:L[i]? =some e)(d:L.eraseIdx i=R)(h:Mem w0 L w):Mem w0 (e::R) w:=by
 have:=h.perm (mD q);rwa [d]at this
theorem pJ{w0 w:World}{L R1 R2:List ah}{e1 e2:ah}{i j:Nat}(h1:L[i]? =some e1)(d1:L.eraseIdx i=R1)(h2:R1[j]? =some e2)(d2:R1.eraseIdx j=R2)(h:Mem w0 L w):Mem w0 (e1::e2::R2) w:=by
 subst d1;subst d2;exact h.perm ((mD h1).trans ((mD h2).cons _))
theorem VW{p:cc}(h:cU p=true):IntKind.i64.wrap (1*2^min (4 -(p.len -4*((br p:Nat):Int))).toNat IntKind.i64.bits)=((2^jS p:Nat):Int):=by
 obtain⟨h1,h2⟩:=zg h;have e:(4 -(p.len -4*((br p:Nat):Int))).toNat=jS p:=rfl;rw[e];generalize jS p=x at h1
 match x,h1 with
 |0,_=>rfl
 |1,_=>rfl
 |2,_=>rfl
 |3,_=>rfl
 |4,_=>rfl
instance (priority:=low) ai.drop {L L':List ah}{e:ah}[k:ai L L']:ai (e::L) L':=⟨by
 obtain⟨R,hR⟩:=k.h;exact⟨e::R,(hR.cons e).trans List.perm_middle.symm⟩⟩
section
variable {P:Program} {N:bW} {w0:World} {env:Env} {L:List ah} {Q:Exit->Act->World->Prop} {d:Option Tmp} {ty:TypeId} {ps:String} {af:Array Edge} {gd:Option (Nat×Bool)} {K:Value->List ah->Prop}
theorem Ry.to{o:Oper}{v v':Value}(h:Ry P N w0 env L o v)(e:v=v'):Ry P N w0 env L o v':=e▸h
theorem qH{f:FuncId}{x:Operand}{jB:Array Value}{xs:List Operand}{ts:Array TypeId}{vs:List Value}{v:Value}[hf:aC P f](hx:ev env x=some (.func (.func f) #[] jB))(VX:fV env xs=some vs)
  (hc: ∀w,Mem w0 L w->Calls P f (vs++jB.toList).toArray w fun e w'=>e= .returned v/\Mem w [] w'):
  Yl P N w0 env L ⟨d, .call {callee:= .value x,args:=xs.toArray,argTypes:=ts},ty,ps,af,gd⟩ v:=fun a ha w hw=>by
 unfold Oper.quietAt;obtain⟨fn,h1,h2,h3⟩:=hf.fn;have DF: ¬fn.body=none:=fun e=>by simp[e]at h2
 have wa: ¬fn.name= "runtime.NumGoroutine" :=by simpa using h3
 have e:(execOp a.eval ⟨d, .call {callee:= .value x,args:=xs.toArray,argTypes:=ts},ty,ps,af,gd⟩).run P w= .ok (.enter f (vs++jB.toList).toArray) w:=by
  have hm:=ha.fV VX;simp[execOp,resolve,ha.ev hx,Deferred.ofValue,invoke,callFunc,h1,DF,wa,Result.andThen,←hm]
 rw[e];exact⟨rfl,hc w hw⟩
theorem GC{f:Fn}{xs:List Operand}{vs:List Value}(hx:fV env xs=some vs):Ry P N w0 env L ⟨d, .makeFunc f #[] xs.toArray,ty,ps,af,gd⟩ (.func f #[] vs.toArray):=fun a w ha _=>by
 have hm:=ha.fV hx;simp[execOp,Instr.makeFunc,Result.andThen,←hm]
instance (s:Sv):bL (qc s) 0 s.val:=⟨rfl⟩
instance (s:Sv):bL s.val.cells 0 s.val:=⟨by rw[Sv.fY];rfl⟩
variable {s:Sv} {xs:List Nd} {a:Nd}
theorem VY{t:TypeId}{x y:Operand}{i k p:Nat}{v:Int}[ht:ez P t](hx:ev env x=some (.pointer (some ⟨s.b,p,none⟩)))(hy:ev env y=some (.int .i64 v))[q:dN L s cP 48 xs i](ha:xs[k]? =some a)(b:Nat)(hb:b<16)(eB:p=s.o+k*48+32+b){L':List ah}[hu:dX L i (own cP 48 s (xs.set k (a.tn b v))) L'](hk:K undef (L')):
  fN P N w0 env L ⟨none, .store t x y,ty,ps,af,none⟩ K:=
 th (j:=32+b) (n:=1) (a':=a.tn b v) ht.size hx hy (q:=q) (by omega) ha (by simp[Value.cells,Value.oneCell']) rfl (by omega) (SM a hb v) hk
end
end Go.aA
namespace Go.Proofs.YtkggjjnhnjjokaaGreatDoor
open Go.aA Go.Kb Go.RowKit
instance:dj Tryz.prog 97 (.agg (cZ wW)):=⟨by kernel_rfl⟩
instance:dj Tryz.prog 180 (.agg (bK nt)):=⟨by kernel_rfl⟩
instance:dj Tryz.prog 59 (.agg (aE fe)):=⟨by kernel_rfl⟩
instance:dj Tryz.prog 5 (.int .u8 0):=⟨by kernel_rfl⟩
instance:dj Tryz.prog 53 (.slice none 0 0):=⟨by kernel_rfl⟩
theorem VZ(w:World)(b:Int)(n:Int)(s:Int):Calls Tryz.prog 93 #[.int .i64 b, .int .i64 n, .int .i64 s] w fun e w'=>e= .returned (.bool (qm b n s))/\Mem w [] w':=by
 refine pf Tryz.func93 rfl Tryz.ntmps93 rfl ?_;refine RE ?_;refine Gr fun w1 hw=>?_;exact⟨rfl,ai.mem hw⟩
variable {w0:World}{L:List ah}
instance aia{b:Int}{n:Int}{s:Int}:bO Tryz.prog 93 w0 L [.int .i64 b, .int .i64 n, .int .i64 s] (.bool (qm b n s)) (True):=⟨fun hp w hw=>VZ w b n s⟩
theorem V0(w:World)(c:Cp)(hc:Deep.aU (hp w) c):Calls Tryz.prog 106 #[.agg (aE c)] w fun e w'=>e= .returned (.bool (aX (cv c)))/\Mem w [] w':=by
 have jg:bQ w c:=⟨hc⟩;have dS:=fw c.blocks.xs;have bZ:aX (cv c)=true↔qm c.blocks.xs.length c.ae c.size=true/\0<=c.ops/\c.ops<=dJ/\c.bb.xs.length<=64/\ ∀b∈gx c.blocks.xs,nv c.ae c.size b=true:=by rw[dZ];simp only[cv,dS]
 have vm:dJ=1099511627776:=rfl;refine bS Tryz.func106 rfl Tryz.ntmps106 rfl ?_;refine Gc ?_;refine bM rfl fun b1=>?_;refine RF ?_;refine Gb (fun h0=>?_) fun h0=>?_
 ·
  have hz:aX (cv c)=false:=by
   cases hk:aX (cv c)with
   |false=>rfl
   |true=>
    have g:=bZ.1 hk;rw[g.1]at h0;simp only[Bool.true_eq_false,false_or]at h0;omega
  refine ak ?_;refine Gr fun w1 hw=>?_;exact Ge (hz.symm) hw
 have g0:qm c.blocks.xs.length c.ae c.size=true/\0<=c.ops/\c.ops<=dJ/\c.bb.xs.length<=64:=by
  cases hk:qm c.blocks.xs.length c.ae c.size with
  |false=>rw[hk]at h0;simp at h0
  |true=>rw[hk]at h0;simp only[Bool.true_eq_false,not_false_eq_true,true_and]at h0;exact⟨rfl,by omega,by omega,by omega⟩
 have gs:=jT.1 g0.1;refine aS ?_;refine bA (X:=Nat) (fun U=>[(35, .int .i64 (U:Nat)),(1, .pointer (some ⟨b1,0,none⟩)),(33,c.blocks.sv.val),(34, .int .i64 (c.blocks.xs.length:Nat))]) (fun U=>[an b1 (aE c) 59]) (fun U=>U<=c.blocks.xs.length/\ ∀j b,j<U->(gx c.blocks.xs)[j]? =Option.some b->nv c.ae c.size b=true) (fun U=>c.blocks.xs.length -U) 0 ⟨Nat.zero_le _,fun j b hj=>by first|omega|(simp only[];omega)⟩ sb (fun w hw=>ai.mem hw) ?_;rintro i ⟨aT,az⟩;refine ak ?_;refine Gb (fun h1=>?_) fun h1=>?_
 ·
  refine k8 ?_;obtain⟨x,hx⟩:=get_some (xs:=c.blocks.xs) (i:=i) oM;refine ag (aR rfl rfl i rfl oM) ?_;refine ag (dO rfl i hx rfl) ?_;have aib:Mb x c.blocks:=⟨List.mem_of_getElem? hx⟩;refine bj fun b4=>?_;refine RG ?_;refine Gb (fun h2=>?_) fun h2=>?_
  ·
   have hz:aX (cv c)=false:=by
    cases hk:aX (cv c)with
    |false=>rfl
    |true=>
     have g:=fO.1 ((bZ.1 hk).2.2.2.2 (bv x) (List.mem_of_getElem? (kC hx)));simp only[bv,l4]at g;omega
   refine ak ?_;refine Gr fun w1 hw=>?_;exact Ge (hz.symm) hw
  refine aS ?_;refine bA (X:=Nat) (fun U=>[(70, .int .i64 (U:Nat)),(1, .pointer (some ⟨b1,0,none⟩)),(33,c.blocks.sv.val),(34, .int .i64 (c.blocks.xs.length:Nat)),(35, .int .i64 (i:Nat)),(68,x.ae.sv.val),(69, .int .i64 (x.ae.xs.length:Nat))]) (fun U=>[an b4 (bK x) 180,an b1 (aE c) 59]) (fun U=>U<=x.ae.xs.length/\ ∀k y,k<U->(bv x).ae[k]? =Option.some y->(y.length:Int)=c.size) (fun U=>x.ae.xs.length -U) 0 ⟨Nat.zero_le _,fun k y hk=>by first|omega|(simp only[];omega)⟩ sb (fun w hw=>ai.mem hw) ?_;rintro j ⟨lC,dz⟩;refine ak ?_;refine Gb (fun h3=>?_) fun h3=>?_
  ·
   refine k8 ?_;obtain⟨y,hy⟩:=get_some (xs:=x.ae.xs) (i:=j) oM;refine ag (aR rfl rfl j rfl oM) ?_;refine ag (bw (j:=0) rfl j hy rfl (by decide)) ?_;have aic:Mb y _:=⟨List.mem_of_getElem? hy⟩;refine dr ?_;refine Gb (fun h4=>?_) fun h4=>?_
   ·
    have hz:aX (cv c)=false:=by
     cases hk:aX (cv c)with
     |false=>rfl
     |true=>
      have g:=(fO.1 ((bZ.1 hk).2.2.2.2 (bv x) (List.mem_of_getElem? (kC hx)))).2.2.2.2.2 y.xs (List.mem_of_getElem? (nu hy));omega
    refine ak ?_;refine Gr fun w1 hw=>?_;exact Ge (hz.symm) hw
   refine ak ?_;refine Gi ?_;exact aV (x:=(j)) (j+1) ⟨oF,fun k z hk hz=>if e:k=j then(by subst e;rw[show(bv x).ae=aG x.ae.xs from rfl,nu hy]at hz;cases hz;omega)else dz k z oF hz⟩ oF sb (fun w hw=>ai.mem hw)
  have xr:nv c.ae c.size (bv x)=true:=fO.2 ⟨by simp only[bv,l4];omega,by simp only[bv];omega,by simp only[bv];omega,by simp only[bv];omega,by simp only[bv];omega,fun y hy=>by
   obtain⟨k,hk⟩:=List.getElem?_of_mem hy;exact dz k y (by have h:=(List.getElem?_eq_some_iff.1 hk).1;simp only[bv,l4]at h;omega) hk⟩
  refine ak ?_;refine Gi ?_;exact aV (x:=(i)) (i+1) ⟨oF,fun j b hj hb=>if e:j=i then(by subst e;rw[kC hx]at hb;cases hb;exact xr)else az j b oF hb⟩ oF sb (fun w hw=>ai.mem hw)
 obtain rfl:i=c.blocks.xs.length:=by omega
 have hz:aX (cv c)=true:=bZ.2 ⟨g0.1,g0.2.1,g0.2.2.1,g0.2.2.2,fun b hb=>by
  obtain⟨j,hj⟩:=List.getElem?_of_mem hb;exact az j b (by have:=(List.getElem?_eq_some_iff.1 hj).1;omega) hj⟩
 refine ak ?_;refine Gr fun w1 hw=>?_;exact Ge (hz.symm) hw
instance aid{c:Cp}[hc:aO w0 L c]:bO Tryz.prog 106 w0 L [.agg (aE c)] (.bool (aX (cv c))) (True):=⟨fun hp w hw=>V0 w c (hc.h w hw)⟩
theorem V1{xs:List UInt8}{k i:Nat}(h:k+i<xs.length):(xs.take k++(List.replicate i 255++xs.drop (k+i))).set (k+i) 255=xs.take k++(List.replicate (i+1) 255++xs.drop (k+(i+1))):=by
 rw[List.set_append_right _ _ (by rw[List.length_take];omega),List.length_take,Nat.min_eq_left oM,Nat.add_sub_cancel_left,List.set_append_right _ _ (by simp),List.length_replicate,Nat.sub_self,List.drop_eq_getElem_cons h,List.set_cons_zero,List.replicate_succ',List.append_assoc,List.singleton_append,Nat.add_assoc]
theorem V2(w0 w:World)(L:List ah)(rm:Sv)(k:Nat)(n:Nat)(cap:Nat)(xs:List UInt8)(hw:Mem w0 (own aJ 1 rm xs::L) w)(aP:k+n<=xs.length/\n<=1000000):Calls Tryz.prog 94 #[.slice (some ⟨rm.b,rm.o+k,none⟩) n cap] w fun e w'=> ∃U:Unit,e= .returned (.tuple #[])/\(True)/\Mem w0 (own aJ 1 rm (xs.take k++(List.replicate n 255++xs.drop (k+n)))::L) w':=by
 obtain⟨fh,fQ⟩:=aP;refine iA (args:=[_]) Tryz.func94 rfl Tryz.ntmps94 rfl hw ?_;change Cw _ _ _ _ _ [(0, .slice (some ⟨rm.b,rm.o+k,none⟩) n cap)] (own aJ 1 rm xs::L);refine au ?_;refine ag (uz rfl) ?_;refine au ?_;refine bA (X:=Nat×List UInt8) (fun U=>[(5, .int .i64 (U.1:Nat)),(0, .slice (some ⟨rm.b,rm.o+k,none⟩) n cap),(4, .int .i64 (n:Nat))]) (fun U=>own aJ 1 rm U.2::L) (fun U=>U.1<=n/\U.2=xs.take k++(List.replicate U.1 255++xs.drop (k+U.1))) (fun U=>n -U.1) (0,xs) ⟨Nat.zero_le _,by simp⟩ sb (fun w hw=>ai.mem hw) ?_;rintro⟨i,zs⟩ ⟨aT,az⟩;dsimp only;simp only at aT az;have qI:zs.length=xs.length:=by rw[az];simp only[List.length_append,List.length_take,List.length_replicate,List.length_drop];omega
 refine ak ?_;refine Gb (fun h0=>?_) fun h0=>?_
 ·
  refine aS ?_;refine ag (Ih (b:=rm.b) (o:=rm.o+k) (len:=n) (cap:=cap) rfl rfl oM oM) ?_;obtain⟨z,hz⟩:=get_some (xs:=zs) (i:=k+i) oM;refine iz (s:=rm) (n:=1) (k:=k+i) (j:=0) (a:=z) (a':=(255:UInt8)) (xs:=zs) (enc:=aJ) (c:=1) (v:= .int .u8 255) oK rfl rfl oM hz (by simp[Value.cells,Value.oneCell']) rfl oM (by rfl) ?_;refine ak ?_;refine Gi ?_;exact aV (x:=(i,zs)) (i+1,zs.set (k+i) 255) ⟨oF,by rw[az];exact V1 oF⟩ (by simp only;omega) sb (fun w hw=>ai.mem hw)
 obtain rfl:i=n:=by omega
 refine Gc ?_;refine fW (.inr rfl) (Gw rfl) (fun w1 hw=>?_);exact⟨(),rfl,trivial,by rw[←az];exact ai.mem hw⟩
instance V3{w0:World}{L L2:List ah}{i:Nat}{rm:Sv}{k:Nat}{n:Nat}{cap:Nat}{xs:List UInt8}[q:dN L rm aJ 1 xs i][d1:cI L i L2]:bJ Tryz.prog 94 w0 L [.slice (some ⟨rm.b,rm.o+k,none⟩) n cap] (Unit) (fun U=> .tuple #[]) (fun U=>own aJ 1 rm (xs.take k++(List.replicate n 255++xs.drop (k+n)))::L2) (fun U=>True) (k+n<=xs.length/\n<=1000000):=⟨fun hp w hw=>V2 w0 w L2 rm k n cap xs (GB q.h d1.h hw) hp⟩
theorem V4(w:World)(s:Sv)(ss:List Bk)(hs:bI bK 4 (hp w) s ss)(aP:ss.length<=1000000):Calls Tryz.prog 162 #[s.val] w fun e w'=> ∃U:Sv,e= .returned (U.val)/\(True)/\Mem w [own bK 4 U ss] w':=by
 have r8:Gv w s bK 4 ss:=⟨hs⟩;refine bS Tryz.func162 rfl Tryz.ntmps162 rfl ?_;refine aq ?_;refine ag (oU Tryz.underlying56 rfl) ?_;refine Gc ?_;refine Gb (fun h0=>?_) fun h0=>?_
 ·
  have e0:ss=[]:=List.length_eq_zero_iff.1 (by have:=hs.ok.nil h0;have:=hs.len;omega);refine ak ?_;refine Gr fun w1 hw=>?_;exact⟨Sv.none,rfl,trivial,by rw[e0];exact(ai.mem hw:Mem w [] _).cR bK 4⟩
 refine Gc ?_;refine qe bK fun b5=>?_;refine Gs ?_;refine iS (s:=⟨false,b5,0,0,0,none⟩) (enc:=bK) (ys:=ss) rfl rfl (by decide) (fun w hw=>gM (s:=s) Tryz.underlying56 (by decide) ((inferInstance:cz _ _ bK 4 s ss).h w hw)) (by simp only[List.length_nil];omega) (by simp only[List.length_nil];omega) fun s7 r9 qJ=>?_;refine au ?_;refine Gr fun w1 hw=>?_;exact⟨s7,rfl,trivial,by rw[List.nil_append]at hw;exact ai.mem hw⟩
instance aie{s:Sv}{ss:List Bk}[hs:cz w0 L bK 4 s ss]:bJ Tryz.prog 162 w0 L [s.val] (Sv) (fun U=>U.val) (fun U=>own bK 4 U ss::L) (fun U=>True) (ss.length<=1000000):=⟨fun hp w hw=>(V4 w s ss (hs.h w hw) hp).mono fun e w' ⟨x,h1,h2,h3⟩=>⟨x,h1,h2,hw.call h3⟩⟩
theorem V5(w:World)(s:Sv)(ss:List Ft)(hs:bI cZ 4 (hp w) s ss)(aP:ss.length<=1000000):Calls Tryz.prog 107 #[s.val] w fun e w'=> ∃U:Sv,e= .returned (U.val)/\(True)/\Mem w [own cZ 4 U ss] w':=by
 have r8:Gv w s cZ 4 ss:=⟨hs⟩;refine bS Tryz.func107 rfl Tryz.ntmps107 rfl ?_;refine aq ?_;refine ag (oU Tryz.underlying57 rfl) ?_;refine Gc ?_;refine Gb (fun h0=>?_) fun h0=>?_
 ·
  have e0:ss=[]:=List.length_eq_zero_iff.1 (by have:=hs.ok.nil h0;have:=hs.len;omega);refine ak ?_;refine Gr fun w1 hw=>?_;exact⟨Sv.none,rfl,trivial,by rw[e0];exact(ai.mem hw:Mem w [] _).cR cZ 4⟩
 refine Gc ?_;refine qe cZ fun b5=>?_;refine Gs ?_;refine iS (s:=⟨false,b5,0,0,0,none⟩) (enc:=cZ) (ys:=ss) rfl rfl (by decide) (fun w hw=>gM (s:=s) Tryz.underlying57 (by decide) ((inferInstance:cz _ _ cZ 4 s ss).h w hw)) (by simp only[List.length_nil];omega) (by simp only[List.length_nil];omega) fun s7 r9 qJ=>?_;refine au ?_;refine Gr fun w1 hw=>?_;exact⟨s7,rfl,trivial,by rw[List.nil_append]at hw;exact ai.mem hw⟩
instance aif{s:Sv}{ss:List Ft}[hs:cz w0 L cZ 4 s ss]:bJ Tryz.prog 107 w0 L [s.val] (Sv) (fun U=>U.val) (fun U=>own cZ 4 U ss::L) (fun U=>True) (ss.length<=1000000):=⟨fun hp w hw=>(V5 w s ss (hs.h w hw) hp).mono fun e w' ⟨x,h1,h2,h3⟩=>⟨x,h1,h2,hw.call h3⟩⟩
theorem V6(w:World)(ps:Sl (Sl UInt8))(zG:Deep.aU (hp w) ps)(aP:Fg (aG ps.xs)):Calls Tryz.prog 179 #[ps.sv.val] w fun e w'=> ∃U:Sl (Sl UInt8),e= .returned (U.sv.val)/\(aG U.xs=aG ps.xs)/\Mem w [dP U] w':=by
 have aih:bQ w ps:=⟨zG⟩;obtain⟨fh,fQ⟩:=aP;have gq:=l4 ps.xs;rw[gq]at fh;refine bS Tryz.func179 rfl Tryz.ntmps179 rfl ?_;refine aq ?_;refine ag (oU Tryz.underlying178 rfl) ?_;refine Gc ?_;refine Gb (fun h0=>?_) fun h0=>?_
 ·
  have e0:ps.xs=[]:=List.length_eq_zero_iff.1 (by have:=zG.1.ok.nil h0;have:=zG.1.len;omega);refine ak ?_;refine Gr fun w1 hw=>?_;exact⟨⟨Sv.none,[]⟩,rfl,by rw[e0],S2 (Mem.cR (bP (τ:=UInt8)) 1 (ai.mem hw:Mem w [] _))⟩
 refine cw ?_;refine bA (X:=Nat×Nat) (fun U=>[(15, .int .i64 (U.1:Nat)),(3, .int .i64 (U.2:Nat)),(0,ps.sv.val),(13,ps.sv.val),(14, .int .i64 (ps.xs.length:Nat))]) (fun U=>[]) (fun U=>U.1<=ps.xs.length/\U.2=((aG ps.xs).take U.1).flatten.length) (fun U=>ps.xs.length -U.1) (0,0) ⟨Nat.zero_le _,by simp⟩ sb (fun w hw=>ai.mem hw) ?_;rintro⟨i,mm⟩ ⟨aT,az⟩;dsimp only;simp only at aT az;refine ak ?_;refine Gb (fun h1=>?_) fun h1=>?_
 ·
  obtain⟨y,hy⟩:=get_some (xs:=ps.xs) (i:=i) oM;have CG:Mb y ps:=⟨List.mem_of_getElem? hy⟩;have xG:=zk (nu hy);have gK:=zl (aG ps.xs) (i+1);refine Gc ?_;refine ag (aR rfl rfl i rfl oM) ?_;refine ag (bw (j:=0) rfl i hy rfl (by decide)) ?_;have aii:Mb y _:=⟨List.mem_of_getElem? hy⟩;refine pe ?_;refine Gi ?_;exact aV (x:=(i,mm)) (i+1,mm+y.xs.length) ⟨oF,by rw[az,xG]⟩ (by simp only;omega) sb (fun w hw=>ai.mem hw)
 obtain rfl:i=ps.xs.length:=by omega
 rw[List.take_of_length_le oM]at az;have hN:mm=(aG ps.xs).flatten.length:=az;refine au ?_;refine qb (enc:=aJ) (n:=0) (cap:=mm) 0 rfl rfl rfl rfl rfl oM oM oM fun tO=>?_;refine aq ?_;refine qb (enc:=bP (τ:=UInt8)) (n:=ps.xs.length) (cap:=ps.xs.length) (⟨Sv.none,[]⟩:Sl UInt8) rfl rfl rfl rfl rfl oM oM oM fun pK=>?_;refine aS ?_;refine bA (X:=Nat×Nat×List UInt8×List (Sl UInt8)) (fun U=>[(31, .int .i64 (U.1:Nat)),(6,(⟨false,tO,0,U.2.1,mm,none⟩:Sv).val),(7,(⟨false,pK,0,ps.xs.length,ps.xs.length,none⟩:Sv).val),(29,ps.sv.val),(30, .int .i64 (ps.xs.length:Nat))]) (fun U=>[own aJ 1 ⟨false,tO,0,U.2.1,mm,none⟩ U.2.2.1,own (bP (τ:=UInt8)) 1 ⟨false,pK,0,ps.xs.length,ps.xs.length,none⟩ U.2.2.2]) (fun U=>U.1<=ps.xs.length/\U.2.1=U.2.2.1.length/\U.2.2.1=((aG ps.xs).take U.1).flatten/\U.2.2.2=cQ ⟨false,tO,0,mm,mm,none⟩ 0 ((aG ps.xs).take U.1)++List.replicate (ps.xs.length -U.1) (⟨Sv.none,[]⟩:Sl UInt8)) (fun U=>ps.xs.length -U.1) (0,0,List.replicate 0 0,List.replicate ps.xs.length (⟨Sv.none,[]⟩:Sl UInt8)) ⟨Nat.zero_le _,rfl,by simp,by simp[cQ]⟩ sb (fun w hw=>ai.mem hw) ?_;rintro⟨i,m,r,zs⟩ ⟨aT,az,ba,ck⟩;dsimp only;simp only at aT az ba ck;refine ak ?_;refine Gb (fun h2=>?_) fun h2=>?_
 ·
  obtain⟨y,hy⟩:=get_some (xs:=ps.xs) (i:=i) oM;have CG:Mb y ps:=⟨List.mem_of_getElem? hy⟩;have xG:=zk (nu hy);have gK:=zl (aG ps.xs) (i+1);have tP:r.length+y.xs.length<=mm:=by rw[hN,ba,←xG];exact gK
  have tT:=get_some (xs:=zs) (i:=i) (by rw[ck,List.length_append,Fc,List.length_take,List.length_replicate];omega);obtain⟨z,hz⟩:=tT;have qI:i<zs.length:=(List.getElem?_eq_some_iff.1 hz).1;refine au ?_;refine ag (aR rfl rfl i rfl oM) ?_;refine ag (bw (j:=0) rfl i hy rfl (by decide)) ?_;have aij:Mb y _:=⟨List.mem_of_getElem? hy⟩;refine fc ?_;refine S0 (s:=⟨false,tO,0,m,mm,none⟩) (enc:=aJ) (xs:=r) (ys:=y.xs) rfl rfl (fun w hw=>gM (s:=y.sv) Tryz.underlying53 (by decide) ((inferInstance:cz _ _ aJ 1 y.sv y.xs).h w hw)) rfl (by simp only;omega) (by simp only;omega) ?_;refine pe ?_;refine ag (Ry.to (v':=(win (⟨false,tO,0,mm,mm,none⟩:Sv) r.length (r.length+y.xs.length)).val) (J3 (l:=r.length) (h:=(r++y.xs).length) (m:=(r++y.xs).length) rfl rfl rfl rfl rfl rfl rfl (by simp) (by simp) (by simp)) (by simp[win,Sv.sub,Sv.top])) ?_;refine ag (aR rfl rfl i rfl oM) ?_;refine A5 (s:=⟨false,pK,0,ps.xs.length,ps.xs.length,none⟩) (xs:=zs) (k:=i) (a:=z) (⟨(win (⟨false,tO,0,mm,mm,none⟩:Sv) r.length (r.length+y.xs.length)),y.xs⟩:Sl UInt8) oK rfl rfl oM hz ?_;refine ak ?_;refine Gi ?_;exact aV (x:=(i,m,r,zs)) (i+1,m+y.xs.length,r++y.xs,zs.set i ⟨(win (⟨false,tO,0,mm,mm,none⟩:Sv) r.length (r.length+y.xs.length)),y.xs⟩) ⟨oF,by rw[List.length_append,az],by rw[ba,List.take_add_one,nu hy];simp,by rw[ck];exact S4 (by rw[gq]) ba (nu hy)⟩ (by simp only;omega) sb (fun w hw=>ai.mem hw)
 obtain rfl:i=ps.xs.length:=by omega
 rw[List.take_of_length_le oM]at ba ck;rw[Nat.sub_self,List.replicate_zero,List.append_nil]at ck;refine aq ?_;refine Gr fun w1 hw=>?_;exact⟨⟨⟨false,pK,0,ps.xs.length,ps.xs.length,none⟩,zs⟩,rfl,by rw[ck,tp],KL (rm:=⟨false,tO,0,mm,mm,none⟩) ck rfl (by rw[show m=mm by rw[az,ba,hN],ba]at hw;exact ai.mem hw)⟩
instance aik{ps:Sl (Sl UInt8)}[zG:aO w0 L ps]:bJ Tryz.prog 179 w0 L [ps.sv.val] (Sl (Sl UInt8)) (fun U=>U.sv.val) (fun U=>dP U::L) (fun U=>aG U.xs=aG ps.xs) (Fg (aG ps.xs)):=⟨fun hp w hw=>(V6 w ps (zG.h w hw) hp).mono fun e w' ⟨x,h1,h2,h3⟩=>⟨x,h1,h2,hw.call h3⟩⟩
theorem V7(w:World)(c:Cp)(hc:Deep.aU (hp w) c)(aP:du c):Calls Tryz.prog 105 #[.agg (aE c)] w fun e w'=> ∃U:Cp,e= .returned (.agg (aE U))/\(cv U=cv c)/\Mem w [own bK 4 U.blocks.sv U.blocks.xs,ah.all (U.blocks.xs.map fun b:Bk=>dP b.ae),own cZ 4 U.bb.sv U.bb.xs] w':=by
 have jg:bQ w c:=⟨hc⟩;obtain⟨fh,fQ,jC⟩:=aP;refine bS Tryz.func105 rfl Tryz.ntmps105 rfl ?_;refine Gc ?_;refine bM rfl fun b1=>?_;refine bj fun b2=>?_;refine ak ?_;refine bf rfl oM fun x6 M8=>?_;refine Gs ?_;refine dw (cs':=aE (⟨c.ae,c.size,⟨x6,c.blocks.xs⟩,c.ops,c.off,c.bb⟩:Cp)) rfl rfl (by show 2<6;decide) (by first|rfl|exact Sv.one _) rfl ?_;refine aS ?_;refine bA (X:=Nat×List Bk) (fun U=>[(11, .int .i64 (U.1:Nat)),(1, .pointer (some ⟨b1,0,none⟩)),(2, .pointer (some ⟨b2,0,none⟩)),(10, .int .i64 (c.blocks.xs.length:Nat))]) (fun U=>[own bK 4 x6 U.2,ah.all ((U.2.take U.1).map fun b:Bk=>dP b.ae),an b2 (aE fe) 59,an b1 (aE (⟨c.ae,c.size,⟨x6,U.2⟩,c.ops,c.off,c.bb⟩:Cp)) 59]) (fun U=>U.1<=c.blocks.xs.length/\U.2.length=c.blocks.xs.length/\gx U.2=gx c.blocks.xs/\ ∀j,U.1<=j->U.2[j]? =c.blocks.xs[j]?) (fun U=>c.blocks.xs.length -U.1) (0,c.blocks.xs) ⟨Nat.zero_le _,rfl,rfl,fun _ _=>rfl⟩ sb (fun w hw=>by
  simp only[List.take_zero,List.map_nil];exact ai.mem (Mem.rr hw)) ?_
 rintro⟨i,zs⟩ ⟨aT,az,ba,ck⟩;dsimp only;simp only at aT az ba ck;refine ak ?_;refine Gb (fun h0=>?_) fun h0=>?_
 ·
  obtain⟨z,hz⟩:=get_some (xs:=zs) (i:=i) oM;have sa:Mb z c.blocks:=⟨List.mem_of_getElem? (by rw[←ck i (Nat.le_refl _)];exact hz)⟩;refine ak ?_;refine iV ?_;refine Bw (s:=x6) (enc:=bK) (c:=4) (xs:=zs) inferInstance oM fun hn6 hs6 V8 V9=>?_;refine gF [9,12,1003,1004,1006,1007,1008,1010,1011] [[],[],[],[],[3],[],[3,4],[3,4,6],[3,4,6,7],[3,4,6,7,8],[3,4,6,7,8,9],[3,4,6,7,8,9,10],[3,4,6,7,8,9,10,11]] [0,1,2,3,4,5,6,7,8,9,10,11,12] [an b1 (aE (⟨c.ae,c.size,⟨x6,zs⟩,c.ops,c.off,c.bb⟩:Cp)) 59] (fun _ hw=>ai.mem hw) oK oK ?_;refine al rfl (aN (o':=2) rfl rfl) ?_;refine al rfl (bN rfl) ?_;refine al rfl (aZ rfl) ?_;refine jr rfl (aN (o':=2) rfl rfl) ?_;refine jr rfl (bN rfl) ?_;refine al rfl (aZ rfl) ?_;refine jr rfl (aR rfl rfl i rfl oM) ?_;refine jr rfl (aN rfl rfl) ?_;refine jr rfl (bw (j:=0) rfl i hz rfl (by decide)) ?_;refine cY rfl (mM rfl (jC z sa.h) fun lD CH=>⟨fun _ hw=>ai.mem hw,?_⟩);refine jr rfl (kT (s:=x6) (i:=i) rfl rfl rfl V8 oM) ?_;refine jr rfl (aN rfl rfl) ?_;refine cY rfl (th (n:=1) (k:=i) (j:=0) (a:=z) (a':=({z with ae:=lD}:Bk)) (xs:=zs) (enc:=bK) (c:=4) (v:=lD.sv.val) oK rfl rfl rfl hz (by rw[Sv.fY];simp[Sv.one]) (by rw[Sv.fY];rfl) (by decide) (by rw[Sv.fY];rfl) ⟨fun _ hw=>ai.mem hw,?_⟩)
  refine ak ?_;refine Gi ?_;exact aV (x:=(i,zs)) (i+1,zs.set i ({z with ae:=lD}:Bk)) ⟨oF,by rw[List.length_set];exact az,by rw[ve,←ba,show bv ({z with ae:=lD}:Bk)=bv z from by rw[bv,bv,CH],←ve,w5 hz],fun j hj=>by rw[List.getElem?_set_ne oF];exact ck j oF⟩ (by simp only;omega) sb (fun w hw=>by
   have h1:=Mem.w4 (e:=dP lD) (es:=(zs.take i).map fun b:Bk=>dP b.ae) (ai.mem hw:Mem _ (dP lD::ah.all ((zs.take i).map fun b:Bk=>dP b.ae)::[own bK 4 x6 (zs.set i ({z with ae:=lD}:Bk)),an b2 (aE fe) 59,an b1 (aE (⟨c.ae,c.size,⟨x6,zs⟩,c.ops,c.off,c.bb⟩:Cp)) 59]) _)
   rw[Tc (z':=({z with ae:=lD}:Bk)) hz]at h1
   exact(ai.mem h1:Mem _ [own bK 4 x6 (zs.set i ({z with ae:=lD}:Bk)),ah.all (((zs.set i ({z with ae:=lD}:Bk)).take (i+1)).map fun b:Bk=>dP b.ae),an b2 (aE fe) 59,an b1 (aE (⟨c.ae,c.size,⟨x6,zs⟩,c.ops,c.off,c.bb⟩:Cp)) 59] _))
 obtain rfl:i=zs.length:=by omega
 rw[List.take_of_length_le (Nat.le_refl _)]at*;refine au ?_;refine ag (Ry.to (v':=c.bb.sv.val) (bN rfl) rfl) ?_;refine bf rfl oM fun xH GD=>?_;refine Gs ?_;refine dw (cs':=aE (⟨c.ae,c.size,⟨x6,zs⟩,c.ops,c.off,⟨xH,c.bb.xs⟩⟩:Cp)) rfl rfl (by show 5<6;decide) (by first|rfl|exact Sv.one _) rfl ?_;refine aq ?_;refine Gr fun w1 hw=>?_;exact⟨⟨c.ae,c.size,⟨x6,zs⟩,c.ops,c.off,⟨xH,c.bb.xs⟩⟩,rfl,by simp only[cv,ba],ai.mem hw⟩
instance ail{c:Cp}[hc:aO w0 L c]:bJ Tryz.prog 105 w0 L [.agg (aE c)] (Cp) (fun U=> .agg (aE U)) (fun U=>own bK 4 U.blocks.sv U.blocks.xs::ah.all (U.blocks.xs.map fun b:Bk=>dP b.ae)::own cZ 4 U.bb.sv U.bb.xs::L) (fun U=>cv U=cv c) (du c):=⟨fun hp w hw=>(V7 w c (hc.h w hw) hp).mono fun e w' ⟨x,h1,h2,h3⟩=>⟨x,h1,h2,hw.call h3⟩⟩
theorem Wa(w:World)(c:Cp)(b:Int)(hc:Deep.aU (hp w) c):Calls Tryz.prog 298 #[.agg (aE c), .int .i64 b] w fun e w'=>e= .returned (.bool (ke (cv c) b))/\Mem w [] w':=by
 have jg:bQ w c:=⟨hc⟩;refine cl Tryz.func298 rfl Tryz.ntmps298 rfl ?_;refine Gc ?_;refine bM rfl fun b2=>?_;refine JV ?_;refine Gr fun w1 hw=>?_;exact Ge ((by simp only[ke,cv,fw])) hw
instance aim{c:Cp}{b:Int}[hc:aO w0 L c]:bO Tryz.prog 298 w0 L [.agg (aE c), .int .i64 b] (.bool (ke (cv c) b)) (True):=⟨fun hp w hw=>Wa w c b (hc.h w hw)⟩
theorem Wb(w:World)(c:Cp)(hc:Deep.aU (hp w) c)(aP:c.bb.xs.length<=1000000):Calls Tryz.prog 299 #[.agg (aE c)] w fun e w'=>e= .returned (.tuple #[.agg (cZ ((bB (cv c)).1)), .bool ((bB (cv c)).2)])/\Mem w [] w':=by
 have jg:bQ w c:=⟨hc⟩;refine bS Tryz.func299 rfl Tryz.ntmps299 rfl ?_;refine Gc ?_;refine bM rfl fun b1=>?_;refine bj fun b2=>?_;refine cw ?_;refine bA (X:=Nat) (fun U=>[(9, .int .i64 (U:Nat)),(1, .pointer (some ⟨b1,0,none⟩)),(2, .pointer (some ⟨b2,0,none⟩)),(7,c.bb.sv.val),(8, .int .i64 (c.bb.xs.length:Nat))]) (fun U=>[an b2 (cZ wW) 97,an b1 (aE c) 59]) (fun U=>U<=c.bb.xs.length/\ ∀j f,j<U->c.bb.xs[j]? =Option.some f->f.op≠c.ops) (fun U=>c.bb.xs.length -U) 0 ⟨Nat.zero_le _,fun j f hj=>by first|omega|(simp only[];omega)⟩ sb (fun w hw=>ai.mem hw) ?_;rintro i ⟨aT,az⟩;refine ak ?_;refine Gb (fun h0=>?_) fun h0=>?_
 ·
  refine k8 ?_;obtain⟨f,hf⟩:=get_some (xs:=c.bb.xs) (i:=i) oM;refine ag (aR rfl rfl i rfl oM) ?_;refine ag (dO rfl i hf rfl) ?_;refine bj fun b5=>?_;refine dr ?_;refine Gb (fun h1=>?_) fun h1=>?_
  ·
   have hs:bB (cv c)=(f,f.cut||f.fail):=Te hf az h1;refine Gi ?_;refine gF [7] [[],[],[],[],[],[],[],[],[7]] [0,1,2,3,4,5,6,7,8] [an b5 (cZ f) 97,an b1 (aE c) 59] (fun _ hw=>ai.mem hw) oK oK ?_;refine al rfl (iv rfl) ?_;refine al rfl (aN (o':=2) rfl rfl) ?_;refine al rfl (bN rfl) ?_;refine al rfl (aZ rfl) ?_;refine JR rfl rfl rfl rfl (fun hg=>(Ry.yl (aN (o':=1) rfl rfl))) ?_;refine JR rfl rfl rfl rfl (fun hg=>(Ry.yl (bN (ay hg rfl)))) ?_;refine al rfl (uy rfl rfl rfl) ?_;refine cY rfl (oc rfl rfl ⟨fun _ hw=>ai.mem hw,?_⟩);refine al rfl (fL rfl) ?_;refine Gc ?_;refine Gr fun w1 hw=>?_;exact⟨(by rw[hs]),ai.mem hw⟩
  refine ak ?_;refine Gi ?_;exact aV (x:=(i)) (i+1) ⟨oF,fun j g hj hg=>if e:j=i then(by subst e;rw[hf]at hg;cases hg;exact h1)else az j g oF hg⟩ oF sb (fun w hw=>ai.mem hw)
 obtain rfl:i=c.bb.xs.length:=by omega
 have hs:bB (cv c)=(wW,false):=Td (fun f hf=>by
  obtain⟨j,hj⟩:=List.getElem?_of_mem hf;exact az j f (List.getElem?_eq_some_iff.1 hj).1 hj)
 refine Gc ?_;refine ag (cy (v:= .agg (cZ wW)) rfl (fun w=>by kernel_rfl)) ?_;refine ak ?_;refine Gr fun w1 hw=>?_;exact⟨(by rw[hs]),ai.mem hw⟩
instance ain{c:Cp}[hc:aO w0 L c]:bO Tryz.prog 299 w0 L [.agg (aE c)] (.tuple #[.agg (cZ ((bB (cv c)).1)), .bool ((bB (cv c)).2)]) (c.bb.xs.length<=1000000):=⟨fun hp w hw=>Wb w c (hc.h w hw) hp⟩
theorem Wc(w:World)(f:Ft):Calls Tryz.prog 300 #[.agg (cZ f)] w fun e w'=>e= .returned (.tuple #[.bool f.cut, .int .i64 (mQ f)])/\Mem w [] w':=by
 refine bS Tryz.func300 rfl Tryz.ntmps300 rfl ?_;refine Gc ?_;refine bM rfl fun b1=>?_;refine aS ?_;refine Gb (fun h0=>?_) fun h0=>?_
 ·
  refine aq ?_;refine Gr fun w1 hw=>?_;exact⟨(by rw[mQ,if_pos h0,h0]),ai.mem hw⟩
 refine aq ?_;refine Gr fun w1 hw=>?_;exact⟨(by rw[mQ,if_neg (by rw[h0];simp),h0]),ai.mem hw⟩
instance aio{f:Ft}:bO Tryz.prog 300 w0 L [.agg (cZ f)] (.tuple #[.bool f.cut, .int .i64 (mQ f)]) (True):=⟨fun hp w hw=>Wc w f⟩
theorem Wd(w:World)(c:Cp)(b:Int)(hc:Deep.aU (hp w) c)(aP:du c):Calls Tryz.prog 301 #[.agg (aE c), .int .i64 b] w fun e w'=> ∃U:Cp,e= .returned (.tuple #[.agg (aE U), .int .i64 (pt (cv c) b)])/\(cv U=oh (cv c) b)/\Mem w [fz U] w':=by
 have jg:bQ w c:=⟨hc⟩;have ko:du c:=aP;obtain⟨fh,fQ,jC⟩:=aP;refine cl Tryz.func301 rfl Tryz.ntmps301 rfl ?_;refine Gc ?_;refine bM rfl fun b2=>?_;refine bj fun b4=>?_;refine ak ?_;refine bf rfl (by assumption) fun x8 oy=>?_;refine bj fun b6=>?_;refine cw ?_;refine Gb (fun h0=>?_) fun h0=>?_
 ·
  have hE:pt (cv c) b=1:=by rw[pt,if_neg (by rw[h0];simp)]
  refine aK ?_;refine Gr fun w1 hw=>?_;exact⟨x8,by rw[hE],by rw[oy,oh,if_neg (by rw[hE];decide)],l8 x8 (ai.mem hw)⟩
 have hk:ke (cv c) b=true:=h0;have hh:=hk;have M9:=(l5.1 hh).2;have dS:x8.blocks.xs.length=c.blocks.xs.length:=by have:=congrArg (fun v:CV=>v.blocks.length) oy;simpa only[cv,fw]using this
 have zH:x8.ops=c.ops:=congrArg CV.ops oy;have oz:(cv c).blocks.length=c.blocks.xs.length:=fw _;obtain⟨B,hB⟩:=get_some (xs:=x8.blocks.xs) (i:=b.toNat) oM;have lE:b.toNat<x8.blocks.xs.length:=(List.getElem?_eq_some_iff.1 hB).1;have dE:bv B=aI (cv c) b:=by
  have h1:=BX hh;have h2:=kC hB;rw[show gx x8.blocks.xs=(cv c).blocks from congrArg CV.blocks oy,h1]at h2;exact(Option.some.inj h2).symm
 have eS:nv c.ae c.size (bv B)=true:=by rw[dE];exact vc hh
 obtain⟨o1,o2,o3,o4,o5,o6⟩:=fO.1 eS;have gk:=jT.1 (dZ.1 (l5.1 hh).1).1;have zI:=(dZ.1 (l5.1 hh).1).2.1;simp only[bv,cv]at o1 o2 o3 o4 o5 o6 gk zI;have Na:=l4 B.ae.xs;refine aq ?_;refine Gb (fun h1=>?_) fun h1=>?_
 ·
  have hE:pt (cv c) b=7:=by rw[pt,if_pos hk,if_pos (show(cv c).off=true from h1)]
  refine aK ?_;refine Gr fun w1 hw=>?_;exact⟨x8,by rw[hE],by rw[oy,oh,if_neg (by rw[hE];decide)],l8 x8 (ai.mem hw)⟩
 have hE:pt (cv c) b=0:=by rw[pt,if_pos hk,if_neg (by rw[show(cv c).off=false from h1];simp)]
 refine aq ?_;refine ag (aR rfl rfl b.toNat oM lE) ?_;refine ag (aN rfl rfl) ?_;refine iz (s:=x8.blocks.sv) (n:=1) (k:=b.toNat) (j:=3) (a:=B) (a':=(⟨B.ae,B.used,B.bo,true⟩:Bk)) (xs:=x8.blocks.xs) (enc:=bK) (c:=4) (v:= .bool true) oK rfl rfl rfl hB (by simp[Value.cells,Value.oneCell']) (by rfl) (by decide) (by rfl) ?_;refine aK ?_;refine Gr fun w1 hw=>?_;exact⟨(⟨x8.ae,x8.size,⟨x8.blocks.sv,x8.blocks.xs.set b.toNat (⟨B.ae,B.used,B.bo,true⟩:Bk)⟩,x8.ops,x8.off,x8.bb⟩:Cp),by rw[hE];rfl,by rw[Tl oy dE,oh,if_pos hE],l8 (⟨x8.ae,x8.size,⟨x8.blocks.sv,x8.blocks.xs.set b.toNat (⟨B.ae,B.used,B.bo,true⟩:Bk)⟩,x8.ops,x8.off,x8.bb⟩:Cp) (by
  simp only[Tk hB (B':=(⟨B.ae,B.used,B.bo,true⟩:Bk)) rfl];exact ai.mem hw)⟩
instance aip{c:Cp}{b:Int}[hc:aO w0 L c]:bJ Tryz.prog 301 w0 L [.agg (aE c), .int .i64 b] (Cp) (fun U=> .tuple #[.agg (aE U), .int .i64 (pt (cv c) b)]) (fun U=>fz U::L) (fun U=>cv U=oh (cv c) b) (du c):=⟨fun hp w hw=>(Wd w c b (hc.h w hw) hp).mono fun e w' ⟨x,h1,h2,h3⟩=>⟨x,h1,h2,hw.call h3⟩⟩
theorem We(w:World)(c:Cp)(fs:Sv)(lF:List Ft)(hc:Deep.aU (hp w) c)(GF:bI cZ 4 (hp w) fs lF)(aP:du c):Calls Tryz.prog 42 #[.agg (aE c),fs.val] w fun e w'=> ∃U:Cp,e= .returned (.tuple #[.agg (aE U), .int .i64 (rH (cv c) lF)])/\(cv U=w3 (cv c) lF)/\Mem w [fz U] w':=by
 have jg:bQ w c:=⟨hc⟩;have aiq:Gv w fs cZ 4 lF:=⟨GF⟩;have ko:du c:=aP;obtain⟨fh,fQ,jC⟩:=aP;refine cl Tryz.func42 rfl Tryz.ntmps42 rfl ?_;refine Gc ?_;refine bM rfl fun b2=>?_;refine bj fun b4=>?_;refine ak ?_;refine bf rfl (by assumption) fun x8 oy=>?_;refine bj fun b6=>?_;refine k7 ?_;refine Gb (fun h0=>?_) fun h0=>?_
 ·
  have hE:rH (cv c) lF=1:=by rw[rH,if_neg (fun h=>by rw[h.1]at h0;simp only[Bool.true_eq_false,false_or]at h0;omega)]
  refine aK ?_;refine Gr fun w1 hw=>?_;exact⟨x8,by rw[hE],by rw[oy,w3,if_neg (by rw[hE];decide)],l8 x8 (ai.mem hw)⟩
 have hE:rH (cv c) lF=0:=by
  rw[rH,if_pos]
  cases hk:aX (cv c)with
  |false=>rw[hk]at h0;simp at h0
  |true=>exact⟨rfl,by rw[hk]at h0;simp only[Bool.true_eq_false,not_false_eq_true,true_and]at h0;omega⟩
 have dC:lF.length<=64:=by
  by_cases h9:aX (cv c)=true/\lF.length<=64
  ·
   exact h9.2
  rw[rH,if_neg h9]at hE;cases hE
 refine au ?_;refine dw (cs':=aE (⟨x8.ae,x8.size,x8.blocks,x8.ops,false,x8.bb⟩:Cp)) rfl rfl (by show 4<6;decide) (by first|rfl|exact Sv.one _) rfl ?_;refine au ?_;refine bf rfl oM fun fK vB=>?_;refine Gs ?_;refine dw (cs':=aE (⟨x8.ae,x8.size,x8.blocks,x8.ops,false,⟨fK,lF⟩⟩:Cp)) rfl rfl (by show 5<6;decide) (by first|rfl|exact Sv.one _) rfl ?_;refine aK ?_;refine Gr fun w1 hw=>?_;exact⟨(⟨x8.ae,x8.size,x8.blocks,x8.ops,false,⟨fK,lF⟩⟩:Cp),by rw[hE],by rw[w3,if_pos hE,←oy];rfl,l8 (⟨x8.ae,x8.size,x8.blocks,x8.ops,false,⟨fK,lF⟩⟩:Cp) (ai.mem hw)⟩
instance air{c:Cp}{fs:Sv}{lF:List Ft}[hc:aO w0 L c][GF:cz w0 L cZ 4 fs lF]:bJ Tryz.prog 42 w0 L [.agg (aE c),fs.val] (Cp) (fun U=> .tuple #[.agg (aE U), .int .i64 (rH (cv c) lF)]) (fun U=>fz U::L) (fun U=>cv U=w3 (cv c) lF) (du c):=⟨fun hp w hw=>(We w c fs lF (hc.h w hw) (GF.h w hw) hp).mono fun e w' ⟨x,h1,h2,h3⟩=>⟨x,h1,h2,hw.call h3⟩⟩
theorem Wf(w:World)(b:Sv)(bs:List UInt8)(hb:bI aJ 1 (hp w) b bs):Calls Tryz.prog 269 #[.int .u32 0,b.val] w fun e w'=>e= .returned (.int .u32 (mN bs:Nat))/\Mem w [] w':=by
 have vC:Gv w b aJ 1 bs:=⟨hb⟩;have gQ:=hb.bd;refine cl Tryz.func269 rfl Tryz.ntmps269 rfl ?_;refine aq ?_;refine ag (K3 (p:=0) rfl rfl (by decide)) ?_;refine aS ?_;refine bA (X:=Nat) (fun U=>[(13, .int .i64 (U:Nat)),(5, .int .u32 (iX 4294967295 (bs.take U):Nat)),(11,b.val),(12, .int .i64 (bs.length:Nat))]) (fun U=>[]) (fun U=>U<=bs.length) (fun U=>bs.length -U) 0 (Nat.zero_le _) sb (fun w hw=>ai.mem hw) ?_;rintro i hi;have aW:iX 4294967295 (bs.take i)<2^32:=Bz (by decide) _;refine ak ?_;refine Gb (fun h0=>?_) fun h0=>?_
 ·
  obtain⟨y,he⟩:=get_some (xs:=bs) (i:=i) oM;have hy:=y.toNat_lt;have dn:iX 4294967295 (bs.take i)^^^y.toNat<2^32:=Nat.xor_lt_two_pow (Bz (by decide) _) oM;refine Gc ?_;refine ag (aR rfl rfl i rfl oM) ?_;refine ag (bw (j:=0) rfl i he rfl (by decide)) ?_;refine aq ?_;refine ag (kc rfl (by simp only[nb];omega)) ?_;refine ag (Iq rfl rfl rfl rfl (by simp only[nb];omega) (by simp only[nb];omega)) ?_;refine aq ?_;refine bA (X:=Nat) (fun U=>[(21, .int .i64 (U:Nat)),(5, .int .u32 ((l0 (iX 4294967295 (bs.take i)^^^y.toNat) U):Nat)),(11,b.val),(12, .int .i64 (bs.length:Nat)),(13, .int .i64 (i:Nat))]) (fun U=>[]) (fun U=>U<=8) (fun U=>8 -U) 0 (Nat.zero_le _) sb (fun w hw=>ai.mem hw) ?_;rintro k hk;refine ak ?_;refine Gb (fun h1=>?_) fun h1=>?_
  ·
   have u6:(l0 (iX 4294967295 (bs.take i)^^^y.toNat) k)<2^32:=EV dn k;have Wg:(l0 (iX 4294967295 (bs.take i)^^^y.toNat) k)/2<2^32:=by omega
   refine au ?_;refine ag (Ry.to (v':= .int .u32 (((l0 (iX 4294967295 (bs.take i)^^^y.toNat) k)%2:Nat):Int)) (Ip (p:=(l0 (iX 4294967295 (bs.take i)^^^y.toNat) k)) (q:=1) rfl rfl rfl rfl (by simp only[nb];omega) (by decide)) (by rw[Nat.and_one_is_mod])) ?_;refine ak ?_;refine ag (qZ (p:=(l0 (iX 4294967295 (bs.take i)^^^y.toNat) k)) rfl rfl (by simp only[nb];omega) oM) ?_;refine aq ?_;refine ag (PQ (p:=3988292384) (q:=(l0 (iX 4294967295 (bs.take i)^^^y.toNat) k)%2) rfl rfl rfl rfl (by simp only[nb];omega)) ?_;refine ag (Ry.to (v':= .int .u32 ((l0 (iX 4294967295 (bs.take i)^^^y.toNat) (k+1):Nat):Int)) (Iq (p:=(l0 (iX 4294967295 (bs.take i)^^^y.toNat) k)/2^1) (q:=3988292384*((l0 (iX 4294967295 (bs.take i)^^^y.toNat) k)%2)) rfl rfl rfl rfl (by simp only[nb];omega) (by simp only[nb];omega)) (by rw[l0,EU];rcases Nat.mod_two_eq_zero_or_one (l0 (iX 4294967295 (bs.take i)^^^y.toNat) k)with h|h<;>rw[h]<;>rfl)) ?_;refine aq ?_;refine Gi ?_;exact aV (x:=(k)) (k+1) oF oF sb (fun w hw=>ai.mem hw)
  obtain rfl:k=8:=by omega
  refine ak ?_;refine Gi ?_;exact aV (x:=(i)) (i+1) oF oF (Sub.cons rfl (Sub.cons (look_eq rfl (by rw[R7 he];rfl)) sb)) (fun w hw=>ai.mem hw)
 obtain rfl:i=bs.length:=by omega
 refine au ?_;refine ag (K3 (p:=iX 4294967295 (bs.take bs.length)) rfl rfl (Bz (by decide) _)) ?_;refine au ?_;refine Gr fun w1 hw=>?_;exact⟨(by rw[List.take_length];rfl),ai.mem hw⟩
instance ais{b:Sv}{bs:List UInt8}[hb:cz w0 L aJ 1 b bs]:bO Tryz.prog 269 w0 L [.int .u32 0,b.val] (.int .u32 (mN bs:Nat)) (True):=⟨fun hp w hw=>Wf w b bs (hb.h w hw)⟩
theorem Wh(w:World)(b:Sv)(bs:List UInt8)(hb:bI aJ 1 (hp w) b bs):Calls Tryz.prog 229 #[b.val] w fun e w'=>e= .returned (.int .u32 (mN bs:Nat))/\Mem w [] w':=by
 have vC:Gv w b aJ 1 bs:=⟨hb⟩;refine bS Tryz.func229 rfl Tryz.ntmps229 rfl ?_;refine cw ?_;refine Gr fun w1 hw=>?_;exact⟨rfl,ai.mem hw⟩
instance ait{b:Sv}{bs:List UInt8}[hb:cz w0 L aJ 1 b bs]:bO Tryz.prog 229 w0 L [b.val] (.int .u32 (mN bs:Nat)) (True):=⟨fun hp w hw=>Wh w b bs (hb.h w hw)⟩
theorem Wi(w:World)(n:Nat)(many:Nat)(aP:n<2^64/\1<=many/\many<=8):Calls Tryz.prog 112 #[.int .u64 (n:Nat), .int .i64 (many:Nat)] w fun e w'=> ∃U:Sv,e= .returned (U.val)/\(True)/\Mem w [own aJ 1 U (be n many)] w':=by
 obtain⟨fh,fQ,jC⟩:=aP;refine cl Tryz.func112 rfl Tryz.ntmps112 rfl ?_;refine pe ?_;refine Gb (fun h0=>?_) fun h0=>?_
 ·
  exfalso;omega
 refine au ?_;refine qb (enc:=aJ) (n:=many) (cap:=many) 0 rfl rfl rfl rfl rfl oM oM oM fun CI=>?_;refine ak ?_;refine ag (Ry.to (v':= .int .i64 (many:Nat)) (q9 rfl) (by simp)) ?_;refine au ?_;refine bA (X:=Nat) (fun U=>[(17, .int .i64 (U:Nat)),(5,(⟨false,CI,0,many,many,none⟩:Sv).val),(0, .int .u64 (n:Nat)),(1, .int .i64 (many:Nat)),(16, .int .i64 (many:Nat))]) (fun U=>[own aJ 1 ⟨false,CI,0,many,many,none⟩ (List.replicate (many -U) (0:UInt8)++be n U)]) (fun U=>U<=many) (fun U=>many -U) 0 (Nat.zero_le _) sb (fun w hw=>by rw[show List.replicate (many -0) (0:UInt8)++be n 0=List.replicate many 0 from by rw[be,List.append_nil,Nat.sub_zero]];exact ai.mem hw) ?_;rintro i hi;have dS:=lU n i;have Ff:(List.replicate (many -i) (0:UInt8)++be n i).length=many:=by rw[List.length_append,List.length_replicate,dS];omega
 refine ak ?_;refine Gb (fun h1=>?_) fun h1=>?_
 ·
  refine k7 ?_;refine ag (oP rfl rfl oM) ?_;refine ag (Ry.to (v':= .int .u64 ((n/256^i:Nat):Int)) (qZ (p:=n) rfl rfl (by simp only[nb];omega) oM) (by rw[show(8*(i:Int)).toNat=8*i by omega,Nat.pow_mul])) ?_;refine ag (yH rfl rfl) ?_;refine ag (aR rfl rfl (many -1 -i) oM oM) ?_;refine VP rfl rfl (by rw[List.getElem?_append_left (by rw[List.length_replicate];omega),List.getElem?_replicate,if_pos oM]) rfl ?_;refine ak ?_;refine Gi ?_;exact aV (x:=(i)) (i+1) oF oF sb (fun w hw=>by rw[Tp oM]at hw;exact ai.mem hw)
 have Wj:i=many:=by omega
 refine aq ?_;refine Gr fun w1 hw=>?_;exact⟨⟨false,CI,0,many,many,none⟩,rfl,trivial,by rw[Wj,Nat.sub_self,List.replicate_zero,List.nil_append]at hw;exact ai.mem hw⟩
instance aiu{n:Nat}{many:Nat}:bJ Tryz.prog 112 w0 L [.int .u64 (n:Nat), .int .i64 (many:Nat)] (Sv) (fun U=>U.val) (fun U=>own aJ 1 U (be n many)::L) (fun U=>True) (n<2^64/\1<=many/\many<=8):=⟨fun hp w hw=>(Wi w n many hp).mono fun e w' ⟨x,h1,h2,h3⟩=>⟨x,h1,h2,hw.call h3⟩⟩
theorem Wk(w:World)(b:Sv)(bs:List UInt8)(hb:bI aJ 1 (hp w) b bs)(aP:bs.length<=7):Calls Tryz.prog 113 #[b.val] w fun e w'=>e= .returned (.int .u64 (de bs:Nat))/\Mem w [] w':=by
 have vC:Gv w b aJ 1 bs:=⟨hb⟩;refine bS Tryz.func113 rfl Tryz.ntmps113 rfl ?_;refine fc ?_;refine bA (X:=Nat) (fun U=>[(8, .int .i64 (U:Nat)),(3, .int .u64 (de (bs.take U):Nat)),(6,b.val),(7, .int .i64 (bs.length:Nat))]) (fun U=>[]) (fun U=>U<=bs.length) (fun U=>bs.length -U) 0 (Nat.zero_le _) sb (fun w hw=>ai.mem hw) ?_;rintro i hi;refine ak ?_;refine Gb (fun h0=>?_) fun h0=>?_
 ·
  obtain⟨y,he⟩:=get_some (xs:=bs) (i:=i) oM;have hy:=y.toNat_lt;have aW:de (bs.take i)<256^6:=Nat.lt_of_lt_of_le (D1 bs i hi) (Nat.pow_le_pow_right (by decide) oM);refine Gc ?_;refine ag (aR rfl rfl i rfl oM) ?_;refine ag (bw (j:=0) rfl i he rfl (by decide)) ?_;refine ak ?_;refine ag (To (p:=de (bs.take i)) rfl rfl rfl oM) ?_;refine Gs ?_;refine ag (kc rfl (by simp only[nb];omega)) ?_;refine ag (yy (p:=de (bs.take i)*256) (q:=y.toNat) rfl rfl rfl rfl (by simp only[nb];omega) (by simp only[nb];omega)) ?_;refine aq ?_;refine Gi ?_;exact aV (x:=(i)) (i+1) oF oF (Sub.cons rfl (Sub.cons (look_eq rfl (by rw[IK he,IL _ _ hy])) sb)) (fun w hw=>ai.mem hw)
 obtain rfl:i=bs.length:=by omega
 refine aq ?_;refine Gr fun w1 hw=>?_;exact⟨(by rw[List.take_length]),ai.mem hw⟩
instance aiv{b:Sv}{bs:List UInt8}[hb:cz w0 L aJ 1 b bs]:bO Tryz.prog 113 w0 L [b.val] (.int .u64 (de bs:Nat)) (bs.length<=7):=⟨fun hp w hw=>Wk w b bs (hb.h w hw) hp⟩
theorem Wl(w:World)(n:Nat)(aP:n<=1000000000):Calls Tryz.prog 185 #[.slice none 0 0, .int .i64 (n:Nat)] w fun e w'=> ∃U:Sv,e= .returned (U.val)/\(True)/\Mem w [own aJ 1 U ([]:List UInt8)] w':=by
 refine cl Tryz.func185 rfl Tryz.ntmps185 rfl ?_;refine aS ?_;refine Gb (fun h0=>?_) fun h0=>?_
 ·
  exfalso;omega
 refine ak ?_;refine ag (BA rfl) ?_;refine Gs ?_;refine ag (uz rfl) ?_;refine cw ?_;refine Gb (fun h1=>?_) fun h1=>?_
 ·
  refine Gi ?_;refine au ?_;refine ag (BA rfl) ?_;refine ag (Ry.to (v':= .slice none 0 0) (sU (s:=Sv.none) (h:=0) rfl rfl rfl Sv.yC (Nat.le_refl _)) rfl) ?_;refine Gs ?_;refine J9 (enc:=aJ) (k:=n) (0:UInt8) rfl rfl oM oM (by decide) rfl Tryz.underlying3 oM oM fun zJ zK GG=>?_;refine Gs ?_;refine ag (uz rfl) ?_;refine ag (sU (s:=⟨false,zJ,0,n,zK,none⟩) (h:=0) rfl rfl rfl ⟨(fun h=>by cases h),GG,by simp only;omega,fun _=>rfl⟩ (Nat.zero_le _)) ?_;refine aK ?_;refine Gr fun w1 hw=>?_;refine⟨Sv.sub ⟨false,zJ,0,n,zK,none⟩ 1 0 0,rfl,trivial,?_⟩;have eZ:=Mem.J8 (i:=0) (k:=0) hw rfl (Nat.zero_le _);rw[List.take_zero]at eZ;exact eZ
 have hn:n=0:=by omega
 refine aq ?_;refine Gr fun w1 hw=>?_;exact⟨Sv.none,rfl,trivial,(ai.mem hw:Mem w [] _).cR aJ 1⟩
instance aiw{n:Nat}:bJ Tryz.prog 185 w0 L [.slice none 0 0, .int .i64 (n:Nat)] (Sv) (fun U=>U.val) (fun U=>own aJ 1 U ([]:List UInt8)::L) (fun U=>True) (n<=1000000000):=⟨fun hp w hw=>(Wl w n hp).mono fun e w' ⟨x,h1,h2,h3⟩=>⟨x,h1,h2,hw.call h3⟩⟩
theorem Wm(w:World)(a:Sl (Sl UInt8))(ha:Deep.aU (hp w) a)(aP:(iC a.xs).length<=1000000):Calls Tryz.prog 111 #[a.sv.val] w fun e w'=> ∃U:Sv,e= .returned (U.val)/\(True)/\Mem w [own aJ 1 U (iC a.xs)] w':=by
 have GH:bQ w a:=⟨ha⟩;have vU:=ha.1.bd;have dC:=Sb a.xs;refine bS Tryz.func111 rfl Tryz.ntmps111 rfl ?_;refine fc ?_;refine bA (X:=Nat) (fun U=>[(11, .int .i64 (U:Nat)),(3, .int .i64 ((iC (a.xs.take U)).length:Nat)),(0,a.sv.val),(9,a.sv.val),(10, .int .i64 (a.xs.length:Nat))]) (fun U=>[]) (fun U=>U<=a.xs.length) (fun U=>a.xs.length -U) 0 (Nat.zero_le _) sb (fun w hw=>ai.mem hw) ?_;rintro i hi;have ti:=dC i;have jq:=dC (i+1);refine ak ?_;refine Gb (fun h0=>?_) fun h0=>?_
 ·
  refine k8 ?_;obtain⟨x,hx⟩:=get_some (xs:=a.xs) (i:=i) oM;refine ag (aR rfl rfl i rfl oM) ?_;refine ag (bw (j:=0) rfl i hx rfl (by decide)) ?_;have Wn:(iC (a.xs.take (i+1))).length=(iC (a.xs.take i)).length+x.xs.length:=by rw[BB hx,List.length_append]
  have CJ:Mb x _:=⟨List.mem_of_getElem? hx⟩;refine k7 ?_;refine Gb (fun h1=>?_) fun h1=>?_
  ·
   exfalso;omega
  refine ak ?_;refine Gi ?_;exact aV (x:=(i)) (i+1) oF oF (Sub.cons rfl (Sub.cons (look_eq rfl (by rw[BB hx,List.length_append];simp)) sb)) (fun w hw=>ai.mem hw)
 obtain rfl:i=a.xs.length:=by omega
 have kV:=dC a.xs.length;refine au ?_;refine bf rfl oM fun tU GI=>?_;refine aS ?_;refine bA (X:=Nat×Sv) (fun U=>[(27, .int .i64 (U.1:Nat)),(6,U.2.val),(25,a.sv.val),(26, .int .i64 (a.xs.length:Nat))]) (fun U=>[own aJ 1 U.2 (iC (a.xs.take U.1))]) (fun U=>U.1<=a.xs.length) (fun U=>a.xs.length -U.1) (0,tU) (Nat.zero_le _) sb (fun w hw=>(ai.mem hw:Mem _ [own aJ 1 tU ([]:List UInt8)] _)) ?_;rintro⟨k,s1⟩ hk;dsimp only;simp only at hk;have ti:=dC k;have jq:=dC (k+1);refine ak ?_;refine Gb (fun h2=>?_) fun h2=>?_
 ·
  refine k8 ?_;obtain⟨y,hy⟩:=get_some (xs:=a.xs) (i:=k) oM;refine ag (aR rfl rfl k rfl oM) ?_;refine ag (bw (j:=0) rfl k hy rfl (by decide)) ?_;have Wo:(iC (a.xs.take (k+1))).length=(iC (a.xs.take k)).length+y.xs.length:=by rw[BB hy,List.length_append]
  have Nb:Mb y _:=⟨List.mem_of_getElem? hy⟩;refine aq ?_;refine iS (s:=s1) (ys:=y.xs) rfl rfl (by decide) (fun w hw=>gM (s:=y.sv) Tryz.underlying53 (by decide) ((inferInstance:Hd _ _ y.sv aJ 1 y.xs).h w hw)) oM oM fun GJ Wp Wq=>?_;refine aq ?_;refine Gi ?_;exact aV (x:=(k,s1)) (k+1,GJ) (by simp only;omega) (by simp only;omega) sb (fun w hw=>by rw[BB hy];exact ai.mem hw)
 obtain rfl:k=a.xs.length:=by omega
 refine aq ?_;refine Gr fun w1 hw=>?_;exact⟨s1,rfl,trivial,by rw[List.take_length]at hw;exact ai.mem hw⟩
instance aix{a:Sl (Sl UInt8)}[ha:aO w0 L a]:bJ Tryz.prog 111 w0 L [a.sv.val] (Sv) (fun U=>U.val) (fun U=>own aJ 1 U (iC a.xs)::L) (fun U=>True) ((iC a.xs).length<=1000000):=⟨fun hp w hw=>(Wm w a (ha.h w hw) hp).mono fun e w' ⟨x,h1,h2,h3⟩=>⟨x,h1,h2,hw.call h3⟩⟩
theorem Ws(w:World)(s:Sv)(ss:List UInt8)(hs:bI aJ 1 (hp w) s ss)(aP:ss.length<=1000000):Calls Tryz.prog 230 #[s.val] w fun e w'=> ∃U:Sv,e= .returned (U.val)/\(True)/\Mem w [own aJ 1 U ss] w':=by
 have r8:Gv w s aJ 1 ss:=⟨hs⟩;refine bS Tryz.func230 rfl Tryz.ntmps230 rfl ?_;refine aq ?_;refine ag (oU Tryz.underlying53 rfl) ?_;refine Gc ?_;refine Gb (fun h0=>?_) fun h0=>?_
 ·
  have e0:ss=[]:=List.length_eq_zero_iff.1 (by have:=hs.ok.nil h0;have:=hs.len;omega);refine ak ?_;refine Gr fun w1 hw=>?_;exact⟨Sv.none,rfl,trivial,by rw[e0];exact(ai.mem hw:Mem w [] _).cR aJ 1⟩
 refine Gc ?_;refine qe aJ fun b5=>?_;refine Gs ?_;refine iS (s:=⟨false,b5,0,0,0,none⟩) (ys:=ss) rfl rfl (by decide) (fun w hw=>gM (s:=s) Tryz.underlying53 (by decide) ((inferInstance:Hd _ _ s aJ 1 ss).h w hw)) (by simp only[List.length_append,List.length_cons,List.length_nil];omega) (by simp only[List.length_append,List.length_cons,List.length_nil];omega) fun s7 r9 qJ=>?_;refine au ?_;refine Gr fun w1 hw=>?_;exact⟨s7,rfl,trivial,by simpa using hw⟩
instance aiy{s:Sv}{ss:List UInt8}[hs:cz w0 L aJ 1 s ss]:bJ Tryz.prog 230 w0 L [s.val] (Sv) (fun U=>U.val) (fun U=>own aJ 1 U ss::L) (fun U=>True) (ss.length<=1000000):=⟨fun hp w hw=>(Ws w s ss (hs.h w hw) hp).mono fun e w' ⟨x,h1,h2,h3⟩=>⟨x,h1,h2,hw.call h3⟩⟩
instance:dj Tryz.prog 324 (.agg (cm ma)):=⟨by kernel_rfl⟩
theorem Wt(w:World)(n:Int):Calls Tryz.prog 144 #[.int .i64 n] w fun e w'=>e= .returned (.bool (pv n))/\Mem w [] w':=by
 refine bS Tryz.func144 rfl Tryz.ntmps144 rfl ?_;refine k7 ?_;refine Gr fun w1 hw=>?_;exact⟨rfl,ai.mem hw⟩
instance aiz{n:Int}:bO Tryz.prog 144 w0 L [.int .i64 n] (.bool (pv n)) (True):=⟨fun hp w hw=>Wt w n⟩
theorem Wu(w:World)(n:Int):Calls Tryz.prog 76 #[.int .i64 n] w fun e w'=>e= .returned (.int .i64 (eL n))/\Mem w [] w':=by
 refine bS Tryz.func76 rfl Tryz.ntmps76 rfl ?_;refine cw ?_;refine Gb (fun h0=>?_) fun h0=>?_
 ·
  refine ak ?_;refine Gr fun w1 hw=>?_;exact Gf ((by rw[eL,if_neg (by rw[h0];simp)])) hw
 have hf:=zo.1 h0;refine aK ?_;refine Gr fun w1 hw=>?_;exact Gf ((by rw[eL,if_pos h0])) hw
instance aiA{n:Int}:bO Tryz.prog 76 w0 L [.int .i64 n] (.int .i64 (eL n)) (True):=⟨fun hp w hw=>Wu w n⟩
theorem Wv(w:World)(x:dx)(n:Int)(hx:Deep.aU (hp w) x):Calls Tryz.prog 268 #[.agg (cm x), .int .i64 n] w fun e w'=>e= .returned (.bool (vg (cf x) n))/\Mem w [] w':=by
 have xI:bQ w x:=⟨hx⟩;refine cl Tryz.func268 rfl Tryz.ntmps268 rfl ?_;refine Gc ?_;refine bM rfl fun b2=>?_;refine au ?_;refine fH oK oK ?_;refine Gq ?_;refine nm (bV rfl trivial) ?_;refine aq ?_;refine eH rfl rfl rfl (fun hg=>(Ry.yl (aZ (ay hg rfl)))) ?_;refine DJ rfl rfl rfl (fun hg=>(Ry.yl (aN (o':=0) rfl rfl))) ?_;refine DJ rfl rfl rfl (fun hg=>(Ry.yl (bN (ay hg rfl)))) ?_;refine DJ rfl rfl rfl (fun hg=>(Ry.yl (c2 (ay hg rfl) rfl rfl))) ?_;refine eH rfl rfl rfl (fun hg=>(Ry.yl (uy (ay hg rfl) rfl (q6 hg rfl)))) ?_;refine RB ?_;refine eH rfl rfl rfl (fun hg=>bV (di (ay hg rfl) fF) trivial) ?_;refine aq ?_;refine Gr fun w1 hw=>?_;exact Ge ((by simp only[vg,cf];rw[show decide ((x.gen.toNat:Int)<281474976710656)=decide (x.gen.toNat<281474976710656)from decide_eq_decide.2 oM];rfl)) hw
instance aiB{x:dx}{n:Int}[hx:aO w0 L x]:bO Tryz.prog 268 w0 L [.agg (cm x), .int .i64 n] (.bool (vg (cf x) n)) (True):=⟨fun hp w hw=>Wv w x n (hx.h w hw)⟩
theorem Ww(w:World)(b:Sv)(bs:List UInt8)(hb:bI aJ 1 (hp w) b bs):Calls Tryz.prog 267 #[b.val] w fun e w'=>e= .returned (.bool (nw bs))/\Mem w [] w':=by
 have vC:Gv w b aJ 1 bs:=⟨hb⟩;have gQ:=hb.bd;refine bS Tryz.func267 rfl Tryz.ntmps267 rfl ?_;refine cw ?_;refine bA (X:=Nat) (fun U=>[(7, .int .i64 (U:Nat)),(5,b.val),(6, .int .i64 (bs.length:Nat))]) (fun U=>[]) (fun U=>U<=bs.length/\ ∀j x,j<U->bs[j]? =Option.some x->x=255) (fun U=>bs.length -U) 0 ⟨Nat.zero_le _,fun j x hj=>by first|omega|(simp only[];omega)⟩ sb (fun w hw=>ai.mem hw) ?_;rintro i ⟨aT,az⟩;refine ak ?_;refine Gb (fun h0=>?_) fun h0=>?_
 ·
  refine k8 ?_;obtain⟨y,hy⟩:=get_some (xs:=bs) (i:=i) oM;refine ag (aR rfl rfl i rfl oM) ?_;refine ag (bw (j:=0) rfl i hy rfl (by decide)) ?_;refine aK ?_;refine Gb (fun h1=>?_) fun h1=>?_
  ·
   have hz:nw bs=false:=by
    cases hk:nw bs with
    |false=>rfl
    |true=>exact absurd (congrArg UInt8.toNat (K7.1 hk y (List.mem_of_getElem? hy))) (by intro e;exact h1 (by rw[e];rfl))
   refine ak ?_;refine Gr fun w1 hw=>?_;exact Ge (hz.symm) hw
  have GK:y=255:=UInt8.toNat_inj.1 (show y.toNat=255 by omega);refine ak ?_;refine Gi ?_;exact aV (x:=(i)) (i+1) ⟨oF,fun j x hj hx=>if e:j=i then(by subst e;rw[hy]at hx;cases hx;exact GK)else az j x oF hx⟩ oF sb (fun w hw=>ai.mem hw)
 obtain rfl:i=bs.length:=by omega
 have hz:nw bs=true:=K7.2 fun x hx=>by
  obtain⟨j,hj⟩:=List.getElem?_of_mem hx;exact az j x (List.getElem?_eq_some_iff.1 hj).1 hj
 refine ak ?_;refine Gr fun w1 hw=>?_;exact Ge (hz.symm) hw
instance aiC{b:Sv}{bs:List UInt8}[hb:cz w0 L aJ 1 b bs]:bO Tryz.prog 267 w0 L [b.val] (.bool (nw bs)) (True):=⟨fun hp w hw=>Ww w b bs (hb.h w hw)⟩
instance:dj Tryz.prog 314 (.agg (c8 jU)):=⟨by kernel_rfl⟩
theorem Wx(w:World)(n:Int):Calls Tryz.prog 143 #[.int .i64 n] w fun e w'=>e= .returned (.int .i64 (kf n))/\Mem w [] w':=by
 have Wz:pv n=true->24<=n/\n<=256:=fun h=>zo.1 h;have hrb:0<=eL n/\eL n<=240:=by
  by_cases h:pv n=true
  ·
   have:=Wz h;rw[eL,if_pos h];omega
  rw[eL,if_neg h];omega
 refine bS Tryz.func143 rfl Tryz.ntmps143 rfl ?_;refine aK ?_;refine ag (kb rfl rfl oM oM) ?_;refine ag (DH rfl rfl) ?_;refine au ?_;refine Gr fun w1 hw=>?_;exact⟨rfl,ai.mem hw⟩
instance aiD{n:Int}:bO Tryz.prog 143 w0 L [.int .i64 n] (.int .i64 (kf n)) (True):=⟨fun hp w hw=>Wx w n⟩
theorem WA(w:World)(r:cK)(n:Int)(hr:Deep.aU (hp w) r):Calls Tryz.prog 254 #[.agg (c8 r), .int .i64 n] w fun e w'=>e= .returned (.bool (qt (cL r) n))/\Mem w [] w':=by
 have WB:bQ w r:=⟨hr⟩;have gQ:=hr.1.bd;refine cl Tryz.func254 rfl Tryz.ntmps254 rfl ?_;refine Gc ?_;refine bM rfl fun b2=>?_;refine au ?_;refine fH oK oK ?_;refine Gq ?_;refine nm (bV rfl trivial) ?_;refine k7 ?_;refine eV rfl rfl rfl (fun hg=>bV (di (ay hg rfl) fF) trivial) ?_;refine ak ?_;refine Gb (fun h0=>?_) fun h0=>?_
 ·
  have hz:qt (cL r) n=false:=by
   cases hk:qt (cL r) n with
   |false=>rfl
   |true=>
    obtain⟨g1,g2,g3,g4⟩:=zp.1 hk;simp only[cL]at g2 g3;omega
  refine ak ?_;refine Gr fun w1 hw=>?_;exact Ge (hz.symm) hw
 have g0:eL n≠0/\r.gen.toNat<281474976710656/\(r.at_.xs.length:Int)<=kf n:=⟨by omega,by omega,by omega⟩;refine aS ?_;refine bA (X:=Nat) (fun U=>[(26, .int .i64 (U:Nat)),(24,r.at_.sv.val),(25, .int .i64 (r.at_.xs.length:Nat))]) (fun U=>[an b2 (c8 r) 314]) (fun U=>U<=r.at_.xs.length/\ ∀j x,j<U->r.at_.xs[j]? =Option.some x->xf x=true) (fun U=>r.at_.xs.length -U) 0 ⟨Nat.zero_le _,fun j x hj=>by first|omega|(simp only[];omega)⟩ sb (fun w hw=>ai.mem hw) ?_;rintro i ⟨aT,az⟩;refine ak ?_;refine Gb (fun h1=>?_) fun h1=>?_
 ·
  refine k8 ?_;obtain⟨y,hy⟩:=get_some (xs:=r.at_.xs) (i:=i) oM;refine ag (aR rfl rfl i rfl oM) ?_;refine ag (bw (j:=0) rfl i hy rfl (by decide)) ?_;refine fc ?_;refine Gb (fun h2=>?_) fun h2=>?_
  ·
   have hz:qt (cL r) n=false:=by
    cases hk:qt (cL r) n with
    |false=>rfl
    |true=>
     have g:=Fx.1 ((zp.1 hk).2.2.2 y (List.mem_of_getElem? hy));omega
   refine ak ?_;refine Gr fun w1 hw=>?_;exact Ge (hz.symm) hw
  have GL:xf y=true:=Fx.2 ⟨by omega,by omega⟩;refine ak ?_;refine Gi ?_;exact aV (x:=(i)) (i+1) ⟨oF,fun j x hj hx=>if e:j=i then(by subst e;rw[hy]at hx;cases hx;exact GL)else az j x oF hx⟩ oF sb (fun w hw=>ai.mem hw)
 obtain rfl:i=r.at_.xs.length:=by omega
 have hz:qt (cL r) n=true:=zp.2 ⟨g0.1,g0.2.1,g0.2.2,fun x hx=>by
  obtain⟨j,hj⟩:=List.getElem?_of_mem hx;exact az j x (List.getElem?_eq_some_iff.1 hj).1 hj⟩
 refine ak ?_;refine Gr fun w1 hw=>?_;exact Ge (hz.symm) hw
instance aiE{r:cK}{n:Int}[hr:aO w0 L r]:bO Tryz.prog 254 w0 L [.agg (c8 r), .int .i64 n] (.bool (qt (cL r) n)) (True):=⟨fun hp w hw=>WA w r n (hr.h w hw)⟩
instance:dj Tryz.prog 63 (.agg (bH jV)):=⟨by kernel_rfl⟩
theorem WC(w:World)(c:Cp)(hc:Deep.aU (hp w) c):Calls Tryz.prog 164 #[.agg (aE c)] w fun e w'=>e= .returned (.bool (px (cv c)))/\Mem w [] w':=by
 have jg:bQ w c:=⟨hc⟩;refine bS Tryz.func164 rfl Tryz.ntmps164 rfl ?_;refine Gc ?_;refine bM rfl fun b1=>?_;refine RC ?_;refine Gr fun w1 hw=>?_;exact Ge ((by simp only[px,cv,fw];rfl)) hw
instance aiF{c:Cp}[hc:aO w0 L c]:bO Tryz.prog 164 w0 L [.agg (aE c)] (.bool (px (cv c))) (True):=⟨fun hp w hw=>WC w c (hc.h w hw)⟩
theorem WD(w:World)(c:Cp)(hc:Deep.aU (hp w) c)(aP:du c):Calls Tryz.prog 165 #[.agg (aE c)] w fun e w'=> ∃U:Cp,e= .returned (.agg (aE U))/\(cv U=cv c)/\Mem w [fz U] w':=by
 have jg:bQ w c:=⟨hc⟩;refine bS Tryz.func165 rfl Tryz.ntmps165 rfl ?_;refine Gc ?_;refine bM rfl fun b1=>?_;refine bj fun b2=>?_;refine aq ?_;refine bf rfl (by assumption) fun x9 zL=>?_;refine Gs ?_;refine ag (aL (v:= .agg (aE x9)) rfl rfl) ?_;refine ag (aL (v:= .int .i64 (rH (cv c) c.bb.xs)) rfl rfl) ?_;refine bj fun b3=>?_;refine aS ?_;refine dw (cs':=aE (⟨x9.ae,x9.size,x9.blocks,x9.ops,c.off,x9.bb⟩:Cp)) rfl rfl (by show 4<6;decide) (by first|rfl|exact Sv.one _) rfl ?_;refine aq ?_;refine Gr fun w1 hw=>?_;exact⟨(⟨x9.ae,x9.size,x9.blocks,x9.ops,c.off,x9.bb⟩:Cp),rfl,by
  have h9:cv (⟨x9.ae,x9.size,x9.blocks,x9.ops,c.off,x9.bb⟩:Cp)={cv x9 with off:=(cv c).off}:=rfl
  rw[h9,zL];exact TG (cv c),by
  have h9:Mem w [fz x9] _:=ai.mem hw;exact h9⟩
instance aiG{c:Cp}[hc:aO w0 L c]:bJ Tryz.prog 165 w0 L [.agg (aE c)] (Cp) (fun U=> .agg (aE U)) (fun U=>fz U::L) (fun U=>cv U=cv c) (du c):=⟨fun hp w hw=>(WD w c (hc.h w hw) hp).mono fun e w' ⟨x,h1,h2,h3⟩=>⟨x,h1,h2,hw.call h3⟩⟩
theorem WE(w:World)(s:Sv)(ss:List Int)(hs:bI bl 1 (hp w) s ss)(aP:ss.length<=1000000):Calls Tryz.prog 169 #[s.val] w fun e w'=> ∃U:Sv,e= .returned (U.val)/\(True)/\Mem w [own bl 1 U ss] w':=by
 have r8:Gv w s bl 1 ss:=⟨hs⟩;refine bS Tryz.func169 rfl Tryz.ntmps169 rfl ?_;refine aq ?_;refine ag (oU Tryz.underlying60 rfl) ?_;refine Gc ?_;refine Gb (fun h0=>?_) fun h0=>?_
 ·
  have e0:ss=[]:=List.length_eq_zero_iff.1 (by have:=hs.ok.nil h0;have:=hs.len;omega);refine ak ?_;refine Gr fun w1 hw=>?_;exact⟨Sv.none,rfl,trivial,by rw[e0];exact(ai.mem hw:Mem w [] _).cR bl 1⟩
 refine Gc ?_;refine qe bl fun b5=>?_;refine Gs ?_;refine iS (s:=⟨false,b5,0,0,0,none⟩) (enc:=bl) (ys:=ss) rfl rfl (by decide) (fun w hw=>gM (s:=s) Tryz.underlying60 (by decide) ((inferInstance:cz _ _ bl 1 s ss).h w hw)) (by simp only[List.length_nil];omega) (by simp only[List.length_nil];omega) fun s7 r9 qJ=>?_;refine au ?_;refine Gr fun w1 hw=>?_;exact⟨s7,rfl,trivial,by rw[List.nil_append]at hw;exact ai.mem hw⟩
instance aiH{s:Sv}{ss:List Int}[hs:cz w0 L bl 1 s ss]:bJ Tryz.prog 169 w0 L [s.val] (Sv) (fun U=>U.val) (fun U=>own bl 1 U ss::L) (fun U=>True) (ss.length<=1000000):=⟨fun hp w hw=>(WE w s ss (hs.h w hw) hp).mono fun e w' ⟨x,h1,h2,h3⟩=>⟨x,h1,h2,hw.call h3⟩⟩
theorem WG(w:World)(v:bG)(hv:Deep.aU (hp w) v)(aP:du v.aj/\v.at_.xs.length<=1000000):Calls Tryz.prog 175 #[.agg (bH v)] w fun e w'=> ∃U:Cp×Sv,e= .returned (.agg (bH (⟨U.1,⟨U.2,v.at_.xs⟩,v.gen,v.last⟩:bG)))/\(cv U.1=cv v.aj)/\Mem w [fz U.1,own bl 1 U.2 v.at_.xs] w':=by
 have zM:bQ w v:=⟨hv⟩;obtain⟨fh,fQ⟩:=aP;refine bS Tryz.func175 rfl Tryz.ntmps175 rfl ?_;refine Gc ?_;refine bM rfl fun b1=>?_;refine bj fun b2=>?_;refine Gc ?_;refine rn [2,5,7,9,1001,1004,5002,5005] [[],[],[1],[],[],[1,2,4],[1,2,4],[1,2,4,5],[1,2,4,5,7],[1,2,4,5,7]] [0,1,3,4,2,6,5,7,8,9] [] [] oK (fun _ hw=>ai.mem hw) oK oK ?_;refine al rfl (aN (o':=0) rfl rfl) ?_;refine jr rfl (gD rfl) ?_;refine al rfl (aN (o':=6) rfl rfl) ?_;refine jr rfl (bN rfl) ?_;refine JS rfl (mM rfl (by assumption) fun x5 CK=>⟨fun _ hw=>ai.mem hw,fun _ hw=>ai.mem hw,?_⟩);refine al rfl (aN (o':=0) rfl rfl) ?_;refine JS rfl (mM rfl oM fun x8 oy=>⟨fun _ hw=>ai.mem hw,fun _ hw=>ai.mem hw,?_⟩);refine cY rfl (JL (cs':=bH ({v with aj:=x5}:bG)) rfl rfl (by show 0+6<=9;decide) rfl ⟨fun _ hw=>ai.mem hw,?_⟩)
 refine al rfl (aN (o':=6) rfl rfl) ?_;refine cY rfl (wN (cs':=bH (⟨x5,⟨x8,v.at_.xs⟩,v.gen,v.last⟩:bG)) rfl rfl (by show 6<9;decide) (by first|rfl|exact Sv.one _) rfl ⟨fun _ hw=>ai.mem hw,?_⟩);refine aq ?_;refine Gr fun w1 hw=>?_;exact⟨(x5,x8),rfl,CK,ai.mem hw⟩
instance aiI{v:bG}[hv:aO w0 L v]:bJ Tryz.prog 175 w0 L [.agg (bH v)] (Cp×Sv) (fun U=> .agg (bH (⟨U.1,⟨U.2,v.at_.xs⟩,v.gen,v.last⟩:bG))) (fun U=>fz U.1::own bl 1 U.2 v.at_.xs::L) (fun U=>cv U.1=cv v.aj) (du v.aj/\v.at_.xs.length<=1000000):=⟨fun hp w hw=>(WG w v (hv.h w hw) hp).mono fun e w' ⟨x,h1,h2,h3⟩=>⟨x,h1,h2,hw.call h3⟩⟩
theorem WH(b:List UInt8)(w:World):(Instr.build 324 #[(0, .int .i64 ((b.getD 0 0).toNat:Int)),(1, .int .i64 ((b.getD 1 0).toNat:Int)),(2, .int .u64 ((de ((b.drop 2).take (8 -2)):Nat):Int))]).run Tryz.prog w= .ok (.agg (cm (rI b))) w:=by
 rw[←La];unfold cm rI;generalize UInt64.ofNat (de ((b.drop 2).take (8 -2)))=g;kernel_rfl
theorem WI(w:World)(b:Sv)(bs:List UInt8)(hb:bI aJ 1 (hp w) b bs):Calls Tryz.prog 227 #[b.val] w fun e w'=> ∃U:dx,e= .returned (.tuple #[.agg (cm U), .int .i64 ((cS bs).2)])/\(cf U=(cS bs).1)/\Mem w [own aJ 1 U.body.sv U.body.xs] w':=by
 have vC:Gv w b aJ 1 bs:=⟨hb⟩;have gQ:=hb.bd;have ghd:bQ w (rI bs):=⟨⟨bI.nil _ _ _,fun x hx=>by cases hx⟩⟩;have WJ:=K9 bs;have oA:=Fs bs;have p8:=J7 (mc bs);have dI:=Tx bs;refine bS Tryz.func227 rfl Tryz.ntmps227 rfl ?_;refine Gc ?_;refine bj fun b2=>?_;refine cw ?_;refine Gb (fun h0=>?_) fun h0=>?_
 ·
  have hE:cS bs=(iY,3):=by rw[cS,if_pos h0]
  refine Gc ?_;refine ag (cy (v:= .agg (cm ma)) rfl (fun w=>by kernel_rfl)) ?_;refine ak ?_;refine Gr fun w1 hw=>?_;exact⟨ma,by rw[hE],by rw[hE];rfl,Mem.cR aJ 1 (ai.mem hw:Mem w [] _)⟩
 have WK:=zo.1 h0;have zN:eL bs.length=bs.length -16:=by rw[eL,if_pos h0]
 refine aq ?_;refine Gb (fun h1=>?_) fun h1=>?_
 ·
  have hE:cS bs=(iY,0):=by rw[cS,if_neg (by rw[h0];simp),if_pos h1]
  refine Gc ?_;refine ag (cy (v:= .agg (cm ma)) rfl (fun w=>by kernel_rfl)) ?_;refine ak ?_;refine Gr fun w1 hw=>?_;exact⟨ma,by rw[hE],by rw[hE];rfl,Mem.cR aJ 1 (ai.mem hw:Mem w [] _)⟩
 refine Gc ?_;refine fH oK oK ?_;refine aq ?_;have Nc:Rg 0 (bs.length -4) bs.length:=⟨by omega⟩;refine bu (IQ rfl rfl (bs.length -4) oM Nc.h.2) ?_;refine aq ?_;have CL:Rg (bs.length -4) bs.length bs.length:=⟨by omega⟩;refine bu (A1 rfl rfl (bs.length -4) oM CL.h.1) ?_;refine aq ?_;refine dm (bV (v:= .int .u64 ((de (B9 bs):Nat):Int)) rfl (by rw[List.length_take,List.length_drop];omega)) ?_;refine Gs ?_;refine dm (bV (v:= .int .u32 ((mN (mc bs):Nat):Int)) rfl trivial) ?_;refine ag (kc rfl (by simp only[nb];omega)) ?_;refine au ?_;refine Gb (fun h2=>?_) fun h2=>?_
 ·
  have hE:cS bs=(iY,4):=by rw[cS,if_neg (by rw[h0];simp),if_neg (by rw[h1];simp),if_pos (fun e=>h2 (by rw[e]))]
  refine Gc ?_;refine ag (cy (v:= .agg (cm ma)) rfl (fun w=>by kernel_rfl)) ?_;refine ak ?_;refine Gr fun w1 hw=>?_;exact⟨ma,by rw[hE],by rw[hE];rfl,Mem.cR aJ 1 (ai.mem hw:Mem w [] _)⟩
 have ob: ¬de (B9 bs)≠mN (mc bs):=fun e=>e oM;refine Gc ?_;refine gF [12,13] [[],[],[],[],[],[],[],[],[],[],[],[],[],[12]] [0,1,2,3,4,5,6,7,8,9,10,11,12,13] [] (fun _ hw=>ai.mem hw) oK oK ?_;refine al rfl (aZ rfl) ?_;refine al rfl (aR rfl rfl 0 rfl oM) ?_;refine al rfl (bw (j:=0) rfl 0 (kW (xs:=bs) (i:=0) (d:=0) oM) rfl (by decide)) ?_;refine al rfl (uL rfl) ?_;refine al rfl (aZ rfl) ?_;refine al rfl (aR rfl rfl 1 rfl oM) ?_;refine al rfl (bw (j:=0) rfl 1 (kW (xs:=bs) (i:=1) (d:=0) oM) rfl (by decide)) ?_;refine al rfl (uL rfl) ?_;refine al rfl (aZ rfl) ?_;have Nf:Rg 2 8 bs.length:=⟨by omega⟩;refine al rfl (A0 rfl rfl rfl 2 8 rfl rfl Nf.h.1 Nf.h.2) ?_;refine uZ rfl (bV rfl (by simp;omega)) ?_;refine al rfl (cy (v:= .agg (cm (rI bs))) rfl (WH bs)) ?_;refine cY rfl (JK fun b6=>⟨fun _ hw=>ai.mem hw,?_⟩);refine cY rfl (oc rfl rfl ⟨fun _ hw=>ai.mem hw,?_⟩);refine au ?_;have Ng:Rg 8 10 bs.length:=⟨by omega⟩;refine ag (A0 rfl rfl rfl 8 10 rfl rfl Ng.h.1 Ng.h.2) ?_;refine dm (bV (v:= .int .u64 ((iD bs:Nat):Int)) rfl (by rw[List.length_take];omega)) ?_;refine ag (kc rfl (by simp only[nb];omega)) ?_;refine dr ?_;refine bp rfl rfl rfl (fun hg=>(Ry.yl (iv rfl))) ?_;refine au ?_;refine bp rfl rfl rfl (fun hg=>bV (di (ay hg rfl) (di (ay hg rfl) fF)) trivial) ?_;refine bp rfl rfl rfl (fun hg=>(Ry.yl (jJ (ay hg rfl)))) ?_;refine au ?_;refine Gb (fun h3=>?_) fun h3=>?_
 ·
  have nK:qq bs=false:=by
   rw[Fu]at h3
   cases hk:qq bs with
   |false=>rfl
   |true=>
    simp only[qq,Bool.and_eq_true,decide_eq_true_eq]at hk;rw[hk.2]at h3;simp only[Bool.true_eq_false,or_false]at h3;omega
  have hE:cS bs=(iY,2):=by rw[cS,if_neg (by rw[h0];simp),if_neg (by rw[h1];simp),if_neg ob,if_pos nK]
  refine Gc ?_;refine ag (cy (v:= .agg (cm ma)) rfl (fun w=>by kernel_rfl)) ?_;refine ak ?_;refine Gr fun w1 hw=>?_;exact⟨ma,by rw[hE],by rw[hE];rfl,Mem.cR aJ 1 (ai.mem hw:Mem w [] _)⟩
 have nK:qq bs=true:=by
  rw[Fu]at h3;simp only[qq,Bool.and_eq_true,decide_eq_true_eq];exact⟨by omega,h3.2⟩
 have hmr:(iD bs:Int)<=eL bs.length:=by simp only[qq,Bool.and_eq_true,decide_eq_true_eq]at nK;exact nK.1
 have tP:(ny bs).length=(mc bs).length -(10+iD bs):=by rw[ny,List.length_take,List.length_drop];omega
 have gr:Gv w ((b.sub 1 0 (bs.length -4)).sub 1 (10+iD bs) (mc bs).length) aJ 1 (ny bs):=⟨(hb.sub (lo:=0) (hi:=bs.length -4) oM oM).sub (lo:=10+iD bs) (hi:=(mc bs).length) oM (Nat.le_refl _)⟩;refine aq ?_;have WL:Rg (10+iD bs) ((mc bs).length) (mc bs).length:=⟨by omega⟩;refine ag (A1 rfl rfl (10+iD bs) rfl WL.h.1) ?_;refine ak ?_;refine bA (X:=Nat) (fun U=>[(69, .int .i64 (U:Nat)),(0,b.val),(2, .pointer (some ⟨b2,0,none⟩)),(6, .pointer (some ⟨b6,0,none⟩)),(7, .int .i64 (iD bs:Nat)),(67,((b.sub 1 0 (bs.length -4)).sub 1 (10+iD bs) (mc bs).length).val),(68, .int .i64 ((ny bs).length:Nat))]) (fun U=>[an b6 (cm (rI bs)) 324,an b2 (cm ma) 324]) (fun U=>U<=(ny bs).length/\ ∀j x,j<U->(ny bs)[j]? =Option.some x->x=0) (fun U=>(ny bs).length -U) 0 ⟨Nat.zero_le _,fun j x hj=>by first|omega|(simp only[];omega)⟩ sb (fun w hw=>ai.mem hw) ?_;rintro i ⟨aT,az⟩;refine ak ?_;refine Gb (fun h4=>?_) fun h4=>?_
 ·
  refine k8 ?_;obtain⟨y,hy⟩:=get_some (xs:=(ny bs)) (i:=i) oM;refine ag (aR rfl rfl i rfl oM) ?_;refine ag (bw (j:=0) rfl i hy rfl (by decide)) ?_;refine aK ?_;refine Gb (fun h5=>?_) fun h5=>?_
  ·
   have sd:xe (ny bs)=false:=by
    cases hk:xe (ny bs)with
    |false=>rfl
    |true=>exact absurd (congrArg UInt8.toNat (K8.1 hk y (List.mem_of_getElem? hy))) (by intro e;exact h5 (by rw[e];rfl))
   have hE:cS bs=(iY,2):=by rw[cS,if_neg (by rw[h0];simp),if_neg (by rw[h1];simp),if_neg ob,if_neg (by rw[nK];simp),if_pos sd]
   refine Gc ?_;refine ag (cy (v:= .agg (cm ma)) rfl (fun w=>by kernel_rfl)) ?_;refine ak ?_;refine Gr fun w1 hw=>?_;exact⟨ma,by rw[hE],by rw[hE];rfl,Mem.cR aJ 1 (ai.mem hw:Mem w [] _)⟩
  have GK:y=0:=UInt8.toNat_inj.1 (show y.toNat=0 by omega);refine ak ?_;refine Gi ?_;exact aV (x:=(i)) (i+1) ⟨oF,fun j x hj hx=>if e:j=i then(by subst e;rw[hy]at hx;cases hx;exact GK)else az j x oF hx⟩ oF sb (fun w hw=>ai.mem hw)
 obtain rfl:i=(ny bs).length:=by omega
 have sd:xe (ny bs)=true:=K8.2 fun x hx=>by
  obtain⟨j,hj⟩:=List.getElem?_of_mem hx;exact az j x (List.getElem?_eq_some_iff.1 hj).1 hj
 have hE:cS bs=({xd bs with body:=((bs.drop 10).take (10+iD bs -10))},0):=by rw[cS,if_neg (by rw[h0];simp),if_neg (by rw[h1];simp),if_neg ob,if_neg (by rw[nK];simp),if_neg (by rw[sd];simp)]
 refine aq ?_;refine Gb (fun h6=>?_) fun h6=>?_
 ·
  refine Gi ?_;refine ak ?_;have Nh:Rg 10 (10+iD bs) bs.length:=⟨by omega⟩;refine ag (A0 rfl rfl rfl 10 (10+iD bs) rfl rfl Nh.h.1 Nh.h.2) ?_;refine bf rfl (by simp only[List.length_take,List.length_drop];omega) fun GM aiJ=>?_;refine Gs ?_;refine dw (cs':=cm (⟨((bs.getD 0 0).toNat:Int),((bs.getD 1 0).toNat:Int),(UInt64.ofNat (de ((bs.drop 2).take (8 -2)))),⟨GM,((bs.drop 10).take ((10+iD bs) -10))⟩⟩:dx)) rfl rfl (by show 3<4;decide) (by first|rfl|exact Sv.one _) rfl ?_;refine aK ?_;refine Gr fun w1 hw=>?_;exact⟨⟨((bs.getD 0 0).toNat:Int),((bs.getD 1 0).toNat:Int),UInt64.ofNat (de ((bs.drop 2).take (8 -2))),⟨GM,((bs.drop 10).take (10+iD bs -10))⟩⟩,by rw[hE],by rw[hE];exact Lb bs GM ((bs.drop 10).take (10+iD bs -10)),ai.mem hw⟩
 have qK:iD bs=0:=by omega
 refine aK ?_;refine Gr fun w1 hw=>?_;exact⟨rI bs,by rw[hE],by rw[hE,Fu,qK];simp[xd],Mem.cR aJ 1 (ai.mem hw:Mem w [] _)⟩
instance aiK{b:Sv}{bs:List UInt8}[hb:cz w0 L aJ 1 b bs]:bJ Tryz.prog 227 w0 L [b.val] (dx) (fun U=> .tuple #[.agg (cm U), .int .i64 ((cS bs).2)]) (fun U=>own aJ 1 U.body.sv U.body.xs::L) (fun U=>cf U=(cS bs).1) (True):=⟨fun hp w hw=>(WI w b bs (hb.h w hw)).mono fun e w' ⟨x,h1,h2,h3⟩=>⟨x,h1,h2,hw.call h3⟩⟩
theorem WM(w:World)(c:Cp)(id:Int)(n:Int)(hc:Deep.aU (hp w) c)(aP:aX (cv c)=true/\1<=n/\n<=1000000):Calls Tryz.prog 303 #[.agg (aE c), .int .i64 id, .int .i64 n] w fun e w'=>e= .returned (.bool (vi (cv c) id n))/\Mem w [] w':=by
 have jg:bQ w c:=⟨hc⟩;obtain⟨hk,xJ,tV⟩:=aP;have dS:=fw c.blocks.xs;have gk:=jT.1 (dZ.1 hk).1;simp only[cv,dS]at gk;have zO:0<=((n -1)/c.ae):=Int.ediv_nonneg oM oM;have Dz:((n -1)/c.ae)<=n -1:=Int.ediv_le_self _ oM;have qK:0<=((n -1)%c.ae):=Int.emod_nonneg _ oM;have zP:((n -1)%c.ae)<c.ae:=Int.emod_lt_of_pos _ oM;have nN:=vf (c:=c) (b:=((n -1)/c.ae));have GN:(c.blocks.xs.getD ((n -1)/c.ae).toNat nt).used=(aI (cv c) ((n -1)/c.ae)).used:=congrArg BV.used nN;refine pf Tryz.func303 rfl Tryz.ntmps303 rfl ?_;refine Gc ?_;refine bM rfl fun b3=>?_;refine au ?_;refine fH oK oK ?_;refine aq ?_;refine bu (kb rfl rfl oM oM) ?_;refine aq ?_;refine bu (we rfl rfl oM oM) ?_;refine JV ?_;refine bp rfl rfl rfl (fun hg=>(Ry.yl (aR (ay hg rfl) (ay hg rfl) (((n -1)/c.ae).toNat) (by simp only[Z0,Z1,Z2,Z3,Z4,Z5,Z6,Z7,Z8,Z9]at hg;omega) (by simp only[Z0,Z1,Z2,Z3,Z4,Z5,Z6,Z7,Z8,Z9]at hg;omega)))) ?_;refine bp rfl rfl rfl (fun hg=>(Ry.yl (aN (ay hg rfl) rfl))) ?_;refine bp rfl rfl rfl (fun hg=>(Ry.yl (bw (j:=1) (ay hg rfl) (((n -1)/c.ae).toNat) (kW (xs:=c.blocks.xs) (i:=((n -1)/c.ae).toNat) (d:=nt) (by simp only[Z0,Z1,Z2,Z3,Z4,Z5,Z6,Z7,Z8,Z9]at hg;omega)) rfl (by decide)))) ?_;refine ak ?_;refine Gb (fun h0=>?_) fun h0=>?_
 ·
  have hz:vi (cv c) id n=false:=by
   cases qL:rJ (cv c) (n -1)with
   |false=>rw[vi,qL];rfl
   |true=>
    obtain⟨g1,g2,g3⟩:=Cb.1 qL;change 2<=((n -1)/c.ae)at g1;change((n -1)/c.ae)<((gx c.blocks.xs).length:Int)at g2;change((n -1)%c.ae)<(aI (cv c) ((n -1)/c.ae)).used at g3;rw[dS]at g2;omega
  refine ak ?_;refine Gr fun w1 hw=>?_;exact Ge (hz.symm) hw
 have gq:rJ (cv c) (n -1)=true:=Cb.2 ⟨show 2<=((n -1)/c.ae) by omega,by simp only[cv,dS];omega,show((n -1)%c.ae)<(aI (cv c) ((n -1)/c.ae)).used by omega⟩;obtain⟨B,hB⟩:=get_some (xs:=c.blocks.xs) (i:=((n -1)/c.ae).toNat) oM;have pL:Mb B c.blocks:=⟨List.mem_of_getElem? hB⟩;have dE:bv B=aI (cv c) ((n -1)/c.ae):=by rw[←nN];simp[List.getD,hB]
 have eS:=fO.1 ((dZ.1 hk).2.2.2.2 (bv B) (List.mem_of_getElem? (kC hB)));have gK:=l4 B.ae.xs;have Ni:(B.ae.xs.length:Int)=c.ae:=by have:=eS.1;simp only[bv,cv,gK]at this;exact this
 obtain⟨y,hy⟩:=get_some (xs:=B.ae.xs) (i:=((n -1)%c.ae).toNat) oM;have GO:Mb y B.ae:=⟨List.mem_of_getElem? hy⟩;have pF:xh (cv c) (n -1)=y.xs:=by
  show(aI (cv c) ((n -1)/c.ae)).ae.getD ((n -1)%c.ae).toNat []=y.xs;rw[←dE];simp[bv,List.getD,nu hy]
 refine aq ?_;refine ag (aR rfl rfl (((n -1)/c.ae).toNat) oM oM) ?_;refine ag (aN rfl rfl) ?_;refine ag (bw (j:=0) rfl (((n -1)/c.ae).toNat) hB rfl (by decide)) ?_;have aiL:Mb B _:=⟨List.mem_of_getElem? hB⟩;refine Gs ?_;refine ag (aR rfl rfl (((n -1)%c.ae).toNat) oM oM) ?_;refine ag (bw (j:=0) rfl (((n -1)%c.ae).toNat) hy rfl (by decide)) ?_;have aiM:Mb y _:=⟨List.mem_of_getElem? hy⟩;refine bf rfl trivial fun mW vD=>?_;have e1:mW.kind=(cS y.xs).1.kind:=congrArg PV.kind vD;have e2:mW.id=(cS y.xs).1.id:=congrArg PV.id vD;refine Gs ?_;refine ag (aL (v:= .agg (cm mW)) rfl rfl) ?_;refine ag (aL (v:= .int .i64 ((cS y.xs).2)) rfl rfl) ?_;refine bj fun b9=>?_;refine JW ?_;refine Gr fun w1 hw=>?_;exact Ge ((by rw[vi,gq,pF,Lc,←e1,←e2];rfl)) hw
instance aiN{c:Cp}{id:Int}{n:Int}[hc:aO w0 L c]:bO Tryz.prog 303 w0 L [.agg (aE c), .int .i64 id, .int .i64 n] (.bool (vi (cv c) id n)) (aX (cv c)=true/\1<=n/\n<=1000000):=⟨fun hp w hw=>WM w c id n (hc.h w hw) hp⟩
def lG(n:Int):Value:= .int .i64 n
def nO(_:Unit):Value:= .agg #[]
instance:zF lG:=⟨fun h=>by simpa[lG]using h⟩
instance:zE Tryz.prog 3:=⟨Maps.int_keyed Tryz.underlying3⟩
instance:xF Tryz.prog 318 3 319:=⟨Tryz.underlying318⟩
instance:dj Tryz.prog 319 (.agg #[]):=⟨by kernel_rfl⟩
instance:eA (#[]:Array Value) 0:=⟨rfl,by simp⟩
theorem GP{n:Int}(h: -9223372036854775808<=n/\n<=9223372036854775807): ∃l,keyOf Tryz.prog 3 (lG n)=some l:=⟨_,Maps.keyOf_int_mk Tryz.underlying3 (by simp[Lit.wf,IntKind.min,IntKind.max,IntKind.signed,IntKind.bits];omega)⟩
theorem WN(w:World)(c:Cp)(t:Sv)(ts:List Int)(hc:Deep.aU (hp w) c)(ht:bI bl 1 (hp w) t ts)(aP:aX (cv c)=true/\ ∀x∈ts,0<=x/\x<=65535):Calls Tryz.prog 259 #[.agg (aE c),t.val] w fun e w'=>e= .returned (.bool (rL (cv c) ts))/\Mem w [] w':=by
 have jg:bQ w c:=⟨hc⟩;have qM:Gv w t bl 1 ts:=⟨ht⟩;obtain⟨hk,mr⟩:=aP;have gQ:=ht.bd;refine cl Tryz.func259 rfl Tryz.ntmps259 rfl ?_;refine Gc ?_;refine bM rfl fun b2=>?_;refine aq ?_;refine VR lG nO rfl fun se=>?_;refine aS ?_;refine bA (X:=Nat) (fun U=>[(15, .int .i64 (U:Nat)),(5, .map (some se)),(2, .pointer (some ⟨b2,0,none⟩)),(13,t.val),(14, .int .i64 (ts.length:Nat))]) (fun U=>[omap Tryz.prog 3 lG nO se (iF ts U),an b2 (aE c) 59]) (fun U=>U<=ts.length/\ ∀j,j<U->rK (cv c) ts j=true) (fun U=>ts.length -U) 0 ⟨Nat.zero_le _,fun j hj=>by first|omega|(simp only[];omega)⟩ sb (fun w hw=>by
  rw[←Ld];exact ai.mem hw) ?_
 rintro i ⟨aT,az⟩;refine ak ?_;refine Gb (fun h0=>?_) fun h0=>?_
 ·
  obtain⟨y,hy⟩:=get_some (xs:=ts) (i:=i) oM;have WO:=mr y (List.mem_of_getElem? hy);have mu:=vj hy;have tW:=GP (n:=y) oM;refine au ?_;refine ag (aR rfl rfl i rfl oM) ?_;refine ag (bw (j:=0) rfl i hy rfl (by decide)) ?_;refine aS ?_;refine Gb (fun h1=>?_) fun h1=>?_
  ·
   subst h1;have bZ:rK (cv c) ts i=true:=by rw[rK,mu];rfl
   refine ak ?_;refine Gi ?_;exact aV (x:=(i)) (i+1) ⟨oF,fun j hj=>if e:j=i then e▸bZ else az j oF⟩ oF sb (fun w hw=>by
    rw[Le hy];exact ai.mem hw)
  refine ak ?_;refine ag (Gx (cC:=lG) (dt:=nO) (f:=iF ts i) (v:=y) (z:=()) rfl rfl tW) ?_;refine Gs ?_;refine ag (aL (v:= .agg #[]) rfl rfl) ?_;refine ag (aL (v:= .bool ((iF ts i y).isSome)) rfl rfl) ?_;refine bj fun b8=>?_;refine aK ?_;refine bp rfl rfl rfl (fun hg=>(Ry.yl (iv rfl))) ?_;refine au ?_;refine bp rfl rfl rfl (fun hg=>bV (di (ay hg rfl) (di (ay hg rfl) (di (ay hg rfl) fF))) ⟨hk,by omega,by omega⟩) ?_;refine bp rfl rfl rfl (fun hg=>(Ry.yl (jJ (ay hg rfl)))) ?_;refine au ?_;refine Gb (fun h2=>?_) fun h2=>?_
  ·
   have hz:rL (cv c) ts=false:=by
    cases qL:rL (cv c) ts with
    |false=>rfl
    |true=>
     have g:=Fz.1 qL i oM;rw[rK,mu]at g;rw[zr]at h2;simp only[Bool.or_eq_true,Bool.and_eq_true,decide_eq_true_eq,Bool.not_eq_true',List.contains_eq_mem,decide_eq_false_iff_not]at g h2;rcases g with g|g
     ·
      exact absurd g h1
     rcases h2 with h2|h2
     ·
      exact absurd h2.2 g.1
     rw[g.2]at h2;cases h2
   refine ak ?_;refine Gr fun w1 hw=>?_;exact Ge (hz.symm) hw
  have bZ:rK (cv c) ts i=true:=by
   rw[zr]at h2;rw[rK,mu];simp only[Bool.or_eq_true,Bool.and_eq_true,decide_eq_true_eq,Bool.not_eq_true',List.contains_eq_mem,decide_eq_false_iff_not]at h2⊢;exact .inr ⟨fun hm=>h2.1 ⟨h1,hm⟩,h2.2⟩
  have dL:=Lf hy h1;refine ak ?_;refine ag (cy (v:= .agg #[]) rfl (fun w=>by kernel_rfl)) ?_;refine GA (cC:=lG) (dt:=nO) (v:=y) (u:=()) rfl rfl rfl tW ?_;refine ak ?_;refine Gi ?_;exact aV (x:=(i)) (i+1) ⟨oF,fun j hj=>if e:j=i then e▸bZ else az j oF⟩ oF sb (fun w hw=>by
   rw[←dL];exact ai.mem hw)
 obtain rfl:i=ts.length:=by omega
 have hz:rL (cv c) ts=true:=Fz.2 fun j hj=>az j hj;refine ak ?_;refine Gr fun w1 hw=>?_;exact Ge (hz.symm) hw
instance aiO{c:Cp}{t:Sv}{ts:List Int}[hc:aO w0 L c][ht:cz w0 L bl 1 t ts]:bO Tryz.prog 259 w0 L [.agg (aE c),t.val] (.bool (rL (cv c) ts)) (aX (cv c)=true/\ ∀x∈ts,0<=x/\x<=65535):=⟨fun hp w hw=>WN w c t ts (hc.h w hw) (ht.h w hw) hp⟩
instance:dj Tryz.prog 402 (.agg (bn gy)):=⟨by kernel_rfl⟩
theorem WQ(u v:Int)(b:Bool)(w:World):(Instr.build 402 #[(1, .int .i64 u),(2, .int .i64 v),(3, .bool b)]).run Tryz.prog w= .ok (.agg (bn ⟨0,u,v,b⟩)) w:=by
 unfold bn;kernel_rfl
theorem WR(w:World)(c:Cp)(l:Sl (Sl Int))(hc:Deep.aU (hp w) c)(hl:Deep.aU (hp w) l)(aP:py (cv c) (ar l.xs)):Calls Tryz.prog 326 #[.agg (aE c),l.sv.val] w fun e w'=> ∃U:Sv,e= .returned (U.val)/\(True)/\Mem w [own bn 4 U (gG (cv c) (ar l.xs))] w':=by
 have jg:bQ w c:=⟨hc⟩;have jh:bQ w l:=⟨hl⟩;obtain⟨⟨hk,mR⟩,mh,ku⟩:=aP;have gQ:=hl.1.bd;have dS:=fw c.blocks.xs;have oz:(cv c).blocks.length=c.blocks.xs.length:=dS;have gk:=jT.1 (dZ.1 hk).1;simp only[cv,dS]at gk;have u6:=xi (cv c) (ar l.xs);rw[oz]at u6;have tP:(List.replicate (c.blocks.xs.length -2) gy).length=c.blocks.xs.length -2:=List.length_replicate;refine cl Tryz.func326 rfl Tryz.ntmps326 rfl ?_;refine Gc ?_;refine bM rfl fun b2=>?_;refine aS ?_;refine qb (enc:=bn) (n:=(c.blocks.xs.length -2)) (cap:=(c.blocks.xs.length -2)) gy rfl rfl rfl oM oM oM oM oM fun jD=>?_;refine aS ?_;refine bA (X:=Nat×List aD) (fun U=>[(22, .int .i64 (U.1:Nat)),(5,(⟨false,jD,0,c.blocks.xs.length -2,c.blocks.xs.length -2,none⟩:Sv).val),(1,l.sv.val),(2, .pointer (some ⟨b2,0,none⟩)),(21, .int .i64 ((List.replicate (c.blocks.xs.length -2) gy).length:Nat))]) (fun U=>[own bn 4 ⟨false,jD,0,c.blocks.xs.length -2,c.blocks.xs.length -2,none⟩ U.2,an b2 (aE c) 59]) (fun U=>U.1<=c.blocks.xs.length -2/\U.2.length=c.blocks.xs.length -2/\U.2.take U.1=(iG (cv c) (ar l.xs) 0).take U.1) (fun U=>c.blocks.xs.length -2 -U.1) (0,List.replicate (c.blocks.xs.length -2) gy) ⟨Nat.zero_le _,by simp,by simp⟩ sb (fun w hw=>ai.mem hw) ?_;rintro⟨i,zs⟩ ⟨aT,az,ba⟩;dsimp only;simp only at aT az ba;refine ak ?_;refine Gb (fun h0=>?_) fun h0=>?_
 ·
  obtain⟨B,hB⟩:=get_some (xs:=c.blocks.xs) (i:=i+2) oM;have pL:Mb B c.blocks:=⟨List.mem_of_getElem? hB⟩;obtain⟨z,hz⟩:=get_some (xs:=zs) (i:=i) oM;have EP:(zs.set i (⟨0,B.used,B.bo,B.bad⟩:aD)).take (i+1)=(iG (cv c) (ar l.xs) 0).take (i+1):=by
   have e1:=B7 (f:=id) (z':=(⟨0,B.used,B.bo,B.bad⟩:aD)) hz;simp only[List.map_id]at e1;rw[e1,ba,List.take_add_one,TR,List.getElem?_map,List.getElem?_range oM,Option.map_some,show aI (cv c) ((i:Int)+2)=bv B from FB (i:=i+2) hB];rfl
  refine dr ?_;refine ag (aR rfl rfl (i+2) rfl oM) ?_;refine ag (dO rfl (i+2) hB rfl) ?_;have Nb:Mb B c.blocks:=⟨List.mem_of_getElem? hB⟩;refine bj fun b7=>?_;refine pe ?_;refine ag (cy (v:= .agg (bn (⟨0,B.used,B.bo,B.bad⟩:aD))) rfl (WQ B.used B.bo B.bad)) ?_;refine ag (aR rfl rfl i rfl oM) ?_;refine iz (s:=⟨false,jD,0,c.blocks.xs.length -2,c.blocks.xs.length -2,none⟩) (n:=4) (k:=i) (j:=0) (a:=z) (a':=(⟨0,B.used,B.bo,B.bad⟩:aD)) (xs:=zs) (enc:=bn) (c:=4) (v:= .agg (bn (⟨0,B.used,B.bo,B.bad⟩:aD))) oK rfl rfl rfl hz (bc.one (enc:=bn) (c:=4) _) rfl (by decide) (by rfl) ?_;refine ak ?_;refine Gi ?_;exact aV (x:=(i,zs)) (i+1,zs.set i (⟨0,B.used,B.bo,B.bad⟩:aD)) ⟨oF,by rw[List.length_set];exact az,EP⟩ (by simp only;omega) sb (fun w hw=>ai.mem hw)
 obtain rfl:i=zs.length:=by omega
 rw[List.take_length,List.take_of_length_le (by rw[u6];omega)]at ba;subst ba;refine Gc ?_;refine M7 lG nO fun CM=>?_;refine aS ?_;refine bA (X:=Nat) (fun U=>[(45, .int .i64 (U:Nat)),(5,(⟨false,jD,0,c.blocks.xs.length -2,c.blocks.xs.length -2,none⟩:Sv).val),(8, .map (some CM)),(2, .pointer (some ⟨b2,0,none⟩)),(43,l.sv.val),(44, .int .i64 (l.xs.length:Nat))]) (fun U=>[omap Tryz.prog 3 lG nO CM (iF (ar l.xs) (ar (l.xs.take U)).length),own bn 4 ⟨false,jD,0,c.blocks.xs.length -2,c.blocks.xs.length -2,none⟩ (iG (cv c) (ar l.xs) (ar (l.xs.take U)).length),an b2 (aE c) 59]) (fun U=>U<=l.xs.length) (fun U=>l.xs.length -U) 0 (Nat.zero_le _) sb (fun w hw=>by
  have e0:(ar (l.xs.take 0)).length=0:=by simp[ar]
  simp only[e0];rw[←Ld];exact ai.mem hw) ?_
 rintro a ha1;refine ak ?_;refine Gb (fun h1=>?_) fun h1=>?_
 ·
  obtain⟨x,hx⟩:=get_some (xs:=l.xs) (i:=a) oM;have CN:Mb x l:=⟨List.mem_of_getElem? hx⟩;have dM:=(hl.2 x CN.h).1.bd;refine Gc ?_;refine ag (aR rfl rfl a rfl oM) ?_;refine ag (bw (j:=0) rfl a hx rfl (by decide)) ?_;have aiP:Mb x _:=⟨List.mem_of_getElem? hx⟩;refine aS ?_;refine bA (X:=Nat) (fun U=>[(51, .int .i64 (U:Nat)),(5,(⟨false,jD,0,c.blocks.xs.length -2,c.blocks.xs.length -2,none⟩:Sv).val),(8, .map (some CM)),(2, .pointer (some ⟨b2,0,none⟩)),(43,l.sv.val),(44, .int .i64 (l.xs.length:Nat)),(45, .int .i64 (a:Nat)),(49,x.sv.val),(50, .int .i64 (x.xs.length:Nat))]) (fun U=>[omap Tryz.prog 3 lG nO CM (iF (ar l.xs) ((ar (l.xs.take a)).length+U)),own bn 4 ⟨false,jD,0,c.blocks.xs.length -2,c.blocks.xs.length -2,none⟩ (iG (cv c) (ar l.xs) ((ar (l.xs.take a)).length+U)),an b2 (aE c) 59]) (fun U=>U<=x.xs.length) (fun U=>x.xs.length -U) 0 (Nat.zero_le _) sb (fun w hw=>ai.mem hw) ?_;rintro j lC;refine ak ?_;refine Gb (fun h2=>?_) fun h2=>?_
  ·
   obtain⟨y,hy⟩:=get_some (xs:=x.xs) (i:=j) oM;have xK:=TQ hx hy;have WS:=ku y (List.mem_of_getElem? xK);have mu:=vj xK;have tW:=GP (n:=y) oM;refine Gc ?_;refine ag (aR rfl rfl j rfl oM) ?_;refine ag (bw (j:=0) rfl j hy rfl (by decide)) ?_;refine aq ?_;refine ag (Gx (cC:=lG) (dt:=nO) (f:=iF (ar l.xs) ((ar (l.xs.take a)).length+j)) (v:=y) (z:=()) rfl rfl tW) ?_;refine Gs ?_;refine ag (aL (v:= .agg #[]) rfl rfl) ?_;refine ag (aL (v:= .bool ((iF (ar l.xs) ((ar (l.xs.take a)).length+j) y).isSome)) rfl rfl) ?_;refine bj fun gT=>?_;refine fc ?_;refine Gb (fun h3=>?_) fun h3=>?_
   ·
    have xL:tu (ar l.xs) ((ar (l.xs.take a)).length+j)=false:=by
     rw[tu,mu];rw[zr]at h3;rcases h3 with h|h
     ·
      simp[h]
     simp only[decide_eq_true_eq]at h;simp[h.2]
    have WT:iF (ar l.xs) (((ar (l.xs.take a)).length+j)+1)=iF (ar l.xs) ((ar (l.xs.take a)).length+j):=by
     rw[zr]at h3;rcases h3 with h|h
     ·
      exact Le (h▸xK)
     exact TO xK (by simpa using h)
    refine ak ?_;refine Gi ?_;exact aV (x:=(j)) (j+1) oF oF sb (fun w hw=>by
     rw[←Nat.add_assoc,WT,TN xL];exact ai.mem hw)
   have uI:y≠0:=h3.1;obtain⟨b1,b2,b3,b4⟩:=WS.resolve_left uI;change 2<=((y -1)/c.ae)at b3;change((y -1)/c.ae)<((gx c.blocks.xs).length:Int)at b4;rw[dS]at b4;have xL:tu (ar l.xs) ((ar (l.xs.take a)).length+j)=true:=by
    rw[tu,mu];have h9:=h3.2;rw[zr]at h9;simp only[decide_eq_false_iff_not]at h9;simp only[Bool.and_eq_true,decide_eq_true_eq,Bool.not_eq_true',List.contains_eq_mem,decide_eq_false_iff_not];exact⟨uI,fun hm=>h9 ⟨uI,hm⟩⟩
   have dL:=Lf xK uI;have yT:=xi (cv c) (ar l.xs) ((ar (l.xs.take a)).length+j);rw[oz]at yT;obtain⟨z,hz⟩:=get_some (xs:=iG (cv c) (ar l.xs) ((ar (l.xs.take a)).length+j)) (i:=(((y -1)/c.ae) -2).toNat) oM;have oB:=TP xL (i:=(((y -1)/c.ae) -2).toNat) (by rw[mu];show((y -1)/c.ae)=_;omega) hz;have qI:=TS hz;have gq:=(List.getElem?_eq_some_iff.1 xK).1;refine ak ?_;refine ag (cy (v:= .agg #[]) rfl (fun w=>by kernel_rfl)) ?_;refine GA (cC:=lG) (dt:=nO) (v:=y) (u:=()) rfl rfl rfl tW ?_;refine aS ?_;refine ag (kb rfl rfl oM oM) ?_;refine Gs ?_;refine ag (aR rfl rfl ((((y -1)/c.ae) -2).toNat) oM oM) ?_;refine ag (aN rfl rfl) ?_;refine ag (bw (j:=0) rfl ((((y -1)/c.ae) -2).toNat) hz rfl (by decide)) ?_;refine Gs ?_;refine ag (aR rfl rfl ((((y -1)/c.ae) -2).toNat) oM oM) ?_;refine ag (aN rfl rfl) ?_;refine iz (s:=⟨false,jD,0,c.blocks.xs.length -2,c.blocks.xs.length -2,none⟩) (n:=1) (k:=(((y -1)/c.ae) -2).toNat) (j:=0) (a:=z) (a':={z with live:=z.live+1}) (xs:=(iG (cv c) (ar l.xs) ((ar (l.xs.take a)).length+j))) (enc:=bn) (c:=4) (v:= .int .i64 (z.live+1)) oK rfl rfl rfl hz (by simp[Value.cells,Value.oneCell']) (by rfl) (by decide) (by rfl) ?_
   refine ak ?_;refine Gi ?_;exact aV (x:=(j)) (j+1) oF oF sb (fun w hw=>by
    rw[←Nat.add_assoc,←dL,oB];exact ai.mem hw)
  obtain rfl:j=x.xs.length:=by omega
  refine ak ?_;refine Gi ?_;exact aV (x:=(a)) (a+1) oF oF sb (fun w hw=>by
   rw[Lr hx,List.length_append];exact ai.mem hw)
 obtain rfl:a=l.xs.length:=by omega
 rw[List.take_length];refine aq ?_;refine Gr fun w1 hw=>?_;exact⟨⟨false,jD,0,c.blocks.xs.length -2,c.blocks.xs.length -2,none⟩,rfl,trivial,by rw[gG];exact ai.mem hw⟩
instance aiQ{c:Cp}{l:Sl (Sl Int)}[hc:aO w0 L c][hl:aO w0 L l]:bJ Tryz.prog 326 w0 L [.agg (aE c),l.sv.val] (Sv) (fun U=>U.val) (fun U=>own bn 4 U (gG (cv c) (ar l.xs))::L) (fun U=>True) (py (cv c) (ar l.xs)):=⟨fun hp w hw=>(WR w c l (hc.h w hw) (hl.h w hw) hp).mono fun e w' ⟨x,h1,h2,h3⟩=>⟨x,h1,h2,hw.call h3⟩⟩
end Go.Proofs.YtkggjjnhnjjokaaGreatDoor
namespace Go.aA
open Go.RowKit
section
variable {P:Program} {N:bW} {w0:World} {env:Env} {L:List ah} {d:Option Tmp} {ty:TypeId} {ps:String} {af:Array Edge} {gd:Option (Nat×Bool)}
class kp(w0:World)(L:List ah)(b:Nat)(cs:outParam (Array Value))(T:outParam TypeId):Prop where
 h: ∀w,Mem w0 L w->w.heap[b]? =some (.cells cs T (0,0))
class oC(w0:World)(b:Nat)(cs:outParam (Array Value))(T:outParam TypeId):Prop where
 h:w0.heap[b]? =some (.cells cs T (0,0))
instance (priority:=high) kp.has {b i:Nat}{cs:Array Value}{T:TypeId}[q:Has L b cs T i]:kp w0 L b cs T:=⟨fun w hw=>hw.block q.h⟩
instance kp.old{b:Nat}{cs:Array Value}{T:TypeId}[q:oC w0 b cs T]:kp w0 L b cs T:=⟨fun w hw=>by
 have aW:b<w0.heap.size:=by
  rcases Nat.lt_or_ge b w0.heap.size with h|h
  ·
   exact h
  have:=q.h;simp[Array.getElem?_eq_none h]at this
 rw[hw.below.block b aW];exact q.h⟩
theorem kp.cell{b:Nat}{cs:Array Value}{T:TypeId}(q:kp w0 L b cs T){w:World}(hw:Mem w0 L w)(o:Nat):w.cell? ⟨b,o,none⟩=cs[o]? :=by
 simp[World.cell?,q.h w hw]
theorem lH{t:TypeId}{x:Operand}{b o:Nat}{cs:Array Value}{T:TypeId}{v:Value}(hx:ev env x=some (.pointer (some ⟨b,o,none⟩)))[ht:ez P t][hi:kp w0 L b cs T][hc:bL cs o v]:
  Ry P N w0 env L ⟨d, .load t x,ty,ps,af,gd⟩ v:=v7 ht hx fun w hw=>by rw[hi.cell hw];exact hc.h
theorem WU{t:TypeId}{x:Operand}{b o n:Nat}{cs sub:Array Value}{T:TypeId}(hx:ev env x=some (.pointer (some ⟨b,o,none⟩)))[ht:dG P t n][hi:kp w0 L b cs T][hs:kS cs o n sub]:
  Ry P N w0 env L ⟨d, .load t x,ty,ps,af,gd⟩ (.agg sub):=yu ht hx hs.size fun w hw j hj=>by rw[Addr.fm,hi.cell hw];exact hs.h j hj
end
section
variable {w0:World} {L:List ah}
theorem xM{w0 w:World}{L R1 R2 R3:List ah}{e1 e2 e3:ah}{i j k:Nat}(h1:L[i]? =some e1)(d1:L.eraseIdx i=R1)(h2:R1[j]? =some e2)(d2:R1.eraseIdx j=R2)(h3:R2[k]? =some e3)(d3:R2.eraseIdx k=R3)(h:Mem w0 L w):Mem w0 (e1::e2::e3::R3) w:=by
 subst d1;subst d2;subst d3;exact h.perm ((mD h1).trans (((mD h2).trans ((mD h3).cons _)).cons _))
theorem WW{w0 w:World}{L R1 R2 R3 R4:List ah}{e1 e2 e3 e4:ah}{i j k l:Nat}(h1:L[i]? =some e1)(d1:L.eraseIdx i=R1)(h2:R1[j]? =some e2)(d2:R1.eraseIdx j=R2)(h3:R2[k]? =some e3)(d3:R2.eraseIdx k=R3)(h4:R3[l]? =some e4)(d4:R3.eraseIdx l=R4)(h:Mem w0 L w):Mem w0 (e1::e2::e3::e4::R4) w:=by
 subst d1;subst d2;subst d3;subst d4;exact h.perm ((mD h1).trans (((mD h2).trans (((mD h3).trans ((mD h4).cons _)).cons _)).cons _))
end
variable {w0:World}{L:List ah}
instance (priority:=low) Hd.tail{e:ah}{s:Sv}{α:Type}{enc:α->Array Value}{c:Nat}{xs:List α}[q:Hd w0 L s enc c xs]:Hd w0 (e::L) s enc c xs:=⟨fun w hw=>q.h w (hw.sub (List.sublist_cons_self _ _))⟩
instance (priority:=low) aO.tail{e:ah}{τ:Type}[Deep τ]{a:τ}[q:aO w0 L a]:aO w0 (e::L) a:=⟨fun w hw=>q.h w (hw.sub (List.sublist_cons_self _ _))⟩
theorem WX{P:Program}{N:bW}{env:Env}{α:Type}{enc:α->Array Value}{c n:Nat}{t e:TypeId}{cn:Nat}{z:Value}{x y:Operand}{d:Option Tmp}{ty:TypeId}{ps:String}{af:Array Edge}{gd:Option (Nat×Bool)}{k k':IntKind}{ix iy:Int}[he:bc enc c][ht:dH P t e c cn][hz:dj P e z](x0:α)(h0:enc x0=z.cells)(hx:ev env x=some (.int k ix))(hy:ev env y=some (.int k' iy))(ex:ix=(n:Int))(ey:iy=(n:Int))(hb:cn*n<=281474976710656)(gN:n<=140737488355328):
  ∀a,cE N env a->ri P ⟨d, .makeSlice t x y,ty,ps,af,gd⟩ a.eval (tj enc c n (List.replicate n x0)):=fun a ha w0 w L hw=>by
 subst ex ey;obtain⟨w',h1,h2⟩:=DY ht hz (k:=k) (k':=k') (n:=n) x0 h0 (Nat.le_refl _) hb gN w;exact⟨w.heap.size,w',by simp only[execOp,ha.ev hx,ha.ev hy,Sem.run_bind,h1,Result.andThen,Sem.run_pure],hw.call h2⟩
def oD(f:FuncId):Array Value:= #[.func (.func f) #[] #[]]
instance:bc oD 1:=⟨fun _=>rfl,fun _=>by simp[oD,Value.oneCell']⟩
instance (f:FuncId):bL (oD f) 0 (.func (.func f) #[] #[]):=⟨rfl⟩
class pM(P:Program)(w0:World)(L:List ah)(f:FuncId)(jB:Array Value){α:outParam Type}(enc:outParam (α->Array Value))(R:outParam (α->Bool)):Prop where
 fn:aC P f
 h: ∀w,Mem w0 L w-> ∀x,Calls P f ((Value.agg (enc x)::jB.toList).toArray) w fun e w'=>e= .returned (.bool (R x))/\Mem w [] w'
theorem pM.at{P:Program}{w0:World}{L:List ah}{f:FuncId}{jB:Array Value}{α:Type}{enc:α->Array Value}{R:α->Bool}(q:pM P w0 L f jB enc R){w:World}(hw:Mem w0 L w):pM P w [] f jB enc R:=
 ⟨q.fn,fun w1 h1 x=>q.h w1 (by simpa using hw.call h1) x⟩
end Go.aA
namespace Go.Proofs.YtkggjjnhnjjokaaGreatDoor
open Go.aA Go.Kb Go.RowKit
instance:dj Tryz.prog 432 (.agg (dQ Tm)):=⟨by kernel_rfl⟩
theorem GQ(x:aD)(p:Int)(w:World):(Instr.build 432 #[(0, .agg (bn x)),(1, .int .i64 p)]).run Tryz.prog w= .ok (.agg (dQ ⟨x,p⟩)) w:=by
 obtain⟨a,b,c,d⟩:=x;unfold dQ bn;kernel_rfl
theorem WY(w:World)(a:Int):Calls Tryz.prog 350 #[.int .i64 a] w fun e w'=>e= .returned (.bool false)/\Mem w [] w':=by
 refine bS Tryz.func350 rfl Tryz.ntmps350 rfl ?_;refine dr ?_;refine Gr fun w1 hw=>?_;exact Ge ((by simp)) hw
variable {w0:World}{L:List ah}
instance aiR{a:Int}:bO Tryz.prog 350 w0 L [.int .i64 a] (.bool false) (True):=⟨fun hp w hw=>WY w a⟩
theorem WZ(w:World)(a:Int)(b:Int):Calls Tryz.prog 349 #[.int .i64 a, .int .i64 b] w fun e w'=>e= .returned (.int .i64 (tw a b))/\Mem w [] w':=by
 refine cl Tryz.func349 rfl Tryz.ntmps349 rfl ?_;refine y7 ?_;refine iw rfl (fun h0=>?_) (fun h0=>?_)
 ·
  exfalso;simp at h0
 replace h0:=bz h0;refine ak ?_;refine iw rfl (fun h2=>?_) (fun h2=>?_)
 ·
  exfalso;simp at h2
 replace h2:=bz h2;refine aK ?_;refine Gb (fun h3=>?_) fun h3=>?_
 ·
  refine ak ?_;refine Gr fun w1 hw=>?_;exact Gf ((by rw[tw,if_pos oM])) hw
 refine aK ?_;refine Gb (fun h4=>?_) fun h4=>?_
 ·
  refine ak ?_;refine Gr fun w1 hw=>?_;exact Gf ((by rw[tw,if_neg oM,if_pos oM])) hw
 refine ak ?_;refine Gr fun w1 hw=>?_;exact Gf ((by rw[tw,if_neg oM,if_neg oM])) hw
instance aiS{a:Int}{b:Int}:bO Tryz.prog 349 w0 L [.int .i64 a, .int .i64 b] (.int .i64 (tw a b)) (True):=⟨fun hp w hw=>WZ w a b⟩
theorem Nj(w:World)(b:gf):Calls Tryz.prog 335 #[.agg (dQ b)] w fun e w'=>e= .returned (.bool (qv b.ae b.w))/\Mem w [] w':=by
 refine bS Tryz.func335 rfl Tryz.ntmps335 rfl ?_;refine Gc ?_;refine bM rfl fun b1=>?_;refine dr ?_;refine fq rfl rfl rfl (fun hg=>(Ry.yl (aN (o':=1) (ay hg rfl) rfl))) ?_;refine cw ?_;refine Gr fun w1 hw=>?_;exact Ge (by simp only[qv,Bool.and_assoc]) hw
instance aiT{b:gf}:bO Tryz.prog 335 w0 L [.agg (dQ b)] (.bool (qv b.ae b.w)) (True):=⟨fun hp w hw=>Nj w b⟩
theorem Nk(w:World)(b:gf):Calls Tryz.prog 333 #[.agg (dQ b)] w fun e w'=>e= .returned (.bool (qw b.w))/\Mem w [] w':=by
 refine bS Tryz.func333 rfl Tryz.ntmps333 rfl ?_;refine Gc ?_;refine bM rfl fun b1=>?_;refine dr ?_;refine fq rfl rfl rfl (fun hg=>(Ry.yl (aN (o':=0) (ay hg rfl) rfl))) ?_;refine aK ?_;refine fq rfl rfl rfl (fun hg=>(Ry.yl (aN (o':=1) (ay hg rfl) rfl))) ?_;refine aK ?_;refine Gr fun w1 hw=>?_;exact Ge (by simp only[qw,Bool.and_assoc]) hw
instance aiU{b:gf}:bO Tryz.prog 333 w0 L [.agg (dQ b)] (.bool (qw b.w)) (True):=⟨fun hp w hw=>Nk w b⟩
theorem W0(w:World)(b:gf):Calls Tryz.prog 340 #[.agg (dQ b)] w fun e w'=>e= .returned (.bool (zt b.ae b.w))/\Mem w [] w':=by
 refine bS Tryz.func340 rfl Tryz.ntmps340 rfl ?_;refine Gc ?_;refine bM rfl fun b1=>?_;refine aS ?_;refine Gb (fun h0=>?_) fun h0=>?_
 ·
  refine cw ?_;refine Gr fun w1 hw=>?_;exact Ge (by rw[zt,if_pos h0]) hw
 refine fc ?_;refine fq rfl rfl rfl (fun hg=>(Ry.yl (aN (o':=0) (ay hg rfl) rfl))) ?_;refine aK ?_;refine fq rfl rfl rfl (fun hg=>(Ry.yl (aN (o':=0) (ay hg rfl) rfl))) ?_;refine cw ?_;refine Gr fun w1 hw=>?_;exact Ge (by rw[zt,if_neg (by rw[h0];simp)]) hw
theorem W1(w:World)(a:gf)(b:gf):Calls Tryz.prog 336 #[.agg (dQ a), .agg (dQ b)] w fun e w'=>e= .returned (.int .i64 (FF a.w b.w))/\Mem w [] w':=by
 refine cl Tryz.func336 rfl Tryz.ntmps336 rfl ?_;refine Gc ?_;refine bM rfl fun b2=>?_;refine bM rfl fun b3=>?_;refine k7 ?_;refine Gr fun w1 hw=>?_;exact⟨rfl,ai.mem hw⟩
theorem W2(w:World)(a:gf)(b:gf):Calls Tryz.prog 334 #[.agg (dQ a), .agg (dQ b)] w fun e w'=>e= .returned (.int .i64 (zu a.w b.w))/\Mem w [] w':=by
 refine cl Tryz.func334 rfl Tryz.ntmps334 rfl ?_;refine Gc ?_;refine bM rfl fun b2=>?_;refine bM rfl fun b3=>?_;refine k7 ?_;refine Gr fun w1 hw=>?_;exact⟨rfl,ai.mem hw⟩
theorem W3(w:World)(a:gf)(b:gf):Calls Tryz.prog 342 #[.agg (dQ a), .agg (dQ b)] w fun e w'=>e= .returned (.int .i64 (FG a.w b.w))/\Mem w [] w':=by
 refine cl Tryz.func342 rfl Tryz.ntmps342 rfl ?_;refine Gc ?_;refine bM rfl fun b2=>?_;refine bM rfl fun b3=>?_;refine k7 ?_;refine Gr fun w1 hw=>?_;exact⟨rfl,ai.mem hw⟩
theorem W4(w:World)(a:gf)(b:gf):Calls Tryz.prog 341 #[.agg (dQ a), .agg (dQ b)] w fun e w'=>e= .returned (.int .i64 (xj a.w b.w))/\Mem w [] w':=by
 refine cl Tryz.func341 rfl Tryz.ntmps341 rfl ?_;refine Gc ?_;refine bM rfl fun b2=>?_;refine bM rfl fun b3=>?_;refine dr ?_;refine ag (Ph rfl rfl Tryz.underlying4) ?_;refine au ?_;refine Gb (fun h0=>?_) fun h0=>?_
 ·
  refine ak ?_;refine Gr fun w1 hw=>?_;exact Gf ((by rw[xj,if_pos (by simpa using h0)])) hw
 refine aS ?_;refine Gb (fun h1=>?_) fun h1=>?_
 ·
  refine ak ?_;refine Gr fun w1 hw=>?_;exact Gf ((by rw[xj,if_neg (by simpa using h0),if_pos h1])) hw
 refine ak ?_;refine Gr fun w1 hw=>?_;exact Gf ((by rw[xj,if_neg (by simpa using h0),if_neg (by rw[h1];simp)])) hw
theorem W5(w:World)(l:Sv)(ls:List aD)(p:Int)(hl:bI bn 4 (hp w) l ls):Calls Tryz.prog 346 #[l.val, .int .i64 p] w fun e w'=>e= .returned (.bool (mS ls p))/\Mem w [] w':=by
 have jh:Gv w l bn 4 ls:=⟨hl⟩;have vm:dJ=1099511627776:=rfl;refine cl Tryz.func346 rfl Tryz.ntmps346 rfl ?_;refine RA ?_;refine Gb (fun h0=>?_) fun h0=>?_
 ·
  have hz:mS ls p=false:=by
   cases hk:mS ls p with
   |false=>rfl
   |true=>have g:=zv.1 hk;omega
  refine ak ?_;refine Gr fun w1 hw=>?_;exact Ge (hz.symm) hw
 refine aK ?_;refine bA (X:=Nat) (fun U=>[(25, .int .i64 (U:Nat)),(1, .int .i64 p),(23,l.val),(24, .int .i64 (ls.length:Nat))]) (fun U=>[]) (fun U=>U<=ls.length/\ ∀j x,j<U->ls[j]? =Option.some x->tz p x=true) (fun U=>ls.length -U) 0 ⟨Nat.zero_le _,fun j x hj=>by first|omega|(simp only[];omega)⟩ sb (fun w hw=>ai.mem hw) ?_;rintro i ⟨aT,az⟩;refine ak ?_;refine Gb (fun h1=>?_) fun h1=>?_
 ·
  refine k8 ?_;obtain⟨x,hx⟩:=get_some (xs:=ls) (i:=i) oM;refine ag (aR rfl rfl i rfl oM) ?_;refine ag (dO rfl i hx rfl) ?_;refine bj fun b6=>?_;refine JX ?_;refine Gb (fun h2=>?_) fun h2=>?_
  ·
   have hz:mS ls p=false:=by
    cases hk:mS ls p with
    |false=>rfl
    |true=>
     have g:=xk.1 ((zv.1 hk).2.2.2.2 x (List.mem_of_getElem? hx));omega
   refine ak ?_;refine Gr fun w1 hw=>?_;exact Ge (hz.symm) hw
  have xr:tz p x=true:=xk.2 ⟨by omega,by omega,by omega,by omega,by omega⟩;refine ak ?_;refine Gi ?_;exact aV (x:=(i)) (i+1) ⟨oF,fun j y hj hy=>if e:j=i then(by subst e;rw[hx]at hy;cases hy;exact xr)else az j y oF hy⟩ oF sb (fun w hw=>ai.mem hw)
 obtain rfl:i=ls.length:=by omega
 have hz:mS ls p=true:=zv.2 ⟨by omega,by omega,by omega,by omega,fun x hx=>by
  obtain⟨j,hj⟩:=List.getElem?_of_mem hx;exact az j x (List.getElem?_eq_some_iff.1 hj).1 hj⟩
 refine ak ?_;refine Gr fun w1 hw=>?_;exact Ge (hz.symm) hw
instance aiV{l:Sv}{ls:List aD}{p:Int}[hl:cz w0 L bn 4 l ls]:bO Tryz.prog 346 w0 L [l.val, .int .i64 p] (.bool (mS ls p)) (True):=⟨fun hp w hw=>W5 w l ls p (hl.h w hw)⟩
def fj(f:FuncId):aD->aD->Int:=if f=336 then FF else if f=334 then zu else if f=342 then FG else xj
theorem W6{f:FuncId}(h:f∈[336,334,342,341]):aC Tryz.prog f/\ ∀(w:World) (a b:gf),Calls Tryz.prog f #[.agg (dQ a), .agg (dQ b)] w fun e w'=>e= .returned (.int .i64 (fj f a.w b.w))/\Mem w [] w':=by
 simp only[List.mem_cons,List.not_mem_nil,or_false]at h;rcases h with rfl|rfl|rfl|rfl
 ·
  exact⟨inferInstance,fun w a b=>W1 w a b⟩
 ·
  exact⟨inferInstance,fun w a b=>W2 w a b⟩
 ·
  exact⟨inferInstance,fun w a b=>W3 w a b⟩
 exact⟨inferInstance,fun w a b=>W4 w a b⟩
def jE(f:FuncId)(p:Int):aD->Bool:=if f=335 then qv p else if f=333 then qw else zt p
theorem W7{f:FuncId}(h:f∈[335,333,340]):aC Tryz.prog f/\ ∀(w:World) (b:gf),Calls Tryz.prog f #[.agg (dQ b)] w fun e w'=>e= .returned (.bool (jE f b.ae b.w))/\Mem w [] w':=by
 simp only[List.mem_cons,List.not_mem_nil,or_false]at h;rcases h with rfl|rfl|rfl
 ·
  exact⟨inferInstance,fun w b=>Nj w b⟩
 ·
  exact⟨inferInstance,fun w b=>Nk w b⟩
 exact⟨inferInstance,fun w b=>W0 w b⟩
theorem W8(w:World)(a:gf)(b:gf)(o:Sv)(os:List FuncId)(ho:bI oD 1 (hp w) o os)(aP: ∀f∈os,f∈[336,334,342,341]):Calls Tryz.prog 348 #[.agg (dQ a), .agg (dQ b),o.val] w fun e w'=>e= .returned (.bool (pz a.w b.w (os.map fj)))/\Mem w [] w':=by
 have W9:Gv w o oD 1 os:=⟨ho⟩;have gQ:=ho.bd;refine pf Tryz.func348 rfl Tryz.ntmps348 rfl ?_;refine Gc ?_;refine bM rfl fun b3=>?_;refine bM rfl fun b4=>?_;refine aS ?_;refine bA (X:=Nat) (fun U=>[(12, .int .i64 (U:Nat)),(3, .pointer (some ⟨b3,0,none⟩)),(4, .pointer (some ⟨b4,0,none⟩)),(10,o.val),(11, .int .i64 (os.length:Nat))]) (fun U=>[an b4 (dQ b) 432,an b3 (dQ a) 432]) (fun U=>U<=os.length/\pz a.w b.w (os.map fj)=pz a.w b.w ((os.drop U).map fj)) (fun U=>os.length -U) 0 ⟨Nat.zero_le _,rfl⟩ sb (fun w hw=>ai.mem hw) ?_;rintro i ⟨aT,az⟩;refine ak ?_;refine Gb (fun h0=>?_) fun h0=>?_
 ·
  obtain⟨f,hf⟩:=get_some (xs:=os) (i:=i) oM;obtain⟨Xa,Xb⟩:=W6 (aP f (List.mem_of_getElem? hf));have bk:pz a.w b.w ((os.drop i).map fj)=if fj f a.w b.w≠0 then decide (fj f a.w b.w<0)else pz a.w b.w ((os.drop (i+1)).map fj):=by
   rw[drop_at hf,List.map_cons,pz]
  refine Gc ?_;refine ag (aR rfl rfl i rfl oM) ?_;refine ag (bw (j:=0) rfl i hf rfl (by decide)) ?_;refine aK ?_;refine dm (qH (f:=f) (vs:=[.agg (dQ a), .agg (dQ b)]) rfl rfl (fun w1 _=>Xb w1 a b)) ?_;refine aK ?_;refine Gb (fun h1=>?_) fun h1=>?_
  ·
   have hz:pz a.w b.w (os.map fj)=decide (fj f a.w b.w<0):=by rw[az,bk,if_pos h1]
   refine aK ?_;refine Gr fun w1 hw=>?_;exact Ge (hz.symm) hw
  rw[if_neg oM]at bk;refine ak ?_;refine Gi ?_;exact aV (x:=(i)) (i+1) ⟨oF,by rw[az,bk]⟩ oF sb (fun w hw=>ai.mem hw)
 obtain rfl:i=os.length:=by omega
 have hz:pz a.w b.w (os.map fj)=false:=by rw[az,List.drop_length];rfl
 refine ak ?_;refine Gr fun w1 hw=>?_;exact Ge (hz.symm) hw
instance aiW{a:gf}{b:gf}{o:Sv}{os:List FuncId}[ho:cz w0 L oD 1 o os]:bO Tryz.prog 348 w0 L [.agg (dQ a), .agg (dQ b),o.val] (.bool (pz a.w b.w (os.map fj))) (∀f∈os,f∈[336,334,342,341]):=⟨fun hp w hw=>W8 w a b o os (ho.h w hw) hp⟩
theorem Xc(w:World)(r:FuncId)(l:Sv)(ls:List aD)(p:Int)(o:Sv)(os:List FuncId)(hl:bI bn 4 (hp w) l ls)(ho:bI oD 1 (hp w) o os)(aP:r∈[335,333,340]/\ ∀f∈os,f∈[336,334,342,341]):Calls Tryz.prog 332 #[l.val, .int .i64 p, .func (.func r) #[] #[],o.val] w fun e w'=>e= .returned (.tuple #[.int .i64 ((fx ls p (jE r p) (os.map fj)).1), .bool ((fx ls p (jE r p) (os.map fj)).2)])/\Mem w [] w':=by
 have jh:Gv w l bn 4 ls:=⟨hl⟩;have W9:Gv w o oD 1 os:=⟨ho⟩;obtain⟨fB,Xd⟩:=aP;obtain⟨isr,Xe⟩:=W7 fB;have gQ:=hl.bd;refine JY Tryz.func332 rfl Tryz.ntmps332 rfl ?_;refine fc ?_;refine Gb (fun h0=>?_) fun h0=>?_
 ·
  have hE:fx ls p (jE r p) (os.map fj)=(0,false):=if_neg (by rw[h0];simp);refine aq ?_;refine Gr fun w1 hw=>?_;exact⟨by rw[hE],ai.mem hw⟩
 have hE:fx ls p (jE r p) (os.map fj)=fP ls (jE r p) (os.map fj) ls.length:=if_pos h0;refine dr ?_;refine bA (X:=Nat) (fun U=>[(21, .int .i64 (U:Nat)),(10, .int .i64 ((fP ls (jE r p) (os.map fj) U).1)),(11, .bool ((fP ls (jE r p) (os.map fj) U).2)),(0,l.val),(1, .int .i64 p),(2, .func (.func r) #[] #[]),(3,o.val),(19,l.val),(20, .int .i64 (ls.length:Nat))]) (fun U=>[]) (fun U=>U<=ls.length) (fun U=>ls.length -U) 0 (Nat.zero_le _) sb (fun w hw=>ai.mem hw) ?_;rintro i aT;refine ak ?_;refine Gb (fun h1=>?_) fun h1=>?_
 ·
  obtain⟨x,hx⟩:=get_some (xs:=ls) (i:=i) oM;have xN:ls.getD i gy=x:=by simp[List.getD,hx]
  have hle:=FH ls (jE r p) (os.map fj) i;refine au ?_;refine ag (aR rfl rfl i rfl oM) ?_;refine ag (dO rfl i hx rfl) ?_;refine bj fun gT=>?_;refine aK ?_;refine ag (cy (v:= .agg (dQ ⟨x,p⟩)) rfl (GQ x p)) ?_;refine bj fun CI=>?_;refine aq ?_;refine dm (qH (f:=r) (vs:=[.agg (dQ ⟨x,p⟩)]) rfl rfl (fun w1 _=>Xe w1 ⟨x,p⟩)) ?_;refine au ?_;refine Gb (fun h2=>?_) fun h2=>?_
  ·
   have bk:(fP ls (jE r p) (os.map fj) (i+1))=(fP ls (jE r p) (os.map fj) i):=by rw[fP,xm,xN,if_neg (by rw[h2];simp)]
   refine ak ?_;refine Gi ?_;exact aV (x:=(i)) (i+1) oF oF (Sub.cons rfl (Sub.cons (look_eq rfl (by rw[bk])) (Sub.cons (look_eq rfl (by rw[bk])) sb))) (fun w hw=>ai.mem hw)
  refine Gc ?_;refine fH oK oK ?_;refine ak ?_;refine eV rfl rfl rfl (fun hg=>(Ry.yl (iv rfl))) ?_;refine au ?_;refine eV rfl rfl rfl (fun hg=>(Ry.yl (aR (ay hg rfl) (ay hg rfl) ((fP ls (jE r p) (os.map fj) i).1.toNat) oM (by have:=hle.1;have:=hle.2.1;have:=(List.getElem?_eq_some_iff.1 hx).1;omega)))) ?_;refine eV rfl rfl rfl (fun hg=>(Ry.yl (dO (ay hg rfl) ((fP ls (jE r p) (os.map fj) i).1.toNat) (kW (d:=gy) (by have:=hle.1;have:=hle.2.1;have:=(List.getElem?_eq_some_iff.1 hx).1;omega)) rfl))) ?_;refine Gh ?_;refine eV rfl rfl rfl (fun hg=>(Ry.yl (cy (v:= .agg (dQ ⟨(ls.getD (fP ls (jE r p) (os.map fj) i).1.toNat gy),p⟩)) (yx (ay hg rfl) (yx (ay hg rfl) Ik)) (GQ (ls.getD (fP ls (jE r p) (os.map fj) i).1.toNat gy) p)))) ?_;refine Gh ?_;refine eV rfl rfl rfl (fun hg=>bV (di (ay hg rfl) (di (ay hg rfl) (di (ay hg rfl) fF))) Xd) ?_;refine au ?_;refine Gb (fun h3=>?_) fun h3=>?_
  ·
   have bk:(fP ls (jE r p) (os.map fj) (i+1))=((i:Int),true):=by
    rw[fP,xm,xN,if_pos ⟨h2,h3⟩]
   refine Gi ?_;refine aS ?_;refine Gi ?_;exact aV (x:=(i)) (i+1) oF oF (Sub.cons rfl (Sub.cons (look_eq rfl (by rw[bk])) (Sub.cons (look_eq rfl (by rw[bk])) sb))) (fun w hw=>ai.mem hw)
  have bk:(fP ls (jE r p) (os.map fj) (i+1))=(fP ls (jE r p) (os.map fj) i):=by
   rw[fP,xm,xN,if_neg];rintro⟨_,g⟩;rcases g with g|g
   ·
    exact absurd (h3.1.symm.trans g) (by simp)
   exact absurd (h3.2.symm.trans g) (by simp)
  refine ak ?_;refine Gi ?_;exact aV (x:=(i)) (i+1) oF oF (Sub.cons rfl (Sub.cons (look_eq rfl (by rw[bk])) (Sub.cons (look_eq rfl (by rw[bk])) sb))) (fun w hw=>ai.mem hw)
 obtain rfl:i=ls.length:=by omega
 refine aS ?_;refine Gr fun w1 hw=>?_;exact⟨by rw[hE],ai.mem hw⟩
instance aiX{r:FuncId}{l:Sv}{ls:List aD}{p:Int}{o:Sv}{os:List FuncId}[hl:cz w0 L bn 4 l ls][ho:cz w0 L oD 1 o os]:bO Tryz.prog 332 w0 L [l.val, .int .i64 p, .func (.func r) #[] #[],o.val] (.tuple #[.int .i64 ((fx ls p (jE r p) (os.map fj)).1), .bool ((fx ls p (jE r p) (os.map fj)).2)]) (r∈[335,333,340]/\ ∀f∈os,f∈[336,334,342,341]):=⟨fun hp w hw=>Xc w r l ls p o os (hl.h w hw) (ho.h w hw) hp⟩
theorem Xf(w:World)(l:Sv)(ls:List aD)(p:Int)(hl:bI bn 4 (hp w) l ls):Calls Tryz.prog 313 #[l.val, .int .i64 p] w fun e w'=>e= .returned (.tuple #[.int .i64 ((eQ ls p).1), .bool ((eQ ls p).2)])/\Mem w [] w':=by
 have jh:Gv w l bn 4 ls:=⟨hl⟩;refine cl Tryz.func313 rfl Tryz.ntmps313 rfl ?_;refine aS ?_;refine kx (enc:=oD) (vals:=[.func (.func 336) #[] #[], .func (.func 334) #[] #[]]) [336,334] rfl rfl rfl (by decide) (by decide) fun b8=>?_;refine dm (bV rfl (by decide)) ?_;refine ag (aL rfl rfl) ?_;refine ag (aL rfl rfl) ?_;refine ak ?_;refine Gr fun w1 hw=>?_;exact⟨rfl,ai.mem hw⟩
instance aiY{l:Sv}{ls:List aD}{p:Int}[hl:cz w0 L bn 4 l ls]:bO Tryz.prog 313 w0 L [l.val, .int .i64 p] (.tuple #[.int .i64 ((eQ ls p).1), .bool ((eQ ls p).2)]) (True):=⟨fun hp w hw=>Xf w l ls p (hl.h w hw)⟩
theorem Xg(w:World)(l:Sv)(ls:List aD)(p:Int)(hl:bI bn 4 (hp w) l ls):Calls Tryz.prog 310 #[l.val, .int .i64 p] w fun e w'=>e= .returned (.tuple #[.int .i64 ((ff ls p).1), .bool ((ff ls p).2)])/\Mem w [] w':=by
 have jh:Gv w l bn 4 ls:=⟨hl⟩;refine cl Tryz.func310 rfl Tryz.ntmps310 rfl ?_;refine aS ?_;refine kx (enc:=oD) (vals:=[.func (.func 334) #[] #[]]) [334] rfl rfl rfl (by decide) (by decide) fun b8=>?_;refine dm (bV rfl (by decide)) ?_;refine ag (aL rfl rfl) ?_;refine ag (aL rfl rfl) ?_;refine ak ?_;refine Gr fun w1 hw=>?_;exact⟨rfl,ai.mem hw⟩
instance aiZ{l:Sv}{ls:List aD}{p:Int}[hl:cz w0 L bn 4 l ls]:bO Tryz.prog 310 w0 L [l.val, .int .i64 p] (.tuple #[.int .i64 ((ff ls p).1), .bool ((ff ls p).2)]) (True):=⟨fun hp w hw=>Xg w l ls p (hl.h w hw)⟩
theorem Xh(w:World)(l:Sv)(ls:List aD)(p:Int)(hl:bI bn 4 (hp w) l ls):Calls Tryz.prog 327 #[l.val, .int .i64 p] w fun e w'=>e= .returned (.tuple #[.int .i64 ((rN ls p).1), .bool ((rN ls p).2)])/\Mem w [] w':=by
 have jh:Gv w l bn 4 ls:=⟨hl⟩;refine cl Tryz.func327 rfl Tryz.ntmps327 rfl ?_;refine aS ?_;refine kx (enc:=oD) (vals:=[.func (.func 341) #[] #[], .func (.func 342) #[] #[], .func (.func 334) #[] #[]]) [341,342,334] rfl rfl rfl (by decide) (by decide) fun b8=>?_;refine dm (bV rfl (by decide)) ?_;refine ag (aL rfl rfl) ?_;refine ag (aL rfl rfl) ?_;refine ak ?_;refine Gr fun w1 hw=>?_;exact⟨rfl,ai.mem hw⟩
instance ai0{l:Sv}{ls:List aD}{p:Int}[hl:cz w0 L bn 4 l ls]:bO Tryz.prog 327 w0 L [l.val, .int .i64 p] (.tuple #[.int .i64 ((rN ls p).1), .bool ((rN ls p).2)]) (True):=⟨fun hp w hw=>Xh w l ls p (hl.h w hw)⟩
theorem Xi(w:World)(l:Sv)(ls:List aD)(p:Int)(hl:bI bn 4 (hp w) l ls):Calls Tryz.prog 330 #[l.val, .int .i64 p] w fun e w'=>e= .returned (.int .i64 (zw ls p))/\Mem w [] w':=by
 have jh:Gv w l bn 4 ls:=⟨hl⟩;refine cl Tryz.func330 rfl Tryz.ntmps330 rfl ?_;refine dr ?_;refine Gb (fun h0=>?_) fun h0=>?_
 ·
  have hE:zw ls p=0:=if_neg (by rw[h0];simp);refine ak ?_;refine Gr fun w1 hw=>?_;exact Gf (by rw[hE]) hw
 have hE:zw ls p=lp (ls.map (ln p)):=if_pos h0;obtain⟨k1,k2,k3,k4,k5⟩:=zv.1 h0;refine cw ?_;refine bA (X:=Nat) (fun U=>[(15, .int .i64 (U:Nat)),(5, .int .i64 (lp ((ls.take U).map (ln p)))),(1, .int .i64 p),(13,l.val),(14, .int .i64 (ls.length:Nat))]) (fun U=>[]) (fun U=>U<=ls.length) (fun U=>ls.length -U) 0 (Nat.zero_le _) sb (fun w hw=>ai.mem hw) ?_;rintro i aT;refine ak ?_;refine Gb (fun h1=>?_) fun h1=>?_
 ·
  obtain⟨x,hx⟩:=get_some (xs:=ls) (i:=i) oM;have xr:=xk.1 (k5 x (List.mem_of_getElem? hx));have dL:(lp ((ls.take (i+1)).map (ln p)))=(lp ((ls.take i).map (ln p)))+ln p x:=by rw[List.take_add_one,hx,List.map_append,TT];simp[lp]
  have Xj:=Lv p (ls.take i) (fun x hx=>k5 x (List.mem_of_mem_take hx)) oM;have kA:(ls.take i).length<=32:=by rw[List.length_take];omega
  have ko:((ls.take i).length:Int)*p<=512:=room_le kA oM oM;refine Gc ?_;refine ag (aR rfl rfl i rfl oM) ?_;refine ag (dO rfl i hx rfl) ?_;refine bj fun b7=>?_;refine aq ?_;refine ag (cy (v:= .agg (dQ ⟨x,p⟩)) rfl (GQ x p)) ?_;refine bj fun b8=>?_;refine aS ?_;refine Gb (fun h2=>?_) fun h2=>?_
  ·
   have hr:ln p x=p:=if_pos h2;refine Gi ?_;refine cw ?_;refine Gi ?_;exact aV (x:=(i)) (i+1) oF oF (Sub.cons rfl (Sub.cons (look_eq rfl (by rw[dL,hr])) sb)) (fun w hw=>ai.mem hw)
  refine aK ?_;refine Gb (fun h3=>?_) fun h3=>?_
  ·
   have hr:ln p x=p -x.used:=by rw[ln,if_neg (by rw[h2];simp),if_pos h3]
   refine Gi ?_;refine aq ?_;refine ag (Ry.to (v':= .int .i64 x.used) (bN rfl) rfl) ?_;refine aS ?_;refine Gi ?_;exact aV (x:=(i)) (i+1) oF oF (Sub.cons rfl (Sub.cons (look_eq rfl (by rw[dL,hr])) sb)) (fun w hw=>ai.mem hw)
  have hr:ln p x=0:=by rw[ln,if_neg (by rw[h2];simp),if_neg (by rw[h3];simp)]
  refine ak ?_;refine Gi ?_;exact aV (x:=(i)) (i+1) oF oF (Sub.cons rfl (Sub.cons (look_eq rfl (by rw[dL,hr,Int.add_zero])) sb)) (fun w hw=>ai.mem hw)
 obtain rfl:i=ls.length:=by omega
 refine aq ?_;refine Gr fun w1 hw=>?_;exact Gf (by rw[hE,List.take_length]) hw
instance ai1{l:Sv}{ls:List aD}{p:Int}[hl:cz w0 L bn 4 l ls]:bO Tryz.prog 330 w0 L [l.val, .int .i64 p] (.int .i64 (zw ls p)) (True):=⟨fun hp w hw=>Xi w l ls p (hl.h w hw)⟩
theorem Xk(w:World)(n:Nat)(aP:n<=1000000000):Calls Tryz.prog 302 #[.slice none 0 0, .int .i64 (n:Nat)] w fun e w'=> ∃U:Sv,e= .returned (U.val)/\(True)/\Mem w [own (bP (τ:=UInt8)) 1 U ([]:List (Sl UInt8))] w':=by
 refine cl Tryz.func302 rfl Tryz.ntmps302 rfl ?_;refine aS ?_;refine Gb (fun h0=>?_) fun h0=>?_
 ·
  exfalso;omega
 refine ak ?_;refine ag (BA rfl) ?_;refine Gs ?_;refine ag (uz rfl) ?_;refine cw ?_;refine Gb (fun h1=>?_) fun h1=>?_
 ·
  refine Gi ?_;refine au ?_;refine ag (BA rfl) ?_;refine ag (Ry.to (v':= .slice none 0 0) (sU (s:=Sv.none) (h:=0) rfl rfl rfl Sv.yC (Nat.le_refl _)) rfl) ?_;refine Gs ?_;refine J9 (enc:=(bP (τ:=UInt8))) (k:=n) (⟨Sv.none,[]⟩:Sl UInt8) rfl rfl oM oM (by decide) rfl Tryz.underlying3 oM oM fun zJ zK GG=>?_;refine Gs ?_;refine ag (uz rfl) ?_;refine ag (sU (s:=⟨false,zJ,0,n,zK,none⟩) (h:=0) rfl rfl rfl ⟨(fun h=>by cases h),GG,by simp only;omega,fun _=>rfl⟩ (Nat.zero_le _)) ?_;refine aK ?_;refine Gr fun w1 hw=>?_;refine⟨Sv.sub ⟨false,zJ,0,n,zK,none⟩ 1 0 0,rfl,trivial,?_⟩;have eZ:=Mem.J8 (i:=0) (k:=0) hw rfl (Nat.zero_le _);rw[List.take_zero]at eZ;exact eZ
 have hn:n=0:=by omega
 refine aq ?_;refine Gr fun w1 hw=>?_;exact⟨Sv.none,rfl,trivial,(ai.mem hw:Mem w [] _).cR (bP (τ:=UInt8)) 1⟩
instance ai2{n:Nat}:bJ Tryz.prog 302 w0 L [.slice none 0 0, .int .i64 (n:Nat)] (Sv) (fun U=>U.val) (fun U=>own (bP (τ:=UInt8)) 1 U ([]:List (Sl UInt8))::L) (fun U=>True) (n<=1000000000):=⟨fun hp w hw=>(Xk w n hp).mono fun e w' ⟨x,h1,h2,h3⟩=>⟨x,h1,h2,hw.call h3⟩⟩
theorem Xl(w:World)(a:Sl (Sl (Sl UInt8)))(ha:Deep.aU (hp w) a)(aP:(eo a.xs).length<=1000000):Calls Tryz.prog 258 #[a.sv.val] w fun e w'=> ∃U:Sv,e= .returned (U.val)/\(True)/\Mem w [own (bP (τ:=UInt8)) 1 U (eo a.xs)] w':=by
 have GH:bQ w a:=⟨ha⟩;have vU:=ha.1.bd;have dC:=TH a.xs;refine bS Tryz.func258 rfl Tryz.ntmps258 rfl ?_;refine fc ?_;refine bA (X:=Nat) (fun U=>[(11, .int .i64 (U:Nat)),(3, .int .i64 ((eo (a.xs.take U)).length:Nat)),(0,a.sv.val),(9,a.sv.val),(10, .int .i64 (a.xs.length:Nat))]) (fun U=>[]) (fun U=>U<=a.xs.length) (fun U=>a.xs.length -U) 0 (Nat.zero_le _) sb (fun w hw=>ai.mem hw) ?_;rintro i hi;have ti:=dC i;have jq:=dC (i+1);refine ak ?_;refine Gb (fun h0=>?_) fun h0=>?_
 ·
  refine k8 ?_;obtain⟨x,hx⟩:=get_some (xs:=a.xs) (i:=i) oM;refine ag (aR rfl rfl i rfl oM) ?_;refine ag (bw (j:=0) rfl i hx rfl (by decide)) ?_;have Wn:(eo (a.xs.take (i+1))).length=(eo (a.xs.take i)).length+x.xs.length:=by rw[Cc hx,List.length_append]
  have CJ:Mb x _:=⟨List.mem_of_getElem? hx⟩;refine k7 ?_;refine Gb (fun h1=>?_) fun h1=>?_
  ·
   exfalso;omega
  refine ak ?_;refine Gi ?_;exact aV (x:=(i)) (i+1) oF oF (Sub.cons rfl (Sub.cons (look_eq rfl (by rw[Cc hx,List.length_append];simp)) sb)) (fun w hw=>ai.mem hw)
 obtain rfl:i=a.xs.length:=by omega
 have kV:=dC a.xs.length;refine au ?_;refine bf rfl oM fun tU GI=>?_;refine aS ?_;refine bA (X:=Nat×Sv) (fun U=>[(27, .int .i64 (U.1:Nat)),(6,U.2.val),(25,a.sv.val),(26, .int .i64 (a.xs.length:Nat))]) (fun U=>[own (bP (τ:=UInt8)) 1 U.2 (eo (a.xs.take U.1))]) (fun U=>U.1<=a.xs.length) (fun U=>a.xs.length -U.1) (0,tU) (Nat.zero_le _) sb (fun w hw=>(ai.mem hw:Mem _ [own (bP (τ:=UInt8)) 1 tU ([]:List (Sl UInt8))] _)) ?_;rintro⟨k,s1⟩ hk;dsimp only;simp only at hk;have ti:=dC k;have jq:=dC (k+1);refine ak ?_;refine Gb (fun h2=>?_) fun h2=>?_
 ·
  refine k8 ?_;obtain⟨y,hy⟩:=get_some (xs:=a.xs) (i:=k) oM;refine ag (aR rfl rfl k rfl oM) ?_;refine ag (bw (j:=0) rfl k hy rfl (by decide)) ?_;have Wo:(eo (a.xs.take (k+1))).length=(eo (a.xs.take k)).length+y.xs.length:=by rw[Cc hy,List.length_append]
  have Nb:Mb y _:=⟨List.mem_of_getElem? hy⟩;refine aq ?_;refine iS (s:=s1) (enc:=(bP (τ:=UInt8))) (ys:=y.xs) rfl rfl (by decide) (fun w hw=>gM (s:=y.sv) Tryz.underlying178 (by decide) ((inferInstance:cz _ _ (bP (τ:=UInt8)) 1 y.sv y.xs).h w hw)) oM oM fun GJ Wp Wq=>?_;refine aq ?_;refine Gi ?_;exact aV (x:=(k,s1)) (k+1,GJ) (by simp only;omega) (by simp only;omega) sb (fun w hw=>by rw[Cc hy];exact ai.mem hw)
 obtain rfl:k=a.xs.length:=by omega
 refine aq ?_;refine Gr fun w1 hw=>?_;exact⟨s1,rfl,trivial,by rw[List.take_length]at hw;exact ai.mem hw⟩
instance Nl{a:Sl (Sl (Sl UInt8))}[ha:aO w0 L a]:bJ Tryz.prog 258 w0 L [a.sv.val] (Sv) (fun U=>U.val) (fun U=>own (bP (τ:=UInt8)) 1 U (eo a.xs)::L) (fun U=>True) ((eo a.xs).length<=1000000):=⟨fun hp w hw=>(Xl w a (ha.h w hw) hp).mono fun e w' ⟨x,h1,h2,h3⟩=>⟨x,h1,h2,hw.call h3⟩⟩
theorem Xm(w:World)(x:Sv)(xs:List Int)(y:Sv)(ys:List Int)(hx:bI bl 1 (hp w) x xs)(hy:bI bl 1 (hp w) y ys):Calls Tryz.prog 167 #[x.val,y.val] w fun e w'=>e= .returned (.bool (decide (xs=ys)))/\Mem w [] w':=by
 have xI:Gv w x bl 1 xs:=⟨hx⟩;have Nn:Gv w y bl 1 ys:=⟨hy⟩;have Xn:=hx.bd;refine cl Tryz.func167 rfl Tryz.ntmps167 rfl ?_;refine fc ?_;refine Gb (fun h0=>?_) fun h0=>?_
 ·
  have hz:decide (xs=ys)=false:=decide_eq_false fun e=>h0 (by rw[e]);refine ak ?_;refine Gr fun w1 hw=>?_;exact Ge (hz.symm) hw
 have mR:xs.length=ys.length:=by omega
 refine aK ?_;refine bA (X:=Nat) (fun U=>[(13, .int .i64 (U:Nat)),(0,x.val),(1,y.val),(12, .int .i64 (xs.length:Nat))]) (fun U=>[]) (fun U=>U<=xs.length/\ ∀j,j<U->xs[j]? =ys[j]?) (fun U=>xs.length -U) 0 ⟨Nat.zero_le _,fun j hj=>by first|omega|(simp only[];omega)⟩ sb (fun w hw=>ai.mem hw) ?_;rintro i ⟨aT,az⟩;refine ak ?_;refine Gb (fun h1=>?_) fun h1=>?_
 ·
  obtain⟨p,iU⟩:=get_some (xs:=xs) (i:=i) oM;obtain⟨q,sf⟩:=get_some (xs:=ys) (i:=i) oM;refine aq ?_;refine fH oK oK ?_;refine au ?_;refine bu (aR rfl rfl i rfl oM) ?_;refine bu (bw (j:=0) rfl i iU rfl (by decide)) ?_;refine au ?_;refine bu (aR rfl rfl i rfl oM) ?_;refine bu (bw (j:=0) rfl i sf rfl (by decide)) ?_;refine au ?_;refine Gb (fun h2=>?_) fun h2=>?_
  ·
   have hz:decide (xs=ys)=false:=decide_eq_false fun e=>h2 (by rw[e]at iU;rw[iU]at sf;cases sf;rfl);refine ak ?_;refine Gr fun w1 hw=>?_;exact Ge (hz.symm) hw
  refine ak ?_;refine Gi ?_;exact aV (x:=(i)) (i+1) ⟨oF,fun j hj=>if e:j=i then(by subst e;rw[iU,sf,h2])else az j oF⟩ oF sb (fun w hw=>ai.mem hw)
 obtain rfl:i=xs.length:=by omega
 have hz:decide (xs=ys)=true:=decide_eq_true (List.ext_getElem? fun j=>by
  rcases Nat.lt_or_ge j xs.length with hj|hj
  ·
   exact az j hj
  rw[List.getElem?_eq_none hj,List.getElem?_eq_none oM])
 refine ak ?_;refine Gr fun w1 hw=>?_;exact Ge (hz.symm) hw
instance ai3{x:Sv}{xs:List Int}{y:Sv}{ys:List Int}[hx:cz w0 L bl 1 x xs][hy:cz w0 L bl 1 y ys]:bO Tryz.prog 167 w0 L [x.val,y.val] (.bool (decide (xs=ys))) (True):=⟨fun hp w hw=>Xm w x xs y ys (hx.h w hw) (hy.h w hw)⟩
theorem Xo(g:UInt64)(w:World):(Instr.build 314 #[(0, .int .u64 (g.toNat:Int))]).run Tryz.prog w= .ok (.agg (c8 ⟨g,⟨Sv.none,[]⟩⟩)) w:=by
 unfold c8;kernel_rfl
theorem Xp(w:World)(b:Sv)(bs:List UInt8)(hb:bI aJ 1 (hp w) b bs):Calls Tryz.prog 297 #[b.val] w fun e w'=> ∃U:cK,e= .returned (.tuple #[.agg (c8 U), .int .i64 ((ei bs).2)])/\(cL U=(ei bs).1)/\Mem w [own bl 1 U.at_.sv U.at_.xs] w':=by
 have vC:Gv w b aJ 1 bs:=⟨hb⟩;refine bS Tryz.func297 rfl Tryz.ntmps297 rfl ?_;refine Gc ?_;refine bj fun b2=>?_;refine ak ?_;refine bf rfl trivial fun cX vE=>?_;have No:cX.kind=(cS bs).1.kind:=congrArg PV.kind vE;have Np:cX.id=(cS bs).1.id:=congrArg PV.id vE;have sg:cX.gen.toNat=(cS bs).1.gen:=congrArg PV.gen vE;have mO:cX.body.xs=(cS bs).1.body:=congrArg PV.body vE;have dS:=Fw bs;rw[←mO]at dS;refine Gs ?_;refine ag (aL (v:= .agg (cm cX)) rfl rfl) ?_;refine ag (aL (v:= .int .i64 ((cS bs).2)) rfl rfl) ?_;refine bj fun b4=>?_;refine aS ?_;refine Gb (fun h0=>?_) fun h0=>?_
 ·
  have hE:ei bs=(fI,(cS bs).2):=by rw[ei,if_pos h0]
  refine Gc ?_;refine ag (cy (v:= .agg (c8 jU)) rfl (fun w=>by kernel_rfl)) ?_;refine aq ?_;refine Gr fun w1 hw=>?_;exact⟨jU,by rw[hE],by rw[hE];rfl,Mem.cR bl 1 (ai.mem hw:Mem w [] _)⟩
 refine aK ?_;refine Gb (fun h1=>?_) fun h1=>?_
 ·
  have hE:ei bs=(fI,6):=by rw[ei,if_neg oM,if_pos oM]
  refine Gc ?_;refine ag (cy (v:= .agg (c8 jU)) rfl (fun w=>by kernel_rfl)) ?_;refine ak ?_;refine Gr fun w1 hw=>?_;exact⟨jU,by rw[hE],by rw[hE];rfl,Mem.cR bl 1 (ai.mem hw:Mem w [] _)⟩
 refine aq ?_;refine ag (kb rfl rfl oM oM) ?_;refine fc ?_;refine bp rfl rfl rfl (fun hg=>(Ry.yl (D2 (p:=cX.body.xs.length) (q:=2) (ay hg rfl) rfl rfl rfl (by simp only[Z0,Z1,Z2,Z3,Z4,Z5,Z6,Z7,Z8,Z9]at hg;omega)))) ?_;refine aS ?_;refine bp rfl rfl rfl (fun hg=>(Ry.yl (wc (ay hg rfl) rfl (by simp only[Z0,Z1,Z2,Z3,Z4,Z5,Z6,Z7,Z8,Z9]at hg;omega)))) ?_;refine bp rfl rfl rfl (fun hg=>(Ry.yl (sO rfl (ay hg rfl)))) ?_;refine ak ?_;refine Gb (fun h2=>?_) fun h2=>?_
 ·
  have nK:tt (cS bs).1=false:=by
   cases hk:tt (cS bs).1 with
   |false=>rfl
   |true=>
    simp only[tt,Bool.and_eq_true,decide_eq_true_eq,←No,←Np,←mO]at hk;omega
  have hE:ei bs=(fI,2):=by rw[ei,if_neg oM,if_neg oM,if_pos nK]
  refine Gc ?_;refine ag (cy (v:= .agg (c8 jU)) rfl (fun w=>by kernel_rfl)) ?_;refine ak ?_;refine Gr fun w1 hw=>?_;exact⟨jU,by rw[hE],by rw[hE];rfl,Mem.cR bl 1 (ai.mem hw:Mem w [] _)⟩
 have nK:tt (cS bs).1=true:=by
  simp only[tt,Bool.and_eq_true,decide_eq_true_eq,←No,←Np,←mO];omega
 have hE:ei bs=(⟨cX.gen.toNat,om cX.body.xs⟩,0):=by rw[ei,if_neg oM,if_neg oM,if_neg (by rw[nK];simp),sg,mO]
 have vF:=Fy cX.body.xs;refine ak ?_;refine ag (cy (v:= .agg (c8 ⟨cX.gen,⟨Sv.none,[]⟩⟩)) rfl (Xo cX.gen)) ?_;refine bj fun b7=>?_;refine aK ?_;refine bA (X:=Nat×Sv) (fun U=>[(49, .int .i64 (U.1:Nat)),(7, .pointer (some ⟨b7,0,none⟩)),(2, .pointer (some ⟨b2,0,none⟩)),(4, .pointer (some ⟨b4,0,none⟩)),(48, .int .i64 ((cX.body.xs.length/2):Nat))]) (fun U=>[an b7 (c8 ⟨cX.gen,⟨U.2,(om cX.body.xs).take U.1⟩⟩) 314,own bl 1 U.2 ((om cX.body.xs).take U.1),an b4 (cm cX) 324,own aJ 1 cX.body.sv cX.body.xs,an b2 (c8 jU) 314]) (fun U=>U.1<=cX.body.xs.length/2) (fun U=>cX.body.xs.length/2 -U.1) (0,Sv.none) (Nat.zero_le _) sb (fun w hw=>by
  simp only[List.take_zero];exact ai.mem (Mem.cR bl 1 hw)) ?_
 rintro⟨i,s1⟩ aT;dsimp only;simp only at aT;refine ak ?_;refine Gb (fun h3=>?_) fun h3=>?_
 ·
  have dL:=TA (b:=cX.body.xs) (i:=i) oM;refine aq ?_;refine rn [19,20,22,1001,2019] [[],[],[],[],[],[],[],[],[],[],[],[],[],[],[],[],[],[],[],[],[1,19],[1,19,20],[1,19,20]] [0,1,2,3,4,5,6,7,8,9,10,11,12,13,14,15,16,17,18,19,20,21,22] [an b4 (cm cX) 324,own aJ 1 cX.body.sv cX.body.xs] [(19,tj bl 1 1 [(pw cX.body.xs i)])] oK (fun _ hw=>ai.mem hw) oK oK ?_;refine al rfl (aN (o':=1) rfl rfl) ?_;refine jr rfl (bN rfl) ?_;refine al rfl (aN (o':=3) rfl rfl) ?_;refine al rfl (bN rfl) ?_;refine al rfl (aZ rfl) ?_;refine al rfl (oP rfl rfl oM) ?_;refine al rfl (aR rfl rfl (2*i) rfl oM) ?_;refine al rfl (bw (j:=0) rfl (2*i) (kW (xs:=cX.body.xs) (i:=2*i) (d:=0) oM) rfl (by decide)) ?_;refine al rfl (uL rfl) ?_;refine al rfl (IM rfl rfl) ?_;refine al rfl (aN (o':=3) rfl rfl) ?_;refine al rfl (bN rfl) ?_;refine al rfl (aZ rfl) ?_;refine al rfl (oP rfl rfl oM) ?_;refine al rfl (yw rfl rfl oM) ?_;refine al rfl (aR rfl rfl (2*i+1) rfl oM) ?_;refine al rfl (bw (j:=0) rfl (2*i+1) (kW (xs:=cX.body.xs) (i:=2*i+1) (d:=0) oM) rfl (by decide)) ?_;refine al rfl (uL rfl) ?_;refine al rfl (IN rfl rfl) ?_;refine qk (m:=tj bl 1 1 [(pw cX.body.xs i)]) rfl rfl (JT (enc:=bl) (c:=1) (n:=1) (vals:=[.int .i64 (pw cX.body.xs i)]) [(pw cX.body.xs i)] rfl rfl rfl (by decide) (by decide)) (Cert.none rfl) fun CO=>?_;change Ln _ _ _ _ _ _ _ _ (cd _ _ (Sv.val ⟨false,CO,0,1,1,none⟩)) (own bl 1 ⟨false,CO,0,1,1,none⟩ [(pw cX.body.xs i)]::_) _;refine cY rfl (Rm (s:=s1) (ys:=[(pw cX.body.xs i)]) rfl rfl (by decide) (fun w hw=>gM (s:=⟨false,CO,0,1,1,none⟩) Tryz.underlying60 (by decide) ((inferInstance:Hd _ _ ⟨false,CO,0,1,1,none⟩ bl 1 [(pw cX.body.xs i)]).h w hw)) (by simp only[List.length_take,List.length_cons,List.length_nil];omega) (by simp only[List.length_take,List.length_cons,List.length_nil];omega) fun Nq ai4 ai5=>⟨fun _ hw=>ai.mem hw,?_⟩);refine al rfl (aN (o':=1) rfl rfl) ?_;refine cY rfl (wN (cs':=c8 (⟨cX.gen,⟨Nq,(((om cX.body.xs).take i)++[(pw cX.body.xs i)])⟩⟩:cK)) rfl rfl (by show 1<2;decide) (by first|rfl|exact Sv.one _) rfl ⟨fun _ hw=>ai.mem hw,?_⟩);refine ak ?_;refine Gi ?_;exact aV (x:=(i,s1)) (i+1,Nq) (by simp only;omega) (by simp only;omega) sb (fun w hw=>by
   simp only[dL];exact ai.mem hw)
 obtain rfl:i=cX.body.xs.length/2:=by omega
 rw[List.take_of_length_le oM]at*;refine aK ?_;refine Gr fun w1 hw=>?_;exact⟨⟨cX.gen,⟨s1,om cX.body.xs⟩⟩,by rw[hE],by rw[hE];rfl,ai.mem hw⟩
instance ai6{b:Sv}{bs:List UInt8}[hb:cz w0 L aJ 1 b bs]:bJ Tryz.prog 297 w0 L [b.val] (cK) (fun U=> .tuple #[.agg (c8 U), .int .i64 ((ei bs).2)]) (fun U=>own bl 1 U.at_.sv U.at_.xs::L) (fun U=>cL U=(ei bs).1) (True):=⟨fun hp w hw=>(Xp w b bs (hb.h w hw)).mono fun e w' ⟨x,h1,h2,h3⟩=>⟨x,h1,h2,hw.call h3⟩⟩
theorem Xq(w:World)(l:Sl (Sl UInt8))(hl:Deep.aU (hp w) l):Calls Tryz.prog 257 #[l.sv.val] w fun e w'=> ∃U:cK,e= .returned (.tuple #[.int .i64 ((eP (aG l.xs)).1), .agg (c8 U), .int .i64 ((eP (aG l.xs)).2.2)])/\(cL U=(eP (aG l.xs)).2.1)/\Mem w [own bl 1 U.at_.sv U.at_.xs] w':=by
 have jh:bQ w l:=⟨hl⟩;have gQ:=hl.1.bd;have gK:=l4 l.xs;refine bS Tryz.func257 rfl Tryz.ntmps257 rfl ?_;refine au ?_;refine bj fun b3=>?_;refine au ?_;refine ag (cy (v:= .agg (c8 jU)) rfl (fun w=>by kernel_rfl)) ?_;refine bj fun b6=>?_;refine fc ?_;refine bA (X:=Nat×cK) (fun U=>[(16, .int .i64 (U.1:Nat)),(5, .int .i64 ((dD (aG l.xs) U.1).at_)),(6, .pointer (some ⟨b6,0,none⟩)),(7, .bool ((dD (aG l.xs) U.1).found)),(8, .bool ((dD (aG l.xs) U.1).blank)),(3, .pointer (some ⟨b3,0,none⟩)),(14,l.sv.val),(15, .int .i64 (l.xs.length:Nat))]) (fun U=>[an b6 (c8 U.2) 314,own bl 1 U.2.at_.sv U.2.at_.xs,an b3 (c8 jU) 314]) (fun U=>U.1<=l.xs.length/\cL U.2=(dD (aG l.xs) U.1).new) (fun U=>l.xs.length -U.1) (0,jU) ⟨Nat.zero_le _,rfl⟩ sb (fun w hw=>by
  have h9:Mem _ [an b6 (c8 jU) 314,own bl 1 Sv.none [],an b3 (c8 jU) 314] _:=ai.mem (Mem.cR bl 1 hw);exact h9) ?_
 rintro⟨i,d⟩ ⟨aT,az⟩;dsimp only;simp only at aT az;refine ak ?_;refine Gb (fun h0=>?_) fun h0=>?_
 ·
  obtain⟨y,hy⟩:=get_some (xs:=l.xs) (i:=i) oM;have GO:Mb y l:=⟨List.mem_of_getElem? hy⟩;have Nr:=nu hy;have Ns:d.gen.toNat=(dD (aG l.xs) i).new.gen:=congrArg RV.gen az;refine au ?_;refine ag (aR rfl rfl i rfl oM) ?_;refine ag (bw (j:=0) rfl i hy rfl (by decide)) ?_;refine aS ?_;refine fq rfl rfl rfl (fun hg=>bV (di (ay hg rfl) fF) trivial) ?_;refine aq ?_;refine bf rfl trivial fun cT lI=>?_;have Nt:cT.gen.toNat=(ei y.xs).1.gen:=congrArg RV.gen lI;refine Gs ?_;refine ag (aL (v:= .agg (c8 cT)) rfl rfl) ?_;refine ag (aL (v:= .int .i64 ((ei y.xs).2)) rfl rfl) ?_;refine bj fun mv=>?_;refine cw ?_;refine fq rfl rfl rfl (fun hg=>(Ry.yl (jJ (ay hg rfl)))) ?_;refine fq rfl rfl rfl (fun hg=>(Ry.yl (aZ (ay hg rfl)))) ?_;refine oR rfl rfl rfl (fun hg=>(Ry.yl (aN (o':=0) rfl rfl))) ?_;refine oR rfl rfl rfl (fun hg=>(Ry.yl (bN (ay hg rfl)))) ?_;refine oR rfl rfl rfl (fun hg=>(Ry.yl (aN (o':=0) rfl rfl))) ?_;refine oR rfl rfl rfl (fun hg=>(Ry.yl (bN (ay hg rfl)))) ?_;refine oR rfl rfl rfl (fun hg=>(Ry.yl (c2 (ay hg rfl) (ay hg rfl) rfl))) ?_;refine fq rfl rfl rfl (fun hg=>(Ry.yl (uy (ay hg rfl) rfl (q6 hg rfl)))) ?_;refine au ?_;refine Gb (fun h1=>?_) fun h1=>?_
  ·
   have hq:(ei y.xs).2=0/\((dD (aG l.xs) i).found=false\/(dD (aG l.xs) i).new.gen<=(ei y.xs).1.gen):=⟨h1.1,h1.2.imp (fun h=>h) (fun h=>by rw[←Ns,←Nt];omega)⟩;have sh:=TD Nr hq;refine gF [3] [[],[],[],[],[3]] [0,1,2,3,4] [an mv (c8 cT) 314] (fun _ hw=>ai.mem hw) oK oK ?_;refine al rfl (aZ rfl) ?_;refine al rfl (iv rfl) ?_;refine al rfl (fL rfl) ?_;refine cY rfl (oc rfl rfl ⟨fun _ hw=>ai.mem hw,?_⟩);refine al rfl (fL rfl) ?_;refine ak ?_;refine Gi ?_;exact aV (x:=(i,d)) (i+1,cT) ⟨oF,by rw[sh];exact lI⟩ (by simp only;omega) (Sub.cons rfl (Sub.cons (look_eq rfl (by simp only[sh])) (Sub.cons rfl (Sub.cons (look_eq rfl (by simp only[sh])) (Sub.cons (look_eq rfl (by simp only[sh])) sb))))) (fun w hw=>ai.mem hw)
  have hq: ¬((ei y.xs).2=0/\((dD (aG l.xs) i).found=false\/(dD (aG l.xs) i).new.gen<=(ei y.xs).1.gen)):=fun hq=>by
   rw[←Ns,←Nt]at hq;rcases h1 with h|h
   ·
    exact h hq.1
   rcases hq.2 with g|g
   ·
    exact absurd (h.1.symm.trans g) (by simp)
   omega
  have sh:=TE Nr hq;refine ak ?_;refine Gi ?_;exact aV (x:=(i,d)) (i+1,d) ⟨oF,by rw[sh];exact az⟩ (by simp only;omega) (Sub.cons rfl (Sub.cons (look_eq rfl (by simp only[sh])) (Sub.cons rfl (Sub.cons (look_eq rfl (by simp only[sh])) (Sub.cons (look_eq rfl (by simp only[sh])) sb))))) (fun w hw=>ai.mem hw)
 obtain rfl:i=l.xs.length:=by omega
 rw[←gK]at az;refine aq ?_;refine Gb (fun h2=>?_) fun h2=>?_
 ·
  have hE:eP (aG l.xs)=((dD (aG l.xs) (aG l.xs).length).at_,(dD (aG l.xs) (aG l.xs).length).new,0):=by rw[eP,if_pos (by rw[gK];exact h2)]
  refine Gi ?_;refine gF [3] [[],[],[],[],[3]] [0,1,2,3,4] [an b6 (c8 d) 314] (fun _ hw=>ai.mem hw) oK oK ?_;refine al rfl (aZ rfl) ?_;refine al rfl (iv rfl) ?_;refine al rfl (fL rfl) ?_;refine cY rfl (oc rfl rfl ⟨fun _ hw=>ai.mem hw,?_⟩);refine al rfl (fL rfl) ?_;refine Gc ?_;refine Gr fun w1 hw=>?_;exact⟨d,by rw[hE,gK],by rw[hE];exact az,ai.mem hw⟩
 refine aq ?_;refine Gb (fun h3=>?_) fun h3=>?_
 ·
  have hE:eP (aG l.xs)=(0,fI,6):=by rw[eP,if_neg (by rw[gK,h2];simp),if_pos (by rw[gK];exact h3)]
  refine Gc ?_;refine ag (cy (v:= .agg (c8 jU)) rfl (fun w=>by kernel_rfl)) ?_;refine aq ?_;refine Gr fun w1 hw=>?_;exact⟨jU,by rw[hE],by rw[hE];rfl,Mem.cR bl 1 (ai.mem hw:Mem w [] _)⟩
 have hE:eP (aG l.xs)=(0,fI,2):=by rw[eP,if_neg (by rw[gK,h2];simp),if_neg (by rw[gK,h3];simp)]
 refine Gc ?_;refine ag (cy (v:= .agg (c8 jU)) rfl (fun w=>by kernel_rfl)) ?_;refine aq ?_;refine Gr fun w1 hw=>?_;exact⟨jU,by rw[hE],by rw[hE];rfl,Mem.cR bl 1 (ai.mem hw:Mem w [] _)⟩
instance Nu{l:Sl (Sl UInt8)}[hl:aO w0 L l]:bJ Tryz.prog 257 w0 L [l.sv.val] (cK) (fun U=> .tuple #[.int .i64 ((eP (aG l.xs)).1), .agg (c8 U), .int .i64 ((eP (aG l.xs)).2.2)]) (fun U=>own bl 1 U.at_.sv U.at_.xs::L) (fun U=>cL U=(eP (aG l.xs)).2.1) (True):=⟨fun hp w hw=>(Xq w l (hl.h w hw)).mono fun e w' ⟨x,h1,h2,h3⟩=>⟨x,h1,h2,hw.call h3⟩⟩
theorem Xr(c:Cp)(s:Sl Int)(g:UInt64)(l:Int)(w:World):(Instr.build 63 #[(0, .agg (aE c)),(1,s.sv.val),(2, .int .u64 (g.toNat:Int)),(3, .int .i64 l)]).run Tryz.prog w= .ok (.agg (bH ⟨c,s,g,l⟩)) w:=by
 obtain⟨s,xs⟩:=s;obtain⟨a1,a2,⟨a3,a4⟩,a5,a6,⟨a7,a8⟩⟩:=c;unfold bH aE;obtain⟨e,b,o,l,c,p⟩:=s;obtain⟨e3,b3,o3,l3,c3,p3⟩:=a3;obtain⟨e7,b7,o7,l7,c7,p7⟩:=a7
 cases e<;>cases e3<;>cases e7<;>kernel_rfl
theorem Xs(w:World)(c:Cp)(hc:Deep.aU (hp w) c):Calls Tryz.prog 221 #[.agg (aE c)] w fun e w'=> ∃U:bG,e= .returned (.tuple #[.agg (bH U), .int .i64 ((bq (cv c)).2)])/\(vv U=(bq (cv c)).1/\((bq (cv c)).2=0->U.aj=c))/\Mem w [own bl 1 U.at_.sv U.at_.xs] w':=by
 have jg:bQ w c:=⟨hc⟩;refine bS Tryz.func221 rfl Tryz.ntmps221 rfl ?_;refine Gc ?_;refine bM rfl fun b1=>?_;refine bj fun b2=>?_;refine aS ?_;refine Gb (fun h0=>?_) fun h0=>?_
 ·
  have hE:bq (cv c)=(kE,1):=by rw[bq,if_pos h0]
  have ct:(1:Int)≠0:=by decide
  refine Gc ?_;refine ag (cy (v:= .agg (bH jV)) rfl (fun w=>by kernel_rfl)) ?_;refine ak ?_;refine Gr fun w1 hw=>?_;exact⟨jV,by rw[hE],⟨by rw[hE];rfl,fun h=>absurd (by rw[hE]at h;exact h) ct⟩,Mem.cR bl 1 (ai.mem hw:Mem w [] _)⟩
 have nN:=zq.1 h0;have hk:=nN.1;have oz:(cv c).blocks.length=c.blocks.xs.length:=fw _;have gk:=jT.1 (dZ.1 hk).1;obtain⟨B0,xO⟩:=get_some (xs:=c.blocks.xs) (i:=0) oM;obtain⟨B1,qN⟩:=get_some (xs:=c.blocks.xs) (i:=1) oM;have Xt:Mb B0 c.blocks:=⟨List.mem_of_getElem? xO⟩;have Xu:Mb B1 c.blocks:=⟨List.mem_of_getElem? qN⟩;have o0:=(fO.1 ((dZ.1 hk).2.2.2.2 (bv B0) (List.mem_of_getElem? (kC xO)))).1;have o1:=(fO.1 ((dZ.1 hk).2.2.2.2 (bv B1) (List.mem_of_getElem? (kC qN)))).1;have GR:=l4 B0.ae.xs;have ht1:=l4 B1.ae.xs;simp only[bv,cv]at o0 o1 gk;have hT:aG (eo [B0.ae,B1.ae])=(aI (cv c) 0).ae++(aI (cv c) 1).ae:=by
  rw[FA,show aI (cv c) 0=bv B0 from FB xO,show aI (cv c) 1=bv B1 from FB qN];rfl
 have kK:=Li (l:=(aI (cv c) 0).ae++(aI (cv c) 1).ae) (by rw[←hT,FA,List.length_append];omega);have gK:((aI (cv c) 0).ae++(aI (cv c) 1).ae).length=B0.ae.xs.length+B1.ae.xs.length:=by rw[←hT,FA,List.length_append];omega
 have tX:0<=(eF (cv c)).1:=kK.1;have xJ:(eF (cv c)).1<c.ae+c.ae:=by have:=kK.2;rw[gK]at this;change(eF (cv c)).1<_ at this;omega
 have gva:Lg w (eo [B0.ae,B1.ae]):=⟨fun y hy=>by
  simp only[eo,List.map_cons,List.map_nil,List.flatten_cons,List.flatten_nil,List.append_nil,List.mem_append]at hy;rcases hy with hy|hy
  ·
   exact(hc.1.2 B0 Xt.h).2 y hy
  exact(hc.1.2 B1 Xu.h).2 y hy⟩
 have ai7:0<=((eF (cv c)).1/c.ae):=Int.ediv_nonneg tX oM;have ai8:((eF (cv c)).1/c.ae)<2:=Int.ediv_lt_of_lt_mul oM oM;have bZ:=Lk ((aI (cv c) 0).ae++(aI (cv c) 1).ae);have GN:(c.blocks.xs.getD ((eF (cv c)).1/c.ae).toNat nt).used=(aI (cv c) ((eF (cv c)).1/c.ae)).used:=congrArg BV.used (vf (c:=c));refine aq ?_;refine Gb (fun h1=>?_) fun h1=>?_
 ·
  have hE:bq (cv c)=(kE,7):=by rw[bq,if_neg (by rw[h0];simp),if_pos (show(cv c).off=true from h1)]
  have ct:(7:Int)≠0:=by decide
  refine Gc ?_;refine ag (cy (v:= .agg (bH jV)) rfl (fun w=>by kernel_rfl)) ?_;refine ak ?_;refine Gr fun w1 hw=>?_;exact⟨jV,by rw[hE],⟨by rw[hE];rfl,fun h=>absurd (by rw[hE]at h;exact h) ct⟩,Mem.cR bl 1 (ai.mem hw:Mem w [] _)⟩
 have n0: ¬(cv c).off=true:=by rw[show(cv c).off=c.off from rfl,h1];simp
 refine Gc ?_;refine rn [10,11,12,17,19,2010,2017,4011,4012] [[],[],[],[],[],[],[],[],[],[],[],[10],[10,11],[10,11,12],[10,11,12],[10,11,12],[10,11,12],[],[10,11,12,17],[10,11,12,17],[10,11,12,17,19]] [0,1,2,3,4,5,6,7,8,9,10,11,12,13,14,15,16,17,18,19,20] [an b1 (aE c) 59] [(10,tj (bP (τ:=Sl UInt8)) 1 2 [B0.ae,B1.ae]),(17,lW Tryz.prog 314)] oK (fun _ hw=>ai.mem hw) oK oK ?_;refine al rfl (aN (o':=2) rfl rfl) ?_;refine al rfl (bN rfl) ?_;refine al rfl (aR rfl rfl 0 rfl oM) ?_;refine al rfl (aN rfl rfl) ?_;refine al rfl (bw (j:=0) rfl 0 xO rfl (by decide)) ?_;refine al rfl (aN (o':=2) rfl rfl) ?_;refine al rfl (bN rfl) ?_;refine al rfl (aR rfl rfl 1 rfl oM) ?_;refine al rfl (aN rfl rfl) ?_;refine al rfl (bw (j:=0) rfl 1 qN rfl (by decide)) ?_;refine qk (m:=tj (bP (τ:=Sl UInt8)) 1 2 [B0.ae,B1.ae]) rfl rfl (JT (enc:=(bP (τ:=Sl UInt8))) (c:=1) (n:=2) (vals:=[B0.ae.sv.val,B1.ae.sv.val]) [B0.ae,B1.ae] rfl (by simp only[List.map_cons,List.map_nil,Sv.fY];rfl) rfl (by decide) (by decide)) (Cert.one (i:=17) rfl rfl rfl k6 (Cert.none rfl)) fun CP=>?_;change Ln _ _ _ _ _ _ _ _ (cd _ _ (Sv.val ⟨false,CP,0,2,2,none⟩)) (own (bP (τ:=Sl UInt8)) 1 ⟨false,CP,0,2,2,none⟩ [B0.ae,B1.ae]::_) _;refine u4 (hc:=Nl (a:=(⟨⟨false,CP,0,2,2,none⟩,[B0.ae,B1.ae]⟩:Sl (Sl (Sl UInt8))))) (EJ:=fun e_=>Nl (a:=(⟨⟨false,CP,0,2,2,none⟩,[B0.ae,B1.ae]⟩:Sl (Sl (Sl UInt8))))) rfl rfl (by simp only[eo,List.map_cons,List.map_nil,List.flatten_cons,List.flatten_nil,List.length_append,List.length_nil];omega) (fun e x w hw=>ai.mem hw) (Cert.one (i:=17) rfl rfl rfl k6 (Cert.none rfl)) fun oE qO=>⟨fun _ hw=>ai.mem hw,?_⟩;refine u4 (hc:=Nu (l:=(⟨oE,(eo [B0.ae,B1.ae])⟩:Sl (Sl UInt8)))) (EJ:=fun e_=>Nu (l:=(⟨oE,(eo [B0.ae,B1.ae])⟩:Sl (Sl UInt8)))) rfl rfl trivial (fun e x w hw=>ai.mem hw) (Cert.one (i:=17) rfl rfl rfl k6 (Cert.none rfl)) fun cT lI=>⟨fun _ hw=>ai.mem hw,?_⟩;have fB:(eP (aG (eo [B0.ae,B1.ae]))).1=(eF (cv c)).1:=by rw[hT];rfl
 have GS:(eP (aG (eo [B0.ae,B1.ae]))).2.2=(eF (cv c)).2.2:=by rw[hT];rfl
 have zQ:cL cT=(eF (cv c)).2.1:=by rw[lI,hT];rfl
 have mr:cT.gen.toNat=(eF (cv c)).2.1.gen:=congrArg RV.gen zQ;have CQ:cT.at_.xs=(eF (cv c)).2.1.at_:=congrArg RV.at_ zQ;refine al rfl (aZ rfl) ?_;refine al rfl (aL (v:= .int .i64 ((eP (aG (eo [B0.ae,B1.ae]))).1)) rfl rfl) ?_;refine al rfl (aL (v:= .agg (c8 cT)) rfl rfl) ?_;refine al rfl (aL (v:= .int .i64 ((eP (aG (eo [B0.ae,B1.ae]))).2.2)) rfl rfl) ?_;refine qk (m:=lW Tryz.prog 314) rfl rfl k6 (Cert.none rfl) fun b5=>?_;change Ln _ _ _ _ _ _ _ _ (cd _ _ (.pointer (some ⟨b5,0,none⟩))) (an b5 (c8 jU) 314::_) _;refine al rfl (fL rfl) ?_;refine cY rfl (oc rfl rfl ⟨fun _ hw=>ai.mem hw,?_⟩);refine al rfl (fL rfl) ?_;refine aq ?_;refine Gb (fun h2=>?_) fun h2=>?_
 ·
  rw[GS]at h2;have hE:bq (cv c)=(kE,(eF (cv c)).2.2):=by rw[bq,if_neg (by rw[h0];simp),if_neg n0,if_pos h2]
  have ct:=h2;refine Gc ?_;refine ag (cy (v:= .agg (bH jV)) rfl (fun w=>by kernel_rfl)) ?_;refine aq ?_;refine Gr fun w1 hw=>?_;exact⟨jV,by rw[hE,GS],⟨by rw[hE];rfl,fun h=>absurd (by rw[hE]at h;exact h) ct⟩,Mem.cR bl 1 (ai.mem hw:Mem w [] _)⟩
 rw[GS]at h2;refine aq ?_;refine ag (kb rfl rfl oM oM) ?_;refine au ?_;refine fH oK oK ?_;refine ak ?_;refine bu (we rfl rfl oM oM) ?_;refine ak ?_;refine bu (aR rfl rfl (((eP (aG (eo [B0.ae,B1.ae]))).1/c.ae).toNat) (by rw[fB];omega) (by rw[fB];omega)) ?_;refine bu (aN rfl rfl) ?_;refine bu (bw (j:=1) rfl (((eP (aG (eo [B0.ae,B1.ae]))).1/c.ae).toNat) (kW (xs:=c.blocks.xs) (i:=((eP (aG (eo [B0.ae,B1.ae]))).1/c.ae).toNat) (d:=nt) (by rw[fB];omega)) rfl (by decide)) ?_;refine au ?_;refine eV rfl rfl rfl (fun hg=>(Ry.yl (iv rfl))) ?_;refine au ?_;refine eV rfl rfl rfl (fun hg=>bV (di (ay hg rfl) (di (ay hg rfl) fF)) ⟨hk,fun x hx=>bZ x (by rw[CQ]at hx;exact hx)⟩) ?_;refine eV rfl rfl rfl (fun hg=>(Ry.yl (jJ (ay hg rfl)))) ?_;refine au ?_;refine Gb (fun h3=>?_) fun h3=>?_
 ·
  have mG:rM (cv c)=false:=by
   rw[CQ]at h3
   cases qL:rM (cv c)with
   |false=>rfl
   |true=>
    simp only[rM,Bool.and_eq_true,decide_eq_true_eq]at qL;rw[qL.2]at h3;simp only[Bool.true_eq_false,or_false]at h3;have:=qL.1;rw[fB,GN]at h3;exact absurd this (by simp only[cv]at*;omega)
  have hE:bq (cv c)=(kE,2):=by rw[bq,if_neg (by rw[h0];simp),if_neg n0,if_neg oM,if_pos mG]
  have ct:(2:Int)≠0:=by decide
  refine Gc ?_;refine ag (cy (v:= .agg (bH jV)) rfl (fun w=>by kernel_rfl)) ?_;refine ak ?_;refine Gr fun w1 hw=>?_;exact⟨jV,by rw[hE],⟨by rw[hE];rfl,fun h=>absurd (by rw[hE]at h;exact h) ct⟩,Mem.cR bl 1 (ai.mem hw:Mem w [] _)⟩
 have mG:rM (cv c)=true:=by
  rw[CQ,fB,GN]at h3;simp only[rM,Bool.and_eq_true,decide_eq_true_eq];exact⟨by have:=h3.1;simp only[cv]at*;omega,h3.2⟩
 have hE:bq (cv c)=(⟨cv c,(eF (cv c)).2.1.at_,(eF (cv c)).2.1.gen,(eF (cv c)).1/c.ae⟩,0):=by rw[bq,if_neg (by rw[h0];simp),if_neg n0,if_neg oM,if_neg (by rw[mG];simp)];rfl
 refine cw ?_;refine ag (cy (v:= .agg (bH ⟨c,cT.at_,cT.gen,((eP (aG (eo [B0.ae,B1.ae]))).1/c.ae)⟩)) rfl (Xr c cT.at_ cT.gen ((eP (aG (eo [B0.ae,B1.ae]))).1/c.ae))) ?_;refine ak ?_;refine Gr fun w1 hw=>?_;exact⟨⟨c,cT.at_,cT.gen,(eP (aG (eo [B0.ae,B1.ae]))).1/c.ae⟩,by rw[hE],⟨by rw[hE];simp only[vv,CQ,mr,fB],fun _=>rfl⟩,ai.mem hw⟩
instance ai9{c:Cp}[hc:aO w0 L c]:bJ Tryz.prog 221 w0 L [.agg (aE c)] (bG) (fun U=> .tuple #[.agg (bH U), .int .i64 ((bq (cv c)).2)]) (fun U=>own bl 1 U.at_.sv U.at_.xs::L) (fun U=>vv U=(bq (cv c)).1/\((bq (cv c)).2=0->U.aj=c)) (True):=⟨fun hp w hw=>(Xs w c (hc.h w hw)).mono fun e w' ⟨x,h1,h2,h3⟩=>⟨x,h1,h2,hw.call h3⟩⟩
theorem Xv(w:World)(c:Cp)(hc:Deep.aU (hp w) c):Calls Tryz.prog 180 #[.agg (aE c)] w fun e w'=> ∃U:bG,e= .returned (.tuple #[.agg (bH U), .int .i64 ((bq (cv c)).2)])/\(vv U=(if(bq (cv c)).2=0 then(bq (cv c)).1 else kE))/\Mem w [fz U.aj,own bl 1 U.at_.sv U.at_.xs] w':=by
 have jg:bQ w c:=⟨hc⟩;refine bS Tryz.func180 rfl Tryz.ntmps180 rfl ?_;refine Gc ?_;refine bM rfl fun b1=>?_;refine bj fun b2=>?_;refine ak ?_;refine bf rfl trivial fun x8 oy=>?_;obtain⟨Nv,Nw⟩:=oy;have Xw:=Lm (cv c);have Xx:x8.at_.xs=(bq (cv c)).1.at_:=congrArg VV.at_ Nv;rw[←Xx]at Xw;refine Gs ?_;refine ag (aL (v:= .agg (bH x8)) rfl rfl) ?_;refine ag (aL (v:= .int .i64 ((bq (cv c)).2)) rfl rfl) ?_;refine bj fun b4=>?_;refine aS ?_;refine Gb (fun h0=>?_) fun h0=>?_
 ·
  refine Gc ?_;refine ag (cy (v:= .agg (bH jV)) rfl (fun w=>by kernel_rfl)) ?_;refine aq ?_;refine Gr fun w1 hw=>?_;exact⟨jV,rfl,by rw[if_neg h0];rfl,TM (Mem.cR bl 1 (ai.mem hw:Mem w [] _))⟩
 have vG:(bq (cv c)).2=0:=h0;have ec:Lo x8.aj c:=⟨Nw vG⟩;have ko:du x8.aj:=by rw[Nw vG];exact qo (zq.1 (FC vG)).1
 refine iW ?_;refine qd [Deep.bE x8.at_,an b4 (bH x8) 63,an b2 (bH jV) 63,an b1 (aE c) 59] (fun w hw=>ai.mem (Mem.BC (ai.mem hw:Mem _ [own bl 1 x8.at_.sv x8.at_.xs,an b4 (bH x8) 63,an b2 (bH jV) 63,an b1 (aE c) 59] _))) ?_;refine Gi ?_;refine Gs ?_;refine bf rfl ⟨by assumption,by omega⟩ fun ax ji=>?_;refine ak ?_;refine Gr fun w1 hw=>?_;exact⟨(⟨ax.1,⟨ax.2,x8.at_.xs⟩,x8.gen,x8.last⟩:bG),by rw[vG],by
  rw[if_pos vG,←Nv];simp only[vv,ji],ai.mem hw⟩
instance aja{c:Cp}[hc:aO w0 L c]:bJ Tryz.prog 180 w0 L [.agg (aE c)] (bG) (fun U=> .tuple #[.agg (bH U), .int .i64 ((bq (cv c)).2)]) (fun U=>fz U.aj::own bl 1 U.at_.sv U.at_.xs::L) (fun U=>vv U=(if(bq (cv c)).2=0 then(bq (cv c)).1 else kE)) (True):=⟨fun hp w hw=>(Xv w c (hc.h w hw)).mono fun e w' ⟨x,h1,h2,h3⟩=>⟨x,h1,h2,hw.call h3⟩⟩
theorem Xy(w:World)(v:bG)(hv:Deep.aU (hp w) v):Calls Tryz.prog 173 #[.agg (bH v)] w fun e w'=>e= .returned (.bool (nz (vv v)))/\Mem w [] w':=by
 have zM:bQ w v:=⟨hv⟩;refine bS Tryz.func173 rfl Tryz.ntmps173 rfl ?_;refine Gc ?_;refine bM rfl fun b1=>?_;refine ak ?_;refine ag (gD rfl) ?_;refine bj fun b3=>?_;refine ak ?_;refine dw (cs':=aE (⟨v.aj.ae,v.aj.size,v.aj.blocks,v.aj.ops,false,v.aj.bb⟩:Cp)) rfl rfl (by show 4<6;decide) (by first|rfl|exact Sv.one _) rfl ?_;refine au ?_;refine bf rfl trivial fun cX vE=>?_;obtain⟨GU,ajb⟩:=vE;have Xz:cX.gen.toNat=(bq {(vv v).aj with off:=false}).1.gen:=congrArg VV.gen GU
 have CR:cX.last=(bq {(vv v).aj with off:=false}).1.last:=congrArg VV.last GU
 have XA:cX.at_.xs=(bq {(vv v).aj with off:=false}).1.at_:=congrArg VV.at_ GU
 refine Gs ?_;refine ag (aL (v:= .agg (bH cX)) rfl rfl) ?_;refine ag (aL (v:= .int .i64 ((bq (cv (⟨v.aj.ae,v.aj.size,v.aj.blocks,v.aj.ops,false,v.aj.bb⟩:Cp))).2)) rfl rfl) ?_;refine bj fun b4=>?_;refine RD ?_;refine fq rfl rfl rfl (fun hg=>bV (di (ay hg rfl) (di (ay hg rfl) fF)) trivial) ?_;refine ak ?_;refine Gr fun w1 hw=>?_;exact Ge ((by rw[show decide (((cX.gen.toNat:Nat):Int)=((v.gen.toNat:Nat):Int))=decide (cX.gen.toNat=v.gen.toNat)from decide_eq_decide.2 oM,nz,←Xz,←CR,←XA];rfl)) hw
instance ajc{v:bG}[hv:aO w0 L v]:bO Tryz.prog 173 w0 L [.agg (bH v)] (.bool (nz (vv v))) (True):=⟨fun hp w hw=>Xy w v (hv.h w hw)⟩
theorem XB(w:World)(v:bG)(id:Int)(hv:Deep.aU (hp w) v)(aP:aX (cv v.aj)=true/\ ∃y,v.at_.xs[id.toNat]? =Option.some y/\0<=id/\1<=y/\y<=1000000/\2<=(y -1)/(cv v.aj).ae/\(y -1)/(cv v.aj).ae<((cv v.aj).blocks.length:Int)):Calls Tryz.prog 347 #[.agg (bH v), .int .i64 id] w fun e w'=> ∃U:Sv,e= .returned (U.val)/\(True)/\Mem w [own aJ 1 U (kg (cv v.aj) (v.at_.xs.getD id.toNat 0))] w':=by
 have zM:bQ w v:=⟨hv⟩;obtain⟨hk,y,hy,hid,Gy,vH,g1,g2⟩:=aP;have mu:v.at_.xs.getD id.toNat 0=y:=vj hy;have dI:=(List.getElem?_eq_some_iff.1 hy).1;have dS:=fw v.aj.blocks.xs;have gk:=jT.1 (dZ.1 hk).1;simp only[cv,dS]at gk;have zO:0<=((y -1)/v.aj.ae):=Int.ediv_nonneg oM oM;have qK:0<=((y -1)%v.aj.ae):=Int.emod_nonneg _ oM;have zP:((y -1)%v.aj.ae)<v.aj.ae:=Int.emod_lt_of_pos _ oM;have nN:=vf (c:=v.aj) (b:=((y -1)/v.aj.ae));change 2<=((y -1)/v.aj.ae)at g1;change((y -1)/v.aj.ae)<((gx v.aj.blocks.xs).length:Int)at g2;rw[dS]at g2;obtain⟨B,hB⟩:=get_some (xs:=v.aj.blocks.xs) (i:=((y -1)/v.aj.ae).toNat) oM;have pL:Mb B v.aj.blocks:=⟨List.mem_of_getElem? hB⟩;have dE:bv B=aI (cv v.aj) ((y -1)/v.aj.ae):=by rw[←nN];simp[List.getD,hB]
 have eS:=fO.1 ((dZ.1 hk).2.2.2.2 (bv B) (List.mem_of_getElem? (kC hB)));have gK:=l4 B.ae.xs;have Ni:(B.ae.xs.length:Int)=v.aj.ae:=by have:=eS.1;simp only[bv,cv,gK]at this;exact this
 obtain⟨z,hz⟩:=get_some (xs:=B.ae.xs) (i:=((y -1)%v.aj.ae).toNat) oM;have sa:Mb z B.ae:=⟨List.mem_of_getElem? hz⟩;have pF:xh (cv v.aj) (y -1)=z.xs:=by
  show(aI (cv v.aj) ((y -1)/v.aj.ae)).ae.getD ((y -1)%v.aj.ae).toNat []=z.xs;rw[←dE];simp[bv,List.getD,nu hz]
 refine cl Tryz.func347 rfl Tryz.ntmps347 rfl ?_;refine Gc ?_;refine bM rfl fun b2=>?_;refine aK ?_;refine ag (aR rfl rfl id.toNat oM oM) ?_;refine ag (bw (j:=0) rfl id.toNat hy rfl (by decide)) ?_;refine ak ?_;refine rn [18,22,23,2022,4018] [[],[],[],[],[],[],[],[],[],[],[],[],[],[],[],[],[],[],[],[18],[18],[18],[],[18,22],[18,22,23]] [0,1,2,3,4,5,6,7,8,9,10,11,12,13,14,15,16,17,18,19,20,21,22,23,24] [an b2 (bH v) 63] [(22,lW Tryz.prog 324)] oK (fun _ hw=>ai.mem hw) oK oK ?_;refine al rfl (aN (o':=0) rfl rfl) ?_;refine al rfl (aN (o':=2) rfl rfl) ?_;refine al rfl (bN rfl) ?_;refine al rfl (aZ rfl) ?_;refine al rfl (aN (o':=0) rfl rfl) ?_;refine al rfl (aN (o':=0) rfl rfl) ?_;refine al rfl (bN rfl) ?_;refine al rfl (kb rfl rfl oM oM) ?_;refine al rfl (aR rfl rfl (((y -1)/v.aj.ae).toNat) oM oM) ?_;refine al rfl (aN rfl rfl) ?_;refine al rfl (bw (j:=0) rfl (((y -1)/v.aj.ae).toNat) hB rfl (by decide)) ?_;refine al rfl (aZ rfl) ?_;refine al rfl (aN (o':=0) rfl rfl) ?_;refine al rfl (aN (o':=0) rfl rfl) ?_;refine al rfl (bN rfl) ?_;refine al rfl (we rfl rfl oM oM) ?_;refine al rfl (aR rfl rfl (((y -1)%v.aj.ae).toNat) oM oM) ?_;refine al rfl (bw (j:=0) rfl (((y -1)%v.aj.ae).toNat) hz rfl (by decide)) ?_;refine u4 rfl rfl trivial (fun e x w hw=>ai.mem hw) (Cert.one (i:=22) rfl rfl rfl k6 (Cert.none rfl)) fun iM tY=>⟨fun _ hw=>ai.mem hw,?_⟩;have e1:iM.body.xs=(cS z.xs).1.body:=congrArg PV.body tY;refine al rfl (aZ rfl) ?_;refine al rfl (aL (v:= .agg (cm iM)) rfl rfl) ?_;refine al rfl (aL (v:= .int .i64 ((cS z.xs).2)) rfl rfl) ?_;refine qk (m:=lW Tryz.prog 324) rfl rfl k6 (Cert.none rfl) fun b6=>?_;change Ln _ _ _ _ _ _ _ _ (cd _ _ (.pointer (some ⟨b6,0,none⟩))) (an b6 (cm ma) 324::_) _;refine cY rfl (oc rfl rfl ⟨fun _ hw=>ai.mem hw,?_⟩);refine al rfl (fL rfl) ?_;refine aq ?_;refine Gb (fun h0=>?_) fun h0=>?_
 ·
  have hE:(kg (cv v.aj) (v.at_.xs.getD id.toNat 0))=[]:=by rw[mu,kg,pF,if_neg h0]
  refine ak ?_;refine Gr fun w1 hw=>?_;exact⟨Sv.none,rfl,trivial,by rw[hE];exact Mem.cR aJ 1 (ai.mem hw:Mem w [] _)⟩
 have vG:(cS z.xs).2=0:=h0;have hE:(kg (cv v.aj) (v.at_.xs.getD id.toNat 0))=iM.body.xs:=by rw[mu,kg,pF,if_pos vG,e1]
 refine aK ?_;refine Gr fun w1 hw=>?_;exact⟨iM.body.sv,rfl,trivial,by rw[hE];exact ai.mem hw⟩
instance Nx{v:bG}{id:Int}[hv:aO w0 L v]:bJ Tryz.prog 347 w0 L [.agg (bH v), .int .i64 id] (Sv) (fun U=>U.val) (fun U=>own aJ 1 U (kg (cv v.aj) (v.at_.xs.getD id.toNat 0))::L) (fun U=>True) (aX (cv v.aj)=true/\ ∃y,v.at_.xs[id.toNat]? =Option.some y/\0<=id/\1<=y/\y<=1000000/\2<=(y -1)/(cv v.aj).ae/\(y -1)/(cv v.aj).ae<((cv v.aj).blocks.length:Int)):=⟨fun hp w hw=>(XB w v id (hv.h w hw) hp).mono fun e w' ⟨x,h1,h2,h3⟩=>⟨x,h1,h2,hw.call h3⟩⟩
theorem XC(w:World)(x:dx)(n:Int)(hx:Deep.aU (hp w) x):Calls Tryz.prog 255 #[.agg (cm x), .int .i64 n] w fun e w'=> ∃U:Sv,e= .returned (.tuple #[U.val, .int .i64 ((dR (cf x) n).2)])/\(True)/\Mem w [own aJ 1 U (dR (cf x) n).1] w':=by
 have xI:bQ w x:=⟨hx⟩;refine cl Tryz.func255 rfl Tryz.ntmps255 rfl ?_;refine Gc ?_;refine bM rfl fun b2=>?_;refine dr ?_;refine Gb (fun h0=>?_) fun h0=>?_
 ·
  have hE:dR (cf x) n=([],1):=by rw[dR,if_neg (by rw[h0];simp)]
  refine aq ?_;refine Gr fun w1 hw=>?_;exact⟨Sv.none,by rw[hE];rfl,trivial,by rw[hE];exact Mem.cR aJ 1 (ai.mem hw:Mem w [] _)⟩
 have hE:dR (cf x) n=((mb (cf x) n.toNat)++be (mN (mb (cf x) n.toNat)) 4,0):=by rw[dR,if_pos h0]
 obtain⟨m1,m2,m3,m4,m5,m6⟩:=K6.1 h0;have WK:=zo.1 m1;have zN:eL n=n -16:=by rw[eL,if_pos m1]
 simp only[cf]at m2 m3 m4 m5 m6;have Ka:(List.replicate (n.toNat -4) (0:UInt8)).length=n.toNat -4:=List.length_replicate;have dS:x.body.xs.length+16<=n.toNat:=by omega
 have hg6:=lU x.gen.toNat 6;have XD:=lU x.body.xs.length 2;have p8:=J7 (mb (cf x) n.toNat);have gq:(mb (cf x) n.toNat).length=n.toNat -4:=Tz (by simp only[cf];omega);refine ak ?_;refine qb (enc:=aJ) (n:=(n.toNat -4)) (cap:=(n.toNat -4)) 0 rfl rfl rfl oM oM oM oM oM fun gT=>?_;refine Gs ?_;refine iW ?_;have zR:=B8 (b:=gT) (n:=(n.toNat -4)) oM;refine gF [9,11] [[],[],[],[],[],[],[],[],[],[],[9],[9]] [0,1,2,3,4,5,6,7,8,9,10,11] [an b2 (cm x) 324] (fun _ hw=>ai.mem hw) oK oK ?_;refine al rfl (aZ rfl) ?_;refine al rfl (aZ rfl) ?_;refine al rfl (aN (o':=0) rfl rfl) ?_;refine al rfl (bN rfl) ?_;refine al rfl (qY rfl (w8 _)) ?_;refine al rfl (aN (o':=1) rfl rfl) ?_;refine al rfl (bN rfl) ?_;refine al rfl (qY rfl (w8 _)) ?_;refine al rfl (kT (s:=⟨false,gT,0,(n.toNat -4),(n.toNat -4),none⟩) (i:=0) rfl rfl rfl zR (by simp only;omega)) ?_;refine cY rfl (th (s:=⟨false,gT,0,(n.toNat -4),(n.toNat -4),none⟩) (n:=1) (k:=0) (j:=0) (a:=0) (a':=da x.kind) (xs:=(List.replicate (n.toNat -4) (0:UInt8))) (enc:=aJ) (c:=1) (v:= .int .u8 (da x.kind).toNat) oK rfl rfl rfl (by rw[List.getElem?_replicate,if_pos oM]) (by simp[Value.cells,Value.oneCell']) rfl oM (by rfl) ⟨fun _ hw=>ai.mem hw,?_⟩);refine al rfl (kT (s:=⟨false,gT,0,(n.toNat -4),(n.toNat -4),none⟩) (i:=1) rfl rfl rfl zR (by simp only;omega)) ?_;refine cY rfl (th (s:=⟨false,gT,0,(n.toNat -4),(n.toNat -4),none⟩) (n:=1) (k:=1) (j:=0) (a:=0) (a':=da x.id) (xs:=((List.replicate (n.toNat -4) (0:UInt8)).set 0 (da x.kind))) (enc:=aJ) (c:=1) (v:= .int .u8 (da x.id).toNat) oK rfl rfl rfl (by rw[List.getElem?_set_ne (by decide),List.getElem?_replicate,if_pos oM]) (by simp[Value.cells,Value.oneCell']) rfl oM (by rfl) ⟨fun _ hw=>ai.mem hw,?_⟩);refine iW ?_;refine qd [own aJ 1 ⟨false,gT,0,(n.toNat -4),(n.toNat -4),none⟩ ([da x.kind,da x.id]++List.replicate ((n.toNat -4) -2) (0:UInt8)),an b2 (cm x) 324] (fun w hw=>by
  rw[Ty oM]at hw;exact ai.mem hw) ?_
 refine gF [4,5] [[],[],[],[],[],[4]] [0,1,2,3,4,5] [an b2 (cm x) 324] (fun _ hw=>ai.mem hw) oK oK ?_;refine al rfl (aZ rfl) ?_;have XE:Rg 2 8 (List.replicate (n.toNat -4) (0:UInt8)).length:=⟨by omega⟩;refine al rfl (AX (s:=⟨false,gT,0,(n.toNat -4),(n.toNat -4),none⟩) (l:=2) (h:=8) rfl rfl rfl rfl rfl zR oM (by simp only;omega)) ?_;refine al rfl (aN (o':=2) rfl rfl) ?_;refine al rfl (bN rfl) ?_;refine cY rfl (mM (vs:=[_, .int .i64 ((6:Nat):Int)]) rfl ⟨by omega,by omega,by omega⟩ fun cT lI=>⟨fun _ hw=>ai.mem hw,?_⟩);refine cY rfl (Fi (D:=Sv.sub ⟨false,gT,0,(n.toNat -4),(n.toNat -4),none⟩ 1 2 8) (S:=cT) (rm:=⟨false,gT,0,(n.toNat -4),(n.toNat -4),none⟩) (k:=2) (xs:=([da x.kind,da x.id]++List.replicate ((n.toNat -4) -2) (0:UInt8))) (ys:=(be x.gen.toNat 6)) rfl rfl rfl rfl (by simp only[Sv.sub];rw[if_neg oM]) rfl (by decide) rfl (by simp only[Sv.sub,lU];omega) (by simp only[List.length_append,lU,List.length_replicate,List.length_cons,List.length_nil];omega) ⟨fun _ hw=>ai.mem hw,?_⟩);refine iW ?_;refine qd [own aJ 1 ⟨false,gT,0,(n.toNat -4),(n.toNat -4),none⟩ ([da x.kind,da x.id]++(be x.gen.toNat 6)++List.replicate ((n.toNat -4) -2 -(be x.gen.toNat 6).length) (0:UInt8)),an b2 (cm x) 324] (fun w hw=>by
  rw[Fv (A:=[da x.kind,da x.id]) (k:=2) rfl]at hw;exact ai.mem hw) ?_
 refine gF [6,7] [[],[],[],[],[],[],[],[6]] [0,1,2,3,4,5,6,7] [an b2 (cm x) 324] (fun _ hw=>ai.mem hw) oK oK ?_;refine al rfl (aZ rfl) ?_;have ajd:Rg 8 10 (List.replicate (n.toNat -4) (0:UInt8)).length:=⟨by omega⟩;refine al rfl (AX (s:=⟨false,gT,0,(n.toNat -4),(n.toNat -4),none⟩) (l:=8) (h:=10) rfl rfl rfl rfl rfl zR oM (by simp only;omega)) ?_;refine al rfl (aN (o':=3) rfl rfl) ?_;refine al rfl (bN rfl) ?_;refine al rfl (q9 rfl) ?_;refine al rfl (kc rfl (by simp only[nb];omega)) ?_;refine cY rfl (mM (vs:=[_, .int .i64 ((2:Nat):Int)]) rfl ⟨by omega,by omega,by omega⟩ fun XF aje=>⟨fun _ hw=>ai.mem hw,?_⟩);refine cY rfl (Fi (D:=Sv.sub ⟨false,gT,0,(n.toNat -4),(n.toNat -4),none⟩ 1 8 10) (S:=XF) (rm:=⟨false,gT,0,(n.toNat -4),(n.toNat -4),none⟩) (k:=8) (xs:=([da x.kind,da x.id]++(be x.gen.toNat 6)++List.replicate ((n.toNat -4) -2 -(be x.gen.toNat 6).length) (0:UInt8))) (ys:=(be x.body.xs.length 2)) rfl rfl rfl rfl (by simp only[Sv.sub];rw[if_neg oM]) rfl (by decide) rfl (by simp only[Sv.sub,lU];omega) (by simp only[List.length_append,lU,List.length_replicate,List.length_cons,List.length_nil];omega) ⟨fun _ hw=>ai.mem hw,?_⟩);refine iW ?_;refine qd [own aJ 1 ⟨false,gT,0,(n.toNat -4),(n.toNat -4),none⟩ ([da x.kind,da x.id]++(be x.gen.toNat 6)++(be x.body.xs.length 2)++List.replicate ((n.toNat -4) -2 -(be x.gen.toNat 6).length -(be x.body.xs.length 2).length) (0:UInt8)),an b2 (cm x) 324] (fun w hw=>by
  rw[Fv (A:=[da x.kind,da x.id]++(be x.gen.toNat 6)) (k:=8) (by simp[lU])]at hw;exact ai.mem hw) ?_
 refine gF [4] [[],[],[],[],[]] [0,1,2,3,4] [an b2 (cm x) 324] (fun _ hw=>ai.mem hw) oK oK ?_;refine al rfl (aZ rfl) ?_;have ajf:Rg 10 ((List.replicate (n.toNat -4) (0:UInt8)).length) (List.replicate (n.toNat -4) (0:UInt8)).length:=⟨by omega⟩;refine al rfl (p0 (s:=⟨false,gT,0,(n.toNat -4),(n.toNat -4),none⟩) (l:=10) (n:=(n.toNat -4)) rfl rfl rfl zR rfl oM) ?_;refine al rfl (aN (o':=3) rfl rfl) ?_;refine al rfl (bN rfl) ?_;refine cY rfl (Fi (D:=Sv.sub ⟨false,gT,0,(n.toNat -4),(n.toNat -4),none⟩ 1 10 (n.toNat -4)) (S:=x.body.sv) (rm:=⟨false,gT,0,(n.toNat -4),(n.toNat -4),none⟩) (k:=10) (xs:=([da x.kind,da x.id]++(be x.gen.toNat 6)++(be x.body.xs.length 2)++List.replicate ((n.toNat -4) -2 -(be x.gen.toNat 6).length -(be x.body.xs.length 2).length) (0:UInt8))) (ys:=x.body.xs) rfl rfl rfl rfl (by simp only[Sv.sub];rw[if_neg oM]) rfl (by decide) rfl (by simp only[Sv.sub,lU];omega) (by simp only[List.length_append,lU,List.length_replicate,List.length_cons,List.length_nil];omega) ⟨fun _ hw=>ai.mem hw,?_⟩);refine iW ?_;refine qd [own aJ 1 ⟨false,gT,0,(n.toNat -4),(n.toNat -4),none⟩ (mb (cf x) n.toNat),an b2 (cm x) 324] (fun w hw=>by
  rw[Fv (A:=[da x.kind,da x.id]++(be x.gen.toNat 6)++(be x.body.xs.length 2)) (k:=10) (by simp[lU]),show([da x.kind,da x.id]++(be x.gen.toNat 6)++(be x.body.xs.length 2)++x.body.xs++List.replicate ((n.toNat -4) -2 -(be x.gen.toNat 6).length -(be x.body.xs.length 2).length -x.body.xs.length) (0:UInt8))=(mb (cf x) n.toNat)from by
   simp only[mb,cf,lU];congr 2<;>omega]at hw
  exact ai.mem hw) ?_
 refine Gi ?_;refine ak ?_;refine ag (kc rfl (by simp only[nb];omega)) ?_;refine bf (vs:=[_, .int .i64 ((4:Nat):Int)]) rfl ⟨by omega,by omega,by omega⟩ fun jF tZ=>?_;refine kx (enc:=(bP (τ:=UInt8))) [(⟨⟨false,gT,0,(n.toNat -4),(n.toNat -4),none⟩,(mb (cf x) n.toNat)⟩:Sl UInt8),⟨jF,be (mN (mb (cf x) n.toNat)) 4⟩] (vals:=[(⟨false,gT,0,(n.toNat -4),(n.toNat -4),none⟩:Sv).val,jF.val]) rfl (by simp only[List.map_cons,List.map_nil,Sv.fY];rfl) rfl (by decide) (by decide) fun b48=>?_;refine Sa (τ:=Sl UInt8) (xs:=[(⟨⟨false,gT,0,(n.toNat -4),(n.toNat -4),none⟩,(mb (cf x) n.toNat)⟩:Sl UInt8),⟨jF,be (mN (mb (cf x) n.toNat)) 4⟩]) fun XG ES g48=>?_;have Ny:iC XG.xs=(dR (cf x) n).1:=by rw[ES,hE];simp[iC]
 have hf9:(dR (cf x) n).1.length<=1000:=by rw[hE,List.length_append,lU];omega
 refine bf rfl (by rw[Ny];omega) fun XH ajg=>?_;refine ak ?_;refine Gr fun w1 hw=>?_;exact⟨XH,by rw[hE],trivial,by rw[←Ny];exact ai.mem hw⟩
instance ajh{x:dx}{n:Int}[hx:aO w0 L x]:bJ Tryz.prog 255 w0 L [.agg (cm x), .int .i64 n] (Sv) (fun U=> .tuple #[U.val, .int .i64 ((dR (cf x) n).2)]) (fun U=>own aJ 1 U (dR (cf x) n).1::L) (fun U=>True) (True):=⟨fun hp w hw=>(XC w x n (hx.h w hw)).mono fun e w' ⟨x,h1,h2,h3⟩=>⟨x,h1,h2,hw.call h3⟩⟩
theorem XI(i:Int)(g:UInt64)(w:World):(Instr.build 324 #[(0, .int .i64 2),(1, .int .i64 i),(2, .int .u64 (g.toNat:Int))]).run Tryz.prog w= .ok (.agg (cm ⟨2,i,g,⟨Sv.none,[]⟩⟩)) w:=by
 unfold cm;kernel_rfl
theorem XJ(w:World)(r:cK)(n:Int)(hr:Deep.aU (hp w) r):Calls Tryz.prog 218 #[.agg (c8 r), .int .i64 n] w fun e w'=> ∃U:Sv,e= .returned (.tuple #[U.val, .int .i64 ((c4 (cL r) n).2)])/\(True)/\Mem w [own aJ 1 U (c4 (cL r) n).1] w':=by
 have WB:bQ w r:=⟨hr⟩;have gQ:=hr.1.bd;refine cl Tryz.func218 rfl Tryz.ntmps218 rfl ?_;refine Gc ?_;refine bM rfl fun b2=>?_;refine dr ?_;refine Gb (fun h0=>?_) fun h0=>?_
 ·
  have hE:c4 (cL r) n=([],1):=by rw[c4,if_neg (by rw[h0];simp)]
  refine aq ?_;refine Gr fun w1 hw=>?_;exact⟨Sv.none,by rw[hE];rfl,trivial,by rw[hE];exact Mem.cR aJ 1 (ai.mem hw:Mem w [] _)⟩
 have hE:c4 (cL r) n=dR (⟨2,(max 0 (r.at_.xs.length -1:Int)),r.gen.toNat,iE r.at_.xs⟩:PV) n:=by rw[c4,if_pos h0];rfl
 obtain⟨m1,m2,m3,m4⟩:=zp.1 h0;have hmf:kf n<=64:=by rw[kf];omega
 simp only[cL]at m2 m3 m4;refine aK ?_;refine ag (sO rfl rfl) ?_;refine au ?_;refine ag (cy (v:= .agg (cm (⟨2,(max 0 (r.at_.xs.length -1:Int)),r.gen,⟨Sv.none,[]⟩⟩:dx))) rfl (XI _ r.gen)) ?_;refine bj fun b6=>?_;refine cw ?_;refine bA (X:=Nat×Sv) (fun U=>[(24, .int .i64 (U.1:Nat)),(6, .pointer (some ⟨b6,0,none⟩)),(1, .int .i64 n),(22,r.at_.sv.val),(23, .int .i64 (r.at_.xs.length:Nat))]) (fun U=>[an b6 (cm (⟨2,(max 0 (r.at_.xs.length -1:Int)),r.gen,⟨U.2,iE (r.at_.xs.take U.1)⟩⟩:dx)) 324,own aJ 1 U.2 (iE (r.at_.xs.take U.1)),an b2 (c8 r) 314]) (fun U=>U.1<=r.at_.xs.length) (fun U=>r.at_.xs.length -U.1) (0,Sv.none) (Nat.zero_le _) sb (fun w hw=>by
  simp only[List.take_zero,iE,List.map_nil,List.flatten_nil];exact ai.mem (Mem.cR aJ 1 hw)) ?_
 rintro⟨i,s1⟩ aT;dsimp only;simp only at aT;refine ak ?_;refine Gb (fun h1=>?_) fun h1=>?_
 ·
  obtain⟨y,hy⟩:=get_some (xs:=r.at_.xs) (i:=i) oM;have GL:=Fx.1 (m4 y (List.mem_of_getElem? hy));have dL:iE (r.at_.xs.take (i+1))=iE (r.at_.xs.take i)++[da (y/256),da y]:=TB hy;have vF:=TC (r.at_.xs.take i);have hnt:(r.at_.xs.take i).length<=64:=by rw[List.length_take];omega
  refine Gc ?_;refine ag (aR rfl rfl i rfl oM) ?_;refine ag (bw (j:=0) rfl i hy rfl (by decide)) ?_;refine aK ?_;refine ag (Ry.to (v':= .int .i64 (y/256)) (qZ (p:=y.toNat) (Eq.trans (b:=some (Value.int .i64 y)) rfl (by rw[Int.toNat_of_nonneg GL.1])) rfl (by simp only[nb];omega) oM) (by rw[show(8:Int).toNat=8 from rfl];congr 1;omega)) ?_;refine ag (qY rfl (w8 _)) ?_;refine Gs ?_;refine ag (qY rfl (w8 _)) ?_;refine kx (enc:=aJ) (vals:=[_,_]) [(da (y/256)),(da y)] rfl rfl rfl (by decide) (by decide) fun zS=>?_;refine iS (s:=s1) (ys:=[(da (y/256)),(da y)]) rfl rfl (by decide) (fun w hw=>gM (s:=⟨false,zS,0,2,2,none⟩) Tryz.underlying53 (by decide) ((inferInstance:Hd _ _ ⟨false,zS,0,2,2,none⟩ aJ 1 [(da (y/256)),(da y)]).h w hw)) (by simp only[List.length_cons,List.length_nil];omega) (by simp only[List.length_cons,List.length_nil];omega) fun CS XK XL=>?_;refine Gs ?_;refine dw (cs':=cm (⟨2,(max 0 (r.at_.xs.length -1:Int)),r.gen,⟨CS,((iE (r.at_.xs.take i))++[(da (y/256)),(da y)])⟩⟩:dx)) rfl rfl (by show 3<4;decide) (by first|rfl|exact Sv.one _) rfl ?_;refine ak ?_;refine Gi ?_;exact aV (x:=(i,s1)) (i+1,CS) (by simp only;omega) (by simp only;omega) sb (fun w hw=>by
   simp only[dL];exact ai.mem hw)
 obtain rfl:i=r.at_.xs.length:=by omega
 rw[List.take_length];refine k8 ?_;refine qd [Deep.bE (⟨s1,iE r.at_.xs⟩:Sl UInt8),an b6 (cm (⟨2,(max 0 (r.at_.xs.length -1:Int)),r.gen,⟨s1,iE r.at_.xs⟩⟩:dx)) 324] (fun w hw=>ai.mem (Mem.BC (ai.mem hw:Mem _ [own aJ 1 s1 (iE r.at_.xs),an b6 (cm (⟨2,(max 0 (r.at_.xs.length -1:Int)),r.gen,⟨s1,iE r.at_.xs⟩⟩:dx)) 324] _))) ?_;refine Gi ?_;refine au ?_;refine bf rfl trivial fun gz GW=>?_;refine ag (aL (v:=gz.val) rfl rfl) ?_;refine ag (aL (v:= .int .i64 ((dR (cf (⟨2,(max 0 (r.at_.xs.length -1:Int)),r.gen,⟨s1,iE r.at_.xs⟩⟩:dx)) n).2)) rfl rfl) ?_;refine ak ?_;refine Gr fun w1 hw=>?_;exact⟨gz,by rw[hE];rfl,trivial,by
  have h1:Mem w [own aJ 1 gz (dR (cf (⟨2,(max 0 (r.at_.xs.length -1:Int)),r.gen,⟨s1,iE r.at_.xs⟩⟩:dx)) n).1] _:=ai.mem hw;rw[hE];exact h1⟩
instance aji{r:cK}{n:Int}[hr:aO w0 L r]:bJ Tryz.prog 218 w0 L [.agg (c8 r), .int .i64 n] (Sv) (fun U=> .tuple #[U.val, .int .i64 ((c4 (cL r) n).2)]) (fun U=>own aJ 1 U (c4 (cL r) n).1::L) (fun U=>True) (True):=⟨fun hp w hw=>(XJ w r n (hr.h w hw)).mono fun e w' ⟨x,h1,h2,h3⟩=>⟨x,h1,h2,hw.call h3⟩⟩
theorem XM(w:World)(xb:Nat)(xc:Cp)(xa:Sl Int)(xg:UInt64)(xl:Int)(xy:Bool)(dM:w.heap[xb]? =Option.some (.cells (aH (⟨⟨xc,xa,xg,xl⟩,xy⟩:aM)) 261 (0,0)))(dn:Deep.aU (hp w) xc):Calls Tryz.prog 176 #[.pointer (some ⟨xb,0,none⟩)] w fun e w'=>e= .returned (.int .i64 (kG (cv xc):Nat))/\Mem w [] w':=by
 have si:oC w xb (aH (⟨⟨xc,xa,xg,xl⟩,xy⟩:aM)) 261:=⟨dM⟩;have sj:bQ w xc:=⟨dn⟩;have gQ:=dn.1.1.bd;have dS:(cv xc).blocks.length=xc.blocks.xs.length:=fw _;refine bS Tryz.func176 rfl Tryz.ntmps176 rfl ?_;refine pe ?_;refine ag (Ry.to (v':=xc.blocks.sv.val) (lH rfl) rfl) ?_;refine ak ?_;refine bA (X:=Nat) (fun U=>[(13, .int .i64 (U:Nat)),(3, .int .i64 ((((gx xc.blocks.xs).take U).filter fun b=>b.bad).length:Nat)),(11,xc.blocks.sv.val),(12, .int .i64 (xc.blocks.xs.length:Nat))]) (fun U=>[]) (fun U=>U<=xc.blocks.xs.length) (fun U=>xc.blocks.xs.length -U) 0 (Nat.zero_le _) sb (fun w hw=>ai.mem hw) ?_;rintro i aT;refine ak ?_;refine Gb (fun h0=>?_) fun h0=>?_
 ·
  obtain⟨B,hB⟩:=get_some (xs:=xc.blocks.xs) (i:=i) oM;have pL:Mb B xc.blocks:=⟨List.mem_of_getElem? hB⟩;have dL:=T6 (kC hB);have hle:(((gx xc.blocks.xs).take i).filter fun b=>b.bad).length<=i:=Nat.le_trans (List.length_filter_le _ _) (by rw[List.length_take];omega);refine Gc ?_;refine ag (aR rfl rfl i rfl oM) ?_;refine ag (dO rfl i hB rfl) ?_;have XN:Mb B xc.blocks:=⟨List.mem_of_getElem? hB⟩;refine bj fun b5=>?_;refine aK ?_;refine Gb (fun h1=>?_) fun h1=>?_
  ·
   rw[if_pos (show(bv B).bad=true from h1)]at dL;refine Gi ?_;refine aS ?_;refine Gi ?_;exact aV (x:=(i)) (i+1) oF oF (Sub.cons rfl (Sub.cons (look_eq rfl (by rw[dL];rfl)) sb)) (fun w hw=>ai.mem hw)
  rw[if_neg (show ¬(bv B).bad=true by rw[show(bv B).bad=B.bad from rfl,h1];simp)]at dL;refine ak ?_;refine Gi ?_;exact aV (x:=(i)) (i+1) oF oF (Sub.cons rfl (Sub.cons (look_eq rfl (by rw[dL,Nat.add_zero])) sb)) (fun w hw=>ai.mem hw)
 obtain rfl:i=xc.blocks.xs.length:=by omega
 have hz:kG (cv xc)=(((gx xc.blocks.xs).take xc.blocks.xs.length).filter fun b=>b.bad).length:=by rw[←dS];exact congrArg (fun l:List BV=>(l.filter fun b=>b.bad).length) (List.take_length).symm
 refine aq ?_;refine Gr fun w1 hw=>?_;exact Gf (by rw[hz]) hw
instance ajj{xb:Nat}{xc:Cp}{xa:Sl Int}{xg:UInt64}{xl:Int}{xy:Bool}[dM:kp w0 L xb (aH (⟨⟨xc,xa,xg,xl⟩,xy⟩:aM)) 261][dn:aO w0 L xc]:bO Tryz.prog 176 w0 L [.pointer (some ⟨xb,0,none⟩)] (.int .i64 (kG (cv xc):Nat)) (True):=⟨fun hp w hw=>XM w xb xc xa xg xl xy (dM.h w hw) (dn.h w hw)⟩
theorem XO(w:World)(xb:Nat)(xc:Cp)(xa:Sl Int)(xg:UInt64)(xl:Int)(xy:Bool)(b:Int)(dM:w.heap[xb]? =Option.some (.cells (aH (⟨⟨xc,xa,xg,xl⟩,xy⟩:aM)) 261 (0,0)))(dn:Deep.aU (hp w) xc)(aP:aX (cv xc)=true/\0<=b/\b<(cv xc).blocks.length):Calls Tryz.prog 219 #[.pointer (some ⟨xb,0,none⟩), .int .i64 b] w fun e w'=>e= .returned (.int .i64 (fg (cv xc) b))/\Mem w [] w':=by
 have si:oC w xb (aH (⟨⟨xc,xa,xg,xl⟩,xy⟩:aM)) 261:=⟨dM⟩;have sj:bQ w xc:=⟨dn⟩;obtain⟨hk,zT,zU⟩:=aP;have ko:du xc:=qo hk;have dS:(cv xc).blocks.length=xc.blocks.xs.length:=fw _;obtain⟨B,hB⟩:=get_some (xs:=xc.blocks.xs) (i:=b.toNat) oM;have pL:Mb B xc.blocks:=⟨List.mem_of_getElem? hB⟩;have dE:=qx hB;have eS:=fO.1 ((dZ.1 hk).2.2.2.2 (bv B) (List.mem_of_getElem? (kC hB)));have gk:=jT.1 (dZ.1 hk).1;have nP:(aI (cv xc) b).used=B.used:=by rw[dE];rfl
 simp only[bv,cv]at eS gk;refine cl Tryz.func219 rfl Tryz.ntmps219 rfl ?_;refine dr ?_;refine ag (Ry.to (v':=xc.blocks.sv.val) (lH rfl) rfl) ?_;refine Gs ?_;refine ag (aR rfl rfl b.toNat oM oM) ?_;refine ag (dO rfl b.toNat hB rfl) ?_;have CJ:Mb B xc.blocks:=⟨List.mem_of_getElem? hB⟩;refine bj fun b5=>?_;refine aK ?_;refine Gb (fun h0=>?_) fun h0=>?_
 ·
  refine ak ?_;refine Gr fun w1 hw=>?_;exact Gf ((by rw[fg,dE,if_pos (show(bv B).bad=true from h0)])) hw
 refine Gc ?_;refine fH oK oK ?_;refine aK ?_;refine bu (Ry.to (v':= .int .i64 xc.ae) (lH rfl) rfl) ?_;refine aK ?_;refine Gr fun w1 hw=>?_;exact Gf ((by rw[fg,dE,if_neg (show ¬(bv B).bad=true by rw[show(bv B).bad=B.bad from rfl,h0];simp)];rfl)) hw
instance ajk{xb:Nat}{xc:Cp}{xa:Sl Int}{xg:UInt64}{xl:Int}{xy:Bool}{b:Int}[dM:kp w0 L xb (aH (⟨⟨xc,xa,xg,xl⟩,xy⟩:aM)) 261][dn:aO w0 L xc]:bO Tryz.prog 219 w0 L [.pointer (some ⟨xb,0,none⟩), .int .i64 b] (.int .i64 (fg (cv xc) b)) (aX (cv xc)=true/\0<=b/\b<(cv xc).blocks.length):=⟨fun hp w hw=>XO w xb xc xa xg xl xy b (dM.h w hw) (dn.h w hw) hp⟩
theorem XP(w:World)(er:Int):Calls Tryz.prog 311 #[.int .i64 er] w fun e w'=>e= .returned (.int .i64 (kh er))/\Mem w [] w':=by
 refine bS Tryz.func311 rfl Tryz.ntmps311 rfl ?_;refine aS ?_;refine Gb (fun h0=>?_) fun h0=>?_
 ·
  refine ak ?_;refine Gr fun w1 hw=>?_;exact Gf ((by rw[kh,if_pos h0])) hw
 refine aq ?_;refine Gr fun w1 hw=>?_;exact Gf ((by rw[kh,if_neg h0])) hw
instance ajl{er:Int}:bO Tryz.prog 311 w0 L [.int .i64 er] (.int .i64 (kh er)) (True):=⟨fun hp w hw=>XP w er⟩
theorem XQ(w:World)(xb:Nat)(xc:Cp)(xa:Sl Int)(xg:UInt64)(xl:Int)(xy:Bool)(dM:w.heap[xb]? =Option.some (.cells (aH (⟨⟨xc,xa,xg,xl⟩,xy⟩:aM)) 261 (0,0)))(dn:Deep.aU (hp w) xc)(aP:xg.toNat<281474976710656):Calls Tryz.prog 306 #[.pointer (some ⟨xb,0,none⟩)] w fun e w'=>e= .returned (.bool (xq xg.toNat))/\Mem w [] w':=by
 have si:oC w xb (aH (⟨⟨xc,xa,xg,xl⟩,xy⟩:aM)) 261:=⟨dM⟩;have sj:bQ w xc:=⟨dn⟩;refine bS Tryz.func306 rfl Tryz.ntmps306 rfl ?_;refine cw ?_;refine ag (Ry.to (v':= .int .u64 (xg.toNat:Nat)) (lH rfl) rfl) ?_;refine ag (yz (p:=xg.toNat) (q:=2) rfl rfl rfl rfl (by simp only[nb];omega)) ?_;refine ak ?_;refine Gr fun w1 hw=>?_;exact Ge (by rw[xq];congr 1;simp only[eq_iff_iff];omega) hw
instance ajm{xb:Nat}{xc:Cp}{xa:Sl Int}{xg:UInt64}{xl:Int}{xy:Bool}[dM:kp w0 L xb (aH (⟨⟨xc,xa,xg,xl⟩,xy⟩:aM)) 261][dn:aO w0 L xc]:bO Tryz.prog 306 w0 L [.pointer (some ⟨xb,0,none⟩)] (.bool (xq xg.toNat)) (xg.toNat<281474976710656):=⟨fun hp w hw=>XQ w xb xc xa xg xl xy (dM.h w hw) (dn.h w hw) hp⟩
theorem XR(w:World)(xb:Nat)(xc:Cp)(xa:Sl Int)(xg:UInt64)(xl:Int)(xy:Bool)(b:Int)(dM:w.heap[xb]? =Option.some (.cells (aH (⟨⟨xc,xa,xg,xl⟩,xy⟩:aM)) 261 (0,0)))(dn:Deep.aU (hp w) xc)(aP:aX (cv xc)=true/\0<=b/\b<(cv xc).blocks.length):Calls Tryz.prog 251 #[.pointer (some ⟨xb,0,none⟩), .int .i64 b] w fun e w'=>e= .returned (.int .u64 ((mf (cv xc) b):Nat))/\Mem w [] w':=by
 have si:oC w xb (aH (⟨⟨xc,xa,xg,xl⟩,xy⟩:aM)) 261:=⟨dM⟩;have sj:bQ w xc:=⟨dn⟩;obtain⟨hk,zT,zU⟩:=aP;have ko:du xc:=qo hk;have dS:(cv xc).blocks.length=xc.blocks.xs.length:=fw _;obtain⟨B,hB⟩:=get_some (xs:=xc.blocks.xs) (i:=b.toNat) oM;have pL:Mb B xc.blocks:=⟨List.mem_of_getElem? hB⟩;have dE:=qx hB;have eS:=fO.1 ((dZ.1 hk).2.2.2.2 (bv B) (List.mem_of_getElem? (kC hB)));have gk:=jT.1 (dZ.1 hk).1;have nP:(aI (cv xc) b).used=B.used:=by rw[dE];rfl
 simp only[bv,cv]at eS gk;have gK:=l4 B.ae.xs;have XS:mf (cv xc) b=qy (aG B.ae.xs):=by rw[mf,dE];rfl
 refine cl Tryz.func251 rfl Tryz.ntmps251 rfl ?_;refine pe ?_;refine ag (Ry.to (v':=xc.blocks.sv.val) (lH rfl) rfl) ?_;refine Gs ?_;refine ag (aR rfl rfl b.toNat oM oM) ?_;refine ag (aN rfl rfl) ?_;refine ag (bw (j:=0) rfl b.toNat hB rfl (by decide)) ?_;refine ak ?_;refine bA (X:=Nat) (fun U=>[(21, .int .i64 (U:Nat)),(5, .int .u64 ((qy ((aG B.ae.xs).take U)):Nat)),(19,B.ae.sv.val),(20, .int .i64 (B.ae.xs.length:Nat))]) (fun U=>[]) (fun U=>U<=B.ae.xs.length) (fun U=>B.ae.xs.length -U) 0 (Nat.zero_le _) sb (fun w hw=>ai.mem hw) ?_;rintro i aT;refine ak ?_;refine Gb (fun h0=>?_) fun h0=>?_
 ·
  obtain⟨y,hy⟩:=get_some (xs:=B.ae.xs) (i:=i) oM;have GO:Mb y B.ae:=⟨List.mem_of_getElem? hy⟩;have dL:=T5 (nu hy);have oA:=FM ((aG B.ae.xs).take i);have tP:=LH y.xs;refine Gc ?_;refine ag (aR rfl rfl i rfl oM) ?_;refine ag (bw (j:=0) rfl i hy rfl (by decide)) ?_;refine ak ?_;refine bf rfl trivial fun oE qO=>?_;have sg:oE.gen.toNat=(ei y.xs).1.gen:=congrArg RV.gen qO;refine Gs ?_;refine ag (aL (v:= .agg (c8 oE)) rfl rfl) ?_;refine ag (aL (v:= .int .i64 ((ei y.xs).2)) rfl rfl) ?_;refine bj fun b8=>?_;refine aS ?_;refine Gb (fun h1=>?_) fun h1=>?_
  ·
   have hr:rO y.xs=oE.gen.toNat:=by rw[rO,if_pos h1,←sg]
   refine Gi ?_;refine ak ?_;refine ag (sO rfl rfl) ?_;refine aq ?_;refine Gi ?_;exact aV (x:=(i)) (i+1) oF oF (Sub.cons rfl (Sub.cons (look_eq rfl (by rw[dL,hr];congr 1;omega)) sb)) (fun w hw=>ai.mem hw)
  have hr:rO y.xs=0:=by rw[rO,if_neg h1]
  refine ak ?_;refine Gi ?_;exact aV (x:=(i)) (i+1) oF oF (Sub.cons rfl (Sub.cons (look_eq rfl (by rw[dL,hr];congr 1;omega)) sb)) (fun w hw=>ai.mem hw)
 obtain rfl:i=B.ae.xs.length:=by omega
 have hz:qy (aG B.ae.xs)=(qy ((aG B.ae.xs).take B.ae.xs.length)):=by rw[←gK,List.take_length]
 refine aq ?_;refine Gr fun w1 hw=>?_;exact⟨by rw[XS,hz],ai.mem hw⟩
instance ajn{xb:Nat}{xc:Cp}{xa:Sl Int}{xg:UInt64}{xl:Int}{xy:Bool}{b:Int}[dM:kp w0 L xb (aH (⟨⟨xc,xa,xg,xl⟩,xy⟩:aM)) 261][dn:aO w0 L xc]:bO Tryz.prog 251 w0 L [.pointer (some ⟨xb,0,none⟩), .int .i64 b] (.int .u64 ((mf (cv xc) b):Nat)) (aX (cv xc)=true/\0<=b/\b<(cv xc).blocks.length):=⟨fun hp w hw=>XR w xb xc xa xg xl xy b (dM.h w hw) (dn.h w hw) hp⟩
theorem XT(w:World)(xb:Nat)(xc:Cp)(xa:Sl Int)(xg:UInt64)(xl:Int)(xy:Bool)(b:Int)(dM:w.heap[xb]? =Option.some (.cells (aH (⟨⟨xc,xa,xg,xl⟩,xy⟩:aM)) 261 (0,0)))(dn:Deep.aU (hp w) xc)(aP:aX (cv xc)=true/\0<=b/\b<(cv xc).blocks.length):Calls Tryz.prog 215 #[.pointer (some ⟨xb,0,none⟩), .int .i64 b] w fun e w'=>e= .returned (.bool (xp (cv xc) b))/\Mem w [] w':=by
 have si:oC w xb (aH (⟨⟨xc,xa,xg,xl⟩,xy⟩:aM)) 261:=⟨dM⟩;have sj:bQ w xc:=⟨dn⟩;have XU:=aP;obtain⟨hk,zT,zU⟩:=aP;have ko:du xc:=qo hk;have dS:(cv xc).blocks.length=xc.blocks.xs.length:=fw _;obtain⟨B,hB⟩:=get_some (xs:=xc.blocks.xs) (i:=b.toNat) oM;have pL:Mb B xc.blocks:=⟨List.mem_of_getElem? hB⟩;have dE:=qx hB;have eS:=fO.1 ((dZ.1 hk).2.2.2.2 (bv B) (List.mem_of_getElem? (kC hB)));have gk:=jT.1 (dZ.1 hk).1;have nP:(aI (cv xc) b).used=B.used:=by rw[dE];rfl
 simp only[bv,cv]at eS gk;refine cl Tryz.func215 rfl Tryz.ntmps215 rfl ?_;refine dr ?_;refine ag (Ry.to (v':=xc.blocks.sv.val) (lH rfl) rfl) ?_;refine Gs ?_;refine ag (aR rfl rfl b.toNat oM oM) ?_;refine ag (dO rfl b.toNat hB rfl) ?_;have CJ:Mb B xc.blocks:=⟨List.mem_of_getElem? hB⟩;refine bj fun b5=>?_;refine fc ?_;refine fq rfl rfl rfl (fun hg=>(Ry.yl (aZ (ay hg rfl)))) ?_;refine oR rfl rfl rfl (fun hg=>(Ry.yl (aZ rfl))) ?_;refine oR rfl rfl rfl (fun hg=>(Ry.yl (c2 (ay hg rfl) rfl rfl))) ?_;refine oR rfl rfl rfl (fun hg=>(Ry.yl (aZ (ay hg rfl)))) ?_;refine kd rfl rfl rfl (fun hg=>(Ry.yl (aZ rfl))) ?_;refine kd rfl rfl rfl (fun hg=>(Ry.yl (aZ rfl))) ?_;refine kd rfl rfl rfl (fun hg=>bV (di (ay hg rfl) (di (ay hg rfl) fF)) XU) ?_;refine kd rfl rfl rfl (fun hg=>(Ry.yl (c2 (ay hg rfl) rfl rfl))) ?_;refine oR rfl rfl rfl (fun hg=>(Ry.yl (ux (ay hg rfl) (q6 hg rfl) rfl))) ?_;refine fq rfl rfl rfl (fun hg=>(Ry.yl (uy (ay hg rfl) rfl (q6 hg rfl)))) ?_;refine ak ?_;refine Gr fun w1 hw=>?_;exact⟨congrArg (fun b=>Ending.returned (Value.bool b)) ((by
  have e:decide ((0:Int)<((mf (cv xc) b:Nat):Int))=decide (0<mf (cv xc) b):=decide_eq_decide.2 oM;rw[xp,dE,e];rfl)),ai.mem hw⟩
instance ajo{xb:Nat}{xc:Cp}{xa:Sl Int}{xg:UInt64}{xl:Int}{xy:Bool}{b:Int}[dM:kp w0 L xb (aH (⟨⟨xc,xa,xg,xl⟩,xy⟩:aM)) 261][dn:aO w0 L xc]:bO Tryz.prog 215 w0 L [.pointer (some ⟨xb,0,none⟩), .int .i64 b] (.bool (xp (cv xc) b)) (aX (cv xc)=true/\0<=b/\b<(cv xc).blocks.length):=⟨fun hp w hw=>XT w xb xc xa xg xl xy b (dM.h w hw) (dn.h w hw) hp⟩
theorem XV(w:World)(xb:Nat)(xc:Cp)(xa:Sl Int)(xg:UInt64)(xl:Int)(xy:Bool)(b:Int)(dM:w.heap[xb]? =Option.some (.cells (aH (⟨⟨xc,xa,xg,xl⟩,xy⟩:aM)) 261 (0,0)))(dn:Deep.aU (hp w) xc)(aP:aX (cv xc)=true/\2<=(cv xc).blocks.length/\(b=0\/b=1)):Calls Tryz.prog 217 #[.pointer (some ⟨xb,0,none⟩), .int .i64 b] w fun e w'=>e= .returned (.int .u64 ((eR (cv xc) b):Nat))/\Mem w [] w':=by
 have si:oC w xb (aH (⟨⟨xc,xa,xg,xl⟩,xy⟩:aM)) 261:=⟨dM⟩;have sj:bQ w xc:=⟨dn⟩;obtain⟨hk,mh,Nz⟩:=aP;have oA:=FM (aI (cv xc) (1 -b)).ae;change mf (cv xc) (1 -b)<_ at oA;refine cl Tryz.func217 rfl Tryz.ntmps217 rfl ?_;refine fc ?_;refine dm (bV rfl ⟨hk,by omega,by omega⟩) ?_;refine Gs ?_;refine ag (Ry.to (v':= .int .u64 (((1 -b).toNat:Nat):Int)) (AM rfl oM (by simp only[nb];omega)) (by congr 1;omega)) ?_;refine ag (yz (p:=(mf (cv xc) (1 -b))) (q:=((1 -b).toNat)) rfl rfl rfl rfl (by simp only[nb];omega)) ?_;refine ag (sO rfl rfl) ?_;refine au ?_;refine Gr fun w1 hw=>?_;exact⟨by rw[eR];congr 2;omega,ai.mem hw⟩
instance ajp{xb:Nat}{xc:Cp}{xa:Sl Int}{xg:UInt64}{xl:Int}{xy:Bool}{b:Int}[dM:kp w0 L xb (aH (⟨⟨xc,xa,xg,xl⟩,xy⟩:aM)) 261][dn:aO w0 L xc]:bO Tryz.prog 217 w0 L [.pointer (some ⟨xb,0,none⟩), .int .i64 b] (.int .u64 ((eR (cv xc) b):Nat)) (aX (cv xc)=true/\2<=(cv xc).blocks.length/\(b=0\/b=1)):=⟨fun hp w hw=>XV w xb xc xa xg xl xy b (dM.h w hw) (dn.h w hw) hp⟩
theorem XW(w:World)(xb:Nat)(xc:Cp)(xa:Sl Int)(xg:UInt64)(xl:Int)(xy:Bool)(dM:w.heap[xb]? =Option.some (.cells (aH (⟨⟨xc,xa,xg,xl⟩,xy⟩:aM)) 261 (0,0)))(dn:Deep.aU (hp w) xc)(aP:aX (cv xc)=true/\2<=(cv xc).blocks.length/\(xl=0\/xl=1)):Calls Tryz.prog 261 #[.pointer (some ⟨xb,0,none⟩)] w fun e w'=>e= .returned (.int .i64 (tB (cv xc) xl))/\Mem w [] w':=by
 have si:oC w xb (aH (⟨⟨xc,xa,xg,xl⟩,xy⟩:aM)) 261:=⟨dM⟩;have sj:bQ w xc:=⟨dn⟩;obtain⟨hk,mh,Nz⟩:=aP;have ko:du xc:=qo hk;have dS:(cv xc).blocks.length=xc.blocks.xs.length:=fw _;obtain⟨Bo,eS⟩:=get_some (xs:=xc.blocks.xs) (i:=(1 -xl).toNat) oM;obtain⟨Bl,lE⟩:=get_some (xs:=xc.blocks.xs) (i:=xl.toNat) oM;have xP:=qx eS;have NA:=qx lE;refine bS Tryz.func261 rfl Tryz.ntmps261 rfl ?_;refine ak ?_;refine fH oK oK ?_;refine aq ?_;refine bu (Ry.to (v':= .int .i64 xl) (lH rfl) rfl) ?_;refine aq ?_;refine bu (Ry.to (v':= .int .i64 xl) (lH rfl) rfl) ?_;refine fc ?_;refine ag (Ry.to (v':=xc.blocks.sv.val) (lH rfl) rfl) ?_;refine Gs ?_;refine ag (aR rfl rfl ((1 -xl).toNat) oM oM) ?_;refine ag (aN rfl rfl) ?_;refine ag (bw (j:=3) rfl ((1 -xl).toNat) eS rfl (by decide)) ?_;refine au ?_;refine Gb (fun h0=>?_) fun h0=>?_
 ·
  refine ak ?_;refine dm (bV rfl ⟨hk,by omega,by omega⟩) ?_;refine au ?_;refine Gr fun w1 hw=>?_;exact Gf ((by rw[tB,xP,if_pos (show(bv Bo).bad=true from h0)])) hw
 refine aS ?_;refine ag (Ry.to (v':=xc.blocks.sv.val) (lH rfl) rfl) ?_;refine Gs ?_;refine ag (aR rfl rfl xl.toNat oM oM) ?_;refine ag (aN rfl rfl) ?_;refine ag (bw (j:=3) rfl xl.toNat lE rfl (by decide)) ?_;refine ak ?_;refine fq rfl rfl rfl (fun hg=>bV (di (ay hg rfl) (di (ay hg rfl) fF)) ⟨hk,by omega,by omega⟩) ?_;refine aq ?_;refine Gb (fun h1=>?_) fun h1=>?_
 ·
  refine ak ?_;refine dm (bV rfl ⟨hk,by omega,by omega⟩) ?_;refine au ?_;refine Gr fun w1 hw=>?_;exact Gf ((by rw[tB,xP,NA,if_neg (show ¬(bv Bo).bad=true by rw[show(bv Bo).bad=Bo.bad from rfl,h0];simp),if_pos ⟨h1.1,h1.2⟩])) hw
 refine aS ?_;refine ag (Ry.to (v':= .int .i64 xc.ae) (lH rfl) rfl) ?_;refine au ?_;refine Gr fun w1 hw=>?_;exact⟨congrArg (fun b=>Ending.returned (Value.int .i64 b)) ((by
  rw[tB,xP,NA,if_neg (show ¬(bv Bo).bad=true by rw[show(bv Bo).bad=Bo.bad from rfl,h0];simp),if_neg]
  ·
   rfl
  rintro⟨g1,g2⟩;rcases h1 with h|h
  ·
   exact absurd (h.symm.trans g1) (by simp)
  omega)),ai.mem hw⟩
instance ajq{xb:Nat}{xc:Cp}{xa:Sl Int}{xg:UInt64}{xl:Int}{xy:Bool}[dM:kp w0 L xb (aH (⟨⟨xc,xa,xg,xl⟩,xy⟩:aM)) 261][dn:aO w0 L xc]:bO Tryz.prog 261 w0 L [.pointer (some ⟨xb,0,none⟩)] (.int .i64 (tB (cv xc) xl)) (aX (cv xc)=true/\2<=(cv xc).blocks.length/\(xl=0\/xl=1)):=⟨fun hp w hw=>XW w xb xc xa xg xl xy (dM.h w hw) (dn.h w hw) hp⟩
theorem XX(w:World)(c:Cp)(b:Int)(g:Int)(x:Sv)(xs:List UInt8)(hc:Deep.aU (hp w) c)(hx:bI aJ 1 (hp w) x xs)(aP:du c):Calls Tryz.prog 256 #[.agg (aE c), .int .i64 b, .int .i64 g,x.val] w fun e w'=> ∃U:Cp,e= .returned (.tuple #[.agg (aE U), .int .i64 (kD (cv c) b g xs)])/\(cv U=lj (cv c) b g xs)/\Mem w [fz U] w':=by
 have jg:bQ w c:=⟨hc⟩;have xI:Gv w x aJ 1 xs:=⟨hx⟩;have ko:du c:=aP;obtain⟨fh,fQ,jC⟩:=aP;have vm:dJ=1099511627776:=rfl;refine JY Tryz.func256 rfl Tryz.ntmps256 rfl ?_;refine Gc ?_;refine bM rfl fun b4=>?_;refine bj fun b8=>?_;refine ak ?_;refine bf rfl (by assumption) fun bD qP=>?_;refine bj fun vI=>?_;refine JX ?_;refine Gb (fun h0=>?_) fun h0=>?_
 ·
  have hz: ¬rF (cv c) b g xs=true:=fun hk=>by
   obtain⟨k1,k2,k3,k4,k5⟩:=pq.1 hk;rw[k1]at h0;simp only[cv]at k3 k4 k5;simp only[Bool.true_eq_false,false_or]at h0;omega
  refine aK ?_;refine Gr fun w1 hw=>?_;exact⟨bD,by rw[kD,if_neg hz],by rw[qP,lj,if_neg (fun h=>hz h.1)],l8 bD (ai.mem hw)⟩
 have hk:rF (cv c) b g xs=true:=by
  cases k1:ke (cv c) b with
  |false=>rw[k1]at h0;simp at h0
  |true=>
   rw[k1]at h0;simp only[Bool.true_eq_false,false_or]at h0;exact pq.2 ⟨k1,by omega,by simp only[cv];omega,by simp only[cv];omega,by simp only[cv];omega⟩
 have hh:=(pq.1 hk).1;have M9:=(l5.1 hh).2;have dS:bD.blocks.xs.length=c.blocks.xs.length:=by have:=congrArg (fun v:CV=>v.blocks.length) qP;simpa only[cv,fw]using this
 have zH:bD.ops=c.ops:=congrArg CV.ops qP;have oz:(cv c).blocks.length=c.blocks.xs.length:=fw _;obtain⟨B,hB⟩:=get_some (xs:=bD.blocks.xs) (i:=b.toNat) oM;have lE:b.toNat<bD.blocks.xs.length:=(List.getElem?_eq_some_iff.1 hB).1;have dE:bv B=aI (cv c) b:=by
  have h1:=BX hh;have h2:=kC hB;rw[show gx bD.blocks.xs=(cv c).blocks from congrArg CV.blocks qP,h1]at h2;exact(Option.some.inj h2).symm
 have eS:nv c.ae c.size (bv B)=true:=by rw[dE];exact vc hh
 obtain⟨o1,o2,o3,o4,o5,o6⟩:=fO.1 eS;have gk:=jT.1 (dZ.1 (l5.1 hh).1).1;have zI:=(dZ.1 (l5.1 hh).1).2.1;simp only[bv,cv]at o1 o2 o3 o4 o5 o6 gk zI;have Na:=l4 B.ae.xs;obtain⟨_,k2,k3,k4,k5⟩:=pq.1 hk;simp only[cv]at k3 k4 k5;refine aq ?_;refine Gb (fun h1=>?_) fun h1=>?_
 ·
  refine aK ?_;refine Gr fun w1 hw=>?_;exact⟨bD,by rw[kD,if_pos hk,if_pos (show(cv c).off=true from h1)],by rw[qP,lj,if_neg (fun h=>absurd (h1.symm.trans h.2.1) (by simp))],l8 bD (ai.mem hw)⟩
 have pN:(cv c).off=false:=h1;refine aq ?_;refine ag (aR rfl rfl b.toNat oM lE) ?_;refine aq ?_;refine ag (aN rfl rfl) ?_;refine ag (bw (j:=3) rfl b.toNat hB rfl (by decide)) ?_;refine ak ?_;refine bp rfl rfl rfl (fun hg=>(Ry.yl (gO (ay hg rfl)))) ?_;refine bp rfl rfl rfl (fun hg=>(Ry.yl (aN (ay hg rfl) rfl))) ?_;refine bp rfl rfl rfl (fun hg=>(Ry.yl (bw (j:=1) (ay hg rfl) b.toNat hB rfl (by decide)))) ?_;refine ak ?_;refine Gb (fun h2=>?_) fun h2=>?_
 ·
  have eZ:(aI (cv c) b).bad=true\/g≠(aI (cv c) b).used:=by rw[←dE];exact h2
  refine aK ?_;refine Gr fun w1 hw=>?_;exact⟨bD,by rw[kD,if_pos hk,if_neg (by rw[pN];simp),if_pos eZ],by rw[qP,lj,if_neg (fun h=>eZ.elim (fun g1=>absurd (g1.symm.trans h.2.2.1) (by simp)) (fun g1=>g1 h.2.2.2))],l8 bD (ai.mem hw)⟩
 have eZ: ¬((aI (cv c) b).bad=true\/g≠(aI (cv c) b).used):=by
  rw[←dE];rintro(h|h)
  ·
   exact absurd (h2.1.symm.trans h) (by simp)
  exact h h2.2
 have hgu:g=B.used:=h2.2;obtain⟨q,hq⟩:=get_some (xs:=(aG B.ae.xs)) (i:=g.toNat) oM;have Aw:=o6 q (List.mem_of_getElem? hq);have ct:B.ae.xs≠[]:=fun e=>by
  have h9:(aG B.ae.xs).length=0:=by rw[e];rfl
  omega
 have qN:(bD.blocks.xs.set b.toNat ({B with used:=B.used+1}:Bk))[b.toNat]? =Option.some ({B with used:=B.used+1}:Bk):=List.getElem?_set_self lE
 have jw:lj (cv c) b g xs=qn (cv c) b g xs:=by
  rw[lj,if_pos ⟨hk,pN,by cases hb:(aI (cv c) b).bad with|false=>rfl|true=>exact absurd (.inl hb) eZ,Decidable.not_not.1 fun h=>eZ (.inr h)⟩]
 refine iW ?_;refine K2 (pr:=fun rm:Sv=>rm.nil=false/\rm.sp=none/\B.ae.xs=cQ rm 0 (aG B.ae.xs)) (fun rm:Sv=>[own (bP (τ:=UInt8)) 1 B.ae.sv B.ae.xs,own aJ 1 rm (aG B.ae.xs).flatten,own bK 4 bD.blocks.sv bD.blocks.xs,ah.all ((bD.blocks.xs.eraseIdx b.toNat).map fun b:Bk=>dP b.ae),own cZ 4 bD.bb.sv bD.bb.xs,an vI (aE bD) 59,an b8 (aE fe) 59,an b4 (aE c) 59]) (fun w hw=>KM hB ct (ai.mem hw)) fun rm zN=>?_;obtain⟨hn,hs,xQ⟩:=zN;have xR:B.ae.xs[g.toNat]? =Option.some ⟨(win rm ((aG B.ae.xs).take g.toNat).flatten.length (((aG B.ae.xs).take g.toNat).flatten.length+q.length)),q⟩:=by rw[xQ,tp,B3 hq,Nat.zero_add]
 have NB: ∀r:List UInt8,r.length=q.length->B.ae.xs.map (fun x=>x.sv)=(cQ rm 0 ((aG B.ae.xs).set g.toNat r)).map (fun x=>x.sv):=fun r hr=>(congrArg (List.map fun x:Sl UInt8=>x.sv) xQ).trans (Tf hq hr);refine Gi ?_;refine Gs ?_;refine dm (bV rfl oM) ?_;refine Gs ?_;refine ag (aL (v:= .agg (cZ ((bB (cv c)).1))) rfl rfl) ?_;refine ag (aL (v:= .bool ((bB (cv c)).2)) rfl rfl) ?_;refine bj fun se=>?_;refine cw ?_;refine dw (cs':=aE (⟨bD.ae,bD.size,bD.blocks,(bD.ops+1),bD.off,bD.bb⟩:Cp)) rfl rfl (by show 3<6;decide) (by first|rfl|exact Sv.one _) rfl ?_;refine ak ?_;refine ag (aN rfl rfl) ?_;refine ag (bw (j:=1) rfl b.toNat hB rfl (by decide)) ?_;refine au ?_;refine ag (aN rfl rfl) ?_;refine iz (s:=bD.blocks.sv) (n:=1) (k:=b.toNat) (j:=1) (a:=B) (a':=({B with used:=B.used+1}:Bk)) (xs:=bD.blocks.xs) (enc:=bK) (c:=4) (v:= .int .i64 (B.used+1)) oK rfl rfl rfl hB (by simp[Value.cells,Value.oneCell']) (by rfl) (by decide) (by rfl) ?_
 refine ak ?_;refine ag (aN rfl rfl) ?_;refine ag (Ry.to (v':=B.ae.sv.val) (bw (j:=0) rfl b.toNat qN rfl (by decide)) rfl) ?_;refine Gs ?_;refine ag (aR rfl rfl g.toNat oM oM) ?_;refine ag (Ry.to (v':=(win rm ((aG B.ae.xs).take g.toNat).flatten.length (((aG B.ae.xs).take g.toNat).flatten.length+q.length)).val) (bw (j:=0) rfl g.toNat xR rfl (by decide)) rfl) ?_;refine Gs ?_;refine S1 (D:=(win rm ((aG B.ae.xs).take g.toNat).flatten.length (((aG B.ae.xs).take g.toNat).flatten.length+q.length))) (S:=x) (rm:=rm) (k:=((aG B.ae.xs).take g.toNat).flatten.length) (xs:=(aG B.ae.xs).flatten) (ys:=xs) rfl hn hs rfl (by rw[w7 oM];omega) rfl (by decide) hn oM (by simp only[win];omega) (by have:=zk hq;have:=zl (aG B.ae.xs) (g.toNat+1);omega) ?_;refine aq ?_;refine Gb (fun h3=>?_) fun h3=>?_
 ·
  have ki:wY (cv c) xs=xs:=by rw[wY,if_neg (by rw[h3];simp)]
  refine aK ?_;refine Gr fun w1 hw=>?_;exact⟨(⟨bD.ae,bD.size,⟨bD.blocks.sv,bD.blocks.xs.set b.toNat ⟨⟨B.ae.sv,cQ rm 0 ((aG B.ae.xs).set g.toNat xs)⟩,B.used+1,B.bo,B.bad⟩⟩,bD.ops+1,bD.off,bD.bb⟩:Cp),by rw[kD,if_pos hk,if_neg (by rw[pN];simp),if_neg eZ,if_neg (by rw[h3];simp)];rfl,by rw[KS qP dE,jw,qn,ki,h3,Bool.false_and,show bD.off=(cv c).off from congrArg CV.off qP,pN],(by
   rw[←B2 hq oM]at hw;exact l8 (⟨bD.ae,bD.size,⟨bD.blocks.sv,bD.blocks.xs.set b.toNat ⟨⟨B.ae.sv,cQ rm 0 ((aG B.ae.xs).set g.toNat xs)⟩,B.used+1,B.bo,B.bad⟩⟩,bD.ops+1,bD.off,bD.bb⟩:Cp) (B4 (rm:=rm) (l:=(aG B.ae.xs).set g.toNat xs) (B:=({B with used:=B.used+1}:Bk)) (B':=⟨⟨B.ae.sv,cQ rm 0 ((aG B.ae.xs).set g.toNat xs)⟩,B.used+1,B.bo,B.bad⟩) (sp:=B.ae.sv) (ps:=B.ae.xs) lE (NB _ oM) hn rfl rfl (ai.mem hw)))⟩
 have ki:wY (cv c) xs=cG (~~~(bB (cv c)).1.mask) xs:=by rw[wY,if_pos h3]
 have qK:cG (~~~(bB (cv c)).1.mask) (xs.take 0)++xs.drop 0=xs:=by simp[cG]
 refine aK ?_;refine bA (X:=Nat) (fun U=>[(96, .int .i64 (U:Nat)),(2, .int .i64 g),(8, .pointer (some ⟨b8,0,none⟩)),(10, .pointer (some ⟨vI,0,none⟩)),(11, .pointer (some ⟨bD.blocks.sv.b,bD.blocks.sv.o+b.toNat*4,none⟩)),(12, .pointer (some ⟨se,0,none⟩)),(95, .int .i64 c.size)]) (fun U=>[an se (cZ (bB (cv c)).1) 97,own (bP (τ:=UInt8)) 1 B.ae.sv B.ae.xs,own aJ 1 rm ((aG B.ae.xs).set g.toNat (cG (~~~(bB (cv c)).1.mask) (xs.take U)++xs.drop U)).flatten,own bK 4 bD.blocks.sv (bD.blocks.xs.set b.toNat ({B with used:=B.used+1}:Bk)),ah.all ((bD.blocks.xs.eraseIdx b.toNat).map fun b:Bk=>dP b.ae),own cZ 4 bD.bb.sv bD.bb.xs,an vI (aE (⟨bD.ae,bD.size,bD.blocks,(bD.ops+1),bD.off,bD.bb⟩:Cp)) 59,an b8 (aE fe) 59,an b4 (aE c) 59]) (fun U=>U<=xs.length) (fun U=>xs.length -U) 0 (Nat.zero_le _) sb (fun w hw=>by
  rw[qK,B2 hq oM];exact ai.mem hw) ?_
 rintro i aT;refine ak ?_;refine Gb (fun h4=>?_) fun h4=>?_
 ·
  have tP:(cG (~~~(bB (cv c)).1.mask) (xs.take i)++xs.drop i).length=xs.length:=Fl oM;obtain⟨z,hz⟩:=get_some (xs:=xs) (i:=i) oM;have sd:((aG B.ae.xs).set g.toNat (cG (~~~(bB (cv c)).1.mask) (xs.take i)++xs.drop i)).flatten[((aG B.ae.xs).take g.toNat).flatten.length+i]? =Option.some z:=by
   have h9:=w6 (l:=(aG B.ae.xs).set g.toNat (cG (~~~(bB (cv c)).1.mask) (xs.take i)++xs.drop i)) (i:=g.toNat) (j:=i) (List.getElem?_set_self oM) oM;rw[Fk]at h9;rw[h9,KT oM,hz]
  refine aq ?_;refine gF [15,1009] [[],[],[],[],[],[],[],[],[],[],[],[],[],[9],[9],[9]] [0,1,2,3,4,5,6,7,8,9,10,11,12,13,14,15] [own (bP (τ:=UInt8)) 1 B.ae.sv B.ae.xs,own bK 4 bD.blocks.sv (bD.blocks.xs.set b.toNat ({B with used:=B.used+1}:Bk)),an se (cZ (bB (cv c)).1) 97] (fun _ hw=>ai.mem hw) oK oK ?_
  refine al rfl (aZ rfl) ?_;refine al rfl (gO rfl) ?_;refine al rfl (aN rfl rfl) ?_;refine al rfl (Ry.to (v':=B.ae.sv.val) (bw (j:=0) rfl b.toNat qN rfl (by decide)) rfl) ?_;refine al rfl (aZ rfl) ?_;refine al rfl (aR rfl rfl g.toNat oM oM) ?_;refine al rfl (Ry.to (v':=(win rm ((aG B.ae.xs).take g.toNat).flatten.length (((aG B.ae.xs).take g.toNat).flatten.length+q.length)).val) (bw (j:=0) rfl g.toNat xR rfl (by decide)) rfl) ?_;refine al rfl (aZ rfl) ?_;obtain⟨XY,XZ⟩:=get_some (xs:=q) (i:=i) oM;refine al rfl (kT (s:=(win rm ((aG B.ae.xs).take g.toNat).flatten.length (((aG B.ae.xs).take g.toNat).flatten.length+q.length))) (i:=i) rfl rfl rfl (B5 hn hs oM) (by simp only[win];omega)) ?_;refine jr rfl (bw (s:=rm) (enc:=aJ) (c:=1) (xs:=((aG B.ae.xs).set g.toNat (cG (~~~(bB (cv c)).1.mask) (xs.take i)++xs.drop i)).flatten) (a:=z) (j:=0) (v:= .int .u8 z.toNat) rfl (((aG B.ae.xs).take g.toNat).flatten.length+i) sd (by rw[w7 oM];omega) (by decide)) ?_;refine al rfl (aN (o':=3) rfl rfl) ?_;refine al rfl (bN rfl) ?_;refine al rfl (S7 rfl) ?_;refine al rfl (KN rfl rfl) ?_;obtain⟨ajr,ajs⟩:=get_some (xs:=q) (i:=i) oM;refine al rfl (kT (s:=(win rm ((aG B.ae.xs).take g.toNat).flatten.length (((aG B.ae.xs).take g.toNat).flatten.length+q.length))) (i:=i) rfl rfl rfl (B5 hn hs oM) (by simp only[win];omega)) ?_;refine cY rfl (th (s:=rm) (n:=1) (k:=((aG B.ae.xs).take g.toNat).flatten.length+i) (j:=0) (a:=z) (a':=z|||(~~~(bB (cv c)).1.mask)) (xs:=((aG B.ae.xs).set g.toNat (cG (~~~(bB (cv c)).1.mask) (xs.take i)++xs.drop i)).flatten) (enc:=aJ) (c:=1) (v:= .int .u8 (z|||(~~~(bB (cv c)).1.mask)).toNat) oK rfl rfl (by rw[w7 oM];omega) sd (by simp[Value.cells,Value.oneCell']) rfl oM (by rfl) ⟨fun _ hw=>ai.mem hw,?_⟩);refine ak ?_;refine Gi ?_;exact aV (x:=(i)) (i+1) oF oF sb (fun w hw=>by
   rw[KU hq hz];exact ai.mem hw)
 obtain rfl:i=xs.length:=by omega
 have CT:cG (~~~(bB (cv c)).1.mask) (xs.take xs.length)++xs.drop xs.length=cG (~~~(bB (cv c)).1.mask) xs:=by rw[List.take_length,List.drop_length,List.append_nil]
 refine aq ?_;refine ag (aL (v:= .bool (((bB (cv c)).1).cut)) rfl rfl) ?_;refine ag (aL (v:= .int .i64 (mQ ((bB (cv c)).1))) rfl rfl) ?_;refine aK ?_;refine dw (cs':=aE (⟨bD.ae,bD.size,bD.blocks,(bD.ops+1),((bB (cv c)).1).cut,bD.bb⟩:Cp)) rfl rfl (by show 4<6;decide) (by first|rfl|exact Sv.one _) rfl ?_;refine aS ?_;refine Gr fun w1 hw=>?_;exact⟨(⟨bD.ae,bD.size,⟨bD.blocks.sv,bD.blocks.xs.set b.toNat ⟨⟨B.ae.sv,cQ rm 0 ((aG B.ae.xs).set g.toNat (cG (~~~(bB (cv c)).1.mask) xs))⟩,B.used+1,B.bo,B.bad⟩⟩,bD.ops+1,(bB (cv c)).1.cut,bD.bb⟩:Cp),by rw[kD,if_pos hk,if_neg (by rw[pN];simp),if_neg eZ,if_pos h3];rfl,by rw[KS qP dE,jw,qn,ki,h3,Bool.true_and],(by
  rw[CT]at hw;have X0:(cG (~~~(bB (cv c)).1.mask) xs).length=xs.length:=by rw[cG,List.length_map]
  exact l8 (⟨bD.ae,bD.size,⟨bD.blocks.sv,bD.blocks.xs.set b.toNat ⟨⟨B.ae.sv,cQ rm 0 ((aG B.ae.xs).set g.toNat (cG (~~~(bB (cv c)).1.mask) xs))⟩,B.used+1,B.bo,B.bad⟩⟩,bD.ops+1,(bB (cv c)).1.cut,bD.bb⟩:Cp) (B4 (rm:=rm) (l:=(aG B.ae.xs).set g.toNat (cG (~~~(bB (cv c)).1.mask) xs)) (B:=({B with used:=B.used+1}:Bk)) (B':=⟨⟨B.ae.sv,cQ rm 0 ((aG B.ae.xs).set g.toNat (cG (~~~(bB (cv c)).1.mask) xs))⟩,B.used+1,B.bo,B.bad⟩) (sp:=B.ae.sv) (ps:=B.ae.xs) lE (NB _ oM) hn rfl rfl (ai.mem hw)))⟩
instance ajt{c:Cp}{b:Int}{g:Int}{x:Sv}{xs:List UInt8}[hc:aO w0 L c][hx:cz w0 L aJ 1 x xs]:bJ Tryz.prog 256 w0 L [.agg (aE c), .int .i64 b, .int .i64 g,x.val] (Cp) (fun U=> .tuple #[.agg (aE U), .int .i64 (kD (cv c) b g xs)]) (fun U=>fz U::L) (fun U=>cv U=lj (cv c) b g xs) (du c):=⟨fun hp w hw=>(XX w c b g x xs (hc.h w hw) (hx.h w hw) hp).mono fun e w' ⟨x,h1,h2,h3⟩=>⟨x,h1,h2,hw.call h3⟩⟩
end Go.Proofs.YtkggjjnhnjjokaaGreatDoor

/- Part of a proof. -/
import Derived.WalkKit
import Derived.Deep.Quiet
import Derived.Laws.CopyRow
import Derived.RangeFuncRecord
import Derived.RangeFuncCalls
import Derived.OrdersIn
import Derived.IntWalk
import Derived.StillTail
import Derived.Deep.MidRow
import Derived.Deep.AppendSrc
import Derived.Laws.MakeOwn
import Derived.Laws.Append
import Derived.Laws.Slices
import Derived.Laws.AppendOwn
import Derived.Laws.IdiomStrings
import Derived.Laws.Strings
import Derived.Laws.Cover3
import Derived.Lib.ItoaNum
import Derived.Laws.DeepStrings4
import Derived.Laws.Runes
import Derived.Lib.Strings
import Derived.Lib.SplitLaws
import Derived.Lib.CutLaws
import GoSem.Core.Value
import Derived.Lib.Join
set_option maxRecDepth 20000
set_option linter.unusedSimpArgs false
set_option linter.unusedVariables false
namespace Go.aA
open Go.RowKit
structure ah where
 fp:Nat->Prop
 sat:(Nat->Option Obj)->Prop
 loc: ∀h h':Nat->Option Obj,(∀k,fp k->h' k=h k)->sat h->sat h'
def an(b:Nat)(cs:Array Value)(T:TypeId):ah:=⟨fun k=>k=b,fun h=>h b=some (.cells cs T (0,0)),fun _ _ e s=>by rw[e b rfl];exact s⟩
structure Mem(w0:World)(L:List ah)(w:World):Prop where
 below:Below w0.heap.size w0 w
 sat: ∀e∈L,e.sat fun k=>w.heap[k]?
 hM: ∀e∈L,∀k,e.fp k->w0.heap.size<=k/\k<w.heap.size
 mA:L.Pairwise fun a b=> ∀k,a.fp k-> ¬b.fp k
theorem Mem.init(w:World):Mem w [] w:=⟨Below.refl _ _,by simp,by simp,by simp⟩
theorem Mem.H2{w w':World}(h:Below w.heap.size w w'):Mem w [] w':=⟨h,by simp,by simp,by simp⟩
variable {w0:World}{L:List ah}
theorem Mem.le{w:World}(h:Mem w0 L w):w0.heap.size<=w.heap.size:=h.below.size
theorem Mem.call{w0:World}{L E:List ah}{w w':World}(h:Mem w0 L w)(h':Mem w E w'):Mem w0 (E++L) w':=by
 refine⟨h.below.trans (h'.below.mono h.le),fun e he=>?_,fun e he k hk=>?_,?_⟩
 ·
  rcases List.mem_append.1 he with he|he
  ·
   exact h'.sat e he
  exact e.loc _ _ (fun k hk=>h'.below.block k (h.hM e he k hk).2) (h.sat e he)
 ·
  rcases List.mem_append.1 he with he|he
  ·
   have:=h'.hM e he k hk;have:=h.le;omega
  have:=h.hM e he k hk;have:=h'.below.size;omega
 refine List.pairwise_append.2 ⟨h'.mA,h.mA,fun a ha b hb k hk iu=>?_⟩;have:=h'.hM a ha k hk;have:=h.hM b hb k iu;omega
theorem Mem.step{w w':World}(h:Mem w0 L w)(h':Below w.heap.size w w'):Mem w0 L w':=h.call (E:=[]) (.H2 h')
theorem Mem.drew{w:World}(h:Mem w0 L w):Mem w0 L w.drew:=h.step ((Below.refl _ _).drew)
theorem Mem.Ar{w:World}(h:Mem w0 L w):Mem w0 L {w with drawn:=w.drawn+1}:=h.step ((Below.refl _ _).drew)
theorem Mem.sub{w0:World}{L L':List ah}{w:World}(h:Mem w0 L w)(s:L'.Sublist L):Mem w0 L' w:=
 ⟨h.below,fun e he=>h.sat e (s.subset he),fun e he=>h.hM e (s.subset he),h.mA.sublist s⟩
theorem Mem.perm{w0:World}{L L':List ah}{w:World}(h:Mem w0 L w)(s:L.Perm L'):Mem w0 L' w:=
 ⟨h.below,fun e he=>h.sat e (s.mem_iff.2 he),fun e he=>h.hM e (s.mem_iff.2 he),s.pairwise h.mA (fun vU k hk iu=>vU k iu hk)⟩
theorem Mem.get{w:World}(h:Mem w0 L w){i:Nat}{e:ah}(hi:L[i]? =some e):e.sat fun k=>w.heap[k]? :=h.sat e (List.mem_of_getElem? hi)
theorem Below.As(w:World)(o:Obj):(w.alloc o).heap[w.heap.size]? =some o:=by
 show(w.heap.push o)[w.heap.size]? =some o;simp
theorem Mem.alloc{w:World}(h:Mem w0 L w)(cs:Array Value)(T:TypeId):Mem w0 (an w.heap.size cs T::L) (w.alloc (.cells cs T)):=by
 refine h.call (E:=[an w.heap.size cs T]) ⟨(Below.refl _ _).alloc (Nat.le_refl _) _,fun e he=>?_,fun e he k hk=>?_,by simp⟩
 ·
  simp at he;subst he;exact Below.As w _
 simp at he;subst he;have:k=w.heap.size:=hk;subst this;simp
theorem Mem.change{w w':World}(h:Mem w0 L w){i:Nat}{e e':ah}(hi:L[i]? =some e)(um: ∀k,e'.fp k->e.fp k)
  (hB: ∀k,¬e.fp k->w'.heap[k]? =w.heap[k]?) (hs:w'.heap.size=w.heap.size) (ho:w'.os=w.os/\w'.tape=w.tape/\w'.output=w.output)
  (OV:e'.sat fun k=>w'.heap[k]?):Mem w0 (L.set i e') w':=by
 have Au:i<L.length:=by
  rcases Nat.lt_or_ge i L.length with h'|h'
  ·
   exact h'
  ·
   simp[List.getElem?_eq_none h']at hi
 have Av:L[i]=e:=by simpa[List.getElem?_eq_getElem Au]using hi
 have H3:e∈L:=Av▸List.getElem_mem Au;refine⟨⟨ho.1.trans h.below.os,ho.2.1.trans h.below.tape,ho.2.2.trans h.below.output,hs▸h.below.size,fun k hk=>?_⟩,fun x hx=>?_,fun x hx k hk=>?_,?_⟩
 ·
  rw[hB k (fun hf=>by have:=h.hM e H3 k hf;omega)];exact h.below.block k hk
 ·
  obtain⟨j,hj,nU⟩:=List.getElem_of_mem hx;rw[List.getElem_set]at nU;split at nU
  ·
   subst nU;exact OV
  ·
   rename_i ct;have hO:j<L.length:=by simpa using hj
   subst nU;have hd:=h.mA;rw[List.pairwise_iff_getElem]at hd;refine(L[j]).loc _ _ (fun k hk=>hB k (fun hf=>?_)) (h.sat _ (List.getElem_mem hO));rw[←Av]at hf;rcases Nat.lt_or_gt_of_ne ct with aW|aW
   ·
    exact hd i j Au hO aW k hf hk
   ·
    exact hd j i hO Au aW k hk hf
 ·
  rw[hs];obtain⟨j,hj,nU⟩:=List.getElem_of_mem hx;rw[List.getElem_set]at nU;split at nU
  ·
   subst nU;exact h.hM e H3 k (um k hk)
  ·
   subst nU;exact h.hM _ (List.getElem_mem _) k hk
 ·
  rw[List.pairwise_iff_getElem];intro p q hp hq vV k hk iu;have hd:=h.mA;rw[List.pairwise_iff_getElem]at hd;rw[List.getElem_set]at hk iu;have gq:p<L.length:=by simpa using hp
  have Aw:q<L.length:=by simpa using hq
  have:=hd p q gq Aw vV k;split at hk<;>split at iu
  ·
   omega
  ·
   rename_i h1 h2;subst h1;exact this (by rw[Av];exact um k hk) iu
  ·
   rename_i h1 h2;subst h2;exact this hk (by rw[Av];exact um k iu)
  ·
   exact this hk iu
theorem Mem.cell{w:World}(h:Mem w0 L w){i b:Nat}{cs:Array Value}{T:TypeId}(hi:L[i]? =some (an b cs T))(o:Nat):w.cell? ⟨b,o,none⟩=cs[o]? :=by
 have:w.heap[b]? =some (.cells cs T (0,0)):=h.get hi;simp[World.cell?,this]
theorem Mem.block{w:World}(h:Mem w0 L w){i b:Nat}{cs:Array Value}{T:TypeId}(hi:L[i]? =some (an b cs T)):w.heap[b]? =some (.cells cs T (0,0)):=h.get hi
theorem Mem.setRow{w:World}(h:Mem w0 L w){i b:Nat}{cs:Array Value}{T:TypeId}(hi:L[i]? =some (an b cs T))(cs':Array Value):Mem w0 (L.set i (an b cs' T)) (w.setRow b cs'):=by
 have hb:=h.block hi;refine h.change hi (fun k hk=>hk) (fun k hk=>?_) (by simp[World.setRow]) ⟨rfl,rfl,rfl⟩ ?_
 ·
  exact setRow_other w b k cs' (fun e=>hk e)
 exact setRow_heap w b cs cs' T (0,0) hb
def ka(ro:Option Nat):Fence:={fn:=fun _=>True,depth:=none,alive:=false,round:=ro}
def mZ(l:List Oper):Bool:=l.all fun o=>match o.op with
 | .defer _=>false
 |_=>true
theorem H4{l:List Oper}(h:mZ l=true){i:Nat}{o:Oper}(hi:l.toArray[i]? =some o): ∀c,o.op≠ .defer c:=fun c e=>by
 have hm:o∈l:=by simpa using Array.mem_of_getElem? hi
 have:=List.all_eq_true.1 h o hm;rw[e]at this;cases this
class iP(Q:Exit->Act->World->Prop):Prop where
 h: ∀a w,¬Q .outgrown a w
instance iP.then{K:Act->World->Prop}{Q:Exit->Act->World->Prop}[q:iP Q]:iP (Exit.then K Q):=⟨fun a w h=>q.h a w h⟩
instance iP.block{id:Nat}{Q:Exit->Act->World->Prop}[q:iP Q]:iP (Exit.inBlock id Q):=⟨fun a w h=>q.h a w h⟩
variable {P:Program} {ro:Option Nat}
theorem OW{f:FuncId}{args:Array Value}{w:World}{R:Ending->World->Prop}(h:Calls P f args w R):CallsIn (ka ro) 0 P f args w R:=by
 have h':CallsIn Fence.wide 0 P f args w R:=callsIn_wide.2 h
 cases ro with
 |none=>exact h'
 |some l=>exact h'.inRound l
theorem OX{row:String}{args:Array Value}{w:World}{R:Value->World->Prop}(h:Rows P row args w R):RowsIn (ka ro) 0 P row args w R:=fun c cs _=>by
 obtain⟨v,w',hR,hs⟩:=h c cs;refine⟨v,w',hR,?_⟩;have h':StepsIn (Machine.fenced P Fence.wide) P _ _:=stepsIn_wide.2 hs;exact h'
theorem OY{o:Oper}{a:Act}{w:World}{K:Act->World->Prop}{Q:Exit->Act->World->Prop}(bX: ∀c,o.op≠ .defer c)(h:o.wp P a w K Q):o.wpIn (ka ro) 0 P a w K Q:=by
 refine⟨fun _ _=>trivial,?_⟩;rw[Oper.semAt_eq _ _ _ bX];unfold Oper.wp at h;generalize(execOp a.eval o).run P w=r at h⊢;unfold Oper.upon at h;unfold Oper.uponIn;split at h
 ·
  exact h
 ·
  exact h
 ·
  exact h
 ·
  exact⟨fun e=>(by cases e),OW h⟩
 ·
  exact⟨fun e=>(by cases e),OX h⟩
 ·
  exact h
 exact h.elim
theorem yh{ops:Array Oper}{Q:Exit->Act->World->Prop}[q:iP Q](bX: ∀(i:Nat) (o:Oper),ops[i]? =some o-> ∀c,o.op≠ .defer c): ∀(l:List Nat) (a:Act) (w:World),wpOps P ops Q l a w->wpOpsIn (ka ro) 0 P ops Q l a w
 |[],_,_,h=>h
 |i::rest,a,w,h=>by
  unfold wpOps at h;unfold wpOpsIn;split at h
  ·
   rename_i ho;simp only[ho];exact yh bX rest a w h
  rename_i o ho;simp only[ho];split at h
  ·
   rename_i hw;rw[if_pos hw];rcases h with h|⟨_,a',w',h⟩
   ·
    exact Oper.wpIn_mono (fun a w h=>yh bX rest a w h) (OY (bX i o ho) h)
   exact absurd h (q.h a' w')
  rename_i hw;rw[if_neg hw];exact⟨fun _ _=>trivial,yh bX rest _ w h⟩
theorem OZ{id:Nat}{l:List Oper}{Q:Exit->Act->World->Prop}{a:Act}{w:World}[iP Q](bX:mZ l=true)(h:wpList P l.toArray Q l a w):(Code.region id l.toArray false).wpIn (ka ro) 0 P Q a w:=
 wpIn_region (yh (fun _ _ hi=>H4 bX hi) _ a w (by rw[List.range_eq_range',←Array.length_toList,wpOps_eq_wpList l.toArray.toList 0 (by simp)];exact h))
theorem Ds{id:Nat}{l:List Oper}{Q:Exit->Act->World->Prop}{a:Act}{w:World}[iP Q](bX:mZ l=true)(hm:P.follows .mixedOrders=true)
  (h:wpAny P .any l.toArray Q l.toArray.size (Array.replicate l.toArray.size false) a {w with drawn:=w.drawn+1}):(Code.region id l.toArray true).wpIn (ka ro) 0 P Q a w:=
 wpIn_region_draw fun t=>yh (fun _ _ hi=>H4 bX hi) _ a _ (by
  simp only[Region.schedule,hm,Bool.true_or,if_true];exact wpAny_sound l.toArray.size t _ a _ h)
theorem O0{id:Nat}{l:List Oper}{C:World->Prop}{Q:Exit->Act->World->Prop}{a:Act}{w:World}[iP Q](bX:mZ l=true)(hm:P.follows .mixedOrders=true)(hB:Region.lexB .any l.toArray=true)(hC:C {w with drawn:=w.drawn+1})
  (h:wpQuiet P l.toArray C (fun a'=> ∀w',C w'->Q .normal a' w') l a):(Code.region id l.toArray true).wpIn (ka ro) 0 P Q a w:=by
 simp only[Region.lexB,Bool.and_eq_true]at hB;refine Ds bX hm (wpAny_of_quiet (Q:=fun a'=> ∀w',C w'->Q .normal a' w') (fun _ w' eT h=>h w' eT) _ _ _ _ hC ?_);have:=wpAnyQ_lex (C:=C) (md:= .any) hB.1 l 0 (Array.replicate l.toArray.size false) a (by simp) (by simpa using hB.2) h;simpa using this
def mark(D:Nat):Deferred:={target:= .collected D,args:= #[]}
def nV(P:Program)(fn:Func)(R:Ending->World->Prop):Exit->Act->World->Prop:=fun e a w=>(e= .normal\/e= .ret)/\bodyPostM (ka none) 0 P fn R e a w
instance iP.end{fn:Func}{R:Ending->World->Prop}:iP (nV P fn R):=⟨fun a w h=>by rcases h.1 with h|h<;>cases h⟩
theorem H5{f:FuncId}{fn:Func}{c:Code}{args:Array Value}{w:World}{R:Ending->World->Prop}(hf:P.funcs[f]? =some fn)(hb:fn.body=some c)
  (h:c.wpIn (ka none) 0 P (nV P fn R) {tmps:=args++Array.replicate (fn.ntmps -args.size) undef,defers:=[]} w):Calls P f args w R:=
 callsIn_wide.1 (callsIn_of_wp_marks (F:=ka none) (n:=0) hf hb trivial (wpIn_mono h fun _ _ _ h=>h.2))
section
variable {P:Program} {l:List Oper} {C:World->Prop} {Q:Exit->Act->World->Prop} {n:Nat} {fs:List Nat}
def fr(l:List Oper)(fs:List Nat)(v:Nat->Value)(a0:Act):Nat->Act
 |0=>a0
 |k+1=>if fs.contains k=true then fr l fs v a0 k else match l[k]?with
  |some o=>(fr l fs v a0 k).put o.dst (v k)
  |none=>fr l fs v a0 k
def c1(l:List Oper)(j:Nat):Option Tmp:=(l[j]?).bind (·.dst)
theorem hQ(a:Act)(d:Option Tmp)(v:Value)(t:Nat)(h:d≠some t):(a.put d v).tmps[t]? =a.tmps[t]? :=by
 cases d with
 |none=>rfl
 |some d=>
  have:d≠t:=fun e=>h (by rw[e]);simp[Act.put,this]
theorem pT(a:Act)(d:Option Tmp)(v:Value):(a.put d v).tmps.size=a.tmps.size:=by cases d<;>simp[Act.put]
theorem pU(a:Act)(d:Option Tmp)(v:Value):(a.put d v).defers=a.defers:=by cases d<;>rfl
theorem H6(a b:Act)(d:Nat)(v:Value)(h:a.tmps.size=b.tmps.size):(a.put (some d) v).tmps[d]? =(b.put (some d) v).tmps[d]? :=by
 simp[Act.put,Array.getElem?_setIfInBounds,h]
theorem uo{v:Nat->Value}{a0:Act}{k:Nat}{o:Oper}(hf:fs.contains k=false)(h:l[k]? =some o):fr l fs v a0 (k+1)=(fr l fs v a0 k).put o.dst (v k):=by
 show(if fs.contains k=true then _ else match l[k]?with|some o=>(fr l fs v a0 k).put o.dst (v k)|none=>fr l fs v a0 k)=_;rw[hf,h];rfl
theorem vW{v:Nat->Value}{a0:Act}{k:Nat}(hf:fs.contains k=true):fr l fs v a0 (k+1)=fr l fs v a0 k:=by
 show(if fs.contains k=true then _ else match l[k]?with|some o=>(fr l fs v a0 k).put o.dst (v k)|none=>fr l fs v a0 k)=_;rw[hf];rfl
theorem yi{v:Nat->Value}{a0:Act}{k:Nat}(h:l[k]? =none):fr l fs v a0 (k+1)=fr l fs v a0 k:=by
 show(if fs.contains k=true then _ else match l[k]?with|some o=>(fr l fs v a0 k).put o.dst (v k)|none=>fr l fs v a0 k)=_;rw[h];split<;>rfl
theorem yj(v:Nat->Value)(a0:Act): ∀k,(fr l fs v a0 k).tmps.size=a0.tmps.size
 |0=>rfl
 |k+1=>by
  cases hf:fs.contains k with
  |true=>rw[vW hf];exact yj v a0 k
  |false=>
   cases ho:l[k]?with
   |none=>rw[yi ho];exact yj v a0 k
   |some o=>rw[uo hf ho,pT];exact yj v a0 k
theorem Ax(v:Nat->Value)(a0:Act): ∀k,(fr l fs v a0 k).defers=a0.defers
 |0=>rfl
 |k+1=>by
  cases hf:fs.contains k with
  |true=>rw[vW hf];exact Ax v a0 k
  |false=>
   cases ho:l[k]?with
   |none=>rw[yi ho];exact Ax v a0 k
   |some o=>rw[uo hf ho,pU];exact Ax v a0 k
theorem uq(v:Nat->Value)(a0:Act)(t k:Nat): ∀m,k<=m->(∀j,k<=j->j<m->fs.contains j=false->c1 l j≠some t)->(fr l fs v a0 m).tmps[t]? =(fr l fs v a0 k).tmps[t]?
 |0,h,_=>by obtain rfl:k=0:=by omega
            rfl
 |m+1,h,hn=>by
  by_cases e:k=m+1
  ·
   subst e;rfl
  have ih:=uq v a0 t k m (by omega) fun j h1 h2=>hn j h1 (by omega);rw[←ih]
  cases hf:fs.contains m with
  |true=>rw[vW hf]
  |false=>
   cases ho:l[m]?with
   |none=>rw[yi ho]
   |some o=>
    rw[uo hf ho];exact hQ _ _ _ _ (by simpa[c1,ho]using hn m (by omega) (by omega) hf)
def yk(l:List Oper)(fs:List Nat)(n:Nat):Bool:=
 (List.range n).all fun k=>match l[k]?with
  |none=>false
  |some o=>
   (match o.op with| .select .. =>false|_=>true)&&
   (o.after.all fun e=> !Region.binds .any e||decide (e.on<k))&&
   (List.range n).all fun j=>match c1 l j with
    |none=>true
    |some d=>(!(o.looksAt l.toArray).contains d||(decide (j<k)&&(!fs.contains j||fs.contains k)&&o.after.any fun e=>Region.binds .any e&&e.on==j))&&(j==k||o.dst !=some d)
structure ym(l:List Oper)(fs:List Nat)(n k:Nat)(o:Oper):Prop where
 sI: ∀cs b,o.op≠ .select cs b
 back: ∀e∈o.after,Region.binds .any e=true->e.on<k
 reads: ∀j d,j<n->c1 l j=some d->d∈o.looksAt l.toArray->j<k/\(fs.contains j=true->fs.contains k=true)/\ ∃e∈o.after,Region.binds .any e=true/\e.on=j
 one: ∀j d,j<n->c1 l j=some d->j≠k->o.dst≠some d
theorem Ay(h:yk l fs n=true)(k:Nat)(hk:k<n): ∃o,l[k]? =some o/\ym l fs n k o:=by
 have:=List.all_eq_true.1 h k (List.mem_range.2 hk)
 cases ho:l[k]?with
 |none=>simp[ho]at this
 |some o=>
  rw[ho]at this;simp only[Bool.and_eq_true]at this;obtain⟨⟨h1,h2⟩,h3⟩:=this;refine⟨o,rfl,⟨fun cs b e=>by rw[e]at h1;simp at h1,fun e he hb=>?_,fun j d hj hd hl=>?_,fun j d hj hd ct=>?_⟩⟩
  ·
   have:=(Array.all_eq_true_iff_forall_mem.1 h2) e he;simpa[hb]using this
  ·
   have:=List.all_eq_true.1 h3 j (List.mem_range.2 hj);rw[hd]at this;simp only[Bool.and_eq_true,Bool.or_eq_true,Bool.not_eq_true',decide_eq_true_eq]at this;rcases this.1 with h4|h4
   ·
    exact absurd hl (by simpa using h4)
   obtain⟨⟨h5,h6⟩,h7⟩:=h4;obtain⟨e,he,hb⟩:=Array.any_eq_true'.1 h7;simp only[Bool.and_eq_true,beq_iff_eq]at hb;exact⟨h5,fun jj=>h6.elim (fun h=>by rw[h]at jj;cases jj) id,e,he,hb.1,hb.2⟩
  have:=List.all_eq_true.1 h3 j (List.mem_range.2 hj);rw[hd]at this;simp only[Bool.and_eq_true,Bool.or_eq_true,beq_iff_eq]at this;rcases this.2 with h4|h4
  ·
   exact absurd h4 ct
  simpa using h4
def qU(P:Program)(o:Oper)(a:Act)(C:World->Prop)(v:Value):Prop:= ∀w,C w->o.quietAt P a (Mem w []) w v
def Dt(P:Program)(l:List Oper)(fs:List Nat)(C:World->Prop)(v:Nat->Value)(a0:Act)(k:Nat):Prop:=
 ∀o,l[k]? =some o->(Region.wanted o (yielded l.toArray (fr l fs v a0 k).tmps)=true->qU P o (fr l fs v a0 k) C (v k))/\
  (Region.wanted o (yielded l.toArray (fr l fs v a0 k).tmps)=false->v k=undef)
def kQ(P:Program)(ops:Array Oper)(fs:List Nat)(C:World->Prop)(F:Act->Prop):Nat->List Oper->Act->Prop
 |_,[],a=>F a
 |k,o::rest,a=>if fs.contains k=true then kQ P ops fs C F (k+1) rest a
  else if Region.wanted o (yielded ops a.tmps)=true then∃v,qU P o a C v/\kQ P ops fs C F (k+1) rest (a.put o.dst v)else kQ P ops fs C F (k+1) rest (a.put o.dst undef)
theorem Du{F:Act->Prop}: ∀(m k:Nat) (a0:Act) (v0:Nat->Value),k+m<=l.length->kQ P l.toArray fs C F k ((l.drop k).take m) (fr l fs v0 a0 k)->
  ∃v,(∀j,j<k->v j=v0 j)/\(∀j,k<=j->j<k+m->fs.contains j=false->Dt P l fs C v a0 j)/\F (fr l fs v a0 (k+m))
 |0,k,a0,v0,_,h=>⟨v0,fun _ _=>rfl,fun j h1 h2=>by omega,by simpa[kQ]using h⟩
 |m+1,k,a0,v0,hle,h=>by
  have hk:k<l.length:=by omega
  have ed:l.drop k=l[k]::l.drop (k+1):=List.drop_eq_getElem_cons hk;rw[ed,List.take_succ_cons]at h;have H7:l[k]? =some l[k]:=List.getElem?_eq_getElem hk;have agree: ∀v v':Nat->Value,∀j,(∀i,i<j->v i=v' i)->fr l fs v a0 j=fr l fs v' a0 j:=by
   intro v v' j
   induction j with
   |zero=>intro _;rfl
   |succ j ih=>
    intro hh;have e:=ih fun i hi=>hh i (by omega)
    cases hf:fs.contains j with
    |true=>rw[vW hf,vW hf,e]
    |false=>
     cases ho:l[j]?with
     |none=>rw[yi ho,yi ho,e]
     |some o=>rw[uo hf ho,uo hf ho,e,hh j (by omega)]
  unfold kQ at h
  cases ur:fs.contains k with
  |true=>
   rw[if_pos ur]at h;obtain⟨v,g1,g2,g3⟩:=Du m (k+1) a0 v0 (by omega) (by rw[vW ur];exact h);refine⟨v,fun j hj=>g1 j (by omega),fun j h3 h4 h5=>?_,by rw[show k+(m+1)=k+1+m by omega];exact g3⟩
   by_cases hj:j=k
   ·
    subst hj;rw[ur]at h5;cases h5
   ·
    exact g2 j (by omega) (by omega) h5
  |false=>
   rw[if_neg (by rw[ur];exact Bool.false_ne_true)]at h;have step: ∀u:Value,kQ P l.toArray fs C F (k+1) ((l.drop (k+1)).take m) ((fr l fs v0 a0 k).put l[k].dst u)->
     ((Region.wanted l[k] (yielded l.toArray (fr l fs v0 a0 k).tmps)=true->qU P l[k] (fr l fs v0 a0 k) C u)/\(Region.wanted l[k] (yielded l.toArray (fr l fs v0 a0 k).tmps)=false->u=undef))->
     ∃v,(∀j,j<k->v j=v0 j)/\(∀j,k<=j->j<k+(m+1)->fs.contains j=false->Dt P l fs C v a0 j)/\F (fr l fs v a0 (k+(m+1))):=by
    intro u h2 hu
    let v1:Nat->Value:=fun j=>if j=k then u else v0 j
    have e1:fr l fs v1 a0 k=fr l fs v0 a0 k:=agree _ _ k fun i hi=>by simp[v1,show i≠k by omega]
    have e2:fr l fs v1 a0 (k+1)=(fr l fs v0 a0 k).put l[k].dst u:=by
     rw[uo ur H7,e1];simp[v1]
    obtain⟨v,g1,g2,g3⟩:=Du m (k+1) a0 v1 (by omega) (by rw[e2];exact h2);have e3:fr l fs v a0 k=fr l fs v0 a0 k:=agree _ _ k fun i hi=>by rw[g1 i (by omega)];simp[v1,show i≠k by omega]
    have e4:v k=u:=by rw[g1 k (by omega)];simp[v1]
    refine⟨v,fun j hj=>by rw[g1 j (by omega)];simp[v1,show j≠k by omega],fun j h3 h4 h5=>?_,by rw[show k+(m+1)=k+1+m by omega];exact g3⟩
    by_cases hj:j=k
    ·
     subst hj;intro o ho;rw[H7]at ho;cases ho;rw[e3,e4];exact hu
    ·
     exact g2 j (by omega) (by omega) h5
   split at h
   ·
    rename_i hw;obtain⟨u,h1,h2⟩:=h;exact step u h2 ⟨fun _=>h1,fun hf=>by rw[hw]at hf;cases hf⟩
   ·
    rename_i hw;exact step undef h ⟨fun ht=>absurd ht hw,fun _=>rfl⟩
def H8(P:Program)(w:World)(R:Value->World->List ah->Prop):Result Next->Prop
 | .ok (.value v) w'=> ∃E,R v w' E
 | .ok (.enter f args) w'=>w'=w/\Calls P f args w fun e nf=> ∃v E,e= .returned v/\R v nf E
 |_=>False
def qV(P:Program)(l:List Oper)(n:Nat)(Q:Exit->Act->World->Prop)(w0:World)(Lq:List ah):List Nat->Act->List ah->Prop
 |[],af,L=> ∀w,Mem w0 L w->wpList P l.toArray Q (l.drop n) af w
 |j::js,af,L=> ∃o,l[j]? =some o/\o.guard=none/\ ∀w,Mem w0 L w->H8 P w (fun v w' L'=>Mem w0 L' w'/\(∀w,Mem w0 L' w->Mem w0 Lq w)/\qV P l n Q w0 Lq js (af.put o.dst v) L') ((execOp af.eval o).run P w)
def pV(l:List Oper):List Nat->Bool
 |j::k::r=>(match l[k]?with|some o=>o.after.any fun e=>Region.binds .any e&&e.on==j|none=>false)&&pV l (k::r)
 |_=>true
theorem H9: ∀(rs:List Nat) (j0:Nat),pV l (j0::rs)=true-> ∀i∈rs,∃p∈j0::rs,∃o,l[i]? =some o/\ ∃e∈o.after,Region.binds .any e=true/\e.on=p
 |[],_,_,i,hi=>by cases hi
 |k::r,j0,h,i,hi=>by
  simp only[pV,Bool.and_eq_true]at h;rcases List.mem_cons.1 hi with rfl|hi
  ·
   cases ho:l[i]?with
   |none=>rw[ho]at h;simp at h
   |some o=>
    rw[ho]at h;obtain⟨e,he,hb⟩:=Array.any_eq_true'.1 h.1;simp only[Bool.and_eq_true,beq_iff_eq]at hb;exact⟨j0,by simp,o,rfl,e,he,hb.1,hb.2⟩
  obtain⟨p,hp,o,ho,e,he,hb⟩:=H9 r k h.2 i hi;exact⟨p,List.mem_cons_of_mem _ hp,o,ho,e,he,hb⟩
structure sJ(P:Program)(l:List Oper)(fs:List Nat)(Q:Exit->Act->World->Prop)(w0:World)(L0:List ah)(n:Nat)(v:Nat->Value)(a0:Act)(rs:List Nat)(af:Act)(listed:Array Bool)(a:Act)(w:World):Prop where
 inv:HeadInv .any l.toArray n listed
 mem: ∃L,Mem w0 L w/\(∀w,Mem w0 L w->Mem w0 L0 w)/\qV P l n Q w0 L0 rs af L
 size:a.tmps.size=a0.tmps.size
 nW:af.tmps.size=a0.tmps.size
 defers:a.defers=a0.defers
 pW:af.defers=a0.defers
 fD: ∃ds,fs=ds++rs
 todo: ∀j,j<n->fs.contains j=true->(listed.getD j true=false↔j∈rs)
 done: ∀j d,j<n->listed.getD j true=true->c1 l j=some d->a.tmps[d]? =af.tmps[d]?
 rest: ∀d,(∀j,j<n->listed.getD j true=true->c1 l j≠some d)->a.tmps[d]? =a0.tmps[d]?
 full: ∀d,(∀j,j<n->fs.contains j=true->listed.getD j true=true->c1 l j≠some d)->af.tmps[d]? =(fr l fs v a0 n).tmps[d]?
variable {w0:World} {L0:List ah}
theorem Dv{listed:Array Bool}{i:Nat}(h:listed.getD i true=false):i<listed.size:=by
 rcases Nat.lt_or_ge i listed.size with h'|h'
 ·
  exact h'
 simp[Array.getElem?_eq_none h']at h
theorem Ia{v:Nat->Value}{a0 a af:Act}{rs:List Nat}{listed:Array Bool}{w:World}(H:sJ P l fs Q w0 L0 n v a0 rs af listed a w){k:Nat}{o:Oper}(ho:ym l fs n k o)
  (nX: ∀e∈o.after,Region.binds .any e=true->listed.getD e.on false=true) (t:Nat) (ht:t∈o.looksAt l.toArray):a.tmps[t]? =af.tmps[t]? :=by
 by_cases hw: ∃j,j<n/\c1 l j=some t
 ·
  obtain⟨j,hj,hd⟩:=hw;obtain⟨_,_,e,he,hb,jI⟩:=ho.reads j t hj hd ht;have hl:=nX e he hb;rw[jI]at hl;have O1:listed.getD j true=true:=by
   have yn:j<listed.size:=by
    rcases Nat.lt_or_ge j listed.size with h|h
    ·
     exact h
    ·
     simp[Array.getElem?_eq_none h]at hl
   simp[yn]at hl⊢;exact hl
  exact H.done j t hj O1 hd
 ·
  have h1: ∀j,j<n->c1 l j≠some t:=fun j hj hd=>hw ⟨j,hj,hd⟩;rw[H.rest t fun j hj _=>h1 j hj,H.full t fun j hj _ _=>h1 j hj];exact(uq v a0 t 0 n (by omega) fun j _ h2 _=>h1 j h2).symm
theorem O2{v:Nat->Value}{a0 a af:Act}{rs:List Nat}{listed:Array Bool}{w:World}(H:sJ P l fs Q w0 L0 n v a0 rs af listed a w){k:Nat}{o:Oper}(hk:k<n)(ur:fs.contains k=false)(ho:ym l fs n k o)(hB:yk l fs n=true)
  (nX: ∀e∈o.after,Region.binds .any e=true->listed.getD e.on false=true) (t:Nat) (ht:t∈o.looksAt l.toArray):a.tmps[t]? =(fr l fs v a0 k).tmps[t]? :=by
 rw[Ia H ho nX t ht]
 by_cases hw: ∃j,j<n/\c1 l j=some t
 ·
  obtain⟨j,hj,hd⟩:=hw;obtain⟨hjk,O3,_⟩:=ho.reads j t hj hd ht;have uniq: ∀i,i<n->i≠j->c1 l i≠some t:=fun i hi ng he=>by
   obtain⟨oi,sK,nY⟩:=Ay hB i hi;exact nY.one j t hj hd (Ne.symm ng) (by simpa[c1,sK]using he)
  rw[H.full t fun i hi hf _ he=>?_]
  ·
   exact uq v a0 t k n (by omega) fun i h1 h2 _=>uniq i h2 (by omega)
  ·
   by_cases ng:i=j
   ·
    subst ng;have:=O3 hf;rw[ur]at this;cases this
   ·
    exact uniq i hi ng he
 ·
  have h1: ∀j,j<n->c1 l j≠some t:=fun j hj hd=>hw ⟨j,hj,hd⟩;rw[H.full t fun j hj _ _=>h1 j hj,uq v a0 t 0 n (by omega) fun j _ h2 _=>h1 j h2];exact(uq v a0 t 0 k (by omega) fun j _ h2 _=>h1 j (by omega)).symm
theorem Dw{a b:Act}{o:Oper}{ops:Array Oper}(h: ∀t∈o.looksAt ops,a.tmps[t]? =b.tmps[t]?): ∀x∈o.op.operands,a.eval x=b.eval x:=by
 intro x hx
 cases x with
 |tmp t=>
  have:t∈o.looksAt ops:=by
   unfold Oper.looksAt;refine List.mem_append_left _ (List.mem_filterMap.2 ⟨.tmp t,by simpa using hx,rfl⟩)
  simp[Act.eval,h t this]
 |_=>rfl
theorem Ib{a b:Act}{o:Oper}{ops:Array Oper}(h: ∀t∈o.looksAt ops,a.tmps[t]? =b.tmps[t]?):Region.wanted o (yielded ops a.tmps)=Region.wanted o (yielded ops b.tmps):=by
 unfold Region.wanted
 cases hg:o.guard with
 |none=>rfl
 |some p=>
  obtain⟨j,b'⟩:=p;have:yielded ops a.tmps j=yielded ops b.tmps j:=by
   unfold yielded
   cases hd:(ops[j]?).bind (·.dst)with
   |none=>rfl
   |some d=>
    have hm:d∈o.looksAt ops:=by unfold Oper.looksAt;rw[hg];simp[hd]
    simp[h d hm]
  simp[this]
def vX(size n:Nat):Array Bool:=((List.range size).map fun i=>decide (i<n)).toArray
theorem O4{v:Nat->Value}{a0 a af:Act}{rs:List Nat}{listed:Array Bool}{w w':World}(H:sJ P l fs Q w0 L0 n v a0 rs af listed a w){i:Nat}{o:Oper}(hi:i<n)(hU:fs.contains i=false)(uu:l[i]? =some o)(ho:ym l fs n i o)(hB:yk l fs n=true)
  (hr:i∈Region.ready .any l.toArray listed) (eT:Mem w [] w'):sJ P l fs Q w0 L0 n v a0 rs af (listed.setIfInBounds i true) (a.put o.dst (v i)) w':=by
 have fU:=(mem_ready.1 hr).1;have jk:c1 l i=o.dst:=by simp[c1,uu]
 have aW:=Dv fU;have fE: ∀j,j≠i->(listed.setIfInBounds i true).getD j true=listed.getD j true:=fun j ca=>getD_set_ne true (Ne.symm ca);have nh:(listed.setIfInBounds i true).getD i true=true:=by simp[aW]
 obtain⟨L,hL,lM,hF⟩:=H.mem;have uniq: ∀d,c1 l i=some d-> ∀j,j<n->j≠i->c1 l j≠some d:=fun d hd j hj ca he=>by
  obtain⟨oj,O5,jj⟩:=Ay hB j hj;exact jj.one i d hi hd (Ne.symm ca) (by simpa[c1,O5]using he)
 refine⟨H.inv.set hr hi,⟨L,by simpa using hL.call eT,lM,hF⟩,by rw[pT];exact H.size,H.nW,by rw[pU];exact H.defers,H.pW,H.fD,fun j hj hf=>?_,fun j d hj hl hd=>?_,fun d hd=>?_,fun d hd=>?_⟩
 ·
  rw[fE j (fun e=>by subst e;rw[hU]at hf;cases hf)];exact H.todo j hj hf
 ·
  by_cases ca:j=i
  ·
   subst ca;have Az:=hd;rw[jk]at hd;rw[hd,H.full d fun j' jj oO _=>uniq d Az j' jj (fun e=>by subst e;rw[hU]at oO;cases oO)];have e1:(fr l fs v a0 n).tmps[d]? =(fr l fs v a0 (j+1)).tmps[d]? :=uq v a0 d (j+1) n (by omega) fun i' h1 h2 _=>uniq d Az i' h2 (by omega);rw[e1,uo hU uu,hd];exact H6 _ _ _ _ (by rw[H.size,yj])
  ·
   rw[fE j ca]at hl;rw[hQ _ _ _ _ (ho.one j d hj hd ca)];exact H.done j d hj hl hd
 ·
  have h1:o.dst≠some d:=by
   have:=hd i hi nh;rwa [jk]at this
  rw[hQ _ _ _ _ h1];refine H.rest d fun j hj hl=>?_
  by_cases ca:j=i
  ·
   subst ca;rw[jk];exact h1
  ·
   exact hd j hj (by rw[fE j ca];exact hl)
 ·
  refine H.full d fun j hj hf hl=>?_;exact hd j hj hf (by rw[fE j (fun e=>by subst e;rw[hU]at hf;cases hf)];exact hl)
theorem O6{v:Nat->Value}{a0 a af:Act}{i:Nat}{rs:List Nat}{listed:Array Bool}{w w':World}(H:sJ P l fs Q w0 L0 n v a0 (i::rs) af listed a w){o:Oper}(hi:i<n)(hU:fs.contains i=true)(bX:fs.Nodup)(uu:l[i]? =some o)(ho:ym l fs n i o)
  (hr:i∈Region.ready .any l.toArray listed) {u:Value} {L':List ah} (eT:Mem w0 L' w') (lM: ∀w,Mem w0 L' w->Mem w0 L0 w) (hF:qV P l n Q w0 L0 rs (af.put o.dst u) L'):
  sJ P l fs Q w0 L0 n v a0 rs (af.put o.dst u) (listed.setIfInBounds i true) (a.put o.dst u) w':=by
 have fU:=(mem_ready.1 hr).1;have jk:c1 l i=o.dst:=by simp[c1,uu]
 have aW:=Dv fU;have fE: ∀j,j≠i->(listed.setIfInBounds i true).getD j true=listed.getD j true:=fun j ca=>getD_set_ne true (Ne.symm ca);have nh:(listed.setIfInBounds i true).getD i true=true:=by simp[aW]
 obtain⟨ds,uv⟩:=H.fD;have AA:i∉rs:=fun h=>by
  rw[uv]at bX;have:=(List.nodup_append.1 bX).2.1;exact(List.nodup_cons.1 this).1 h
 refine⟨H.inv.set hr hi,⟨L',eT,lM,hF⟩,by rw[pT];exact H.size,by rw[pT];exact H.nW,by rw[pU];exact H.defers,by rw[pU];exact H.pW,⟨ds++[i],by rw[uv];simp⟩,fun j hj hf=>?_,fun j d hj hl hd=>?_,fun d hd=>?_,fun d hd=>?_⟩
 ·
  by_cases ca:j=i
  ·
   subst ca;rw[nh];simp[AA]
  ·
   rw[fE j ca,H.todo j hj hf];simp[ca]
 ·
  by_cases ca:j=i
  ·
   subst ca;rw[jk]at hd;rw[hd];exact H6 _ _ _ _ (by rw[H.size,H.nW])
  ·
   rw[fE j ca]at hl;rw[hQ _ _ _ _ (ho.one j d hj hd ca),hQ _ _ _ _ (ho.one j d hj hd ca)];exact H.done j d hj hl hd
 ·
  have h1:o.dst≠some d:=by
   have:=hd i hi nh;rwa [jk]at this
  rw[hQ _ _ _ _ h1];refine H.rest d fun j hj hl=>?_
  by_cases ca:j=i
  ·
   subst ca;rw[jk];exact h1
  ·
   exact hd j hj (by rw[fE j ca];exact hl)
 ·
  have h1:o.dst≠some d:=by
   have:=hd i hi hU nh;rwa [jk]at this
  rw[hQ _ _ _ _ h1];refine H.full d fun j hj hf hl=>?_
  by_cases ca:j=i
  ·
   subst ca;rw[jk];exact h1
  ·
   exact hd j hj hf (by rw[fE j ca];exact hl)
theorem O7{v:Nat->Value}{a0 a af:Act}{rs:List Nat}{listed:Array Bool}{w:World}(H:sJ P l fs Q w0 L0 n v a0 rs af listed a w)(ku: ∀j,j<n->listed.getD j true=true):a=af:=by
 have:a.tmps=af.tmps:=by
  apply Array.ext_getElem?;intro d
  by_cases hw: ∃j,j<n/\c1 l j=some d
  ·
   obtain⟨j,hj,hd⟩:=hw;exact H.done j d hj (ku j hj) hd
  have h1: ∀j,j<n->c1 l j≠some d:=fun j hj hd=>hw ⟨j,hj,hd⟩;rw[H.rest d fun j hj _=>h1 j hj,H.full d fun j hj _ _=>h1 j hj];exact(uq v a0 d 0 n (by omega) fun j _ h2 _=>h1 j h2).symm
 have h2:a.defers=af.defers:=by rw[H.defers,H.pW]
 cases a;cases af
 simp_all
def left(n:Nat)(listed:Array Bool):Nat:=((List.range n).filter fun i=> !listed.getD i true).length
theorem Ic{listed:Array Bool}{i:Nat}(hi:i<n)(fU:listed.getD i true=false):left n listed=left n (listed.setIfInBounds i true)+1:=by
 have aW:=Dv fU;have key: ∀m,i<m->((List.range m).filter fun j=> !listed.getD j true).length=((List.range m).filter fun j=> !(listed.setIfInBounds i true).getD j true).length+1:=by
  intro m
  induction m with
  |zero=>intro h;omega
  |succ m ih=>
   intro h;rw[List.range_succ,List.filter_append,List.filter_append,List.length_append,List.length_append]
   by_cases e:i=m
   ·
    subst e;have h1:((List.range i).filter fun j=> !listed.getD j true)=((List.range i).filter fun j=> !(listed.setIfInBounds i true).getD j true):=by
     apply List.filter_congr;intro j hj;rw[getD_set_ne true (by have:=List.mem_range.1 hj;omega)]
    rw[h1];simp only[List.filter_cons,fU,Bool.not_false,if_true,List.filter_nil,List.length_cons,List.length_nil];simp[aW]
   have:=ih (by omega);have h2:(listed.setIfInBounds i true).getD m true=listed.getD m true:=getD_set_ne true e;simp only[List.filter_cons,h2,List.filter_nil];omega
 exact key n hi
theorem Dx{v:Nat->Value}{a0:Act}(hB:yk l fs n=true)(hn:n<l.length)(hs:Region.sinkB .any l.toArray n=true)(hc:Region.chainB .any l.toArray n=true)
  (Dy:Region.seqB .any l.toArray (l.length -n) n (vX l.length n)=true) (bX:fs.Nodup) (aW: ∀j∈fs,j<n) (yo:pV l fs=true) (hq: ∀k,k<n->fs.contains k=false->Dt P l fs (Mem w0 L0) v a0 k):
  ∀(m:Nat) (rs:List Nat) (af:Act) (listed:Array Bool) (a:Act) (w:World),left n listed=m->sJ P l fs Q w0 L0 n v a0 rs af listed a w->wpAny P .any l.toArray Q (m+(l.length -n)) listed a w
 |0,rs,af,listed,a,w,hm,H=>by
  have ku: ∀j,j<n->listed.getD j true=true:=fun j hj=>by
   cases h:listed.getD j true with
   |true=>rfl
   |false=>
    have:j∈(List.range n).filter fun i=> !listed.getD i true:=List.mem_filter.2 ⟨List.mem_range.2 hj,by rw[h];rfl⟩;rw[List.length_eq_zero_iff.1 hm]at this
    cases this
  have e1:=O7 H ku;have e2:listed=vX l.length n:=by
   apply Array.ext_getElem?;intro j;have dW:listed.size=l.length:=by simpa using H.inv.size
   by_cases hj:j<l.length
   ·
    have yn:j<listed.size:=by omega
    simp only[vX,List.getElem?_toArray,List.getElem?_map,List.getElem?_range hj,Option.map_some,Array.getElem?_eq_getElem yn]
    by_cases sL:j<n
    ·
     have:=ku j sL;simp[yn]at this;simp[this,sL]
    ·
     have:=H.inv.tail j (by omega) (by simpa using hj);simp[yn]at this;simp[this,sL]
   ·
    simp[vX,show ¬j<l.length from hj];omega
  have e3:rs=[]:=by
   cases rs with
   |nil=>rfl
   |cons r uw=>
    obtain⟨ds,uv⟩:=H.fD;have hr:r∈fs:=by rw[uv];simp
    have:=(H.todo r (aW r hr) (by simpa using hr)).2 (by simp);rw[ku r (aW r hr)]at this;cases this
  subst e1 e2 e3;obtain⟨L,hL,_,hF⟩:=H.mem;have:=wpAny_of_seq (P:=P) (md:= .any) (Q':=Q) (l.drop n) n (vX l.length n) a w (fun j=>by simp[List.getElem?_drop]) (by rw[List.length_drop];exact Dy) (hF w hL);rw[List.length_drop]at this;rw[Nat.zero_add];exact this
 |m+1,rs,af,listed,a,w,hm,H=>by
  rw[show m+1+(l.length -n)=(m+(l.length -n))+1 by omega];obtain⟨i0,yp,AB,yq⟩: ∃i,i<n/\listed.getD i true=false/\ ∀j,j<i->listed.getD j true=true:=by
   have ct: ∃i,i<n/\listed.getD i true=false:=by
    cases hf:(List.range n).filter fun i=> !listed.getD i true with
    |nil=>rw[left,hf]at hm;cases hm
    |cons i r=>
     have:i∈(List.range n).filter fun i=> !listed.getD i true:=by rw[hf];simp
     obtain⟨h1,h2⟩:=List.mem_filter.1 this;exact⟨i,List.mem_range.1 h1,by simpa using h2⟩
   obtain⟨i,h1,h2⟩:=ct
   induction i using Nat.strongRecOn with
   |_ i ih=>
    by_cases h: ∃j,j<i/\listed.getD j true=false
    ·
     obtain⟨j,hj,dz⟩:=h;exact ih j hj (by omega) dz
    ·
     refine⟨i,h1,h2,fun j hj=>?_⟩
     cases hh:listed.getD j true with
     |true=>rfl
     |false=>exact absurd ⟨j,hj,hh⟩ h
  have dW:listed.size=l.length:=by simpa using H.inv.size
  have yr:i0∈Region.ready .any l.toArray listed:=by
   obtain⟨o,ho,bZ⟩:=Ay hB i0 yp;refine mem_ready.2 ⟨AB,o,by simpa using ho,fun e he hb=>?_⟩;have h1:=bZ.back e he hb;have h2:=yq e.on h1;have h3:e.on<listed.size:=by omega
   simp[h3]at h2⊢;exact h2
  refine⟨fun h=>(by rw[h]at yr;cases yr),fun i hi=>?_⟩;have iQ:i<n:=by
   rcases Nat.lt_or_ge i n with h|h
   ·
    exact h
   ·
    exact absurd hi (tail_waits hs hc (by simpa using hn) H.inv _ i0 rfl yp AB i h)
  obtain⟨o,ho,bZ⟩:=Ay hB i iQ;obtain⟨fU,o',mB,nX⟩:=mem_ready.1 hi;have:o'=o:=by simpa[ho]using mB.symm
  subst this;have pX:left n (listed.setIfInBounds i true)=m:=by have:=Ic iQ fU;omega
  obtain⟨L,hL,lM,hF⟩:=H.mem
  cases hU:fs.contains i with
  |false=>
   have AD:=O2 H iQ hU bZ hB nX;have ew:=Ib (ops:=l.toArray) AD;have ee:execOp a.eval o'=execOp (fr l fs v a0 i).eval o':=execOp_congr o' bZ.sI (Dw AD);obtain⟨Dz,AE⟩:=hq i iQ hU o' ho;have next: ∀w',Mem w [] w'->wpAny P .any l.toArray Q (m+(l.length -n)) (listed.setIfInBounds i true) (a.put o'.dst (v i)) w':=fun w' eT=>
    Dx hB hn hs hc Dy bX aW yo hq m rs af _ _ w' pX (O4 H iQ hU ho bZ hB hi eT)
   unfold wpOp;simp only[mB];rw[ew];split
   ·
    rename_i nZ;have h1:=Dz nZ w (lM w hL);refine .inl ?_;unfold Oper.wp;rw[ee];unfold Oper.quietAt at h1;generalize(execOp (fr l fs v a0 i).eval o').run P w=r at h1;unfold Oper.quietUpon at h1;split at h1
    ·
     obtain⟨rfl,rfl⟩:=h1;exact next _ (Mem.init _)
    ·
     obtain⟨rfl,e⟩:=h1;rw[e]at next;exact next _ (Mem.init _)
    ·
     obtain⟨rfl,qW⟩:=h1;exact qW.mono fun e nf ⟨he,hm⟩=>by subst he;exact next _ hm
    ·
     exact h1.elim
   ·
    rename_i nZ;have:=AE (by simpa using nZ);rw[this]at next;exact next w (Mem.init _)
  |true=>
   have AA:i∈rs:=(H.todo i iQ hU).1 fU
   cases rs with
   |nil=>cases AA
   |cons r uw=>
    have yt:i=r:=by
     rcases List.mem_cons.1 AA with h|h
     ·
      exact h
     ·
      exfalso;obtain⟨ds,uv⟩:=H.fD;have O8:pV l (r::uw)=true:=by
       rw[uv]at yo;have key: ∀ds:List Nat,pV l (ds++r::uw)=true->pV l (r::uw)=true:=by
        intro ds
        induction ds with
        |nil=>exact id
        |cons d ds ih=>
         intro hh
         cases ds with
         |nil=>simp only[List.cons_append,List.nil_append,pV,Bool.and_eq_true]at hh;exact hh.2
         |cons d' ds'=>simp only[List.cons_append,pV,Bool.and_eq_true]at hh;exact ih hh.2
       exact key ds yo
      obtain⟨p,hp,op,aY,e,he,hb,jI⟩:=H9 uw r O8 i h;have:op=o':=by rw[ho]at aY;exact(Option.some.inj aY).symm
      subst this;have hl:=nX e he hb;rw[jI]at hl;have Ie:p∈fs:=by rw[uv];exact List.mem_append_right _ hp
      have h1:=(H.todo p (aW p Ie) (by simpa using Ie)).2 hp;rw[getD_both h1]at hl
      cases hl
    subst yt;obtain⟨of,n0,hg,eU⟩:=hF;have:of=o':=by rw[ho]at n0;exact(Option.some.inj n0).symm
    subst this;have AD:=Ia H bZ nX;have ee:execOp a.eval of=execOp af.eval of:=execOp_congr of bZ.sI (Dw AD);have h1:=eU w hL;have next: ∀u w' E,(Mem w0 E w'/\(∀w,Mem w0 E w->Mem w0 L0 w)/\qV P l n Q w0 L0 uw (af.put of.dst u) E)->wpAny P .any l.toArray Q (m+(l.length -n)) (listed.setIfInBounds i true) (a.put of.dst u) w':=fun u w' E ⟨eT,AF,O9⟩=>
     Dx hB hn hs hc Dy bX aW yo hq m uw (af.put of.dst u) _ _ w' pX (O6 H iQ hU bX ho bZ hi eT AF O9)
    unfold wpOp;simp only[mB];rw[if_pos (by simp[Region.wanted,hg])];refine .inl ?_;unfold Oper.wp;rw[ee];generalize(execOp af.eval of).run P w=r at h1;unfold H8 at h1;split at h1
    ·
     obtain⟨E,hR⟩:=h1;exact next _ _ E hR
    ·
     obtain⟨rfl,qW⟩:=h1;exact qW.mono fun e nf ⟨u,E,he,hR⟩=>by subst he;exact next u _ E hR
    ·
     exact h1.elim
def AG(l:List Oper)(fs:List Nat)(n:Nat):Bool:=
 yk l fs n&&decide (n<l.length)&&Region.sinkB .any l.toArray n&&Region.chainB .any l.toArray n&&Region.seqB .any l.toArray (l.length -n) n (vX l.length n)&&
  decide fs.Nodup&&(fs.all fun j=>decide (j<n))&&pV l fs
theorem Pa{id:Nat}{ro:Option Nat}[iP Q]{a:Act}{w:World}(n:Nat)(bX:mZ l=true)(hm:P.follows .mixedOrders=true)(hB:AG l fs n=true){L:List ah}(hC:Mem w0 L {w with drawn:=w.drawn+1})(lM: ∀w,Mem w0 L w->Mem w0 L0 w)
  (h:kQ P l.toArray fs (Mem w0 L0) (fun a'=>qV P l n Q w0 L0 fs a' L) 0 (l.take n) a):(Code.region id l.toArray true).wpIn (ka ro) 0 P Q a w:=by
 simp only[AG,Bool.and_eq_true,decide_eq_true_eq]at hB;obtain⟨⟨⟨⟨⟨⟨⟨h1,h2⟩,h3⟩,h4⟩,h5⟩,h6⟩,h7⟩,h8⟩:=hB;have Pb: ∀j∈fs,j<n:=fun j hj=>by have:=List.all_eq_true.1 h7 j hj;simpa using this
 obtain⟨v,_,g2,g3⟩:=Du (P:=P) (C:=Mem w0 L0) (l:=l) (fs:=fs) n 0 a (fun _=>undef) (by omega) (by simpa[fr]using h);refine Ds bX hm ?_;have DA:HeadInv .any l.toArray n (Array.replicate l.toArray.size false):=
  ⟨by simp,fun j oj _ hl=>(by rw[getD_replicate_false]at hl;cases hl),fun t _ ht=>getD_in (by simpa using ht) (getD_replicate_false _ _)⟩
 have pX:left n (Array.replicate l.toArray.size false)=n:=by
  unfold left;rw[List.filter_eq_self.2 (fun j hj=>?_),List.length_range];have jj:=List.mem_range.1 hj;simp[show j<l.length by omega]
 rw[Nat.zero_add]at g3;have:=Dx (P:=P) (Q:=Q) (w0:=w0) (L0:=L0) (v:=v) (a0:=a) h1 h2 h3 h4 h5 h6 Pb h8 (fun k hk hf=>g2 k (by omega) (by omega) hf) n fs (fr l fs v a n) (Array.replicate l.toArray.size false) a _ pX
  ⟨DA,⟨L,hC,lM,g3⟩,rfl,yj v a n,rfl,Ax v a n,⟨[],rfl⟩,fun j hj hf=>?_,fun j d hj hl=>?_,fun _ _=>rfl,fun _ _=>rfl⟩
 ·
  rw[show n+(l.length -n)=l.toArray.size by simp;omega]at this;exact this
 ·
  have:j∈fs:=by simpa using hf
  simp[show j<l.length by omega,this]
 ·
  simp[show j<l.length by omega]at hl
end
abbrev Env:=List (Nat×Value)
theorem DB{a b:Nat}(h: ¬a=b):Nat.beq a b=false:=by
 cases hb:Nat.beq a b with
 |false=>rfl
 |true=>exact absurd (Nat.eq_of_beq_eq_true hb) h
def look:Env->Nat->Option Value
 |[],_=>none
 |(k,v)::r,d=>match Nat.beq k d with
  |true=>some v
  |false=>look r d
structure bW where
 n:Nat
 ds:List Nat
 ro:Option Nat
structure cE(N:bW)(env:Env)(a:Act):Prop where
 size:a.tmps.size=N.n
 get: ∀d v,look env d=some v->a.tmps[d]? =some v
 defers:a.defers=N.ds.map mark
def ev(env:Env):Operand->Option Value
 | .tmp t=>look env t
 | .const v=>some v
 | .global g=>some (.pointer (some ⟨g,0,none⟩))
 | .func f=>some (.func (.func f) #[] #[])
theorem cE.ev{N:bW}{env:Env}{a:Act}(h:cE N env a){x:Operand}{v:Value}(e:ev env x=some v):a.eval x=v:=by
 match x,e with
 | .tmp t,e=>
  have:=h.get t v e;simp[Act.eval,this]
 | .const u,e=>simpa[aA.ev,Act.eval]using e
 | .global g,e=>simpa[aA.ev,Act.eval]using e
 | .func f,e=>simpa[aA.ev,Act.eval]using e
def fV(env:Env):List Operand->Option (List Value)
 |[]=>some []
 |x::r=>match ev env x,fV env r with
  |some v,some vs=>some (v::vs)
  |_,_=>none
theorem cE.fV{N:bW}{env:Env}{a:Act}(h:cE N env a): ∀{xs:List Operand} {vs:List Value},fV env xs=some vs->xs.map a.eval=vs
 |[],vs,e=>by simp[aA.fV]at e;simp[e]
 |x::r,vs,e=>by
  unfold aA.fV at e;split at e
  ·
   rename_i v Pc hv vY;simp only[Option.some.injEq]at e;subst e;simp[h.ev hv,h.fV vY]
  simp at e
theorem fF{env:Env}:fV env []=some []:=rfl
theorem di{env:Env}{x:Operand}{r:List Operand}{v:Value}{vs:List Value}(h:ev env x=some v)(h':fV env r=some vs):fV env (x::r)=some (v::vs):=by
 simp[fV,h,h']
def cd(env:Env):Option Tmp->Value->Env
 |some d,v=>(d,v)::env
 |none,_=>env
def cO(N:bW):Option Tmp->Bool
 |some d=>Nat.ble (d+1) N.n
 |none=>true
theorem cE.put{N:bW}{env:Env}{a:Act}(h:cE N env a){dst:Option Tmp}(hd:cO N dst=true)(v:Value):cE N (cd env dst v) (a.put dst v):=by
 cases dst with
 |none=>exact h
 |some d=>
  have aW:d<N.n:=Nat.le_of_ble_eq_true hd;refine⟨by simp[Act.put,h.size],fun d' v' hv=>?_,h.defers⟩;simp only[cd,look]at hv;simp only[Act.put,Array.getElem?_setIfInBounds]
  by_cases he:d=d'
  ·
   subst he;simp at hv;simp[hv,h.size,aW]
  have:Nat.beq d d'=false:=DB he;rw[this]at hv;rw[if_neg he];exact h.get d' v' hv
def Sub(AH env:Env):Prop:= ∀d v,look AH d=some v->look env d=some v
theorem Sub.nil(env:Env):Sub [] env:=fun _ _ h=>by simp[look]at h
theorem Sub.cons{r env:Env}{d:Nat}{v:Value}(hv:look env d=some v)(h:Sub r env):Sub ((d,v)::r) env:=fun d' v' h'=>by
 simp only[look]at h'
 by_cases he:d=d'
 ·
  subst he;simp at h';rw[←h'];exact hv
 have:Nat.beq d d'=false:=DB he;rw[this]at h';exact h d' v' h'
theorem cE.sub{N:bW}{env AH:Env}{a:Act}(h:cE N env a)(s:Sub AH env):cE N AH a:=⟨h.size,fun d v e=>h.get d v (s d v e),h.defers⟩
theorem cE.enter(args:List Value)(N:Nat)(h:args.length<=N):cE ⟨N,[],none⟩ (args.zipIdx.map fun p=>(p.2,p.1)) {tmps:=args.toArray++Array.replicate (N -args.toArray.size) undef,defers:=[]}:=by
 refine⟨by simp;omega,fun d v e=>?_,rfl⟩;have key: ∀(l:List Value) (k:Nat),look ((l.zipIdx k).map fun p=>(p.2,p.1)) d=some v->k<=d/\l[d -k]? =some v:=by
  intro l
  induction l with
  |nil=>intro k h;simp[look]at h
  |cons x r ih=>
   intro k h;simp only[List.zipIdx_cons,List.map_cons,look]at h
   by_cases he:k=d
   ·
    subst he;simp at h;simp[h]
   have:Nat.beq k d=false:=DB he;rw[this]at h;obtain⟨h1,h2⟩:=ih (k+1) h;refine⟨by omega,?_⟩;rw[show d -k=(d -(k+1))+1 by omega,List.getElem?_cons_succ];exact h2
 have hh:=(key args 0 e).2;rw[Nat.sub_zero]at hh;have aW:d<args.length:=by
  rcases Nat.lt_or_ge d args.length with h'|h'
  ·
   exact h'
  simp[List.getElem?_eq_none h']at hh
 rw[Array.getElem?_append_left (by simpa using aW)];simpa using hh
section
variable {P:Program} {N:bW} {w0:World} {env:Env} {L:List ah} {d:Option Tmp} {ty:TypeId} {ps:String} {af:Array Edge} {gd:Option (Nat×Bool)}
def Ry(P:Program)(N:bW)(w0:World)(env:Env)(L:List ah)(o:Oper)(v:Value):Prop:=
 ∀a w,cE N env a->Mem w0 L w->(execOp a.eval o).run P w= .ok (.value v) w
def Yl(P:Program)(N:bW)(w0:World)(env:Env)(L:List ah)(o:Oper)(v:Value):Prop:=
 ∀a,cE N env a->qU P o a (Mem w0 L) v
theorem Ry.yl{o:Oper}{v:Value}(h:Ry P N w0 env L o v):Yl P N w0 env L o v:=fun a ha w hw=>by
 unfold Oper.quietAt;rw[h a w ha hw];exact⟨rfl,rfl⟩
theorem aZ{x:Operand}{v:Value}(hx:ev env x=some v):Ry P N w0 env L ⟨d, .move x,ty,ps,af,gd⟩ v:=fun a w ha _=>by
 simp only[execOp,ha.ev hx,Sem.run_pure]
theorem fL{x:Operand}{v:Value}(hx:ev env x=some v):Ry P N w0 env L ⟨d, .assign x,ty,ps,af,gd⟩ v:=fun a w ha _=>by
 simp only[execOp,ha.ev hx,Sem.run_pure]
theorem DC{c x y:Operand}{g:Bool}{vx vy:Value}(hc:ev env c=some (.bool g))(hx:ev env x=some vx)(hy:ev env y=some vy):
  Ry P N w0 env L ⟨d, .pick c x y,ty,ps,af,gd⟩ (if g=true then vx else vy):=fun a w ha _=>by
 simp only[execOp,ha.ev hx,ha.ev hc,ha.ev hy,Sem.run_bind,Sem.run_pure,asBool,Result.andThen]
theorem ux{c x y:Operand}{g b:Bool}(hc:ev env c=some (.bool g))(hx:ev env x=some (if g=true then .bool b else undef))(hy:ev env y=some (.bool false)):
  Ry P N w0 env L ⟨d, .pick c x y,ty,ps,af,gd⟩ (.bool (g&&b)):=by
 have h:=DC (P:=P) (N:=N) (w0:=w0) (L:=L) (d:=d) (ty:=ty) (ps:=ps) (af:=af) (gd:=gd) hc hx hy
 cases g<;>simpa using h
theorem uy{c x y:Operand}{g b:Bool}(hc:ev env c=some (.bool g))(hx:ev env x=some (.bool true))(hy:ev env y=some (if(!g)=true then .bool b else undef)):
  Ry P N w0 env L ⟨d, .pick c x y,ty,ps,af,gd⟩ (.bool (g||b)):=by
 have h:=DC (P:=P) (N:=N) (w0:=w0) (L:=L) (d:=d) (ty:=ty) (ps:=ps) (af:=af) (gd:=gd) hc hx hy
 cases g<;>simpa using h
theorem jJ{x:Operand}{g:Bool}{t:TypeId}(hx:ev env x=some (.bool g)):Ry P N w0 env L ⟨d, .unOp .not t x,ty,ps,af,gd⟩ (.bool (!g)):=fun a w ha _=>by
 simp only[execOp,ha.ev hx,Op.unary,Sem.run_bind,Sem.run_pure,Result.andThen]
theorem aL{x:Operand}{vs:Array Value}{i:Nat}{v:Value}(hx:ev env x=some (.tuple vs))(hv:vs[i]? =some v):Ry P N w0 env L ⟨d, .extract x i,ty,ps,af,gd⟩ v:=fun a w ha _=>by
 simp only[execOp,ha.ev hx,Instr.extract,hv,Sem.run_bind,Sem.run_pure,Result.andThen]
def jK(op:BinOp)(k:IntKind)(a b:Int):Option Value:=
 match op with
 | .add=>some (.int k (k.wrap (a+b)))
 | .sub=>some (.int k (k.wrap (a -b)))
 | .mul=>some (.int k (k.wrap (a*b)))
 | .quo=>if b=0 then none else some (.int k (k.wrap (a.tdiv b)))
 | .rem=>if b=0 then none else some (.int k (a.tmod b))
 | .and=>some (.int k (k.wrap (BitVec.ofInt k.bits a&&&BitVec.ofInt k.bits b).toNat))
 | .or=>some (.int k (k.wrap (BitVec.ofInt k.bits a|||BitVec.ofInt k.bits b).toNat))
 | .xor=>some (.int k (k.wrap (BitVec.ofInt k.bits a^^^BitVec.ofInt k.bits b).toNat))
 | .andNot=>some (.int k (k.wrap (BitVec.ofInt k.bits a&&& ~~~BitVec.ofInt k.bits b).toNat))
 | .eql=>some (.bool (decide (a=b)))
 | .neq=>some (.bool (!decide (a=b)))
 | .lss=>some (.bool (decide (a<b)))
 | .leq=>some (.bool (decide (a<=b)))
 | .gtr=>some (.bool (decide (b<a)))
 | .geq=>some (.bool (decide (b<=a)))
 |_=>none
theorem DD(op:BinOp)(t:TypeId)(x y:Operand)(k k':IntKind)(a b:Int)(w:World):(eqGuard op t x y (.int k a) (.int k' b)).run P w= .ok () w:=by
 cases op<;>rfl
theorem Pd{op:BinOp}{k:IntKind}{a b:Int}{v:Value}(t:TypeId)(h:jK op k a b=some v)(w:World):(binOp op t (.int k a) (.int k b)).run P w= .ok v w:=by
 cases op<;>simp only[jK,Option.some.injEq,reduceCtorEq]at h<;>(try split at h)<;>(try simp only[Option.some.injEq,reduceCtorEq]at h)<;>(try subst h)<;>
  simp_all[binOp,Op.intArith,Op.intDiv,Op.intBits,Op.intCmp]<;>rfl
theorem c2{op:BinOp}{k:IntKind}{x y:Operand}{a b:Int}{v:Value}{t u:TypeId}(hx:ev env x=some (.int k a))(hy:ev env y=some (.int k b))(h:jK op k a b=some v):
  Ry P N w0 env L ⟨d, .binOp op t x y u,ty,ps,af,gd⟩ v:=fun a w ha _=>by
 simp only[execOp,ha.ev hx,ha.ev hy,Sem.run_bind,DD,Pd t h,Sem.run_pure,Result.andThen]
end
def sM:TypeDesc->Bool
 | .struct _| .array _ _=>true
 |_=>false
class dG(P:Program)(t:TypeId)(n:outParam Nat):Prop where
 row: ∃d,P.underlying t=some d/\sM d=true
 size:(P.info? t).map (·.size)=some n
class ez(P:Program)(t:TypeId):Prop where
 one: ∃d,P.underlying t=some d/\sM d=false
 size:(P.info? t).map (·.size)=some 1
class cF(P:Program)(s:TypeId)(i:Nat)(off:outParam Nat):Prop where
 Pe: ∃fs f m,P.underlying s=some (.struct fs)/\fs[i]? =some f/\f.offset=off/\(P.info? f.type).map (·.size)=some (m+1)
class qX(P:Program)(t:TypeId)(n m:outParam Nat):Prop where
 arr: ∃e,P.underlying t=some (.array n e)/\(P.info? e).map (·.size)=some m
class dA(P:Program)(t:TypeId)(e:outParam TypeId)(m:outParam Nat):Prop where
 dB:P.underlying t=some (.slice e)
 size:(P.info? e).map (·.size)=some m
class kR(P:Program)(t:TypeId)(k:outParam IntKind):Prop where
 dB:P.underlying t=some (.int k)
class dj(P:Program)(t:TypeId)(v:outParam Value):Prop where
 zero:(P.info? t).map (·.zero)=some (some v)
class aC(P:Program)(f:FuncId):Prop where
 fn: ∃fn,P.funcs[f]? =some fn∧fn.body.isNone=false∧(fn.name== "runtime.NumGoroutine")=false
class Has(L:List ah)(b:Nat)(cs:outParam (Array Value))(T:outParam TypeId)(i:outParam Nat):Prop where
 h:L[i]? =some (an b cs T)
instance (priority:=high) Has.here {L:List ah}{b:Nat}{cs:Array Value}{T:TypeId}:Has (an b cs T::L) b cs T 0:=⟨rfl⟩
instance Has.there{L:List ah}{e:ah}{b:Nat}{cs:Array Value}{T:TypeId}{i:Nat}[q:Has L b cs T i]:Has (e::L) b cs T (i+1):=⟨by simpa using q.h⟩
class dX(L:List ah)(i:Nat)(e:ah)(L':outParam (List ah)):Prop where
 h:L.set i e=L'
instance dX.here{L:List ah}{x e:ah}:dX (x::L) 0 e (e::L):=⟨rfl⟩
instance dX.there{L L':List ah}{x e:ah}{i:Nat}[q:dX L i e L']:dX (x::L) (i+1) e (x::L'):=⟨by simp[q.h]⟩
class bL(cs:Array Value)(o:Nat)(v:outParam Value):Prop where
 h:cs[o]? =some v
class kS(cs:Array Value)(o n:Nat)(sub:outParam (Array Value)):Prop where
 size:sub.size=n
 h: ∀j,j<n->cs[o+j]? =sub[j]?
class eA(cs:Array Value)(n:outParam Nat):Prop where
 h:cs.size=n
 one:cs.all (·.oneCell')=true
class mC(P:Program)(f:FuncId)(vs:List Value)(v:outParam Value):Prop where
 h: ∀w,Calls P f vs.toArray w fun e w'=>e= .returned v/\Mem w [] w'
class vZ(P:Program)(t:TypeId)(x y:Value)(r:outParam Bool):Prop where
 h: ∀w,(Op.equalIn 10000 t x y).run P w= .ok r w
 plain:P.eqGuardType P.depth t=false
 agg: ∃xs ys,x= .agg xs/\y= .agg ys
section
variable {P:Program} (w:World)
theorem Ig{t:TypeId}{i:TypeInfo}(h:P.info? t=some i):(typeInfo t).run P w= .ok i w:=by
 simp[typeInfo,h]
theorem jL{t:TypeId}{n:Nat}(h:(P.info? t).map (·.size)=some n):(sizeOf t).run P w= .ok n w:=by
 cases hi:P.info? t with
 |none=>simp[hi]at h
 |some i=>simp[hi]at h;simp[sizeOf,Ig w hi,h]
theorem AI{t:TypeId}{v:Value}(h:dj P t v):(zeroValue t).run P w= .ok v w:=by
 have h:=h.zero
 cases hi:P.info? t with
 |none=>simp[hi]at h
 |some i=>simp[hi]at h;simp[zeroValue,Ig w hi,h]
theorem AJ{t:TypeId}{d:TypeDesc}(h:P.underlying t=some d):(isAgg t).run P w= .ok (sM d) w:=by
 cases d<;>simp[isAgg,run_underlying h,sM]
theorem Pf{t:TypeId}(h:ez P t){a:Addr}{v:Value}(hc:w.cell? a=some v):(loadVar t a).run P w= .ok v w:=by
 obtain⟨d,hu,hd⟩:=h.one;simp[loadVar,AJ w hu,hd,hc]
theorem DE{t:TypeId}{n:Nat}(h:dG P t n){a:Addr}{cs:Array Value}(hn:cs.size=n)(hc: ∀j,j<n->w.cell? (a.add j)=cs[j]?):(loadVar t a).run P w= .ok (.agg cs) w:=by
 obtain⟨d,hu,hd⟩:=h.row;have hl:(loadCells a n).run P w= .ok cs w:=by
  have:=run_loadCells_list (P:=P) w a cs.toList (fun j v hv=>by
   have hj:j<n:=by
    have:=(List.getElem?_eq_some_iff.1 hv).1;simpa[hn]using this
   rw[hc j hj];simpa using hv)
  simpa[hn]using this
 simp[loadVar,AJ w hu,hd,jL w h.size,hl]
end
section
variable {P:Program} {N:bW} {w0:World} {env:Env} {L:List ah} {d:Option Tmp} {ty:TypeId} {ps:String} {af:Array Edge} {gd:Option (Nat×Bool)}
theorem Addr.fm(b o j:Nat):(⟨b,o,none⟩:Addr).add j=⟨b,o+j,none⟩:=by
 unfold Addr.add;split<;>simp_all
theorem v7{t:TypeId}{x:Operand}{p:Addr}{v:Value}(ht:ez P t)(hx:ev env x=some (.pointer (some p)))(hc: ∀w,Mem w0 L w->w.cell? p=some v):
  Ry P N w0 env L ⟨d, .load t x,ty,ps,af,gd⟩ v:=fun a w ha hw=>by
 simp only[execOp,ha.ev hx,Instr.loadAt,Instr.sureAddr,Sem.run_bind,Sem.run_pure,Result.andThen,Pf w ht (hc w hw)]
theorem yu{t:TypeId}{x:Operand}{p:Addr}{n:Nat}{cs:Array Value}(ht:dG P t n)(hx:ev env x=some (.pointer (some p)))(hn:cs.size=n)(hc: ∀w,Mem w0 L w-> ∀j,j<n->w.cell? (p.add j)=cs[j]?):
  Ry P N w0 env L ⟨d, .load t x,ty,ps,af,gd⟩ (.agg cs):=fun a w ha hw=>by
 simp only[execOp,ha.ev hx,Instr.loadAt,Instr.sureAddr,Sem.run_bind,Sem.run_pure,Result.andThen,DE w ht hn (hc w hw)]
theorem v8{t:TypeId}{x:Operand}{i b o:Nat}{cs:Array Value}{T:TypeId}{v:Value}(hx:ev env x=some (.pointer (some ⟨b,o,none⟩)))[ht:ez P t][hi:Has L b cs T i](hc:cs[o]? =some v):
  Ry P N w0 env L ⟨d, .load t x,ty,ps,af,gd⟩ v:=v7 ht hx fun w hw=>by rw[hw.cell hi.h];exact hc
theorem bN{t:TypeId}{x:Operand}{i b o:Nat}{cs:Array Value}{T:TypeId}{v:Value}(hx:ev env x=some (.pointer (some ⟨b,o,none⟩)))[ht:ez P t][hi:Has L b cs T i][hc:bL cs o v]:
  Ry P N w0 env L ⟨d, .load t x,ty,ps,af,gd⟩ v:=v8 hx hc.h
theorem iv{t:TypeId}{x:Operand}{i b n:Nat}{cs:Array Value}{T:TypeId}(hx:ev env x=some (.pointer (some ⟨b,0,none⟩)))[ht:dG P t n][hi:Has L b cs T i][hn:eA cs n]:
  Ry P N w0 env L ⟨d, .load t x,ty,ps,af,gd⟩ (.agg cs):=yu ht hx hn.h fun w hw j _=>by rw[Addr.fm,hw.cell hi.h,Nat.zero_add]
theorem gD{t:TypeId}{x:Operand}{i b o n:Nat}{cs sub:Array Value}{T:TypeId}(hx:ev env x=some (.pointer (some ⟨b,o,none⟩)))[ht:dG P t n][hi:Has L b cs T i][hs:kS cs o n sub]:
  Ry P N w0 env L ⟨d, .load t x,ty,ps,af,gd⟩ (.agg sub):=yu ht hx hs.size fun w hw j hj=>by rw[Addr.fm,hw.cell hi.h];exact hs.h j hj
theorem aN{s:TypeId}{x:Operand}{fi off b o o':Nat}[hf:cF P s fi off](hx:ev env x=some (.pointer (some ⟨b,o,none⟩)))(ho:Nat.add o off=o'):
  Ry P N w0 env L ⟨d, .fieldAddr s x fi,ty,ps,af,gd⟩ (.pointer (some ⟨b,o',none⟩)):=fun a w ha _=>by
 obtain⟨fs,f,m,hu,hU,n0,dW⟩:=hf.Pe;subst ho n0;simp only[execOp,ha.ev hx,Instr.fieldAt,Sem.run_bind,run_underlying hu,Result.andThen,hU,Instr.sureAddr,Sem.run_pure,fieldPlace,jL w dW,Nat.succ_ne_zero,if_false,Addr.fm,Nat.add_eq]
theorem sN{t:TypeId}{x ix:Operand}{n m b o:Nat}{k:IntKind}{j:Int}[ht:qX P t n m](hx:ev env x=some (.pointer (some ⟨b,o,none⟩)))(hj:ev env ix=some (.int k j))(h0:0<=j)(h1:j<n):
  Ry P N w0 env L ⟨d, .indexAddr t x ix,ty,ps,af,gd⟩ (.pointer (some ⟨b,o+j.toNat*m,none⟩)):=fun a w ha _=>by
 obtain⟨e,hu,dW⟩:=ht.arr;simp only[execOp,ha.ev hx,ha.ev hj,Instr.indexAt,asIntOf,Sem.run_bind,run_underlying hu,Result.andThen,Instr.sureAddr,Sem.run_pure,jL w dW,h0,h1,and_self,if_true,Addr.fm]
theorem ni{t:TypeId}{x ix:Operand}{n b:Nat}{k:IntKind}{j:Int}[ht:qX P t n 1](hx:ev env x=some (.pointer (some ⟨b,0,none⟩)))(hj:ev env ix=some (.int k j))(h0:0<=j)(h1:j<n):
  Ry P N w0 env L ⟨d, .indexAddr t x ix,ty,ps,af,gd⟩ (.pointer (some ⟨b,j.toNat,none⟩)):=by
 have:=sN (P:=P) (t:=t) (N:=N) (w0:=w0) (L:=L) (d:=d) (ty:=ty) (ps:=ps) (af:=af) (gd:=gd) hx hj h0 h1;simpa using this
theorem Ih{t e:TypeId}{x ix:Operand}{m b o len cap:Nat}{k:IntKind}{j:Int}[ht:dA P t e m](hx:ev env x=some (.slice (some ⟨b,o,none⟩) len cap))(hj:ev env ix=some (.int k j))(h0:0<=j)(h1:j<len):
  Ry P N w0 env L ⟨d, .indexAddr t x ix,ty,ps,af,gd⟩ (.pointer (some ⟨b,o+j.toNat*m,none⟩)):=fun a w ha _=>by
 simp only[execOp,ha.ev hx,ha.ev hj,Instr.indexAt,asIntOf,Sem.run_bind,run_underlying ht.dB,Result.andThen,Sem.run_pure,jL w ht.size,h0,h1,and_self,if_true,Addr.fm]
theorem qY{s t:TypeId}{x:Operand}{k k':IntKind}{n m:Int}[hs:kR P s k'][ht:kR P t k](hx:ev env x=some (.int k' n))(hm:k.wrap n=m):
  Ry P N w0 env L ⟨d, .convert s t x,ty,ps,af,gd⟩ (.int k m):=fun a w ha _=>by
 subst hm;simp only[execOp,ha.ev hx,convert,Sem.run_bind,run_underlying hs.dB,run_underlying ht.dB,Result.andThen,Conv.intToInt,Sem.run_pure]
theorem uz{t e:TypeId}{x:Operand}{m len cap:Nat}{p:Option Addr}[ht:dA P t e m](hx:ev env x=some (.slice p len cap)):
  Ry P N w0 env L ⟨d, .call {callee:= .builtin .len,args:= #[x],argTypes:= #[t]},ty,ps,af,gd⟩ (.int .i64 len):=fun a w ha _=>by
 simp[execOp,ha.ev hx,resolve,invoke,builtin,Builtin.len_,run_underlying ht.dB,goInt,Result.andThen]
theorem AK{f:FuncId}(hf:aC P f){ρ:Operand->Value}{xs:List Operand}{ts:Array TypeId}(w:World)(Pg:ρ (.func f)= .func (.func f) #[] #[]):
  (execOp ρ ⟨d, .call {callee:= .value (.func f),args:=xs.toArray,argTypes:=ts},ty,ps,af,gd⟩).run P w= .ok (.enter f (xs.map ρ).toArray) w:=by
 obtain⟨fn,h1,h2,h3⟩:=hf.fn;have DF: ¬fn.body=none:=fun e=>by simp[e]at h2
 have wa: ¬fn.name= "runtime.NumGoroutine" :=by simpa using h3
 simp[execOp,resolve,Pg,Deferred.ofValue,invoke,callFunc,h1,DF,wa,Result.andThen]
theorem AL{f:FuncId}{xs:List Operand}{ts:Array TypeId}{vs:List Value}{v:Value}[hf:aC P f](hx:fV env xs=some vs)
  (hc: ∀w,Mem w0 L w->Calls P f vs.toArray w fun e w'=>e= .returned v/\Mem w [] w'):
  Yl P N w0 env L ⟨d, .call {callee:= .value (.func f),args:=xs.toArray,argTypes:=ts},ty,ps,af,gd⟩ v:=fun a ha w hw=>by
 unfold Oper.quietAt;rw[AK hf w rfl,ha.fV hx];exact⟨rfl,hc w hw⟩
theorem wb{f:FuncId}{xs:List Operand}{ts:Array TypeId}{vs:List Value}{v:Value}[hf:aC P f](hx:fV env xs=some vs)[hc:mC P f vs v]:
  Yl P N w0 env L ⟨d, .call {callee:= .value (.func f),args:=xs.toArray,argTypes:=ts},ty,ps,af,gd⟩ v:=AL hx fun w _=>hc.h w
theorem Ii{op:BinOp}{t:TypeId}(hm:P.eqGuardType P.depth t=false)(x y:Operand)(xs ys:Array Value)(w:World):(eqGuard op t x y (.agg xs) (.agg ys)).run P w= .ok () w:=run_eqGuard_agg w op t x y xs ys hm
theorem DG{x y:Operand}{t u:TypeId}{vx vy:Value}{r:Bool}(hx:ev env x=some vx)(hy:ev env y=some vy)[h:vZ P t vx vy r]:
  Ry P N w0 env L ⟨d, .binOp .eql t x y u,ty,ps,af,gd⟩ (.bool r):=fun a w ha _=>by
 obtain⟨xs,ys,e1,e2⟩:=h.agg;subst e1 e2;simp only[execOp,ha.ev hx,ha.ev hy,Sem.run_bind,Ii h.plain,Result.andThen,run_eql_struct,h.h,Sem.run_pure]
theorem Ij{x y:Operand}{t u:TypeId}{vx vy:Value}{r:Bool}(hx:ev env x=some vx)(hy:ev env y=some vy)[h:vZ P t vx vy r]:
  Ry P N w0 env L ⟨d, .binOp .neq t x y u,ty,ps,af,gd⟩ (.bool (!r)):=fun a w ha _=>by
 obtain⟨xs,ys,e1,e2⟩:=h.agg;subst e1 e2;simp only[execOp,ha.ev hx,ha.ev hy,Sem.run_bind,Ii h.plain,Result.andThen,run_neq_struct,h.h,Sem.run_pure]
theorem Ph{x y:Operand}{t u:TypeId}{a b:Bool}(hx:ev env x=some (.bool a))(hy:ev env y=some (.bool b))(ht:P.underlying t=some .bool):
  Ry P N w0 env L ⟨d, .binOp .eql t x y u,ty,ps,af,gd⟩ (.bool (a==b)):=fun aa w ha _=>by
 have h1:(Op.equal t (.bool a) (.bool b)).run P w= .ok (a==b) w:=run_equalIn_bool' w 9999 t a b ht;have h2:(eqGuard BinOp.eql t x y (.bool a) (.bool b)).run P w= .ok () w:=rfl;simp only[execOp,ha.ev hx,ha.ev hy,Sem.run_bind,h2,Result.andThen_ok,binOp,h1,Sem.run_pure]
theorem wrap64_in{n:Int}(h: -9223372036854775808<=n/\n<=9223372036854775807):IntKind.i64.wrap n=n:=IntWalk.i64_in n h
theorem yw{x y:Operand}{a b:Int}{t u:TypeId}(hx:ev env x=some (.int .i64 a))(hy:ev env y=some (.int .i64 b))(h: -9223372036854775808<=a+b/\a+b<=9223372036854775807):
  Ry P N w0 env L ⟨d, .binOp .add t x y u,ty,ps,af,gd⟩ (.int .i64 (a+b)):=c2 hx hy (by rw[jK,wrap64_in h])
theorem wc{x y:Operand}{a b:Int}{t u:TypeId}(hx:ev env x=some (.int .i64 a))(hy:ev env y=some (.int .i64 b))(h: -9223372036854775808<=a -b/\a -b<=9223372036854775807):
  Ry P N w0 env L ⟨d, .binOp .sub t x y u,ty,ps,af,gd⟩ (.int .i64 (a -b)):=c2 hx hy (by rw[jK,wrap64_in h])
theorem oP{x y:Operand}{a b:Int}{t u:TypeId}(hx:ev env x=some (.int .i64 a))(hy:ev env y=some (.int .i64 b))(h: -9223372036854775808<=a*b/\a*b<=9223372036854775807):
  Ry P N w0 env L ⟨d, .binOp .mul t x y u,ty,ps,af,gd⟩ (.int .i64 (a*b)):=c2 hx hy (by rw[jK,wrap64_in h])
theorem kb{x y:Operand}{a b:Int}{t u:TypeId}(hx:ev env x=some (.int .i64 a))(hy:ev env y=some (.int .i64 b))(h:0<=a/\a<=9223372036854775807)(hb:0<b):
  Ry P N w0 env L ⟨d, .binOp .quo t x y u,ty,ps,af,gd⟩ (.int .i64 (a/b)):=c2 hx hy (by
 have h2:a/b<=a:=Int.ediv_le_self _ h.1;have h3:0<=a/b:=Int.ediv_nonneg h.1 (by omega);rw[jK,if_neg (by omega),Int.tdiv_eq_ediv_of_nonneg h.1,wrap64_in (by omega)])
theorem we{x y:Operand}{a b:Int}{k:IntKind}{t u:TypeId}(hx:ev env x=some (.int k a))(hy:ev env y=some (.int k b))(h:0<=a)(hb:0<b):
  Ry P N w0 env L ⟨d, .binOp .rem t x y u,ty,ps,af,gd⟩ (.int k (a%b)):=c2 hx hy (by
 rw[jK,if_neg (by omega),Int.tmod_eq_emod_of_nonneg h])
def jM(env:Env):List (Nat×Operand)->Option (List (Nat×Value))
 |[]=>some []
 |(i,x)::r=>match ev env x,jM env r with
  |some v,some vs=>some ((i,v)::vs)
  |_,_=>none
theorem Ik:jM env []=some []:=rfl
theorem yx{i:Nat}{x:Operand}{r:List (Nat×Operand)}{v:Value}{vs:List (Nat×Value)}(h:ev env x=some v)(h':jM env r=some vs):jM env ((i,x)::r)=some ((i,v)::vs):=by
 simp[jM,h,h']
theorem cE.jM{a:Act}(h:cE N env a): ∀{xs:List (Nat×Operand)} {vs:List (Nat×Value)},jM env xs=some vs->(xs.map fun p=>(p.1,a.eval p.2))=vs
 |[],vs,e=>by simp[aA.jM]at e;simp[e]
 |(i,x)::r,vs,e=>by
  unfold aA.jM at e;split at e
  ·
   rename_i v Pc hv vY;simp only[Option.some.injEq]at e;subst e;simp[h.ev hv,h.jM vY]
  simp at e
class nj(P:Program)(t:TypeId)(vs:List (Nat×Value))(v:outParam Value):Prop where
 h: ∀w,(Instr.build t vs.toArray).run P w= .ok v w
theorem cy{t:TypeId}{xs:List (Nat×Operand)}{vs:List (Nat×Value)}{v:Value}(hx:jM env xs=some vs)(hb: ∀w,(Instr.build t vs.toArray).run P w= .ok v w):
  Ry P N w0 env L ⟨d, .build t xs.toArray,ty,ps,af,gd⟩ v:=fun a w ha _=>by
 have e:(xs.toArray.map fun(p:Nat×Operand)=>match p with|(i,x)=>(i,a.eval x))=vs.toArray:=by
  rw[←ha.jM hx];simp
 simp only[execOp,e,Sem.run_bind,hb w,Result.andThen,Sem.run_pure]
theorem fo{t:TypeId}{xs:List (Nat×Operand)}{vs:List (Nat×Value)}{v:Value}(hx:jM env xs=some vs)[hb:nj P t vs v]:
  Ry P N w0 env L ⟨d, .build t xs.toArray,ty,ps,af,gd⟩ v:=cy hx hb.h
theorem Il{k:IntKind}{i:Int}{y:Nat}(h0:0<=i)(h1:i<=y)(c:BoundsCode)(w:World):(Instr.sliceBound (.int k i) y c).run P w= .ok i.toNat w:=by
 simp[Instr.sliceBound,asIntOf,h0,h1]
theorem Im{t:TypeId}{x hi:Operand}{n m b o:Nat}{k:IntKind}{h:Int}[ht:qX P t n m](hx:ev env x=some (.pointer (some ⟨b,o,none⟩)))(hh:ev env hi=some (.int k h))(h0:0<=h)(h1:h<=n):
  Ry P N w0 env L ⟨d, .slice t x none (some hi) none,ty,ps,af,gd⟩ (.slice (some ⟨b,o,none⟩) h.toNat n):=fun a w ha _=>by
 obtain⟨e,hu,dW⟩:=ht.arr;have e0:(⟨b,o,none⟩:Addr).add 0=⟨b,o,none⟩:=rfl;simp[execOp,ha.ev hx,ha.ev hh,Instr.sliceAt,run_underlying hu,Instr.sureAddr,Instr.sliceBounds,Il h0 h1,jL w dW,Result.andThen,e0]
theorem uA{t:TypeId}{x:Operand}{n m b o:Nat}[ht:qX P t n m](hx:ev env x=some (.pointer (some ⟨b,o,none⟩))):
  Ry P N w0 env L ⟨d, .slice t x none none none,ty,ps,af,gd⟩ (.slice (some ⟨b,o,none⟩) n n):=fun a w ha _=>by
 obtain⟨e,hu,dW⟩:=ht.arr;have e0:(⟨b,o,none⟩:Addr).add 0=⟨b,o,none⟩:=rfl;simp[execOp,ha.ev hx,Instr.sliceAt,run_underlying hu,Instr.sureAddr,Instr.sliceBounds,jL w dW,Result.andThen,e0]
theorem Io{t:TypeId}{x lo:Operand}{n m b o:Nat}{k:IntKind}{l:Int}[ht:qX P t n m](hx:ev env x=some (.pointer (some ⟨b,o,none⟩)))(hl:ev env lo=some (.int k l))(h0:0<=l)(h1:l<n):
  Ry P N w0 env L ⟨d, .slice t x (some lo) none none,ty,ps,af,gd⟩ (.slice (some ⟨b,o+l.toNat*m,none⟩) (n -l.toNat) (n -l.toNat)):=fun a w ha _=>by
 obtain⟨e,hu,dW⟩:=ht.arr;have e0:(if n=l.toNat then(⟨b,o,none⟩:Addr)else(⟨b,o,none⟩:Addr).add (l.toNat*m))=⟨b,o+l.toNat*m,none⟩:=by rw[if_neg (by omega),Addr.fm]
 simp[execOp,ha.ev hx,ha.ev hl,Instr.sliceAt,run_underlying hu,Instr.sureAddr,Instr.sliceBounds,Il h0 (Int.le_of_lt h1),jL w dW,Result.andThen,e0]
def nb:IntKind->Nat
 | .i8=>7| .i16=>15| .i32=>31| .i64=>63| .u8=>8| .u16=>16| .u32=>32| .u64=>64
theorem Pj(k:IntKind):nb k<=k.bits:=by cases k<;>decide
theorem nk{k:IntKind}{n:Nat}(h:n<2^nb k):k.wrap (n:Int)=n:=by
 cases k<;>simp[IntKind.wrap,IntKind.bits,IntKind.signed,nb]at* <;>omega
theorem wg(b n:Nat):BitVec.ofInt b (n:Int)=BitVec.ofNat b n:=by
 apply BitVec.eq_of_toNat_eq;simp
theorem n5{k:IntKind}{n:Nat}(h:n<2^nb k):n<2^k.bits:=Nat.lt_of_lt_of_le h (Nat.pow_le_pow_right (by decide) (Pj k))
variable {x y:Operand} {k k':IntKind} {p q:Nat} {t u:TypeId}
theorem Ip{a b:Int}(hx:ev env x=some (.int k a))(hy:ev env y=some (.int k b))(ea:a=p)(eb:b=q)(hp:p<2^nb k)(hq:q<2^nb k):
  Ry P N w0 env L ⟨d, .binOp .and t x y u,ty,ps,af,gd⟩ (.int k ((p&&&q:Nat):Int)):=c2 hx hy (by
 subst ea eb;simp only[jK,wg,BitVec.toNat_and,BitVec.toNat_ofNat,Nat.mod_eq_of_lt (n5 hp),Nat.mod_eq_of_lt (n5 hq)];rw[nk (Nat.and_lt_two_pow _ hq)])
theorem yy{a b:Int}(hx:ev env x=some (.int k a))(hy:ev env y=some (.int k b))(ea:a=p)(eb:b=q)(hp:p<2^nb k)(hq:q<2^nb k):
  Ry P N w0 env L ⟨d, .binOp .or t x y u,ty,ps,af,gd⟩ (.int k ((p|||q:Nat):Int)):=c2 hx hy (by
 subst ea eb;simp only[jK,wg,BitVec.toNat_or,BitVec.toNat_ofNat,Nat.mod_eq_of_lt (n5 hp),Nat.mod_eq_of_lt (n5 hq)];rw[nk (Nat.or_lt_two_pow hp hq)])
theorem Iq{a b:Int}(hx:ev env x=some (.int k a))(hy:ev env y=some (.int k b))(ea:a=p)(eb:b=q)(hp:p<2^nb k)(hq:q<2^nb k):
  Ry P N w0 env L ⟨d, .binOp .xor t x y u,ty,ps,af,gd⟩ (.int k ((p^^^q:Nat):Int)):=c2 hx hy (by
 subst ea eb;simp only[jK,wg,BitVec.toNat_xor,BitVec.toNat_ofNat,Nat.mod_eq_of_lt (n5 hp),Nat.mod_eq_of_lt (n5 hq)];rw[nk (Nat.xor_lt_two_pow hp hq)])
theorem Pk(hp:p<2^nb k)(hq:q<2^nb k):jK .andNot k p q=some (.int k ((p&&&(2^k.bits -1 -q):Nat):Int)):=by
 simp only[jK,wg,BitVec.toNat_and,BitVec.toNat_not,BitVec.toNat_ofNat,Nat.mod_eq_of_lt (n5 hp),Nat.mod_eq_of_lt (n5 hq)];rw[nk (Nat.lt_of_le_of_lt Nat.and_le_left hp)]
theorem Pm{a b:Int}(h:0<=b)(w:World):(binOp .shr t (.int k a) (.int k' b)).run P w= .ok (.int k (a.fdiv (2^min b.toNat k.bits))) w:=by
 simp[binOp,Op.shift,show ¬b<0 by omega]
theorem Pn{a b:Int}(h:0<=b)(w:World):(binOp .shl t (.int k a) (.int k' b)).run P w= .ok (.int k (k.wrap (a*2^min b.toNat k.bits))) w:=by
 simp[binOp,Op.shift,show ¬b<0 by omega]
theorem yz{a b:Int}(hx:ev env x=some (.int k a))(hy:ev env y=some (.int k b))(ea:a=p)(eb:b=q)(h:p+q<2^nb k):
  Ry P N w0 env L ⟨d, .binOp .add t x y u,ty,ps,af,gd⟩ (.int k ((p+q:Nat):Int)):=c2 hx hy (by
 subst ea eb;rw[jK,←Int.natCast_add,nk h])
theorem DH{a b:Int}{ts:Array TypeId}(hx:ev env x=some (.int k a))(hy:ev env y=some (.int k b)):
  Ry P N w0 env L ⟨d, .call {callee:= .builtin .min,args:= #[x,y],argTypes:=ts},ty,ps,af,gd⟩ (.int k (min a b)):=fun aa w ha _=>by
 have e:(if b<a then b else a)=min a b:=by rw[Int.min_def];split<;>split<;>omega
 simp[execOp,ha.ev hx,ha.ev hy,resolve,invoke,builtin,Builtin.min_,Builtin.min2,e]
theorem sO{a b:Int}{ts:Array TypeId}(hx:ev env x=some (.int k a))(hy:ev env y=some (.int k b)):
  Ry P N w0 env L ⟨d, .call {callee:= .builtin .max,args:= #[x,y],argTypes:=ts},ty,ps,af,gd⟩ (.int k (max a b)):=fun aa w ha _=>by
 have e:(if a<b then b else a)=max a b:=by rw[Int.max_def];split<;>split<;>omega
 simp[execOp,ha.ev hx,ha.ev hy,resolve,invoke,builtin,Builtin.max_,Builtin.max2,e]
theorem Po{ix:Operand}{s:ByteArray}{j:Int}{v:Nat}(hu:P.underlying t=some .string)(hx:ev env x=some (.string s))(hj:ev env ix=some (.int k j))(h0:0<=j)(hv:(s[j.toNat]?).map (·.toNat)=some v):
  Ry P N w0 env L ⟨d, .index t x ix,ty,ps,af,gd⟩ (.int .u8 v):=fun a w ha _=>by
 cases hs:s[j.toNat]?with
 |none=>simp[hs]at hv
 |some b=>
  simp[hs]at hv;simp[execOp,ha.ev hx,ha.ev hj,Instr.index,asIntOf,run_underlying hu,h0,hs,hv,Result.andThen]
theorem kc{s:TypeId}{n:Nat}[hs:kR P s k'][ht:kR P t k](hx:ev env x=some (.int k' n))(hn:n<2^nb k):
  Ry P N w0 env L ⟨d, .convert s t x,ty,ps,af,gd⟩ (.int k n):=qY hx (nk hn)
theorem AM{s:TypeId}{n:Int}[hs:kR P s k'][ht:kR P t k](hx:ev env x=some (.int k' n))(h0:0<=n)(hn:n.toNat<2^nb k):
  Ry P N w0 env L ⟨d, .convert s t x,ty,ps,af,gd⟩ (.int k n):=qY hx (by
 have:=nk hn;rwa [Int.toNat_of_nonneg h0]at this)
theorem qZ{b:Int}(hx:ev env x=some (.int k p))(hy:ev env y=some (.int k' b))(hp:p<2^nb k)(hb:0<=b):
  Ry P N w0 env L ⟨d, .binOp .shr t x y u,ty,ps,af,gd⟩ (.int k ((p/2^b.toNat:Nat):Int)):=fun a w ha _=>by
 have e:((p:Int).fdiv (2^min b.toNat k.bits))=((p/2^b.toNat:Nat):Int):=by
  rw[Int.fdiv_eq_ediv_of_nonneg _ (Int.pow_nonneg (by decide)),show((2:Int)^min b.toNat k.bits)=((2^min b.toNat k.bits:Nat):Int) by simp,←Int.natCast_ediv];congr 1
  by_cases h:b.toNat<=k.bits
  ·
   rw[Nat.min_eq_left h]
  ·
   rw[Nat.min_eq_right (by omega),Nat.div_eq_of_lt (n5 hp),Nat.div_eq_of_lt (Nat.lt_of_lt_of_le (n5 hp) (Nat.pow_le_pow_right (by decide) (by omega)))]
 simp only[execOp,ha.ev hx,ha.ev hy,Sem.run_bind,DD,Pm hb,e,Sem.run_pure,Result.andThen]
theorem AN{a b:Int}(hx:ev env x=some (.int k a))(hy:ev env y=some (.int k' b))(hb:0<=b):
  Ry P N w0 env L ⟨d, .binOp .shl t x y u,ty,ps,af,gd⟩ (.int k (k.wrap (a*2^min b.toNat k.bits))):=fun aa w ha _=>by
 simp only[execOp,ha.ev hx,ha.ev hy,Sem.run_bind,DD,Pn hb,Sem.run_pure,Result.andThen]
end
section
variable {P:Program} {N:bW} {w0:World} {env:Env} {L:List ah} {l:List Oper} {Q:Exit->Act->World->Prop} {F:Act->Prop} {fs:List Nat} {k:Nat} {rest:List Oper}
def Ex(N:bW)(w0:World)(Q:Exit->Act->World->Prop)(e:Exit)(env:Env)(L:List ah):Prop:= ∀a w,cE N env a->Mem w0 L w->Q e a w
def Sq(P:Program)(N:bW)(w0:World)(l:List Oper)(Q:Exit->Act->World->Prop)(rest:List Oper)(env:Env)(L:List ah):Prop:=
 ∀a w,cE N env a->Mem w0 L w->wpList P l.toArray Q rest a w
def Qt(P:Program)(N:bW)(w0:World)(l:List Oper)(fs:List Nat)(F:Act->Prop)(k:Nat)(rest:List Oper)(env:Env)(L:List ah):Prop:=
 ∀a,cE N env a->kQ P l.toArray fs (Mem w0 L) F k rest a
theorem AO(h:Ex N w0 Q .normal env L):Sq P N w0 l Q [] env L:=h
theorem Ir(h:Ex N w0 Q .normal env L):Qt P N w0 l fs (fun a'=> ∀w',Mem w0 L w'->Q .normal a' w') k [] env L:=fun a ha w' eT=>h a w' ha eT
def Fr(P:Program)(N:bW)(w0:World)(Lq:List ah)(l:List Oper)(n:Nat)(Q:Exit->Act->World->Prop)(fs:List Nat)(env:Env)(L:List ah):Prop:=
 (∀w,Mem w0 L w->Mem w0 Lq w)-> ∀a,cE N env a->qV P l n Q w0 Lq fs a L
theorem sP{n:Nat}{gs:List Nat}{L':List ah}(h:Fr P N w0 L l n Q gs env L')(hq: ∀w,Mem w0 L' w->Mem w0 L w:=by exact fun _ h=>h):Qt P N w0 l fs (fun a'=>qV P l n Q w0 L gs a' L') k [] env L:=fun a ha=>h hq a ha
theorem sQ{n:Nat}{Lq:List ah}(h:Sq P N w0 l Q (l.drop n) env L):Fr P N w0 Lq l n Q [] env L:=fun _ a ha w hw=>h a w ha hw
theorem Pp{o:Oper}(hk:Qt P N w0 l fs F (k+1) rest env L)(hf:fs.contains k=true:=by rfl):Qt P N w0 l fs F k (o::rest) env L:=fun a ha=>by
 unfold kQ;rw[if_pos hf];exact hk a ha
theorem oQ{o:Oper}{y:Nat->Option Bool}(h:o.guard=none):Region.wanted o y=true:=by simp[Region.wanted,h]
theorem uB{o:Oper}{a:Act}{j t:Nat}{b g:Bool}(ha:cE N env a)(h:o.guard=some (j,b))(hj:(l[j]?).bind (·.dst)=some t)(hv:look env t=some (.bool g)):
  Region.wanted o (yielded l.toArray a.tmps)=(g==b):=by
 have:=ha.get _ _ hv;simp[Region.wanted,h,yielded,hj,this]
theorem DI{o:Oper}{a:Act}{j t:Nat}{b c g:Bool}(ha:cE N env a)(h:o.guard=some (j,b))(hj:(l[j]?).bind (·.dst)=some t)(hv:look env t=some (if c=true then .bool g else undef)):
  Region.wanted o (yielded l.toArray a.tmps)=(c&&(g==b)):=by
 have:=ha.get _ _ hv
 cases c
 ·
  simp only[Bool.false_eq_true,if_false]at this;simp[Region.wanted,h,yielded,hj,this,undef]
 ·
  simp only[if_true]at this;simp[Region.wanted,h,yielded,hj,this]
theorem wh{o:Oper}{a:Act}{w:World}{v:Value}{K:Act->World->Prop}(ha:cE N env a)(hw:Mem w0 L w)(h:Yl P N w0 env L o v)(hk: ∀w',Mem w0 L w'->K (a.put o.dst v) w'):o.wp P a w K Q:=by
 have h1:=h a ha w hw;unfold Oper.quietAt at h1;unfold Oper.wp;generalize(execOp a.eval o).run P w=r at h1;unfold Oper.quietUpon at h1;split at h1
 ·
  obtain⟨rfl,rfl⟩:=h1;exact hk _ hw
 ·
  obtain⟨rfl,rfl⟩:=h1;exact hk _ hw
 ·
  obtain⟨rfl,hc⟩:=h1;exact hc.mono fun e nf ⟨he,hm⟩=>by subst he;exact hk _ (by simpa using hw.call hm)
 exact h1.elim
theorem dm{o:Oper}{v:Value}(h:Yl P N w0 env L o v)(hk:Sq P N w0 l Q rest (cd env o.dst v) L)(hg:o.guard=none:=by rfl)(hd:cO N o.dst=true:=by rfl):Sq P N w0 l Q (o::rest) env L:=fun a w ha hw=>by
 unfold wpList;rw[if_pos (oQ hg)];exact .inl (wh ha hw h fun w' eT=>hk _ _ (ha.put hd v) eT)
theorem ag{o:Oper}{v:Value}(h:Ry P N w0 env L o v)(hk:Sq P N w0 l Q rest (cd env o.dst v) L)(hg:o.guard=none:=by rfl)(hd:cO N o.dst=true:=by rfl):Sq P N w0 l Q (o::rest) env L:=dm h.yl hk hg hd
theorem nm{o:Oper}{v:Value}(h:Yl P N w0 env L o v)(hk:Qt P N w0 l fs F (k+1) rest (cd env o.dst v) L)(hg:o.guard=none:=by rfl)(hd:cO N o.dst=true:=by rfl)(hf:fs.contains k=false:=by rfl):Qt P N w0 l fs F k (o::rest) env L:=fun a ha=>by
 unfold kQ;rw[if_neg (by rw[hf];exact Bool.false_ne_true)];rw[if_pos (oQ hg)];exact⟨v,h a ha,hk _ (ha.put hd v)⟩
theorem bu{o:Oper}{v:Value}(h:Ry P N w0 env L o v)(hk:Qt P N w0 l fs F (k+1) rest (cd env o.dst v) L)(hg:o.guard=none:=by rfl)(hd:cO N o.dst=true:=by rfl)(hf:fs.contains k=false:=by rfl):Qt P N w0 l fs F k (o::rest) env L:=nm h.yl hk hg hd hf
theorem look_eq{t:Nat}{u v:Value}(h:look env t=some u)(e:u=v):look env t=some v:=by rw[h,e]
theorem fq{o:Oper}{v:Value}{j t:Nat}{g:Bool}(hg:o.guard=some (j,true))(hj:(l[j]?).bind (·.dst)=some t)(hv:look env t=some (.bool g))(h:g=true->Yl P N w0 env L o v)
  (hk:Sq P N w0 l Q rest (cd env o.dst (if g=true then v else undef)) L) (hd:cO N o.dst=true:=by rfl):Sq P N w0 l Q (o::rest) env L:=fun a w ha hw=>by
 unfold wpList;rw[uB ha hg hj hv]
 cases g
 ·
  exact hk _ _ (ha.put hd undef) hw
 ·
  exact .inl (wh ha hw (h rfl) fun w' eT=>hk _ _ (ha.put hd v) eT)
theorem eH{o:Oper}{v:Value}{j t:Nat}{g:Bool}(hg:o.guard=some (j,true))(hj:(l[j]?).bind (·.dst)=some t)(hv:look env t=some (.bool g))(h:g=true->Yl P N w0 env L o v)
  (hk:Qt P N w0 l fs F (k+1) rest (cd env o.dst (if g=true then v else undef)) L) (hd:cO N o.dst=true:=by rfl) (hf:fs.contains k=false:=by rfl):Qt P N w0 l fs F k (o::rest) env L:=fun a ha=>by
 unfold kQ;rw[if_neg (by rw[hf];exact Bool.false_ne_true)];rw[uB ha hg hj hv]
 cases g
 ·
  exact hk _ (ha.put hd undef)
 ·
  exact⟨v,h rfl a ha,hk _ (ha.put hd v)⟩
theorem bp{o:Oper}{v:Value}{j t:Nat}{g:Bool}(hg:o.guard=some (j,false))(hj:(l[j]?).bind (·.dst)=some t)(hv:look env t=some (.bool g))(h:(!g)=true->Yl P N w0 env L o v)
  (hk:Sq P N w0 l Q rest (cd env o.dst (if(!g)=true then v else undef)) L) (hd:cO N o.dst=true:=by rfl):Sq P N w0 l Q (o::rest) env L:=fun a w ha hw=>by
 unfold wpList;rw[uB ha hg hj hv]
 cases g
 ·
  exact .inl (wh ha hw (h rfl) fun w' eT=>hk _ _ (ha.put hd v) eT)
 ·
  exact hk _ _ (ha.put hd undef) hw
theorem eV{o:Oper}{v:Value}{j t:Nat}{g:Bool}(hg:o.guard=some (j,false))(hj:(l[j]?).bind (·.dst)=some t)(hv:look env t=some (.bool g))(h:(!g)=true->Yl P N w0 env L o v)
  (hk:Qt P N w0 l fs F (k+1) rest (cd env o.dst (if(!g)=true then v else undef)) L) (hd:cO N o.dst=true:=by rfl) (hf:fs.contains k=false:=by rfl):Qt P N w0 l fs F k (o::rest) env L:=fun a ha=>by
 unfold kQ;rw[if_neg (by rw[hf];exact Bool.false_ne_true)];rw[uB ha hg hj hv]
 cases g
 ·
  exact⟨v,h rfl a ha,hk _ (ha.put hd v)⟩
 ·
  exact hk _ (ha.put hd undef)
theorem kd{o:Oper}{v:Value}{j t:Nat}{c g:Bool}(hg:o.guard=some (j,true))(hj:(l[j]?).bind (·.dst)=some t)(hv:look env t=some (if c=true then .bool g else undef))(h:(c&&g)=true->Yl P N w0 env L o v)
  (hk:Sq P N w0 l Q rest (cd env o.dst (if(c&&g)=true then v else undef)) L) (hd:cO N o.dst=true:=by rfl):Sq P N w0 l Q (o::rest) env L:=fun a w ha hw=>by
 unfold wpList;rw[DI ha hg hj hv]
 cases c<;>cases g
 ·
  exact hk _ _ (ha.put hd undef) hw
 ·
  exact hk _ _ (ha.put hd undef) hw
 ·
  exact hk _ _ (ha.put hd undef) hw
 ·
  exact .inl (wh ha hw (h rfl) fun w' eT=>hk _ _ (ha.put hd v) eT)
theorem oR{o:Oper}{v:Value}{j t:Nat}{c g:Bool}(hg:o.guard=some (j,false))(hj:(l[j]?).bind (·.dst)=some t)(hv:look env t=some (if c=true then .bool g else undef))(h:(c&& !g)=true->Yl P N w0 env L o v)
  (hk:Sq P N w0 l Q rest (cd env o.dst (if(c&& !g)=true then v else undef)) L) (hd:cO N o.dst=true:=by rfl):Sq P N w0 l Q (o::rest) env L:=fun a w ha hw=>by
 unfold wpList;rw[DI ha hg hj hv]
 cases c<;>cases g
 ·
  exact hk _ _ (ha.put hd undef) hw
 ·
  exact hk _ _ (ha.put hd undef) hw
 ·
  exact .inl (wh ha hw (h rfl) fun w' eT=>hk _ _ (ha.put hd v) eT)
 ·
  exact hk _ _ (ha.put hd undef) hw
theorem DJ{o:Oper}{v:Value}{j t:Nat}{c g:Bool}(hg:o.guard=some (j,false))(hj:(l[j]?).bind (·.dst)=some t)(hv:look env t=some (if c=true then .bool g else undef))(h:(c&& !g)=true->Yl P N w0 env L o v)
  (hk:Qt P N w0 l fs F (k+1) rest (cd env o.dst (if(c&& !g)=true then v else undef)) L) (hd:cO N o.dst=true:=by rfl) (hf:fs.contains k=false:=by rfl):Qt P N w0 l fs F k (o::rest) env L:=fun a ha=>by
 unfold kQ;rw[if_neg (by rw[hf];exact Bool.false_ne_true)];rw[DI ha hg hj hv]
 cases c<;>cases g
 ·
  exact hk _ (ha.put hd undef)
 ·
  exact hk _ (ha.put hd undef)
 ·
  exact⟨v,h rfl a ha,hk _ (ha.put hd v)⟩
 ·
  exact hk _ (ha.put hd undef)
theorem q6{x:Operand}{c g:Bool}{v u:Value}(hc:c=true)(h:ev env x=some (if(c&&g)=true then v else u)):ev env x=some (if g=true then v else u):=by subst hc;simpa using h
theorem ay{x:Operand}{g:Bool}{v u:Value}(hg:g=true)(h:ev env x=some (if g=true then v else u)):ev env x=some v:=by rw[h,if_pos hg]
variable {d:Option Tmp} {ty:TypeId} {ps:String} {af:Array Edge}
theorem lN{o:Oper}(hg:o.guard=none)(hd:cO N o.dst=true)
  (h: ∀a w,cE N env a->Mem w0 L w-> ∃v w' L',(execOp a.eval o).run P w= .ok (.value v) w'/\Mem w0 L' w'/\Sq P N w0 l Q rest (cd env o.dst v) L'):Sq P N w0 l Q (o::rest) env L:=fun a w ha hw=>by
 unfold wpList;rw[if_pos (oQ hg)];obtain⟨v,w',L',h1,h2,h3⟩:=h a w ha hw;refine .inl ?_;unfold Oper.wp;rw[h1];exact h3 _ _ (ha.put hd v) h2
theorem AP{o:Oper}(hg:o.guard=none)(hd:o.dst=none)
  (h: ∀a w,cE N env a->Mem w0 L w-> ∃w' L',(execOp a.eval o).run P w= .ok .skip w'/\Mem w0 L' w'/\Sq P N w0 l Q rest env L'):Sq P N w0 l Q (o::rest) env L:=fun a w ha hw=>by
 unfold wpList;rw[if_pos (oQ hg)];obtain⟨w',L',h1,h2,h3⟩:=h a w ha hw;refine .inl ?_;unfold Oper.wp;rw[h1];show wpList P l.toArray Q rest (a.put o.dst undef) w';rw[hd];exact h3 _ _ ha h2
theorem DK{t:TypeId}{x:Operand}{v:Value}(hx:ev env x=some v)(hk: ∀b,Sq P N w0 l Q rest (cd env d (.pointer (some ⟨b,0,none⟩))) (an b v.cells t::L))(hd:cO N d=true:=by rfl):
  Sq P N w0 l Q (⟨d, .box t x,ty,ps,af,none⟩::rest) env L:=
 lN rfl hd fun a w ha hw=>⟨_,_,_,by simp only[execOp,ha.ev hx,Instr.box,newVar,newRow,Sem.run_bind,newObj,Sem.run,Result.andThen,Sem.run_pure];rfl,hw.alloc v.cells t,hk _⟩
theorem Is{t:TypeId}{z:Value}[hz:dj P t z](hk: ∀b,Sq P N w0 l Q rest (cd env d (.pointer (some ⟨b,0,none⟩))) (an b z.cells t::L))(hd:cO N d=true:=by rfl):
  Sq P N w0 l Q (⟨d, .alloc t,ty,ps,af,none⟩::rest) env L:=
 lN rfl hd fun a w ha hw=>⟨_,_,_,by simp only[execOp,Instr.alloc,newVar,newRow,Sem.run_bind,AI w hz,newObj,Sem.run,Result.andThen,Sem.run_pure];rfl,hw.alloc z.cells t,hk _⟩
theorem bM{t:TypeId}{x:Operand}{cs:Array Value}(hx:ev env x=some (.agg cs))(hk: ∀b,Sq P N w0 l Q rest (cd env d (.pointer (some ⟨b,0,none⟩))) (an b cs t::L))(hd:cO N d=true:=by rfl):
  Sq P N w0 l Q (⟨d, .box t x,ty,ps,af,none⟩::rest) env L:=DK hx hk hd
theorem bj{t:TypeId}{cs:Array Value}[hz:dj P t (.agg cs)](hk: ∀b,Sq P N w0 l Q rest (cd env d (.pointer (some ⟨b,0,none⟩))) (an b cs t::L))(hd:cO N d=true:=by rfl):
  Sq P N w0 l Q (⟨d, .alloc t,ty,ps,af,none⟩::rest) env L:=Is (z:= .agg cs) hk hd
theorem Pq{cs:Array Value}(h:cs.all (·.oneCell')=true)(a b:Nat):(cs.extract a b).all (·.oneCell')=true:=by
 rw[Array.all_eq_true_iff_forall_mem]at h⊢;intro v hv;have:v∈(cs.extract a b).toList:=Array.mem_toList_iff.2 hv;rw[Array.toList_extract]at this;simp only[List.extract]at this;exact h v (by simpa using List.mem_of_mem_drop (List.mem_of_mem_take this))
theorem dw{t:TypeId}{x y:Operand}{i b o:Nat}{cs:Array Value}{T:TypeId}{v:Value}(hx:ev env x=some (.pointer (some ⟨b,o,none⟩)))(hy:ev env y=some v)[ht:ez P t][hh:Has L b cs T i](ho:o<cs.size)(hv:v.oneCell'=true){cs':Array Value}{L':List ah}(fG:cs.setIfInBounds o v=cs')[hu:dX L i (an b cs' T) L'](hk:Sq P N w0 l Q rest env L'):
  Sq P N w0 l Q (⟨none, .store t x y,ty,ps,af,none⟩::rest) env L:=
 AP rfl rfl fun a w ha hw=>by
  have hi:=hh.h;have hb:=hw.block hi;have hc:w.cell? ⟨b,o,none⟩=some cs[o]:=by rw[hw.cell hi];simp[ho]
  have hf:w.frozen? ⟨b,o,none⟩=false:=frozen_of_row w b o cs T hb;subst fG;refine⟨w.setCell ⟨b,o,none⟩ v,_,?_,?_,hk⟩
  ·
   have h1:(storeCells ⟨b,o,none⟩ [v]).run P w= .ok () (w.setCell ⟨b,o,none⟩ v):=by
    have:=run_storeCells_at (P:=P) b o T [v] 0 cs w hb (by simp;omega) (by simpa using hv);rw[this,setCell_eq_setRow w b o cs T (0,0) v hb];congr 2;apply Array.ext';simp[List.set_eq_take_append_cons_drop,ho]
   have fG:v.cells= #[v]:=by cases v<;>simp_all[Value.oneCell',Value.cells]
   simp only[execOp,ha.ev hx,ha.ev hy,Instr.storeAt,Instr.sureAddr,storeVar,Sem.run_bind,Sem.run_pure,Result.andThen,jL w ht.size,fG];simp[h1]
  ·
   rw[setCell_eq_setRow w b o cs T (0,0) v hb];rw[←hu.h];exact hw.setRow hi _
def over(cs:Array Value)(o:Nat)(vs:Array Value):Array Value:=(cs.toList.take o++vs.toList++cs.toList.drop (o+vs.size)).toArray
theorem yA{t:TypeId}{x y:Operand}{i b o n:Nat}{cs vs:Array Value}{T:TypeId}(hx:ev env x=some (.pointer (some ⟨b,o,none⟩)))(hy:ev env y=some (.agg vs))[ht:dG P t n][hh:Has L b cs T i][hs:eA vs n](ho:o+n<=cs.size){cs':Array Value}{L':List ah}(fG:over cs o vs=cs')[hu:dX L i (an b cs' T) L'](hk:Sq P N w0 l Q rest env L'):
  Sq P N w0 l Q (⟨none, .store t x y,ty,ps,af,none⟩::rest) env L:=
 AP rfl rfl fun a w ha hw=>by
  have hi:=hh.h;have hn:=hs.h;have hv:=hs.one;have hb:=hw.block hi;subst fG;refine⟨_,_,?_,by rw[←hu.h];exact hw.setRow hi _,hk⟩;have h1:=run_storeCells_at (P:=P) b o T vs.toList 0 cs w hb (by simp;omega) (fun v jN=>(Array.all_eq_true_iff_forall_mem.1 hv) v (by simpa using jN));simp only[execOp,ha.ev hx,ha.ev hy,Instr.storeAt,Instr.sureAddr,storeVar,Value.cells,Sem.run_bind,Sem.run_pure,Result.andThen,jL w ht.size,hn];simp[h1,over]
theorem Pr{t:TypeId}{x y:Operand}{i b n:Nat}{cs vs:Array Value}{T:TypeId}(hx:ev env x=some (.pointer (some ⟨b,0,none⟩)))(hy:ev env y=some (.agg vs))[ht:dG P t n][hh:Has L b cs T i][hs:eA vs n][hc:eA cs n]{L':List ah}[hu:dX L i (an b vs T) L'](hk:Sq P N w0 l Q rest env L'):
  Sq P N w0 l Q (⟨none, .store t x y,ty,ps,af,none⟩::rest) env L:=by
 have hn:=hs.h;have Ps:=hc.h;refine yA hx hy (by omega) (?_:over cs 0 vs=vs) hk;apply Array.ext';simp[over];omega
theorem DL{x y:Operand}{tx eW e:TypeId}{i b o dl dc sl sc:Nat}{a:Addr}{cs vs:Array Value}{T:TypeId}(hx:ev env x=some (.slice (some ⟨b,o,none⟩) dl dc))(hy:ev env y=some (.slice (some a) sl sc))
  [ht:dA P tx e 1] [hh:Has L b cs T i] (hn:vs.size=Nat.min sl dl) (oS: ∀w,Mem w0 L w-> ∀j,j<vs.size->w.cell? (a.add j)=vs[j]?) (hv:vs.all (·.oneCell')=true) (ho:o+vs.size<=cs.size)
  {cs':Array Value} {L':List ah} (fG:over cs o vs=cs') [hu:dX L i (an b cs' T) L'] (hk:Sq P N w0 l Q rest (cd env d (.int .i64 vs.size)) L') (hd:cO N d=true:=by rfl):
  Sq P N w0 l Q (⟨d, .call {callee:= .builtin .copy,args:= #[x,y],argTypes:= #[tx,eW]},ty,ps,af,none⟩::rest) env L:=
 lN rfl hd fun aa w ha hw=>by
  have hi:=hh.h;have hb:=hw.block hi;subst fG;have eU:=run_copy_row (P:=P) w tx eW ty e b o dl dc a sl sc cs T vs.toList ht.dB ht.size hb (by simpa using hn)
   (fun j v jN=>by
    have hj:j<vs.size:=by simpa using(List.getElem?_eq_some_iff.1 jN).1
    rw[oS w hw j hj];simpa using jN) (by simpa using ho) (fun v jN=>(Array.all_eq_true_iff_forall_mem.1 hv) v (by simpa using jN))
  refine⟨_,w.setRow b (over cs o vs),_,?_,by rw[←hu.h];exact hw.setRow hi _,hk⟩;simp[execOp,ha.ev hx,ha.ev hy,resolve,invoke,builtin,eU,Result.andThen,goInt,over]
end
section
variable {P:Program} {N:bW} {w0:World} {env:Env} {L Lq:List ah} {l:List Oper} {n j:Nat} {js:List Nat} {Q:Exit->Act->World->Prop} {d:Option Tmp} {ty:TypeId} {ps:String} {af:Array Edge}
theorem Pt{X:Type}{val:X->Value}{L':X->List ah}{pr:X->Prop}{f:FuncId}{xs:List Operand}{ts:Array TypeId}{vs:List Value}(hj:l[j]? =some ⟨d, .call {callee:= .value (.func f),args:=xs.toArray,argTypes:=ts},ty,ps,af,none⟩)[hf:aC P f](hx:fV env xs=some vs)
  (hc: ∀w,Mem w0 L w->Calls P f vs.toArray w fun e w'=> ∃x,e= .returned (val x)/\pr x/\Mem w0 (L' x) w') (hL: ∀x w,Mem w0 (L' x) w->Mem w0 Lq w) (hk: ∀x,pr x->Fr P N w0 Lq l n Q js (cd env d (val x)) (L' x)) (hd:cO N d=true:=by rfl):
  Fr P N w0 Lq l n Q (j::js) env L:=fun _ a ha=>
 ⟨_,hj,rfl,fun w hw=>by
  rw[AK hf w rfl,ha.fV hx];exact⟨rfl,(hc w hw).mono fun e w' ⟨x,he,hp,hm⟩=>⟨val x,L' x,he,hm,hL x,hk x hp (hL x) _ (ha.put hd _)⟩⟩⟩
end
section
variable {P:Program} {N:bW} {w0:World} {env:Env} {L:List ah} {Q:Exit->Act->World->Prop}
def Cw(P:Program)(N:bW)(w0:World)(Q:Exit->Act->World->Prop)(c:Code)(env:Env)(L:List ah):Prop:= ∀a w,cE N env a->Mem w0 L w->c.wpIn (ka N.ro) 0 P Q a w
theorem AQ{x y:Code}(h:Cw P N w0 (Exit.then (y.wpIn (ka N.ro) 0 P Q) Q) x env L):Cw P N w0 Q (.seq x y) env L:=fun a w ha hw=>wpIn_seq (h a w ha hw)
theorem AR{id:Nat}{l:List Oper}[iP Q](h:Sq P N w0 l Q l env L)(bX:mZ l=true:=by kernel_rfl):Cw P N w0 Q (.region id l.toArray false) env L:=fun a w ha hw=>OZ bX (h a w ha hw)
theorem DM{ops:Array Oper}{C:World->Prop}{F:Act->Prop}(hC: ∀w w',C w->Mem w [] w'->C w'): ∀(rest:List Oper) (k:Nat) (a:Act),kQ P ops [] C F k rest a->wpQuiet P ops C F rest a
 |[],_,_,h=>h
 |o::rest,k,a,h=>by
  unfold kQ at h;rw[if_neg (by simp)]at h;unfold wpQuiet;split
  ·
   rename_i hw;rw[if_pos hw]at h;obtain⟨v,h1,h2⟩:=h;refine⟨v,fun w AS=>?_,DM hC rest (k+1) _ h2⟩;have h3:=h1 w AS;unfold Oper.quietAt at h3⊢;generalize(execOp a.eval o).run P w=r at h3;unfold Oper.quietUpon at h3⊢;split at h3
   ·
    exact h3
   ·
    exact h3
   ·
    exact⟨h3.1,by obtain⟨rfl,qW⟩:=h3;exact qW.mono fun e nf ⟨he,hm⟩=>⟨he,hC _ _ AS hm⟩⟩
   exact h3.elim
  rename_i hw;rw[if_neg hw]at h;exact DM hC rest (k+1) _ h
theorem fH{id:Nat}{l:List Oper}[iP Q](hm:P.follows .mixedOrders=true)(hB:Region.lexB .any l.toArray=true)(h:Qt P N w0 l [] (fun a'=> ∀w',Mem w0 L w'->Q .normal a' w') 0 l env L)(bX:mZ l=true:=by kernel_rfl):Cw P N w0 Q (.region id l.toArray true) env L:=fun a _ ha hw=>
 O0 bX (C:=Mem w0 L) hm hB hw.Ar (by simpa using DM (fun w w' AS eT=>by simpa using AS.call eT) l 0 a (h a ha))
theorem Iu{id:Nat}{l:List Oper}[iP Q](n:Nat)(fs:List Nat)(Lq:List ah)(hq: ∀w,Mem w0 L w->Mem w0 Lq w)(hm:P.follows .mixedOrders=true)(hB:AG l fs n=true)(h:Qt P N w0 l fs (fun a'=>qV P l n Q w0 Lq fs a' L) 0 (l.take n) env Lq)(bX:mZ l=true:=by kernel_rfl):Cw P N w0 Q (.region id l.toArray true) env L:=fun a _ ha hw=>
 Pa n bX hm hB hw.Ar hq (h a ha)
theorem uC{id:Nat}{l:List Oper}[iP Q](n:Nat)(fs:List Nat)(hm:P.follows .mixedOrders=true)(hB:AG l fs n=true)(h:Qt P N w0 l fs (fun a'=>qV P l n Q w0 L fs a' L) 0 (l.take n) env L)(bX:mZ l=true:=by kernel_rfl):Cw P N w0 Q (.region id l.toArray true) env L:=
 Iu n fs L (fun _ h=>h) hm hB h bX
theorem iw{c:Operand}{x y:Code}{g:Bool}(hc:ev env c=some (.bool g))(hx:g=true->Cw P N w0 Q x env L)(hy:g=false->Cw P N w0 Q y env L):Cw P N w0 Q (.cond c x y) env L:=fun a w ha hw=>
 wpIn_cond_split (ha.ev hc) (fun h=>hx h a w ha hw) (fun h=>hy h a w ha hw)
theorem Iv{id:Nat}{c:Code}(h:Cw P N w0 (Exit.inBlock id Q) c env L):Cw P N w0 Q (.block id c) env L:=fun a w ha hw=>wpIn_block (h a w ha hw)
theorem Iw(h:Ex N w0 Q .normal env L):Cw P N w0 Q .skip env L:=fun a w ha hw=>wpIn_skip (h a w ha hw)
theorem Ix{id:Nat}(h:Ex N w0 Q (.exit id) env L):Cw P N w0 Q (.exit id) env L:=fun a w ha hw=>wpIn_exit (h a w ha hw)
theorem DN(h:Ex N w0 Q .ret env L):Cw P N w0 Q .ret env L:=fun a w ha hw=>wpIn_ret (h a w ha hw)
theorem bA{c:Code}{X:Type}(uD:X->Env)(LI:X->List ah)(inv:X->Prop)(m:X->Nat)(x0:X)(h0:inv x0)(hs:Sub (uD x0) env)(hL: ∀w,Mem w0 L w->Mem w0 (LI x0) w)
  (round: ∀x,inv x->Cw P N w0 (Exit.then (fun a w=> ∃x',inv x'/\m x'<m x/\cE N (uD x') a/\Mem w0 (LI x') w) Q) c (uD x) (LI x)):Cw P N w0 Q (.loop c) env L:=by
 intro a0 w1 Pu iR b k cs Pv hb hr;have key: ∀n x,m x=n->inv x-> ∀a w,cE N (uD x) a->Mem w0 (LI x) w->
   ∃e a' w',Q e a' w'/\ArrivesIn (Machine.fenced P (ka N.ro)) P (lone (b.atR a (.code c:: .inLoop c::k)) cs w) b k cs e a' w':=by
  intro n
  induction n using Nat.strongRecOn with
  |_ n ih=>
   intro x hm hI a w ha hw;obtain⟨e,wi,wj,hq,sR⟩:=round x hI a w ha hw b (.inLoop c::k) cs Pv hb hr
   cases e with
   |normal=>
    obtain⟨x',Pw,aW,Px,eT⟩:=hq;obtain⟨Py,Pz,PA,PB,PC⟩:=ih (m x') (hm▸aW) x' rfl Pw wi wj Px eT;exact⟨Py,Pz,PA,PB, .of_steps (StepsIn.trans sR (.one (fenced_calm hb hr rfl) stepR_inLoop)) PC⟩
   |exit id=>exact⟨_,wi,wj,hq, .pass (x:= .inLoop c) rfl (fun _ _=> .inl (by simp)) sR⟩
   |goto l=>exact⟨_,wi,wj,hq, .pass (x:= .inLoop c) rfl (fun _ _=> .inl (by simp)) sR⟩
   |ret=>exact⟨_,wi,wj,hq, .pass (x:= .inLoop c) rfl (fun _ _=> .inl (by simp)) sR⟩
   |panic ch=>exact⟨_,wi,wj,hq, .pass (x:= .inLoop c) rfl (fun _ _=> .inl (by simp)) sR⟩
   |outgrown=>exact⟨_,wi,wj,hq, .pass (x:= .inLoop c) rfl (fun _ _=> .inl (by simp)) sR⟩
 obtain⟨e,a',w',hq,sR⟩:=key _ x0 rfl h0 a0 w1 (Pu.sub hs) (hL w1 iR);exact⟨e,a',w',hq, .of_steps (.one (fenced_calm hb hr rfl) stepR_loop) sR⟩
theorem AT{x y:Code}{X:Type}(yB:X->Env)(LJ:X->List ah)(J:X->Prop)
  (h:Cw P N w0 (Exit.then (fun a w=> ∃s,J s/\cE N (yB s) a/\Mem w0 (LJ s) w) Q) x env L) (hy: ∀s,J s->Cw P N w0 Q y (yB s) (LJ s)):Cw P N w0 Q (.seq x y) env L:=fun a w ha hw=>
 wpIn_seq (wpIn_mono (h a w ha hw) fun e a' w' hq=>by
  cases e with
  |normal=>obtain⟨s,hs,hr,hm⟩:=hq;exact hy s hs a' w' hr hm
  |exit id=>exact hq
  |goto l=>exact hq
  |ret=>exact hq
  |panic ch=>exact hq
  |outgrown=>exact hq)
theorem AU{y:Code}{Q':Exit->Act->World->Prop}(h:Cw P N w0 Q y env L):Ex N w0 (Exit.then (y.wpIn (ka N.ro) 0 P Q) Q') .normal env L:=h
theorem sS{X:Type}{yB:X->Env}{LJ:X->List ah}{J:X->Prop}(s:X)(hJ:J s)(hs:Sub (yB s) env)(hL: ∀w,Mem w0 L w->Mem w0 (LJ s) w):
  Ex N w0 (Exit.then (fun a w=> ∃s,J s/\cE N (yB s) a/\Mem w0 (LJ s) w) Q) .normal env L:=fun _ w ha hw=>⟨s,hJ,ha.sub hs,hL w hw⟩
theorem aV{X:Type}{uD:X->Env}{LI:X->List ah}{inv:X->Prop}{m:X->Nat}{x:X}(x':X)(hI:inv x')(hm:m x'<m x)(hs:Sub (uD x') env)(hL: ∀w,Mem w0 L w->Mem w0 (LI x') w):
  Ex N w0 (Exit.then (fun a w=> ∃x',inv x'/\m x'<m x/\cE N (uD x') a/\Mem w0 (LI x') w) Q) .normal env L:=fun _ w ha hw=>⟨x',hI,hm,ha.sub hs,hL w hw⟩
theorem Iy{K:Act->World->Prop}{id:Nat}(h:Ex N w0 Q (.exit id) env L):Ex N w0 (Exit.then K Q) (.exit id) env L:=h
theorem Iz{K:Act->World->Prop}(h:Ex N w0 Q .ret env L):Ex N w0 (Exit.then K Q) .ret env L:=h
theorem IA{id:Nat}(h:Ex N w0 Q .normal env L):Ex N w0 (Exit.inBlock id Q) .normal env L:=h
theorem IB{id:Nat}(h:Ex N w0 Q .normal env L):Ex N w0 (Exit.inBlock id Q) (.exit id) env L:=fun a w ha hw=>by
 simp only[Exit.inBlock,if_true];exact h a w ha hw
theorem IC{id AV:Nat}(ct:Nat.beq AV id=false)(h:Ex N w0 Q (.exit AV) env L):Ex N w0 (Exit.inBlock id Q) (.exit AV) env L:=fun a w ha hw=>by
 have: ¬AV=id:=fun e=>by subst e;simp at ct
 simp only[Exit.inBlock,this,if_false];exact h a w ha hw
theorem ID{id:Nat}(h:Ex N w0 Q .ret env L):Ex N w0 (Exit.inBlock id Q) .ret env L:=h
variable {fn:Func} {R:Ending->World->Prop}
theorem fW{n:Nat}{e:Exit}(he:e= .ret\/e= .normal){v:Value}(hr: ∀a w,cE ⟨n,[],none⟩ env a->Mem w0 L w->(results fn a.tmps).run P w= .ok v w)(h: ∀w,Mem w0 L w->R (.returned v) w):Ex ⟨n,[],none⟩ w0 (nV P fn R) e env L:=fun a w ha hw=>by
 have key:LeavesInM (ka none) 0 P fn a.tmps R a.defers .returning w:=by
  rw[ha.defers];exact⟨v,hr a w ha hw,h w hw⟩
 rcases he with rfl|rfl
 ·
  exact⟨.inr rfl,key⟩
 exact⟨.inl rfl,key⟩
theorem jO{t:Nat}{v:Value}(hf:fn.results= #[.tmp t])(hv:look env t=some v): ∀a w,cE N env a->Mem w0 L w->(results fn a.tmps).run P w= .ok v w:=fun a w ha _=>by
 have:=ha.get _ _ hv;simp[results,hf,this]
theorem AW{t:Nat}{T T':TypeId}{b i n:Nat}{cs:Array Value}(hf:fn.results= #[.cell t T])(hv:look env t=some (.pointer (some ⟨b,0,none⟩)))[ht:dG P T n][hi:Has L b cs T' i][hn:eA cs n]:
  ∀a w,cE N env a->Mem w0 L w->(results fn a.tmps).run P w= .ok (.agg cs) w:=fun a w ha hw=>by
 have h1:=ha.get _ _ hv;have h2:(loadVar T ⟨b,0,none⟩).run P w= .ok (.agg cs) w:=DE w ht hn.h fun j _=>by rw[Addr.fm,hw.cell hi.h,Nat.zero_add]
 simp[results,hf,h1,asAddr,h2]
theorem uE{N:Nat}{f:FuncId}{c:Code}{args:List Value}{w:World}(hf:P.funcs[f]? =some fn)(hb:fn.body=some c)(hN:fn.ntmps=N)(hle:Nat.ble args.length N=true)
  (h:Cw P ⟨N,[],none⟩ w (nV P fn R) c (args.zipIdx.map fun p=>(p.2,p.1)) []):Calls P f args.toArray w R:=
 H5 hf hb (h _ _ (by rw[hN];exact cE.enter args N (Nat.le_of_ble_eq_true hle)) (Mem.init w))
end
theorem Z0(a b:Bool):((a&&b)=true)=(a=true/\b=true):=Bool.and_eq_true a b
theorem Z1(a b:Bool):((a||b)=true)=(a=true\/b=true):=Bool.or_eq_true a b
theorem Z2{x y:Bool}:(x&&y)=false↔x=false\/y=false:=Bool.and_eq_false_iff
theorem Z3{x y:Bool}:(x||y)=false↔x=false/\y=false:=Bool.or_eq_false_iff
theorem Z4(b:Bool):((!b)=true)=(b=false):=Bool.not_eq_true' b
theorem Z5(b:Bool):((!b)=false)=(b=true):=Bool.not_eq_false' b
theorem Z6{p:Prop}[inst:Decidable p]:(decide p=true)=p:=decide_eq_true_eq
theorem Z7{p:Prop}{x:Decidable p}:decide p=false↔ ¬p:=decide_eq_false_iff_not
theorem Z8(b:Bool):(¬b=true)=(b=false):=Bool.not_eq_true b
theorem Z9(b:Bool):(¬b=false)=(b=true):=Bool.not_eq_false b
structure Sv where
  nil:Bool
  b:Nat
  o:Nat
  len:Nat
  cap:Nat
  sp:Option Nat
def Sv.val(s:Sv):Value:=match s.nil with
  |true=> .slice none 0 0
  |false=> .slice (some ⟨s.b,s.o,s.sp⟩) s.len s.cap
structure Sv.Ok(s:Sv):Prop where
  nil:s.nil=true->s.len=0/\s.cap=0
  le:s.len<=s.cap
  bd:s.len<=140737488355328
  sp:0<s.cap->s.sp=none
theorem Sv.Ok.some{s:Sv}(h:s.Ok)(hl:0<s.len):s.nil=false:=by
  cases hn:s.nil with
  |false=>rfl
  |true=>have:=h.nil hn;omega
theorem Sv.fX{s:Sv}(h:s.nil=false):s.val= .slice (some ⟨s.b,s.o,s.sp⟩) s.len s.cap:=by simp[Sv.val,h]
theorem Sv.pY{s:Sv}(h:s.nil=true):s.val= .slice none 0 0:=by simp[Sv.val,h]
def Sv.none:Sv:=⟨true,0,0,0,0, .none⟩
theorem Sv.yC:Sv.none.Ok:=⟨fun _=>⟨rfl,rfl⟩,Nat.le_refl _,Nat.zero_le _,fun _=>rfl⟩
theorem Sv.one(s:Sv):s.val.oneCell'=true:=by unfold Sv.val;split<;>rfl
def lO(h:Nat->Option Obj)(b o:Nat):Option Value:=match h b with
  |some (.cells cs _ _)=>cs[o]?
  |_=>none
abbrev hp(w:World):Nat->Option Obj:=fun k=>w.heap[k]?
theorem pZ(w:World)(b o:Nat):w.cell? ⟨b,o,none⟩=lO (hp w) b o:=by
  unfold World.cell? lO;split<;>simp_all
class bc{α:Type}(enc:α->Array Value)(c:outParam Nat):Prop where
  size: ∀x,(enc x).size=c
  one: ∀x,(enc x).all (·.oneCell')=true
structure bI{α:Type}(enc:α->Array Value)(c:Nat)(h:Nat->Option Obj)(s:Sv)(xs:List α):Prop where
  ok:s.Ok
  len:s.len=xs.length
  row: ∀i x,xs[i]? =some x-> ∀j,j<c->lO h s.b (s.o+i*c+j)=(enc x)[j]?
theorem bI.some{α:Type}{enc:α->Array Value}{c:Nat}{h:Nat->Option Obj}{s:Sv}{xs:List α}(r:bI enc c h s xs){i:Nat}(hi:i<xs.length):s.nil=false:=r.ok.some (by rw[r.len];omega)
theorem bI.nil{α:Type}(enc:α->Array Value)(c:Nat)(h:Nat->Option Obj):bI enc c h Sv.none ([]:List α):=⟨Sv.yC,rfl,by simp⟩
theorem bI.bd{α:Type}{enc:α->Array Value}{c:Nat}{h:Nat->Option Obj}{s:Sv}{xs:List α}(r:bI enc c h s xs):xs.length<=140737488355328:=by have:=r.ok.bd;have:=r.len;omega
theorem bI.mono{α:Type}{enc:α->Array Value}{c:Nat}[he:bc enc c]{w w':World}{s:Sv}{xs:List α}(r:bI enc c (hp w) s xs)(hb:Below w.heap.size w w'):bI enc c (hp w') s xs:=
  ⟨r.ok,r.len,fun i x hi j hj=>by
    have h:=r.row i x hi j hj;rw[←h];have yD:((enc x)[j]?).isSome:=by rw[Array.getElem?_eq_getElem (by rw[he.size];exact hj)];rfl
    rw[←h]at yD;have aW:s.b<w.heap.size:=by
      rcases Nat.lt_or_ge s.b w.heap.size with h'|h'
      ·exact h'
      ·simp[lO,hp,Array.getElem?_eq_none h']at yD
    have e:(hp w') s.b=(hp w) s.b:=hb.block s.b aW;unfold lO;rw[e]⟩
def DO(n:Nat)(fz:Nat×Nat):Prop:= ∀j,j<n-> ¬(fz.1<=j/\j<fz.2)
theorem DP(n:Nat):DO n (0,0):=fun j _ h=>by have:=h.2;simp at this
def own{α:Type}(enc:α->Array Value)(c:Nat)(s:Sv)(xs:List α):ah:=
  ⟨fun k=>s.nil=false/\k=s.b,fun h=>bI enc c h s xs/\(s.nil=false->s.sp= .none/\ ∃cs T fz,h s.b=some (.cells cs T fz)/\s.o+s.cap*c<=cs.size/\DO cs.size fz/\(1<c->fz=(0,0))),
   fun h h' e st=>by
    cases hn:s.nil with
    |true=>
     refine⟨⟨st.1.ok,st.1.len,fun i x hi=>?_⟩,fun h=>by cases h⟩;have:=st.1.some (List.getElem?_eq_some_iff.1 hi).1;rw[hn]at this;cases this
    |false=>
     have e1:=e s.b ⟨hn,rfl⟩;refine⟨⟨st.1.ok,st.1.len,fun i x hi j hj=>?_⟩,fun _=>?_⟩
     ·rw[←st.1.row i x hi j hj];unfold lO;rw[e1]
     ·rw[e1];exact st.2 hn⟩
section
variable {P:Program} {N:bW} {w0:World} {env:Env} {L:List ah} {d:Option Tmp} {ty:TypeId} {ps:String} {af:Array Edge} {gd:Option (Nat×Bool)}
variable {α:Type} {enc:α->Array Value} {c:Nat} {s:Sv} {xs:List α}
def Holds(w0:World)(L:List ah){α:Type}(enc:α->Array Value)(c:Nat)(s:Sv)(xs:List α):Prop:= ∀w,Mem w0 L w->bI enc c (hp w) s xs
theorem DQ[bc enc c](r:bI enc c (hp w0) s xs):Holds w0 L enc c s xs:=fun _ hw=>r.mono hw.below
class At(L:List ah)(e:ah)(i:outParam Nat):Prop where
  h:L[i]? =some e
instance (priority:=high) At.here {L:List ah}{e:ah}:At (e::L) e 0:=⟨rfl⟩
instance At.there{L:List ah}{e x:ah}{i:Nat}[q:At L e i]:At (x::L) e (i+1):=⟨by simpa using q.h⟩
theorem uF{t e:TypeId}{x:Operand}{m n:Nat}[ht:dA P t e m](hx:ev env x=some s.val)(hs:s.Ok)(hn:s.len=n):
    Ry P N w0 env L ⟨d, .call {callee:= .builtin .len,args:= #[x],argTypes:= #[t]},ty,ps,af,gd⟩ (.int .i64 n):=by
  subst hn
  cases h:s.nil with
  |false=>rw[Sv.fX h]at hx;exact uz hx
  |true=>
   rw[Sv.pY h]at hx;rw[(hs.nil h).1];exact uz hx
theorem kT{t e:TypeId}{x ix:Operand}{m i:Nat}{k:IntKind}{j:Int}[ht:dA P t e m](hx:ev env x=some s.val)(hj:ev env ix=some (.int k j))(ej:j=(i:Int))(hs:s.Ok)(h1:i<s.len):
    Ry P N w0 env L ⟨d, .indexAddr t x ix,ty,ps,af,gd⟩ (.pointer (some ⟨s.b,s.o+i*m,none⟩)):=by
  subst ej;rw[Sv.fX (hs.some (by omega)),hs.sp (by have:=hs.le;omega)]at hx;have:=Ih (P:=P) (N:=N) (w0:=w0) (L:=L) (d:=d) (ty:=ty) (ps:=ps) (af:=af) (gd:=gd) (t:=t) hx hj (by omega) (by omega);simpa using this
theorem IE{t:TypeId}{x:Operand}{i p:Nat}{a:α}[ht:dG P t c][he:bc enc c](hx:ev env x=some (.pointer (some ⟨s.b,p,none⟩)))(hR:Holds w0 L enc c s xs)(hi:xs[i]? =some a)(eB:p=s.o+i*c):
    Ry P N w0 env L ⟨d, .load t x,ty,ps,af,gd⟩ (.agg (enc a)):=yu ht hx (he.size a) fun w hw j hj=>by
  rw[Addr.fm,pZ,eB,(hR w hw).row i a hi j hj]
theorem DR{t:TypeId}{x:Operand}{i p j:Nat}{a:α}{v:Value}[ht:ez P t](hx:ev env x=some (.pointer (some ⟨s.b,p,none⟩)))(hR:Holds w0 L enc c s xs)(hi:xs[i]? =some a)(eB:p=s.o+i*c+j)(hj:j<c)(hv:(enc a)[j]? =some v):
    Ry P N w0 env L ⟨d, .load t x,ty,ps,af,gd⟩ v:=v7 ht hx fun w hw=>by
  rw[pZ,eB,(hR w hw).row i a hi j hj,hv]
theorem DS{t:TypeId}{x:Operand}{i p j n:Nat}{a:α}{sub:Array Value}[ht:dG P t n](hx:ev env x=some (.pointer (some ⟨s.b,p,none⟩)))(hR:Holds w0 L enc c s xs)(hi:xs[i]? =some a)(eB:p=s.o+i*c+j)(hj:j+n≤c)[hs:kS (enc a) j n sub]:
    Ry P N w0 env L ⟨d, .load t x,ty,ps,af,gd⟩ (.agg sub):=yu ht hx hs.size fun w hw k hk=>by
  rw[Addr.fm,pZ,eB,Nat.add_assoc,(hR w hw).row i a hi (j+k) (by omega)];exact hs.h k hk
def Sv.sub(s:Sv)(c lo hi:Nat):Sv:=⟨s.nil,s.b,if s.cap=lo then s.o else s.o+lo*c,hi -lo,s.cap -lo,s.sp⟩
theorem Sv.Ok.sub{lo hi:Nat}(h:s.Ok)(h2:hi<=s.cap)(h3:hi<=s.len):(s.sub c lo hi).Ok:=
  ⟨fun hn=>by have:=h.nil hn;simp only[Sv.sub];omega,by simp only[Sv.sub];omega,by have:=h.bd;simp only[Sv.sub];omega,fun hc=>h.sp (by simp only[Sv.sub]at hc;omega)⟩
theorem bI.sub{h:Nat->Option Obj}(r:bI enc c h s xs){lo hi:Nat}(h1:lo<=hi)(h2:hi<=xs.length):bI enc c h (s.sub c lo hi) ((xs.drop lo).take (hi -lo)):=by
  have hl:=r.len;have hc:=r.ok.le;refine⟨r.ok.sub (by omega) (by omega),by simp[Sv.sub];omega,fun i x nY j hj=>?_⟩;have aW:i<hi -lo:=by
    have:=(List.getElem?_eq_some_iff.1 nY).1;simp at this;omega
  rw[List.getElem?_take,if_pos aW,List.getElem?_drop]at nY;have:=r.row (lo+i) x nY j hj;rw[←this];have e:(s.sub c lo hi).o=s.o+lo*c:=by
    simp only[Sv.sub];rw[if_neg (by omega)]
  rw[e,show(s.sub c lo hi).b=s.b from rfl];congr 1;rw[Nat.add_mul];omega
theorem Holds.sub(r:Holds w0 L enc c s xs){lo hi:Nat}(h1:lo<=hi)(h2:hi<=xs.length):Holds w0 L enc c (s.sub c lo hi) ((xs.drop lo).take (hi -lo)):=fun w hw=>(r w hw).sub h1 h2
theorem wm{t e:TypeId}(hu:P.underlying t=some (.slice e)):P.elem t=e:=by simp[Program.elem,hu]
theorem DT{lo hi:Nat}(hs:s.Ok)(h2:lo<=hi)(h:hi<=s.cap): ∀a len cap,s.val= .slice a len cap->len=s.len/\cap=s.cap/\sliced a lo hi cap c=(s.sub c lo hi).val:=by
  intro a len cap e
  cases hn:s.nil with
  |true=>
   rw[Sv.pY hn]at e;obtain⟨rfl,rfl,rfl⟩:=by simpa using e
   have:=hs.nil hn;have e2:(s.sub c lo hi).nil=true:=hn;rw[Sv.pY e2];have:lo=0:=by omega
   have:hi=0:=by omega
   subst lo hi;exact⟨by omega,by omega,by simp[sliced]⟩
  |false=>
   rw[Sv.fX hn]at e;obtain⟨rfl,rfl,rfl⟩:=by simpa using e
   have e2:(s.sub c lo hi).nil=false:=hn;rw[Sv.fX e2];refine⟨rfl,rfl,?_⟩;simp only[sliced,Sv.sub]
   by_cases hc:s.cap=lo
   ·simp[hc]
   ·have ft:=hs.sp (by omega)
    simp[hc,ft,Addr.fm]
theorem Sv.ex(s:Sv): ∃ad len cap,s.val= .slice ad len cap:=by unfold Sv.val;split<;>exact⟨_,_,_,rfl⟩
theorem AX{t e:TypeId}{x lo hi:Operand}{m l h:Nat}{k k':IntKind}{il ih:Int}[ht:dA P t e m](hx:ev env x=some s.val)(hl:ev env lo=some (.int k il))(hh:ev env hi=some (.int k' ih))(el:il=(l:Int))(eh:ih=(h:Int))(hs:s.Ok)(h1:l≤h)(h2:h≤s.cap):
    Ry P N w0 env L ⟨d, .slice t x (some lo) (some hi) none,ty,ps,af,gd⟩ (s.sub m l h).val:=fun a w ha _=>by
  subst el eh;have ee:=wm ht.dB;have hu:P.underlying t=some (.slice (P.elem t)):=by rw[ee];exact ht.dB
  obtain⟨ad,len,cap,lP⟩:=s.ex;obtain⟨e1,e2,e3⟩:=DT (c:=m) hs h1 h2 ad len cap lP;have hr:=run_slice_lh (P:=P) (w:=w) t ad len cap hu k k' (l:Int) (h:Int) (by omega) (by omega) (by omega);rw[ee,jL w ht.size]at hr;simp only[Result.andThen,Int.toNat_natCast,e3]at hr;simp only[execOp,ha.ev hx,ha.ev hl,ha.ev hh,lP,Option.map_some,Option.map_none,run_sliceAt_slice (h:=hu),hr,Sem.run_bind,Result.andThen,Sem.run_pure]
theorem sU{t e:TypeId}{x hi:Operand}{m h:Nat}{k':IntKind}{ih:Int}[ht:dA P t e m](hx:ev env x=some s.val)(hh:ev env hi=some (.int k' ih))(eh:ih=(h:Int))(hs:s.Ok)(h2:h≤s.cap):
    Ry P N w0 env L ⟨d, .slice t x none (some hi) none,ty,ps,af,gd⟩ (s.sub m 0 h).val:=fun a w ha _=>by
  subst eh;have ee:=wm ht.dB;have hu:P.underlying t=some (.slice (P.elem t)):=by rw[ee];exact ht.dB
  obtain⟨ad,len,cap,lP⟩:=s.ex;obtain⟨e1,e2,e3⟩:=DT (c:=m) hs (Nat.zero_le h) h2 ad len cap lP;have hr:=run_slice_h (P:=P) (w:=w) t ad len cap hu k' (h:Int) (by omega) (by omega);rw[ee,jL w ht.size]at hr;simp only[Result.andThen,Int.toNat_natCast,e3]at hr;simp only[execOp,ha.ev hx,ha.ev hh,lP,Option.map_some,Option.map_none,run_sliceAt_slice (h:=hu),hr,Sem.run_bind,Result.andThen,Sem.run_pure]
theorem p0{t e:TypeId}{x lo:Operand}{m l n:Nat}{k:IntKind}{il:Int}[ht:dA P t e m](hx:ev env x=some s.val)(hl:ev env lo=some (.int k il))(el:il=(l:Int))(hs:s.Ok)(hn:s.len=n)(h1:l≤n):
    Ry P N w0 env L ⟨d, .slice t x (some lo) none none,ty,ps,af,gd⟩ (s.sub m l n).val:=fun a w ha _=>by
  subst el hn;have ee:=wm ht.dB;have hu:P.underlying t=some (.slice (P.elem t)):=by rw[ee];exact ht.dB
  obtain⟨ad,len,cap,lP⟩:=s.ex;obtain⟨e1,e2,e3⟩:=DT (c:=m) hs h1 hs.le ad len cap lP;have hle:=hs.le;have hr:=run_slice_l (P:=P) (w:=w) t ad len cap hu k (l:Int) (by omega) (by omega);rw[ee,jL w ht.size]at hr;simp only[Result.andThen,Int.toNat_natCast,e1]at hr;rw[e1]at lP;rw[e3]at hr;simp only[execOp,ha.ev hx,ha.ev hl,lP,Option.map_some,Option.map_none,run_sliceAt_slice (h:=hu),hr,Sem.run_bind,Result.andThen,Sem.run_pure]
end
theorem set_perm(x:ah): ∀(L:List ah) (i:Nat),i<L.length->(x::L.eraseIdx i).Perm (L.set i x)
  |[],_,h=>by simp at h
  |_::_,0,_=>by simp
  |a::L,i+1,h=>by
   simp only[List.eraseIdx_cons_succ,List.set_cons_succ];exact(List.Perm.swap a x _).trans ((set_perm x L i (by simpa using h)).cons a)
theorem Mem.swap{w w':World}{E:ah}(h:Mem w0 L w){i:Nat}(hi:i<L.length)(h':Mem w [E] w'):Mem w0 (L.set i E) w':=
  ((h.call h').sub (L':=E::L.eraseIdx i) ((List.eraseIdx_sublist L i).cons_cons E)).perm (set_perm E L i hi)
theorem At.lt{L:List ah}{e:ah}{i:Nat}(h:L[i]? =some e):i<L.length:=(List.getElem?_eq_some_iff.1 h).1
class dH(P:Program)(t:TypeId)(e:outParam TypeId)(c:outParam Nat)(cn:outParam Nat):Prop where
  dB:P.underlying t=some (.slice e)
  row:(P.info? e).map (fun i=>(i.zero.map (·.cells.size),i.size,i.bytes))=some (some c,c,cn)
theorem dH.info{P:Program}{t e:TypeId}{c cn:Nat}(h:dH P t e c cn): ∃i z,P.info? e=some i/\i.zero=some z/\i.size=c/\i.bytes=cn/\z.cells.size=c:=by
  have h:=h.row
  cases hi:P.info? e with
  |none=>simp[hi]at h
  |some i=>
   cases hz:i.zero with
   |none=>simp[hi,hz]at h
   |some z=>simp[hi,hz]at h;exact⟨i,z,rfl,hz,h.2.1,h.2.2,h.1⟩
theorem q7{cs vs:Array Value}{o j:Nat}(ho:o+vs.size<=cs.size):(over cs o vs)[j]? =if o<=j/\j<o+vs.size then vs[j -o]?else cs[j]? :=by
  unfold over;simp only[List.getElem?_toArray];rw[List.append_assoc,List.getElem?_append];have e1:(List.take o cs.toList).length=o:=by simp;omega
  rw[e1]
  by_cases h1:j<o
  ·rw[if_pos h1,if_neg (by omega),List.getElem?_take,if_pos h1];simp
  ·rw[if_neg h1,List.getElem?_append]
   by_cases h2:j -o<vs.toList.length
   ·rw[if_pos h2,if_pos (by simp at h2;omega)];simp
   ·rw[if_neg h2,if_neg (by simp at h2;omega),List.getElem?_drop]
    simp at h2⊢;congr 1;omega
theorem lQ{cs vs:Array Value}{o:Nat}(ho:o+vs.size<=cs.size):(over cs o vs).size=cs.size:=by
  simp[over];omega
theorem yE{P:Program}(g o:Nat)(t:TypeId)(fz:Nat×Nat): ∀(vs:List Value) (i:Nat) (cur:Array Value) (w:World),w.heap[g]? =some (.cells cur t fz)→DO cur.size fz→o+i+vs.length≤cur.size→(∀v∈vs,v.oneCell'=true)→
    (storeCells ⟨g,o,none⟩ vs i).run P w= .ok () (w.setRow g (cur.toList.take (o+i)++vs++cur.toList.drop (o+i+vs.length)).toArray)
  |[],i,cur,w,hg,_,_,_=>by
   simp only[storeCells,List.append_nil,List.length_nil,Nat.add_zero,List.take_append_drop,Array.toArray_toList];rw[setRow_self w g cur t fz hg];rfl
  |v::rest,i,cur,w,hg,hf,hl,h1=>by
   have hi:o+i<cur.size:=by simp at hl;omega
   have PD:(⟨g,o,none⟩:Addr).add i=⟨g,o+i,none⟩:=by unfold Addr.add;split<;>simp_all
   have PE:w.cell? ⟨g,o+i,none⟩=some cur[o+i]:=by simp[World.cell?,hg,hi]
   have PF:w.frozen? ⟨g,o+i,none⟩=false:=by
      have:=hf (o+i) hi;obtain⟨a,b⟩:=fz;simp only[World.frozen?,hg];simp only[Bool.and_eq_false_iff,decide_eq_false_iff_not];omega
   have bk:(store ((⟨g,o,none⟩:Addr).add i) v).run P w= .ok () (w.setRow g (cur.setIfInBounds (o+i) v)):=by
      rw[PD,run_store P w _ v _ (h1 v (by simp)),PE];simp[PF,setCell_eq_setRow w g (o+i) cur t fz v hg]
   have ih:=yE (P:=P) g o t fz rest (i+1) (cur.setIfInBounds (o+i) v) (w.setRow g (cur.setIfInBounds (o+i) v)) (setRow_heap w g cur _ t _ hg) (by simpa using hf) (by simp at hl⊢;omega) (fun x hx=>h1 x (by simp[hx]));simp only[storeCells,Sem.run_bind,bk,Result.andThen_ok,ih,setRow_setRow];congr 3;have e:=list_seg_step cur.toList (o+i) v rest (by simp at hl⊢;omega);simpa[Array.toList_setIfInBounds,Nat.add_assoc]using e
section
variable {α:Type} {enc:α->Array Value} {c:Nat}
def aF(enc:α->Array Value)(xs:List α):List Value:=xs.flatMap fun x=>(enc x).toList
theorem fM[he:bc enc c]: ∀xs:List α,(aF enc xs).length=xs.length*c
  |[]=>by simp[aF]
  |x::xs=>by
   have:=fM xs;simp only[aF,List.flatMap_cons,List.length_append]at this⊢;rw[this,Array.length_toList,he.size,List.length_cons,Nat.add_mul];omega
theorem lR[he:bc enc c]: ∀(xs:List α) (i:Nat) (x:α),xs[i]? =some x-> ∀j,j<c->(aF enc xs)[i*c+j]? =(enc x)[j]?
  |[],i,x,h,_,_=>by simp at h
  |y::xs,0,x,h,j,hj=>by
   obtain rfl:y=x:=by simpa using h
   simp only[aF,List.flatMap_cons,Nat.zero_mul,Nat.zero_add];rw[List.getElem?_append_left (by rw[Array.length_toList,he.size];exact hj)];simp
  |y::xs,i+1,x,h,j,hj=>by
   have:=lR xs i x (by simpa using h) j hj;simp only[aF,List.flatMap_cons]at this⊢;rw[List.getElem?_append_right (by rw[Array.length_toList,he.size,Nat.add_mul];omega),Array.length_toList,he.size];rw[←this];congr 1;rw[Nat.add_mul];omega
theorem AY(hc:0<c)[he:bc enc c]{xs:List α}{k:Nat}{v:Value}(h:(aF enc xs)[k]? =some v): ∃x,xs[k/c]? =some x/\(enc x)[k%c]? =some v:=by
  have hk:k<xs.length*c:=by
    have:=(List.getElem?_eq_some_iff.1 h).1;rwa [fM]at this
  have hd:k/c<xs.length:=Nat.div_lt_of_lt_mul (by rwa [Nat.mul_comm]);refine⟨xs[k/c],by simp[hd],?_⟩;rw[←lR xs (k/c) xs[k/c] (by simp[hd]) (k%c) (Nat.mod_lt _ hc),←h];congr 1;rw[Nat.mul_comm];exact Nat.div_add_mod k c
theorem sV[he:bc enc c](xs:List α): ∀u∈aF enc xs,u.oneCell'=true:=fun u hu=>by
  obtain⟨x,_,hx⟩:=List.mem_flatMap.1 hu;exact(Array.all_eq_true_iff_forall_mem.1 (he.one x)) u (by simpa using hx)
theorem sW{h:Nat→Option Obj}{s:Sv}{xs:List α}{cs:Array Value}{T:TypeId}{fz:Nat×Nat}(ok:s.Ok)(hl:s.len=xs.length)(hb:h s.b=some (.cells cs T fz))
    (hc: ∀i x,xs[i]? =some x-> ∀j,j<c->cs[s.o+i*c+j]? =(enc x)[j]?):bI enc c h s xs:=
  ⟨ok,hl,fun i x hi j hj=>by unfold lO;rw[hb];exact hc i x hi j hj⟩
theorem gM{P:Program}{tx e':TypeId}(hk:P.underlying tx=some (.slice e'))(hc:0<c)[he:bc enc c]{w:World}{s:Sv}{xs:List α}(r:bI enc c (hp w) s xs):Src P c tx s.val xs.length (aF enc xs) w:=by
  cases hn:s.nil with
  |true=>
   have:xs=[]:=by have:=(r.ok.nil hn).1;rw[r.len]at this;exact List.length_eq_zero_iff.1 this
   subst this;rw[Sv.pY hn];exact Src.ofNil w hk 0
  |false=>
   rw[Sv.fX hn,r.len];refine Src.ofSlice w hk _ _ _ _ (fM xs) (fun j u hu=>?_) (sV xs);obtain⟨x,hx,DU⟩:=AY hc hu;have ft:=r.ok.sp (by have h1:=Nat.lt_of_le_of_lt (Nat.zero_le _) (List.getElem?_eq_some_iff.1 hx).1;have:=r.len;have:=r.ok.le;omega);rw[ft,Addr.fm,pZ,←DU,←r.row _ x hx (j%c) (Nat.mod_lt _ hc)];congr 1;have:=Nat.div_add_mod j c;rw[Nat.mul_comm]at this;omega
theorem DV{P:Program}{t tx ty e:TypeId}{cn:Nat}(ht:dH P t e c cn)(hc:0<c)[he:bc enc c]{w0 w:World}{L:List ah}{i:Nat}{s:Sv}{xs ys:List α}{x:Value}
    (hw:Mem w0 L w) (hi:L[i]? =some (own enc c s xs)) (hs:Src P c tx x ys.length (aF enc ys) w) (hb:(xs.length+ys.length)*cn<=140737488355328) (gN:xs.length+ys.length<=140737488355328):
    ∃s' w',(Builtin.append_ #[t,tx] ty #[s.val,x]).run P w= .ok (Sv.val s') w'/\s'.Ok/\s'.len=(xs++ys).length/\Mem w0 (L.set i (own enc c s' (xs++ys))) w':=by
  obtain⟨r,lS⟩:=hw.get hi;obtain⟨i',z,aT,az,ba,ck,kU⟩:=ht.info;subst ba ck;have hlen:=r.len;have hle:=r.ok.le
  have grow:s.cap<s.len+ys.length→ ∀(base:Option Addr),s.val= .slice base s.len s.cap→(Builtin.firstCells i'.size s.len (.slice base s.len s.cap)).run P w.drew= .ok (aF enc xs).toArray w.drew→
      ∃s' w',(Builtin.append_ #[t,tx] ty #[s.val,x]).run P w= .ok (Sv.val s') w'/\s'.Ok/\s'.len=(xs++ys).length/\Mem w0 (L.set i (own enc i'.size s' (xs++ys))) w':=by
    intro hg base hv hold;have uG:=nextslicecap_le hg;have gE:Builtin.nextslicecap (s.len+ys.length) s.cap*i'.bytes<=281474976710656:=by
      have h2:Builtin.nextslicecap (s.len+ys.length) s.cap*i'.bytes<=2*(s.len+ys.length)*i'.bytes:=Nat.mul_le_mul_right _ uG;rw[Nat.mul_assoc,hlen]at h2;rw[hlen];omega
    have hr:=run_append_grow_src w t tx ty e i' z ht.dB aT az base s.len s.cap (aF enc xs) hold x ys.length (aF enc ys) hs hg (by omega) gE;have p6:=grownCap_ge w (s.len+ys.length) s.cap e;generalize grownCap w (s.len+ys.length) s.cap e=C at hr p6;refine⟨⟨false,w.heap.size,0,s.len+ys.length,C,none⟩,_,by rw[hv,hr];rfl,⟨(fun h=>by cases h),p6,by simp only;omega,fun _=>rfl⟩,by simp[hlen],hw.swap (At.lt hi) ?_⟩;have hm:=(Mem.init w).drew.alloc ((aF enc xs++aF enc ys).toArray++Builtin.zeroCells z.cells (C -(s.len+ys.length))) e;refine⟨hm.below,fun q hq=>?_,fun q hq k hk=>?_,by simp⟩
    ·obtain rfl:=List.mem_singleton.1 hq
     have eI:hp (w.drew.alloc (.cells ((aF enc xs++aF enc ys).toArray++Builtin.zeroCells z.cells (C -(s.len+ys.length))) e)) w.heap.size=some (.cells ((aF enc xs++aF enc ys).toArray++Builtin.zeroCells z.cells (C -(s.len+ys.length))) e (0,0)):=Below.As w.drew _;have dC:aF enc xs++aF enc ys=aF enc (xs++ys):=by simp[aF]
     rw[dC]at eI;rw[dC];have dW:(aF enc (xs++ys)).length=(xs.length+ys.length)*i'.size:=by rw[fM];simp
     refine⟨sW (enc:=enc) (c:=i'.size) (xs:=xs++ys) ⟨(fun h=>by cases h),p6,by simp only;omega,fun _=>rfl⟩ (by simp[hlen]) eI fun k y hy j hj=>?_,fun _=>⟨rfl,_,_,_,eI,?_,DP _,fun _=>rfl⟩⟩
     ·have uH:=lR (enc:=enc) (xs++ys) k y hy j hj
      have aW:k*i'.size+j<(aF enc (xs++ys)).length:=by
          rw[dW];have h1:=(List.getElem?_eq_some_iff.1 hy).1;rw[List.length_append]at h1
          calc k*i'.size+j<k*i'.size+i'.size:=by omega
            _=(k+1)*i'.size:=by rw[Nat.add_mul];omega
            _<=_:=Nat.mul_le_mul_right _ h1
      simp only[Nat.zero_add];rw[←uH,Array.getElem?_append_left (by simpa using aW)];simp
     ·have h3:=size_zeroCells z.cells (C -(s.len+ys.length))
      rw[kU]at h3;simp only[Array.size_append,List.size_toArray,h3,dW,Nat.zero_add];rw[←Nat.add_mul,hlen];refine Nat.mul_le_mul_right _ ?_;omega
    ·obtain rfl:=List.mem_singleton.1 hq
     obtain rfl:k=w.heap.size:=hk.2;simp
  cases hn:s.nil with
  |true=>
   have h0:=r.ok.nil hn;have dn:xs=[]:=by rw[hlen]at h0;exact List.length_eq_zero_iff.1 h0.1
   subst dn
   by_cases hy:ys.length=0
   ·have uI:ys=[]:=List.length_eq_zero_iff.1 hy
    subst uI;refine⟨s,w,?_,r.ok,by simpa using hlen,?_⟩
    ·rw[Sv.pY hn]
     have p8:=hs.cells;simp only[List.length_nil]at p8;rcases hs.kind with⟨e',hk⟩|hk<;>simp[Builtin.append_,run_underlying ht.dB,run_underlying hk,sizeOf,typeInfo,aT,hs.len,p8]
    ·have:L.set i (own enc i'.size s ([]++[]))=L:=by
          rw[List.append_nil];refine List.ext_getElem? fun k=>?_;rw[List.getElem?_set]
          by_cases hk:i=k
          ·subst hk;rw[if_pos rfl,hi,if_pos (At.lt hi)]
          ·rw[if_neg hk]
     rw[this];exact hw
   ·refine grow (by omega) .none (by rw[Sv.pY hn,h0.1,h0.2]) ?_
    rw[h0.1,h0.2];exact run_firstCells_none w.drew _ _ _ _
  |false=>
   obtain⟨ft,cs,T,fz,eI,dW,kv,kV⟩:=lS hn
   by_cases lT:s.len+ys.length<=s.cap
   ·have hmul:(s.len+ys.length)*i'.size<=s.cap*i'.size:=Nat.mul_le_mul_right _ lT
    have dC:(aF enc ys).length=ys.length*i'.size:=fM ys
    have gE:s.o+s.len*i'.size+(aF enc ys).toArray.size≤cs.size:=by
        rw[List.size_toArray,dC];rw[Nat.add_mul]at hmul;omega
    have bk:=yE (P:=P) s.b (s.o+s.len*i'.size) T fz (aF enc ys) 0 cs w eI kv (by simpa using gE) hs.one
    have yF:(storeCells ⟨s.b,s.o+s.len*i'.size,none⟩ (aF enc ys)).run P w= .ok () (w.setRow s.b (over cs (s.o+s.len*i'.size) (aF enc ys).toArray)):=by
        simpa[over]using bk
    refine⟨{s with len:=s.len+ys.length},w.setRow s.b (over cs (s.o+s.len*i'.size) (aF enc ys).toArray),?_,⟨(fun h=>by rw[hn]at h;cases h),lT,by simp only;omega,r.ok.sp⟩,by simp[hlen],?_⟩
    ·have jN:({s with len:=s.len+ys.length}:Sv).val= .slice (some ⟨s.b,s.o,s.sp⟩) (s.len+ys.length) s.cap:=Sv.fX (s:={s with len:=s.len+ys.length}) hn
     rw[Sv.fX hn,jN,ft];rcases hs.kind with⟨e',hk⟩|hk<;>simp[Builtin.append_,run_underlying ht.dB,run_underlying hk,sizeOf,typeInfo,aT,hs.len,lT,hs.cells,Addr.fm,yF]
    ·have cH:hp (w.setRow s.b (over cs (s.o+s.len*i'.size) (aF enc ys).toArray)) s.b=some (.cells (over cs (s.o+s.len*i'.size) (aF enc ys).toArray) T fz):=setRow_heap w s.b cs _ T fz eI
     refine hw.change hi (fun k hk=>hk) (fun k hk=>?_) (by simp[World.setRow]) ⟨rfl,rfl,rfl⟩ ⟨sW ⟨(fun h=>by rw[hn]at h;cases h),lT,by simp only;omega,r.ok.sp⟩ (by simp[hlen]) cH fun k y hy j hj=>?_,fun _=>⟨ft,_,_,_,cH,?_,by rw[lQ gE];exact kv,kV⟩⟩
     ·exact setRow_other w s.b k _ (fun e=>hk ⟨hn,e⟩)
     ·rw[q7 gE]
      by_cases hk:k<xs.length
      ·rw[if_neg,←r.row k y (by rw[List.getElem?_append_left hk]at hy;exact hy) j hj]
       ·unfold lO;rw[eI]
       ·have:(k+1)*i'.size<=s.len*i'.size:=Nat.mul_le_mul_right _ (by omega)
        rw[Nat.add_mul]at this;intro h;have:=h.1;simp only at this;omega
      ·rw[List.getElem?_append_right (by omega)]at hy
       have uH:=lR (enc:=enc) ys (k -xs.length) y hy j hj;have sX:s.len*i'.size+(k -xs.length)*i'.size=k*i'.size:=by rw[←Nat.add_mul];congr 1;omega
       have aW:(k -xs.length+1)*i'.size<=ys.length*i'.size:=Nat.mul_le_mul_right _ (by have:=(List.getElem?_eq_some_iff.1 hy).1;omega);rw[Nat.add_mul]at aW;rw[if_pos ⟨by simp only;omega,by rw[List.size_toArray,dC];simp only;omega⟩,←uH];simp only[List.getElem?_toArray];congr 1;omega
     ·rw[lQ gE];exact dW
   ·refine grow (by omega) _ (by rw[Sv.fX hn,ft]) ?_
    refine run_firstCells_some w.drew _ _ _ _ _ _ (by rw[fM,hlen]) fun j u hu=>?_;obtain⟨y,hy,DU⟩:=AY hc hu;have:=r.row _ y hy (j%i'.size) (Nat.mod_lt _ hc);rw[DU]at this;rw[Addr.fm];show w.cell? _=_;rw[pZ,←this];congr 1;have h9:=Nat.div_add_mod j i'.size;rw[Nat.mul_comm]at h9;omega
theorem IF(off:Nat): ∀(vs:List Value) (k:Nat) (cs:Array Value),off+k+vs.length≤cs.size→
    (vs.zipIdx k).foldl (fun cs (p:Value×Nat)=>cs.setIfInBounds (off+p.2) p.1) cs=(cs.toList.take (off+k)++vs++cs.toList.drop (off+k+vs.length)).toArray
  |[],k,cs,_=>by simp
  |v::vs,k,cs,h=>by
   simp only[List.zipIdx_cons,List.foldl_cons,List.length_cons]at h⊢;rw[IF off vs (k+1) _ (by simp;omega)];apply Array.ext';have e1:(cs.setIfInBounds (off+k) v).toList=cs.toList.set (off+k) v:=by simp
   rw[e1];have aW:off+k<cs.toList.length:=by simp;omega
   have e2:(cs.toList.set (off+k) v).take (off+(k+1))=cs.toList.take (off+k)++[v]:=by
      rw[←Nat.add_assoc,List.take_add_one,List.take_set_of_le (Nat.le_refl _),List.getElem?_set_self aW];rfl
   have e3:(cs.toList.set (off+k) v).drop (off+(k+1)+vs.length)=cs.toList.drop (off+k+(vs.length+1)):=by
      rw[List.drop_set_of_lt (by omega)];congr 1;omega
   rw[e2,e3];simp
def idx(vals:List Value)(i:Nat):List (Nat×Value):=(vals.zipIdx i).map fun p=>(p.2,p.1)
theorem IG[he:bc enc c]: ∀(xs:List α) (vals:List Value) (i:Nat) (cs:Array Value),vals.map Value.cells=xs.map enc→i*c+xs.length*c≤cs.size→
    Instr.fill (fun i=>some (i*c,c)) cs (idx vals i)=some (cs.toList.take (i*c)++aF enc xs++cs.toList.drop (i*c+xs.length*c)).toArray
  |[],[],i,cs,_,_=>by simp[idx,Instr.fill,aF]
  |[],_::_,_,_,h,_=>by simp at h
  |_::_,[],_,_,h,_=>by simp at h
  |x::xs,v::vals,i,cs,h,hs=>by
   simp only[List.map_cons,List.cons.injEq]at h;obtain⟨h1,h2⟩:=h;have dW:v.cells.size=c:=by rw[h1];exact he.size x
   rw[List.length_cons,Nat.add_mul,Nat.one_mul]at hs;simp only[idx,List.zipIdx_cons,List.map_cons,Instr.fill,dW];rw[if_neg (by simp;omega)]
   have ef:v.cells.zipIdx.foldl (fun cs (p:Value×Nat)=>cs.setIfInBounds (i*c+p.2) p.1) cs=(cs.toList.take (i*c)++v.cells.toList++cs.toList.drop (i*c+c)).toArray:=by
      have:=IF (i*c) v.cells.toList 0 cs (by simp;omega);simp only[Nat.add_zero]at this;rw[←Array.foldl_toList,Array.toList_zipIdx,this];simp[dW]
   have PG:(v.cells.zipIdx.foldl (fun cs (x:Value×Nat)=>match x with|(c',j)=>cs.setIfInBounds (i*c+j) c') cs)=(cs.toList.take (i*c)++v.cells.toList++cs.toList.drop (i*c+c)).toArray:=ef
   rw[PG];have qa:(cs.toList.take (i*c)++v.cells.toList).length=(i+1)*c:=by simp[dW,Nat.add_mul];omega
   have:=IG xs vals (i+1) (cs.toList.take (i*c)++v.cells.toList++cs.toList.drop (i*c+c)).toArray h2 (by simp[dW,Nat.add_mul];omega);unfold idx at this;rw[this];congr 1;apply Array.ext';rw[List.take_left' qa,←List.drop_drop (j:=(i+1)*c) (i:=xs.length*c),List.drop_left' qa];simp only[aF,List.flatMap_cons,h1,List.append_assoc,List.append_cancel_left_eq];rw[List.drop_drop,List.length_cons,show i*c+c+xs.length*c=i*c+(xs.length+1)*c by rw[Nat.add_mul];omega]
end
section
variable {P:Program} {N:bW} {w0:World} {env:Env} {L:List ah} {l:List Oper} {Q:Exit->Act->World->Prop} {rest:List Oper} {d:Option Tmp} {ty:TypeId} {ps:String} {af:Array Edge}
variable {α:Type} {enc:α->Array Value} {c:Nat} {s:Sv} {xs ys:List α}
class dN(L:List ah)(s:Sv){α:outParam Type}(enc:outParam (α->Array Value))(c:outParam Nat)(xs:outParam (List α))(i:outParam Nat):Prop where
  h:L[i]? =some (own enc c s xs)
instance (priority:=high) dN.here {L:List ah}:dN (own enc c s xs::L) s enc c xs 0:=⟨rfl⟩
instance dN.there{L:List ah}{e:ah}{i:Nat}[q:dN L s enc c xs i]:dN (e::L) s enc c xs (i+1):=⟨by simpa using q.h⟩
theorem dN.holds{i:Nat}(q:dN L s enc c xs i):Holds w0 L enc c s xs:=fun _ hw=>(hw.get q.h).1
theorem Mem.cR{w:World}(enc:α->Array Value)(c:Nat)(h:Mem w0 L w):Mem w0 (own enc c Sv.none []::L) w:=
  h.call (E:=[own enc c Sv.none []]) ⟨Below.refl _ _,fun e he=>by
    obtain rfl:=List.mem_singleton.1 he;exact⟨bI.nil enc c _,(fun h=>by cases h)⟩,fun e he k hk=>by
    obtain rfl:=List.mem_singleton.1 he;exact absurd hk.1 (by simp[Sv.none]),by simp⟩
theorem iS{t tx e:TypeId}{x y:Operand}{yv:Value}{cn i:Nat}[ht:dH P t e c cn][he:bc enc c](hx:ev env x=some s.val)(hy:ev env y=some yv)[q:dN L s enc c xs i](hc:0<c)
    (hs: ∀w,Mem w0 L w->Src P c tx yv ys.length (aF enc ys) w) (hb:(xs.length+ys.length)*cn<=140737488355328) (gN:xs.length+ys.length<=140737488355328) {L':Sv->List ah} [hu: ∀s',dX L i (own enc c s' (xs++ys)) (L' s')]
    (hk: ∀s':Sv,s'.Ok->s'.len=(xs++ys).length->Sq P N w0 l Q rest (cd env d s'.val) (L' s')) (hd:cO N d=true:=by rfl):
    Sq P N w0 l Q (⟨d, .call {callee:= .builtin .append,args:= #[x,y],argTypes:= #[t,tx]},ty,ps,af,none⟩::rest) env L:=
  lN rfl hd fun a w ha hw=>by
    obtain⟨s',w',h1,h2,h3,h4⟩:=DV (ty:=ty) ht hc hw q.h (hs w hw) hb gN;refine⟨s'.val,w',L' s',?_,by rw[←(hu s').h];exact h4,hk s' h2 h3⟩;simp[execOp,ha.ev hx,ha.ev hy,resolve,invoke,builtin,h1,Result.andThen]
theorem uJ{w:World}{b:Nat}{cs:Array Value}{e:TypeId}(hb:b=w.heap.size)(n cap:Nat)(hn:n=xs.length)(hle:n≤cap)(gN:n≤140737488355328)(dW:cap*c≤cs.size)(hc: ∀i x,xs[i]? =some x→ ∀j,j<c→cs[i*c+j]? =(enc x)[j]?):
    Mem w [own enc c ⟨false,b,0,n,cap,none⟩ xs] (w.alloc (.cells cs e)):=by
  subst hb;have hm:=(Mem.init w).alloc cs e;have eI:hp (w.alloc (.cells cs e)) w.heap.size=some (.cells cs e (0,0)):=Below.As w _;refine⟨hm.below,fun q hq=>?_,fun q hq k hk=>?_,by simp⟩
  ·obtain rfl:=List.mem_singleton.1 hq
   exact⟨sW ⟨(fun h=>by cases h),hle,gN,fun _=>rfl⟩ hn eI (by simpa using hc),fun _=>⟨rfl,_,_,_,eI,by simpa using dW,DP _,fun _=>rfl⟩⟩
  ·obtain rfl:=List.mem_singleton.1 hq
   obtain rfl:k=w.heap.size:=hk.2;simp
theorem DW{n c:Nat}(h0:0<n*c)(h:n*c<=16777216):n<=140737488355328:=by
  have:n*1≤n*c:=Nat.mul_le_mul_left _ (by rcases Nat.eq_zero_or_pos c with rfl|h';·simp at h0
                                          ·exact h')
  omega
theorem DX{t e:TypeId}{cn:Nat}(ht:dH P t e c cn)[he:bc enc c]{vals:List Value}(hv:vals.map Value.cells=xs.map enc)(hc:0<xs.length*c)(q8:xs.length*c≤16777216)(w:World):
    (Instr.buildSlice t xs.length (idx vals 0).toArray).run P w= .ok (.slice (some ⟨w.heap.size,0,none⟩) xs.length xs.length) (w.alloc (.cells (aF enc xs).toArray e)):=by
  obtain⟨i',z,aT,az,ba,ck,kU⟩:=ht.info;subst ba;have hf:=IG (enc:=enc) (c:=i'.size) xs vals 0 ((Array.range (xs.length*i'.size)).map (z.cells[· %z.cells.size]!)) hv (by simp);have PH:((Array.range (xs.length*i'.size)).map (z.cells[· %z.cells.size]!)).toList.drop (0*i'.size+xs.length*i'.size)=[]:=by simp
  rw[PH]at hf;simp only[Nat.zero_mul,List.take_zero,List.nil_append,List.append_nil]at hf;have n1: ¬xs.length*i'.size>2^24:=by omega
  have n2: ¬xs.length*i'.size=0:=by omega
  simp[Instr.buildSlice,run_underlying ht.dB,sizeOf,typeInfo,zeroValue,aT,az,n1,n2,hf,newRow,newObj,Sem.run,Result.andThen]
theorem kx{t e:TypeId}{cn n:Nat}[ht:dH P t e c cn][he:bc enc c]{ops:List (Nat×Operand)}{vals:List Value}(xs:List α)(hx:jM env ops=some (idx vals 0))(hv:vals.map Value.cells=xs.map enc)(hn:xs.length=n)(hc:0<n*c)(q8:n*c≤16777216)
    (hk: ∀b,Sq P N w0 l Q rest (cd env d (Sv.val ⟨false,b,0,n,n,none⟩)) (own enc c ⟨false,b,0,n,n,none⟩ xs::L)) (hd:cO N d=true:=by rfl):
    Sq P N w0 l Q (⟨d, .buildSlice t n ops.toArray,ty,ps,af,none⟩::rest) env L:=
  lN rfl hd fun a w ha hw=>by
    subst hn;have e1:(ops.toArray.map fun(p:Nat×Operand)=>match p with|(i,x)=>(i,a.eval x))=(idx vals 0).toArray:=by
      rw[←ha.jM hx];simp
    refine⟨_,_,_,?_,hw.call (uJ (enc:=enc) (c:=c) (xs:=xs) (cs:=(aF enc xs).toArray) (e:=e) rfl xs.length xs.length rfl (Nat.le_refl _) (DW hc q8) (by simp[fM]) fun i x hx j hj=>by rw[←lR (enc:=enc) xs i x hx j hj];simp),hk _⟩;simp only[execOp,e1,Sem.run_bind,DX ht hv hc q8 w,Result.andThen,Sem.run_pure];rfl
theorem PI{zc:Array Value}(m n:Nat)(h:zc.size=c)(i j:Nat)(hi:i<n)(hj:j<c)(hm:n*c<=m):(madeCells zc m)[i*c+j]? =zc[j]? :=by
  have aW:i*c+j<m:=by
    have:(i+1)*c<=n*c:=Nat.mul_le_mul_right _ hi;rw[Nat.add_mul]at this;omega
  have e1:(i*c+j)%zc.size=j:=by rw[h,Nat.mul_comm,Nat.mul_add_mod];exact Nat.mod_eq_of_lt hj
  have hz:j<zc.size:=by omega
  simp[madeCells,aW,e1,hz]
theorem DY{t e:TypeId}{cn n cap:Nat}{z:Value}(ht:dH P t e c cn)(hz:dj P e z){k k':IntKind}(x0:α)(h0:enc x0=z.cells)(hle:n≤cap)(hb:cn*cap≤281474976710656)(gN:cap≤140737488355328)(w:World):
    ∃w',(Instr.makeSlice t (.int k n) (.int k' cap)).run P w= .ok (Sv.val ⟨false,w.heap.size,0,n,cap,none⟩) w'/\Mem w [own enc c ⟨false,w.heap.size,0,n,cap,none⟩ (List.replicate n x0)] w':=by
  obtain⟨i',z',aT,az,ba,ck,kU⟩:=ht.info;obtain rfl:z'=z:=by
    have:=hz.zero;rw[aT,Option.map_some,az]at this;exact Option.some.inj (Option.some.inj this)
  subst ba ck;have cH:(i'.bytes:Int)*(cap:Int)<=281474976710656:=by
    have h:((i'.bytes*cap:Nat):Int)<=281474976710656:=by omega
    rwa [Int.natCast_mul]at h
  have hr:=run_make (P:=P) w t e i' _ ht.dB aT az k k' n cap (by omega) (by omega) cH (by omega);simp only[Int.toNat_natCast]at hr;refine⟨_,hr,uJ rfl n cap (by simp) hle (by omega) (by simp[size_madeCells]) fun i x hx j hj=>?_⟩;have hi:i<n:=by
    have:=(List.getElem?_eq_some_iff.1 hx).1;simpa using this
  obtain rfl:x0=x:=by rw[List.getElem?_replicate,if_pos hi]at hx;exact Option.some.inj hx
  rw[h0];exact PI _ n kU i j hi hj (Nat.mul_le_mul_right _ hle)
theorem qb{t e:TypeId}{cn n cap:Nat}{z:Value}{x y:Operand}{k k':IntKind}{ix iy:Int}[ht:dH P t e c cn][hz:dj P e z](x0:α)(h0:enc x0=z.cells)(hx:ev env x=some (.int k ix))(hy:ev env y=some (.int k' iy))(ex:ix=(n:Int))(ey:iy=(cap:Int))(hle:n≤cap)(hb:cn*cap≤281474976710656)(gN:cap≤140737488355328)
    (hk: ∀b,Sq P N w0 l Q rest (cd env d (Sv.val ⟨false,b,0,n,cap,none⟩)) (own enc c ⟨false,b,0,n,cap,none⟩ (List.replicate n x0)::L)) (hd:cO N d=true:=by rfl):
    Sq P N w0 l Q (⟨d, .makeSlice t x y,ty,ps,af,none⟩::rest) env L:=
  lN rfl hd fun a w ha hw=>by
    subst ex ey;obtain⟨w',h1,h2⟩:=DY ht hz (k:=k) (k':=k') (n:=n) x0 h0 hle hb gN w;exact⟨_,w',_,by simp only[execOp,ha.ev hx,ha.ev hy,Sem.run_bind,h1,Result.andThen,Sem.run_pure],hw.call h2,hk _⟩
theorem IH{w:World}{L':List ah}{i k j:Nat}{a a':α}{vs:Array Value}[he:bc enc c](hw:Mem w0 L w)(q:dN L s enc c xs i)(ha:xs[k]? =some a)(hv:vs.all (·.oneCell')=true)(hj:j+vs.size≤c)(oT:over (enc a) j vs=enc a')(hu:dX L i (own enc c s (xs.set k a')) L'):
    ∃w',(storeCells ⟨s.b,s.o+k*c+j,none⟩ vs.toList).run P w= .ok () w'/\Mem w0 L' w':=by
  obtain⟨r,lS⟩:=hw.get q.h;have hk:k<xs.length:=(List.getElem?_eq_some_iff.1 ha).1;have hn:=r.some hk;have hle:=r.ok.le;have hlen:=r.len;obtain⟨ft,cs,T,fz,eI,dW,kv,kV⟩:=lS hn;have hmul:(k+1)*c<=s.cap*c:=Nat.mul_le_mul_right _ (by omega);have acV:=hmul;rw[Nat.add_mul]at hmul;have gE:s.o+k*c+j+vs.size<=cs.size:=by omega
  have bk:=yE (P:=P) s.b (s.o+k*c+j) T fz vs.toList 0 cs w eI kv (by simpa using gE) (fun v jN=>(Array.all_eq_true_iff_forall_mem.1 hv) v (by simpa using jN));refine⟨w.setRow s.b (over cs (s.o+k*c+j) vs),by simpa[over]using bk,?_⟩;have cH:hp (w.setRow s.b (over cs (s.o+k*c+j) vs)) s.b=some (.cells (over cs (s.o+k*c+j) vs) T fz):=setRow_heap w s.b cs _ T fz eI;rw[←hu.h];refine hw.change q.h (fun k hk=>hk) (fun x hx=>setRow_other w s.b x _ (fun e=>hx ⟨hn,e⟩)) (by simp[World.setRow]) ⟨rfl,rfl,rfl⟩ ⟨sW r.ok (by simpa using hlen) cH fun x y hy p eB=>?_,fun _=>⟨ft,_,_,_,cH,by rw[lQ gE];exact dW,by rw[lQ gE];exact kv,kV⟩⟩;rw[q7 gE]
  by_cases II:x=k
  ·subst II
   obtain rfl:a'=y:=by rw[List.getElem?_set_self hk]at hy;exact Option.some.inj hy
   rw[←oT,q7 (by rw[he.size];exact hj)]
   by_cases h1:j<=p/\p<j+vs.size
   ·rw[if_pos h1,if_pos (by omega)];congr 1;omega
   ·rw[if_neg h1,if_neg (by omega),←r.row x a ha p eB]
    unfold lO;rw[eI]
  ·rw[List.getElem?_set_ne (by omega)]at hy
   rw[if_neg,←r.row x y hy p eB]
   ·unfold lO;rw[eI]
   ·intro h
    rcases Nat.lt_or_gt_of_ne II with h'|h'
    ·have:(x+1)*c<=k*c:=Nat.mul_le_mul_right _ h'
     rw[Nat.add_mul]at this;omega
    ·have:(k+1)*c<=x*c:=Nat.mul_le_mul_right _ h'
     rw[Nat.add_mul]at this;omega
theorem iz{t:TypeId}{x y:Operand}{i k j n p:Nat}{a a':α}{v:Value}(sz:(P.info? t).map (·.size)=some n)[he:bc enc c](hx:ev env x=some (.pointer (some ⟨s.b,p,none⟩)))(hy:ev env y=some v)[q:dN L s enc c xs i](eB:p=s.o+k*c+j)
    (ha:xs[k]? =some a) (hv:v.cells.all (·.oneCell')=true) (hn:v.cells.size=n) (hj:j+n<=c) (oT:over (enc a) j v.cells=enc a') {L':List ah} [hu:dX L i (own enc c s (xs.set k a')) L'] (hk:Sq P N w0 l Q rest env L'):
    Sq P N w0 l Q (⟨none, .store t x y,ty,ps,af,none⟩::rest) env L:=
  AP rfl rfl fun aa w yG hw=>by
    subst eB hn;obtain⟨w',h1,h2⟩:=IH (P:=P) hw q ha hv hj oT hu;refine⟨w',_,?_,h2,hk⟩;simp only[execOp,yG.ev hx,yG.ev hy,Instr.storeAt,Instr.sureAddr,storeVar,Sem.run_bind,Sem.run_pure,Result.andThen,jL w sz];simp[h1]
theorem PJ{X:Type}{val:X→Value}{L':X→List ah}{pr:X→Prop}{f:FuncId}{xs:List Operand}{ts:Array TypeId}{vs:List Value}[hf:aC P f](hx:fV env xs=some vs)
    (hc: ∀w,Mem w0 L w->Calls P f vs.toArray w fun e w'=> ∃x,e= .returned (val x)/\pr x/\Mem w0 (L' x) w') (hk: ∀x,pr x->Sq P N w0 l Q rest (cd env d (val x)) (L' x)) (hd:cO N d=true:=by rfl):
    Sq P N w0 l Q (⟨d, .call {callee:= .value (.func f),args:=xs.toArray,argTypes:=ts},ty,ps,af,none⟩::rest) env L:=fun a w ha hw=>by
  unfold wpList;rw[if_pos (oQ rfl)];refine .inl ?_;unfold Oper.wp;rw[AK hf w rfl,ha.fV hx];exact(hc w hw).mono fun e w' ⟨x,he,hp,hm⟩=>by subst he;exact hk x hp _ _ (ha.put hd _) hm
theorem iA{N:Nat}{fn:Func}{R:Ending→World→Prop}{f:FuncId}{c:Code}{args:List Value}{w:World}(hf:P.funcs[f]? =some fn)(hb:fn.body=some c)(hN:fn.ntmps=N)(hle:Nat.ble args.length N=true)(hw:Mem w0 L w)
    (h:Cw P ⟨N,[],none⟩ w0 (nV P fn R) c (args.zipIdx.map fun p=>(p.2,p.1)) L):Calls P f args.toArray w R:=
  H5 hf hb (h _ _ (by rw[hN];exact cE.enter args N (Nat.le_of_ble_eq_true hle)) hw)
theorem AZ{b n i:Nat}{cs:Array Value}{T:TypeId}[hi:Has L b cs T i][he:bc enc c](fG:cs=(aF enc xs).toArray)(hn:xs.length=n)(gN:n<=140737488355328:=by decide):Holds w0 L enc c ⟨false,b,0,n,n,none⟩ xs:=fun w hw=>by
  have hb:=hw.block hi.h;exact sW ⟨(fun h=>by cases h),Nat.le_refl _,gN,fun _=>rfl⟩ hn.symm hb fun k x hx j hj=>by
    rw[←lR (enc:=enc) xs k x hx j hj,fG];simp
def wo(tmps:Array Value)(r:ResultVar):Sem Value:=match r with
  | .tmp t=>pure (tmps.getD t undef)
  | .cell c t=>do loadVar t (←asAddr (tmps.getD c undef))
theorem DZ(fn:Func)(tmps:Array Value):results fn tmps=(do let vs←fn.results.mapM (wo tmps);pure (if h:vs.size=1 then vs[0]else .tuple vs)):=by
  have:(fun r=>wo tmps r)=(fun| .tmp t=>pure (tmps.getD t undef)| .cell a t=>do loadVar t (←asAddr (tmps.getD a undef)):ResultVar->Sem Value):=by
    funext r;cases r<;>rfl
  show _=(do let vs←fn.results.mapM (fun r=>wo tmps r);pure (if h:vs.size=1 then vs[0]else .tuple vs));rw[this];rfl
def RV(P:Program)(N:bW)(w0:World)(env:Env)(L:List ah)(r:ResultVar)(v:Value):Prop:= ∀a w,cE N env a->Mem w0 L w->(wo a.tmps r).run P w= .ok v w
theorem wq{t:Nat}{v:Value}(hv:look env t=some v):RV P N w0 env L (.tmp t) v:=fun a w ha _=>by
  have:=ha.get _ _ hv;simp[wo,this]
theorem wu{t b i n:Nat}{T T':TypeId}{cs:Array Value}(hv:look env t=some (.pointer (some ⟨b,0,none⟩)))[ht:dG P T n][hi:Has L b cs T' i][hn:eA cs n]:RV P N w0 env L (.cell t T) (.agg cs):=fun a w ha hw=>by
  have h1:=ha.get _ _ hv;have h2:(loadVar T ⟨b,0,none⟩).run P w= .ok (.agg cs) w:=DE w ht hn.h fun j _=>by rw[Addr.fm,hw.cell hi.h,Nat.zero_add]
  simp[wo,h1,asAddr,h2]
variable {fn:Func} {r1 r2 r3:ResultVar} {v1 v2 v3:Value}
theorem PK{A B:Type}(f:A->Sem B)(x y:A):(#[x,y]:Array A).mapM f=(do let a←f x;let b←f y;pure #[a,b]):=by simp
theorem PL{A B:Type}(f:A->Sem B)(x y z:A):(#[x,y,z]:Array A).mapM f=(do let a←f x;let b←f y;let c←f z;pure #[a,b,c]):=by simp
theorem IJ(hf:fn.results= #[r1])(h1:RV P N w0 env L r1 v1): ∀a w,cE N env a->Mem w0 L w->(results fn a.tmps).run P w= .ok v1 w:=fun a w ha hw=>by
  have e1:=h1 a w ha hw;rw[DZ,hf];simp[e1]
theorem PM(hf:fn.results= #[r1,r2])(h1:RV P N w0 env L r1 v1)(h2:RV P N w0 env L r2 v2): ∀a w,cE N env a->Mem w0 L w->(results fn a.tmps).run P w= .ok (.tuple #[v1,v2]) w:=fun a w ha hw=>by
  have e1:=h1 a w ha hw;have e2:=h2 a w ha hw;rw[DZ,hf,PK];simp[e1,e2]
theorem PN(hf:fn.results= #[r1,r2,r3])(h1:RV P N w0 env L r1 v1)(h2:RV P N w0 env L r2 v2)(h3:RV P N w0 env L r3 v3): ∀a w,cE N env a->Mem w0 L w->(results fn a.tmps).run P w= .ok (.tuple #[v1,v2,v3]) w:=fun a w ha hw=>by
  have e1:=h1 a w ha hw;have e2:=h2 a w ha hw;have e3:=h3 a w ha hw;rw[DZ,hf,PL];simp[e1,e2,e3]
end
def aJ(b:UInt8):Array Value:= #[.int .u8 b.toNat]
instance:bc aJ 1:=⟨fun _=>rfl,fun _=>by simp[aJ,Value.oneCell']⟩
instance (b:UInt8):bL (aJ b) 0 (.int .u8 b.toNat):=⟨rfl⟩
def qc(s:Sv):Array Value:= #[s.val]
instance:bc qc 1:=⟨fun _=>rfl,fun s=>by simp[qc,Sv.one]⟩
def b8(n:Nat):UInt8:=UInt8.ofNat n
theorem D0(n:Nat):(b8 n).toNat=n%256:=by simp[b8]
theorem PO(n:Nat):IntKind.u8.wrap (n:Int)=((b8 n).toNat:Int):=by
 rw[D0];simp[IntKind.wrap,IntKind.bits,IntKind.signed]
def be(n:Nat):Nat->List UInt8
 |0=>[]
 |k+1=>b8 (n/256^k)::be n k
theorem lU(n:Nat): ∀k,(be n k).length=k
 |0=>rfl
 |k+1=>by simp[be,lU n k]
def de(l:List UInt8):Nat:=l.foldl (fun a b=>a*256+b.toNat) 0
theorem IK{xs:List UInt8}{i:Nat}{b:UInt8}(h:xs[i]? =some b):de (xs.take (i+1))=de (xs.take i)*256+b.toNat:=by
 rw[List.take_add_one,h];simp[de]
theorem D1(xs:List UInt8): ∀i,i<=xs.length->de (xs.take i)<256^i
 |0,_=>by simp[de]
 |i+1,h=>by
  have:=D1 xs i (by omega);rw[IK (b:=xs[i]) (by simp),Nat.pow_succ];have:=xs[i].toNat_lt;omega
section
variable {P:Program} {N:bW} {w0:World} {env:Env} {L:List ah} {d:Option Tmp} {ty:TypeId} {ps:String} {af:Array Edge} {gd:Option (Nat×Bool)}
variable {x y:Operand} {k k':IntKind} {p q:Nat} {t u s:TypeId}
theorem D2{a b:Int}(hx:ev env x=some (.int k a))(hy:ev env y=some (.int k b))(ea:a=p)(eb:b=q)(hq:0<q):
  Ry P N w0 env L ⟨d, .binOp .rem t x y u,ty,ps,af,gd⟩ (.int k ((p%q:Nat):Int)):=c2 hx hy (by
 subst ea eb;rw[jK,if_neg (by omega),←Int.ofNat_tmod])
theorem PQ{a b:Int}(hx:ev env x=some (.int k a))(hy:ev env y=some (.int k b))(ea:a=p)(eb:b=q)(h:p*q<2^nb k):
  Ry P N w0 env L ⟨d, .binOp .mul t x y u,ty,ps,af,gd⟩ (.int k ((p*q:Nat):Int)):=c2 hx hy (by
 subst ea eb;rw[jK,←Int.natCast_mul,nk h])
theorem yH{n:Nat}{a:Int}[hs:kR P s k'][ht:kR P t .u8](hx:ev env x=some (.int k' a))(ea:a=n):
  Ry P N w0 env L ⟨d, .convert s t x,ty,ps,af,gd⟩ (.int .u8 (b8 n).toNat):=qY hx (by subst ea;exact PO n)
theorem PR{e:TypeId}{sv:Sv}{xs:List UInt8}(hs:P.underlying s=some (.slice e))(he:P.underlying e=some (.int .u8))(hd:P.underlying t=some .string)(hx:ev env x=some sv.val)(hR:Holds w0 L aJ 1 sv xs):
  Ry P N w0 env L ⟨d, .convert s t x,ty,ps,af,gd⟩ (.string ⟨xs.toArray⟩):=fun a w ha hw=>by
 have r:=hR w hw;have hr:(convert s t sv.val).run P w= .ok (.string ⟨xs.toArray⟩) w:=by
  cases hn:sv.nil with
  |true=>
   have:xs=[]:=by have:=(r.ok.nil hn).1;rw[r.len]at this;exact List.length_eq_zero_iff.1 this
   subst this;rw[Sv.pY hn,run_convert_bytes_string w s t e none 0 0 hs he hd];rfl
  |false=>
   rw[Sv.fX hn,r.len];refine run_convert_bytes_back w s t e _ _ xs hs he hd fun j hj=>?_;rw[r.ok.sp (by have:=r.len;have:=r.ok.le;omega)];rw[Addr.fm,pZ];have:=r.row j xs[j] (by simp) 0 (by decide);simp only[Nat.mul_one,Nat.add_zero]at this;rw[this];rfl
 simp only[execOp,ha.ev hx,Sem.run_bind,hr,Result.andThen,Sem.run_pure]
theorem PS{a b:ByteArray}(hx:ev env x=some (.string a))(hy:ev env y=some (.string b)):
  Ry P N w0 env L ⟨d, .binOp .eql t x y u,ty,ps,af,gd⟩ (.bool (a.toList==b.toList)):=fun aa w ha _=>by
 have h2:(eqGuard BinOp.eql t x y (.string a) (.string b)).run P w= .ok () w:=rfl;simp only[execOp,ha.ev hx,ha.ev hy,Sem.run_bind,h2,Result.andThen_ok,binOp_string_eql,Sem.run_pure]
end
section
variable {P:Program} {N:bW} {w0:World} {env:Env} {L:List ah} {l:List Oper} {Q:Exit->Act->World->Prop} {rest:List Oper} {d:Option Tmp} {ty:TypeId} {ps:String} {af:Array Edge}
end
def uK(b c:UInt8):UInt16:=UInt16.ofNat (b.toNat*256+c.toNat)
theorem PT(b c:UInt8):(uK b c).toNat=b.toNat*256+c.toNat:=by
 have:=b.toNat_lt;have:=c.toNat_lt;simp[uK];omega
theorem IL(p q:Nat)(h:q<256):(p*256)|||q=p*256+q:=by
 have:=Nat.two_pow_add_eq_or_of_lt (i:=8) (b:=q) (by simpa using h) p;rw[show(2^8*p)=p*256 by rw[Nat.mul_comm]]at this;exact this.symm
section
variable {P:Program} {N:bW} {w0:World} {env:Env} {L:List ah} {d:Option Tmp} {ty:TypeId} {ps:String} {af:Array Edge} {gd:Option (Nat×Bool)} {x y:Operand} {k:IntKind} {t u:TypeId}
theorem IM{b:UInt8}{k':IntKind}(hx:ev env x=some (.int k b.toNat))(hy:ev env y=some (.int k' 8))(hk:k= .u16\/k= .i64:=by decide):
  Ry P N w0 env L ⟨d, .binOp .shl t x y u,ty,ps,af,gd⟩ (.int k ((b.toNat*256:Nat):Int)):=by
 have h:=AN (P:=P) (N:=N) (w0:=w0) (L:=L) (d:=d) (ty:=ty) (ps:=ps) (af:=af) (gd:=gd) (t:=t) (u:=u) hx hy (by decide);have hb:=b.toNat_lt;have e:k.wrap ((b.toNat:Int)*2^min (Int.toNat 8) k.bits)=((b.toNat*256:Nat):Int):=by
  rcases hk with rfl|rfl<;>simp[IntKind.wrap,IntKind.bits,IntKind.signed]<;>omega
 rw[e]at h;exact h
theorem IN{b c:UInt8}(hx:ev env x=some (.int k ((b.toNat*256:Nat):Int)))(hy:ev env y=some (.int k c.toNat))(hk:k= .u16\/k= .i64:=by decide):
  Ry P N w0 env L ⟨d, .binOp .or t x y u,ty,ps,af,gd⟩ (.int k ((uK b c).toNat:Nat)):=by
 have hb:=b.toNat_lt;have hc:=c.toNat_lt;rw[PT,←IL _ _ hc];rcases hk with rfl|rfl
 ·
  exact yy hx hy rfl rfl (by simp only[nb];omega) (by simp only[nb];omega)
 ·
  exact yy hx hy rfl rfl (by simp only[nb];omega) (by simp only[nb];omega)
end
def ah.emp:ah:=⟨fun _=>False,fun _=>True,fun _ _ _ s=>s⟩
def ah.two(a b:ah):ah:=⟨fun k=>a.fp k\/b.fp k,fun h=>a.sat h/\b.sat h/\ ∀k,a.fp k-> ¬b.fp k,
  fun h h' e s=>⟨a.loc h h' (fun k hk=>e k (.inl hk)) s.1,b.loc h h' (fun k hk=>e k (.inr hk)) s.2.1,s.2.2⟩⟩
def ah.all:List ah->ah
  |[]=> .emp
  |e::r=> .two e (.all r)
theorem Mem.yI{w0 w:World}{L:List ah}:Mem w0 (.emp::L) w↔Mem w0 L w:=
  ⟨fun h=>h.sub (List.sublist_cons_self _ _),fun h=>⟨h.below,fun e he=>by
    rcases List.mem_cons.1 he with rfl|he
    ·exact trivial
    ·exact h.sat e he,fun e he k hk=>by
    rcases List.mem_cons.1 he with rfl|he
    ·exact hk.elim
    ·exact h.hM e he k hk,List.pairwise_cons.2 ⟨fun _ _ _ hk=>hk.elim,h.mA⟩⟩⟩
theorem Mem.wv{w0 w:World}{a b:ah}{L:List ah}:Mem w0 (.two a b::L) w↔Mem w0 (a::b::L) w:=by
  constructor
  ·intro h
   have hs:(a.sat fun k=>w.heap[k]?)/\(b.sat fun k=>w.heap[k]?)/\ ∀k,a.fp k-> ¬b.fp k:=h.sat (.two a b) (by simp);have hd:=List.pairwise_cons.1 h.mA;refine⟨h.below,fun e he=>?_,fun e he k hk=>?_,?_⟩
   ·rcases List.mem_cons.1 he with rfl|he
    ·exact hs.1
    ·rcases List.mem_cons.1 he with rfl|he
     ·exact hs.2.1
     ·exact h.sat e (by simp[he])
   ·rcases List.mem_cons.1 he with rfl|he
    ·exact h.hM (.two e b) (by simp) k (.inl hk)
    ·rcases List.mem_cons.1 he with rfl|he
     ·exact h.hM (.two a e) (by simp) k (.inr hk)
     ·exact h.hM e (by simp[he]) k hk
   ·refine List.pairwise_cons.2 ⟨fun x hx k hk=>?_,List.pairwise_cons.2 ⟨fun x hx k hk=>hd.1 x hx k (.inr hk),hd.2⟩⟩
    rcases List.mem_cons.1 hx with rfl|hx
    ·exact hs.2.2 k hk
    ·exact hd.1 x hx k (.inl hk)
  ·intro h
   have hd:=List.pairwise_cons.1 h.mA;have D3:=List.pairwise_cons.1 hd.2;refine⟨h.below,fun e he=>?_,fun e he k hk=>?_,List.pairwise_cons.2 ⟨fun x hx k hk=>?_,D3.2⟩⟩
   ·rcases List.mem_cons.1 he with rfl|he
    ·exact⟨h.sat a (by simp),h.sat b (by simp),fun k hk=>hd.1 b (by simp) k hk⟩
    ·exact h.sat e (by simp[he])
   ·rcases List.mem_cons.1 he with rfl|he
    ·rcases hk with hk|hk
     ·exact h.hM a (by simp) k hk
     ·exact h.hM b (by simp) k hk
    ·exact h.hM e (by simp[he]) k hk
   ·rcases hk with hk|hk
    ·exact hd.1 x (by simp[hx]) k hk
    ·exact D3.1 x hx k hk
theorem Mem.yJ{w0 w:World}: ∀(es:List ah) {L:List ah},Mem w0 (.all es::L) w↔Mem w0 (es++L) w
  |[],_=>Mem.yI
  |e::r,L=>by
   show Mem w0 (.two e (.all r)::L) w↔_;rw[Mem.wv];have sw: ∀(a b:ah) (K:List ah),Mem w0 (a::b::K) w↔Mem w0 (b::a::K) w:=fun a b K=>⟨fun h=>h.perm (List.Perm.swap _ _ _),fun h=>h.perm (List.Perm.swap _ _ _)⟩;rw[sw,Mem.yJ r];exact⟨fun h=>h.perm (List.perm_middle),fun h=>h.perm (List.perm_middle).symm⟩
class Deep(τ:Type) where
  c:Nat
  cells:τ->Array Value
  size: ∀x,(cells x).size=c
  one: ∀x,(cells x).all (·.oneCell')=true
  aU:(Nat->Option Obj)->τ->Prop
  bE:τ->ah
  gu: ∀h x,(bE x).sat h->aU h x
  mono: ∀(w w':World) x,aU (hp w) x->Below w.heap.size w w'->aU (hp w') x
instance Deep.enc{τ:Type}[Deep τ]:bc (Deep.cells (τ:=τ)) (Deep.c τ):=⟨Deep.size,Deep.one⟩
@[reducible] def Deep.flat {τ:Type}(enc:τ->Array Value)(c:Nat)[he:bc enc c]:Deep τ:=⟨c,enc,he.size,he.one,fun _ _=>True,fun _=> .emp,fun _ _ _=>trivial,fun _ _ _ _ _=>trivial⟩
structure Sl(τ:Type) where
  sv:Sv
  xs:List τ
theorem ah.wx{h:Nat->Option Obj}: ∀{es:List ah},(ah.all es).sat h-> ∀e∈es,e.sat h
  |[],_,_,he=>by cases he
  |_::_,hs,e,he=>by
   rcases List.mem_cons.1 he with rfl|he
   ·exact hs.1
   ·exact ah.wx hs.2.1 e he
instance Deep.slice{τ:Type}[d:Deep τ]:Deep (Sl τ) where
  c:=1
  cells a:=qc a.sv
  size _:=rfl
  one a:=bc.one (enc:=qc) (c:=1) a.sv
  aU h a:=bI (Deep.cells (τ:=τ)) (Deep.c τ) h a.sv a.xs/\ ∀x∈a.xs,d.aU h x
  bE a:= .two (own (Deep.cells (τ:=τ)) (Deep.c τ) a.sv a.xs) (.all (a.xs.map d.bE))
  gu h _ hs:=⟨hs.1.1,fun x hx=>d.gu h x (ah.wx hs.2.1 _ (List.mem_map_of_mem hx))⟩
  mono w w' _ hg hb:=⟨hg.1.mono hb,fun x hx=>d.mono w w' x (hg.2 x hx) hb⟩
theorem Mem.sY{τ:Type}[d:Deep τ]{w0 w:World}{L:List ah}{a:Sl τ}:Mem w0 (Deep.bE a::L) w↔Mem w0 (own (Deep.cells (τ:=τ)) (Deep.c τ) a.sv a.xs::a.xs.map d.bE++L) w:=by
  show Mem w0 (.two _ (.all _)::L) w↔_;rw[Mem.wv];have sw: ∀(a b:ah) (K:List ah),Mem w0 (a::b::K) w↔Mem w0 (b::a::K) w:=fun a b K=>⟨fun h=>h.perm (List.Perm.swap _ _ _),fun h=>h.perm (List.Perm.swap _ _ _)⟩;rw[sw,Mem.yJ];exact⟨fun h=>h.perm (List.perm_middle),fun h=>h.perm (List.perm_middle).symm⟩
section
variable {w0:World} {L:List ah} {τ:Type}
class Hd(w0:World)(L:List ah)(s:Sv){α:outParam Type}(enc:outParam (α->Array Value))(c:outParam Nat)(xs:outParam (List α)):Prop where
  h:Holds w0 L enc c s xs
class Gv(w0:World)(s:Sv){α:outParam Type}(enc:outParam (α->Array Value))(c:outParam Nat)(xs:outParam (List α)):Prop where
  h:bI enc c (hp w0) s xs
instance (priority:=high) Hd.owned {s:Sv}{α:Type}{enc:α->Array Value}{c:Nat}{xs:List α}{i:Nat}[q:dN L s enc c xs i]:Hd w0 L s enc c xs:=⟨q.holds⟩
instance Hd.given{s:Sv}{α:Type}{enc:α->Array Value}{c:Nat}{xs:List α}[q:Gv w0 s enc c xs][bc enc c]:Hd w0 L s enc c xs:=⟨DQ q.h⟩
class Rg(lo hi n:Nat):Prop where
  h:lo<=hi/\hi<=n
instance Hd.sub{s:Sv}{α:Type}{enc:α->Array Value}{c:Nat}{xs:List α}{lo hi:Nat}[q:Hd w0 L s enc c xs][r:Rg lo hi xs.length]:Hd w0 L (s.sub c lo hi) enc c ((xs.drop lo).take (hi -lo)):=⟨q.h.sub r.h.1 r.h.2⟩
class cz(w0:World)(L:List ah){α:Type}(enc:α->Array Value)(c:Nat)(s:Sv)(xs:outParam (List α)):Prop where
  h:Holds w0 L enc c s xs
instance (priority:=high) cz.of {s:Sv}{α:Type}{enc:α->Array Value}{c:Nat}{xs:List α}[q:Hd w0 L s enc c xs]:cz w0 L enc c s xs:=⟨q.h⟩
instance cz.none{α:Type}{enc:α->Array Value}{c:Nat}:cz w0 L enc c Sv.none []:=⟨fun _ _=>bI.nil enc c _⟩
class aO(w0:World)(L:List ah){τ:Type}[Deep τ](a:τ):Prop where
  h: ∀w,Mem w0 L w->Deep.aU (hp w) a
class bQ(w0:World){τ:Type}[Deep τ](a:τ):Prop where
  h:Deep.aU (hp w0) a
class Mb{τ:Type}(x:τ)(a:outParam (Sl τ)):Prop where
  h:x∈a.xs
instance aO.given[Deep τ]{a:τ}[q:bQ w0 a]:aO w0 L a:=⟨fun _ hw=>Deep.mono w0 _ a q.h hw.below⟩
instance (priority:=high) aO.owned [Deep τ]{a:τ}{i:Nat}[q:At L (Deep.bE a) i]:aO w0 L a:=⟨fun _ hw=>Deep.gu _ a (hw.get q.h)⟩
instance (priority:=low) aO.elem [Deep τ]{a:Sl τ}{x:τ}[q:aO w0 L a][m:Mb x a]:aO w0 L x:=⟨fun w hw=>(q.h w hw).2 x m.h⟩
class dY(τ:Type)[Deep τ](enc:outParam (τ->Array Value))(c:outParam Nat):Prop where
  hc:Deep.c τ=c
  h: ∀x:τ,Deep.cells x=enc x
instance (priority:=low) Hd.deep [d:Deep τ]{enc:τ->Array Value}{c:Nat}[f:dY τ enc c]{a:Sl τ}[q:aO w0 L a]:Hd w0 L a.sv enc c a.xs:=⟨fun w hw=>by
  have h:=(q.h w hw).1;have e:Deep.cells (τ:=τ)=enc:=funext f.h;rw[←e,←f.hc];exact h⟩
end
section
variable {P:Program} {N:bW} {w0:World} {env:Env} {L:List ah} {d:Option Tmp} {ty:TypeId} {ps:String} {af:Array Edge} {gd:Option (Nat×Bool)}
variable {α:Type} {enc:α->Array Value} {c:Nat} {s:Sv} {xs:List α}
theorem q9{t e:TypeId}{x:Operand}{m:Nat}[ht:dA P t e m](hx:ev env x=some s.val)[q:Hd w0 L s enc c xs]:
    Ry P N w0 env L ⟨d, .call {callee:= .builtin .len,args:= #[x],argTypes:= #[t]},ty,ps,af,gd⟩ (.int .i64 (xs.length:Nat)):=fun a w ha hw=>
  uF (P:=P) (N:=N) (w0:=w0) (L:=L) (d:=d) (ty:=ty) (ps:=ps) (af:=af) (gd:=gd) hx (q.h w hw).ok (q.h w hw).len a w ha hw
theorem aR{t e:TypeId}{x ix:Operand}{m:Nat}{k:IntKind}{j:Int}[ht:dA P t e m](hx:ev env x=some s.val)(hj:ev env ix=some (.int k j))[q:Hd w0 L s enc c xs](i:Nat)(ej:j=(i:Int))(h1:i<xs.length):
    Ry P N w0 env L ⟨d, .indexAddr t x ix,ty,ps,af,gd⟩ (.pointer (some ⟨s.b,s.o+i*m,none⟩)):=fun a w ha hw=>
  kT (P:=P) (N:=N) (w0:=w0) (L:=L) (d:=d) (ty:=ty) (ps:=ps) (af:=af) (gd:=gd) hx hj ej (q.h w hw).ok (by rw[(q.h w hw).len];exact h1) a w ha hw
theorem dO{t:TypeId}{x:Operand}{p:Nat}{a:α}[ht:dG P t c][he:bc enc c][q:Hd w0 L s enc c xs](hx:ev env x=some (.pointer (some ⟨s.b,p,none⟩)))(i:Nat)(hi:xs[i]? =some a)(eB:p=s.o+i*c):
    Ry P N w0 env L ⟨d, .load t x,ty,ps,af,gd⟩ (.agg (enc a)):=IE hx q.h hi eB
theorem bw{t:TypeId}{x:Operand}{p j:Nat}{a:α}{v:Value}[ht:ez P t][q:Hd w0 L s enc c xs](hx:ev env x=some (.pointer (some ⟨s.b,p,none⟩)))(i:Nat)(hi:xs[i]? =some a)(eB:p=s.o+i*c+j)(hj:j<c)[hv:bL (enc a) j v]:
    Ry P N w0 env L ⟨d, .load t x,ty,ps,af,gd⟩ v:=DR hx q.h hi eB hj hv.h
theorem IP{t:TypeId}{x:Operand}{p j n:Nat}{a:α}{sub:Array Value}[ht:dG P t n][q:Hd w0 L s enc c xs](hx:ev env x=some (.pointer (some ⟨s.b,p,none⟩)))(i:Nat)(hi:xs[i]? =some a)(eB:p=s.o+i*c+j)(hj:j+n≤c)[hs:kS (enc a) j n sub]:
    Ry P N w0 env L ⟨d, .load t x,ty,ps,af,gd⟩ (.agg sub):=DS hx q.h hi eB hj
theorem A0{t e:TypeId}{x lo hi:Operand}{k k':IntKind}{il ih:Int}[ht:dA P t e c](hx:ev env x=some s.val)(hl:ev env lo=some (.int k il))(hh:ev env hi=some (.int k' ih))[q:Hd w0 L s enc c xs](l h:Nat)(el:il=(l:Int))(eh:ih=(h:Int))(h1:l≤h)(h2:h≤xs.length):
    Ry P N w0 env L ⟨d, .slice t x (some lo) (some hi) none,ty,ps,af,gd⟩ (s.sub c l h).val:=fun a w ha hw=>
  AX (P:=P) (N:=N) (w0:=w0) (L:=L) (d:=d) (ty:=ty) (ps:=ps) (af:=af) (gd:=gd) hx hl hh el eh (q.h w hw).ok h1 (by have:=(q.h w hw).len;have:=(q.h w hw).ok.le;omega) a w ha hw
theorem IQ{t e:TypeId}{x hi:Operand}{k':IntKind}{ih:Int}[ht:dA P t e c](hx:ev env x=some s.val)(hh:ev env hi=some (.int k' ih))[q:Hd w0 L s enc c xs](h:Nat)(eh:ih=(h:Int))(h2:h≤xs.length):
    Ry P N w0 env L ⟨d, .slice t x none (some hi) none,ty,ps,af,gd⟩ (s.sub c 0 h).val:=fun a w ha hw=>
  sU (P:=P) (N:=N) (w0:=w0) (L:=L) (d:=d) (ty:=ty) (ps:=ps) (af:=af) (gd:=gd) hx hh eh (q.h w hw).ok (by have:=(q.h w hw).len;have:=(q.h w hw).ok.le;omega) a w ha hw
theorem A1{t e:TypeId}{x lo:Operand}{k:IntKind}{il:Int}[ht:dA P t e c](hx:ev env x=some s.val)(hl:ev env lo=some (.int k il))[q:Hd w0 L s enc c xs](l:Nat)(el:il=(l:Int))(h1:l≤xs.length):
    Ry P N w0 env L ⟨d, .slice t x (some lo) none none,ty,ps,af,gd⟩ (s.sub c l xs.length).val:=fun a w ha hw=>
  p0 (P:=P) (N:=N) (w0:=w0) (L:=L) (d:=d) (ty:=ty) (ps:=ps) (af:=af) (gd:=gd) hx hl el (q.h w hw).ok (q.h w hw).len h1 a w ha hw
theorem IS{t e tb:TypeId}{x:Operand}{xs:List UInt8}(hs:P.underlying tb=some (.slice e))(he:P.underlying e=some (.int .u8))(hd:P.underlying t=some .string)(hx:ev env x=some s.val)[q:Hd w0 L s aJ 1 xs]:
    Ry P N w0 env L ⟨d, .convert tb t x,ty,ps,af,gd⟩ (.string ⟨xs.toArray⟩):=PR hs he hd hx q.h
theorem uL{s t:TypeId}{x:Operand}{k:IntKind}{b:UInt8}[hs:kR P s .u8][ht:kR P t k](hx:ev env x=some (.int .u8 b.toNat))(hk:8≤nb k:=by decide):
    Ry P N w0 env L ⟨d, .convert s t x,ty,ps,af,gd⟩ (.int k b.toNat):=kc hx (Nat.lt_of_lt_of_le b.toNat_lt (Nat.pow_le_pow_right (by decide) hk))
end
section
variable {P:Program} {N:bW} {w0:World} {env:Env} {L:List ah} {l:List Oper} {Q:Exit->Act->World->Prop} {rest:List Oper} {d:Option Tmp} {ty:TypeId} {ps:String} {af:Array Edge} {gd:Option (Nat×Bool)}
class bO(P:Program)(f:FuncId)(w0:World)(L:List ah)(vs:List Value)(v:outParam Value)(pre:outParam Prop):Prop where
  h:pre-> ∀w,Mem w0 L w->Calls P f vs.toArray w fun e w'=>e= .returned v/\Mem w [] w'
class bJ(P:Program)(f:FuncId)(w0:World)(L:List ah)(vs:List Value)(X:outParam Type)(val:outParam (X->Value))(L':outParam (X->List ah))(pr:outParam (X->Prop))(pre:outParam Prop):Prop where
  h:pre-> ∀w,Mem w0 L w->Calls P f vs.toArray w fun e w'=> ∃x,e= .returned (val x)/\pr x/\Mem w0 (L' x) w'
instance (priority:=high) bO.pure {f:FuncId}{vs:List Value}{v:Value}[h:mC P f vs v]:bO P f w0 L vs v True:=⟨fun _ w _=>h.h w⟩
theorem bV{f:FuncId}{xs:List Operand}{ts:Array TypeId}{vs:List Value}{v:Value}{pre:Prop}[hf:aC P f](hx:fV env xs=some vs)[hc:bO P f w0 L vs v pre](hp:pre):
    Yl P N w0 env L ⟨d, .call {callee:= .value (.func f),args:=xs.toArray,argTypes:=ts},ty,ps,af,gd⟩ v:=AL hx fun w hw=>hc.h hp w hw
theorem bf{X:Type}{val:X→Value}{L':X→List ah}{pr:X→Prop}{pre:Prop}{f:FuncId}{xs:List Operand}{ts:Array TypeId}{vs:List Value}[hf:aC P f](hx:fV env xs=some vs)
    [hc:bJ P f w0 L vs X val L' pr pre] (hp:pre) (hk: ∀x,pr x->Sq P N w0 l Q rest (cd env d (val x)) (L' x)) (hd:cO N d=true:=by rfl):
    Sq P N w0 l Q (⟨d, .call {callee:= .value (.func f),args:=xs.toArray,argTypes:=ts},ty,ps,af,none⟩::rest) env L:=PJ hx (fun w hw=>hc.h hp w hw) hk hd
theorem PU{Lq:List ah}{n j:Nat}{js:List Nat}{X:Type}{val:X→Value}{L':X→List ah}{pr:X→Prop}{pre:Prop}{f:FuncId}{xs:List Operand}{ts:Array TypeId}{vs:List Value}(hj:l[j]? =some ⟨d, .call {callee:= .value (.func f),args:=xs.toArray,argTypes:=ts},ty,ps,af,none⟩)[hf:aC P f](hx:fV env xs=some vs)
    [hc:bJ P f w0 L vs X val L' pr pre] (hp:pre) (hL: ∀x w,Mem w0 (L' x) w->Mem w0 Lq w) (hk: ∀x,pr x->Fr P N w0 Lq l n Q js (cd env d (val x)) (L' x)) (hd:cO N d=true:=by rfl):
    Fr P N w0 Lq l n Q (j::js) env L:=Pt hj hx (fun w hw=>hc.h hp w hw) hL hk hd
end
class cI(L:List ah)(i:Nat)(R:outParam (List ah)):Prop where
  h:L.eraseIdx i=R
instance cI.here{e:ah}{L:List ah}:cI (e::L) 0 L:=⟨rfl⟩
instance cI.there{e:ah}{L R:List ah}{i:Nat}[q:cI L i R]:cI (e::L) (i+1) (e::R):=⟨by simp[q.h]⟩
class ai(L L':List ah):Prop where
  h: ∃R,L.Perm (L'++R)
instance (priority:=high) ai.nil {L:List ah}:ai L []:=⟨⟨L, .refl _⟩⟩
instance (priority:=high) ai.same {L:List ah}:ai L L:=⟨⟨[],by simp⟩⟩
theorem mD{e:ah}: ∀{L:List ah} {i:Nat},L[i]? =some e->L.Perm (e::L.eraseIdx i)
  |[],i,h=>by simp at h
  |x::L,0,h=>by obtain rfl:x=e:=by simpa using h
                simp
  |x::L,i+1,h=>by
   have:=mD (L:=L) (i:=i) (by simpa using h);rw[List.eraseIdx_cons_succ];exact(this.cons x).trans (.swap _ _ _)
instance ai.cons{L L' R:List ah}{e:ah}{i:Nat}[a:At L e i][b:cI L i R][k:ai R L']:ai L (e::L'):=⟨by
  obtain⟨S,hS⟩:=k.h;exact⟨S,(mD a.h).trans (by rw[b.h];exact hS.cons e)⟩⟩
theorem ai.mem{L L':List ah}[k:ai L L']{w0 w:World}(h:Mem w0 L w):Mem w0 L' w:=by
  obtain⟨R,hR⟩:=k.h;exact(h.perm hR).sub (List.sublist_append_left _ _)
theorem qd{P:Program}{N:bW}{w0:World}{env:Env}{L:List ah}{Q:Exit->Act->World->Prop}{c:Code}(L':List ah)(h: ∀w,Mem w0 L w->Mem w0 L' w)(hk:Cw P N w0 Q c env L'):Cw P N w0 Q c env L:=fun a w ha hw=>hk a w ha (h w hw)
theorem IT{P:Program}{N:bW}{w0:World}{env:Env}{L:List ah}{Q:Exit->Act->World->Prop}{c:Code}(s:Sv){α:Type}{enc:α->Array Value}{n:Nat}{xs:List α}[q:Hd w0 L s enc n xs](hk:xs.length<=140737488355328->Cw P N w0 Q c env L):Cw P N w0 Q c env L:=
  fun a w ha hw=>hk (q.h w hw).bd a w ha hw
theorem kW{α:Type}{xs:List α}{i:Nat}{d:α}(h:i<xs.length):xs[i]? =some (xs.getD i d):=by
  simp[List.getD,h]
section
variable {P:Program} {N:bW} {w0:World} {env:Env} {L:List ah} {l:List Oper} {Q:Exit->Act->World->Prop} {rest:List Oper} {d:Option Tmp} {ty:TypeId} {ps:String} {af:Array Edge} {gd:Option (Nat×Bool)}
variable {α:Type} {enc:α->Array Value} {c:Nat} {s:Sv} {xs:List α}
theorem IU{x y:Operand}{t u:TypeId}{a b:List UInt8}(hx:ev env x=some (.string ⟨a.toArray⟩))(hy:ev env y=some (.string ⟨b.toArray⟩)):
    Ry P N w0 env L ⟨d, .binOp .eql t x y u,ty,ps,af,gd⟩ (.bool (decide (a=b))):=by
  have e:((⟨a.toArray⟩:ByteArray).toList==(⟨b.toArray⟩:ByteArray).toList)=decide (a=b):=by
    rw[ByteArray.toList_mk,ByteArray.toList_mk,Bool.eq_iff_iff];simp
  rw[←e];exact PS hx hy
theorem oU{t e:TypeId}{x:Operand}{u:TypeId}(ht:P.underlying t=some (.slice e))(hx:ev env x=some s.val):
    Ry P N w0 env L ⟨d, .binOp .eql t x (.const (.slice none 0 0)) u,ty,ps,af,gd⟩ (.bool s.nil):=fun a w ha _=>by
  have h1:(eqGuard BinOp.eql t x (.const (.slice none 0 0)) s.val (.slice none 0 0)).run P w= .ok () w:=by
    unfold Sv.val;split<;>rfl
  have h3:(Op.equal t s.val (.slice none 0 0)).run P w= .ok s.nil w:=by
    unfold Sv.val;split<;>rename_i hn<;>rw[run_equal_slice_nil w t e _ _ _ ht,hn]<;>rfl
  have h2:(binOp .eql t s.val (.slice none 0 0)).run P w= .ok (.bool s.nil) w:=by
    have:binOp .eql t s.val (.slice none 0 0)=(do pure (.bool (←Op.equal t s.val (.slice none 0 0)))):=by unfold Sv.val;split<;>rfl
    rw[this,Sem.run_bind,h3];rfl
  simp only[execOp,ha.ev hx,show a.eval (.const (.slice none 0 0))= .slice none 0 0 from rfl,Sem.run_bind,h1,Result.andThen_ok,h2,Sem.run_pure]
theorem PW{t e:TypeId}{x:Operand}{u:TypeId}(ht:P.underlying t=some (.slice e))(hx:ev env x=some s.val):
    Ry P N w0 env L ⟨d, .binOp .neq t x (.const (.slice none 0 0)) u,ty,ps,af,gd⟩ (.bool (!s.nil)):=fun a w ha _=>by
  have h1:(eqGuard BinOp.neq t x (.const (.slice none 0 0)) s.val (.slice none 0 0)).run P w= .ok () w:=by
    unfold Sv.val;split<;>rfl
  have h3:(Op.equal t s.val (.slice none 0 0)).run P w= .ok s.nil w:=by
    unfold Sv.val;split<;>rename_i hn<;>rw[run_equal_slice_nil w t e _ _ _ ht,hn]<;>rfl
  have h2:(binOp .neq t s.val (.slice none 0 0)).run P w= .ok (.bool (!s.nil)) w:=by
    have:binOp .neq t s.val (.slice none 0 0)=(do pure (.bool (!(←Op.equal t s.val (.slice none 0 0))))):=by unfold Sv.val;split<;>rfl
    rw[this,Sem.run_bind,h3];rfl
  simp only[execOp,ha.ev hx,show a.eval (.const (.slice none 0 0))= .slice none 0 0 from rfl,Sem.run_bind,h1,Result.andThen_ok,h2,Sem.run_pure]
theorem PX{t e:TypeId}{cn:Nat}(ht:dH P t e c cn)(w:World):(Instr.buildSlice t 0 #[]).run P w= .ok (.slice (some ⟨w.heap.size,0,none⟩) 0 0) (w.alloc (.cells #[] e)):=by
  obtain⟨i',z,aT,az,ba,ck,kU⟩:=ht.info;have:(Array.range 0:Array Nat)= #[]:=by simp
  simp[Instr.buildSlice,run_underlying ht.dB,sizeOf,typeInfo,aT,Instr.fill,newRow,newObj,Sem.run,Result.andThen,this]
theorem qe{t e:TypeId}{cn:Nat}(enc:α→Array Value)[ht:dH P t e c cn][he:bc enc c](hk: ∀b,Sq P N w0 l Q rest (cd env d (Sv.val ⟨false,b,0,0,0,none⟩)) (own enc c ⟨false,b,0,0,0,none⟩ []::L))(hd:cO N d=true:=by rfl):
    Sq P N w0 l Q (⟨d, .buildSlice t 0 #[],ty,ps,af,none⟩::rest) env L:=
  lN rfl hd fun a w _ hw=>by
    refine⟨_,_,_,?_,hw.call (uJ (enc:=enc) (c:=c) (xs:=[]) (cs:= #[]) (e:=e) rfl 0 0 rfl (Nat.le_refl _) (Nat.zero_le _) (by simp) (by simp)),hk _⟩;simp only[execOp,Sem.run_bind,List.map_toArray,List.map_nil,PX ht w,Result.andThen,Sem.run_pure];rfl
end
instance:Deep UInt8:=Deep.flat aJ 1
instance:dY UInt8 aJ 1:=⟨rfl,fun _=>rfl⟩
def bP{τ:Type}(a:Sl τ):Array Value:= #[a.sv.val]
instance {τ:Type}:bc (bP (τ:=τ)) 1:=⟨fun _=>rfl,fun a=>bc.one (enc:=qc) (c:=1) a.sv⟩
instance {τ:Type}[Deep τ]:dY (Sl τ) bP 1:=⟨rfl,fun _=>rfl⟩
instance {τ:Type}(a:Sl τ):bL (bP a) 0 a.sv.val:=⟨rfl⟩
def lx{τ:Type}(a:Sl (Sl τ)):List (List τ):=a.xs.map (·.xs)
theorem uM{τ:Type}(a:Sl (Sl τ)):(lx a).length=a.xs.length:=by simp[lx]
section
variable {L L' L1 L2 R R1 R2:List ah} {τ:Type}
def Tr(L L':List ah):Prop:= ∀(K:List ah) (w0 w:World),Mem w0 (L++K) w->Mem w0 (L'++K) w
theorem Tr.mem(h:Tr L L'){w0 w:World}(hw:Mem w0 L w):Mem w0 L' w:=by
  have:=h [] w0 w (by simpa using hw);simpa using this
theorem Tr.refl:Tr L L:=fun _ _ _ h=>h
theorem Tr.trans(h:Tr L L1)(h':Tr L1 L2):Tr L L2:=fun K w0 w hw=>h' K w0 w (h K w0 w hw)
theorem Tr.perm(h:L.Perm L'):Tr L L':=fun K _ _ hw=>Mem.perm hw (h.append_right K)
theorem Tr.left(h:Tr L L')(X:List ah):Tr (X++L) (X++L'):=fun K w0 w hw=>by
  have p: ∀Y:List ah,(X++Y++K).Perm (Y++(X++K)):=fun Y=>by
    rw[List.append_assoc,←List.append_assoc Y];refine(List.perm_append_comm_assoc X Y K).trans ?_;rw[List.append_assoc]
  exact(h (X++K) w0 w (hw.perm (p L))).perm (p L').symm
theorem Tr.right(h:Tr L L')(X:List ah):Tr (L++X) (L'++X):=fun K w0 w hw=>by
  rw[List.append_assoc]at hw⊢;exact h (X++K) w0 w hw
theorem Tr.cons(h:Tr L L')(x:ah):Tr (x::L) (x::L'):=h.left [x]
theorem Tr.front{e:ah}{i:Nat}(hi:L[i]? =some e):Tr L (e::L.eraseIdx i):= .perm (mD hi)
theorem Tr.emp:Tr (.emp::L) L:=fun _ _ _ hw=>Mem.yI.1 hw
theorem Tr.PY:Tr L (.emp::L):=fun _ _ _ hw=>Mem.yI.2 hw
theorem Tr.sY[d:Deep τ]{a:Sl τ}:Tr (Deep.bE a::L) (own (Deep.cells (τ:=τ)) (Deep.c τ) a.sv a.xs::a.xs.map d.bE++L):=fun K w0 w hw=>by
  have:=Mem.sY.1 hw;simpa using this
theorem Tr.PZ[d:Deep τ]{a:Sl τ}:Tr (own (Deep.cells (τ:=τ)) (Deep.c τ) a.sv a.xs::a.xs.map d.bE++L) (Deep.bE a::L):=fun K w0 w hw=>by
  refine Mem.sY.2 ?_;simpa using hw
class Plain(τ:Type)[Deep τ]:Prop where
  h: ∀x:τ,Deep.bE x= .emp
theorem Tr.plain[Deep τ][p:Plain τ]: ∀{xs:List τ},Tr (xs.map Deep.bE++L) L
  |[]=> .refl
  |x::xs=>by
   rw[List.map_cons,p.h];exact Tr.emp.trans Tr.plain
theorem Tr.IV[Deep τ][p:Plain τ]: ∀{xs:List τ},Tr L (xs.map Deep.bE++L)
  |[]=> .refl
  |x::xs=>by
   rw[List.map_cons,p.h];exact(Tr.IV (xs:=xs)).trans Tr.PY
theorem IW[Deep τ]{enc:τ->Array Value}{c:Nat}[f:dY τ enc c](s:Sv)(xs:List τ):own (Deep.cells (τ:=τ)) (Deep.c τ) s xs=own enc c s xs:=by
  have e:Deep.cells (τ:=τ)=enc:=funext f.h;rw[e,f.hc]
theorem Tr.D4[d:Deep τ]{enc:τ->Array Value}{c:Nat}[f:dY τ enc c]{a:Sl τ}:Tr (Deep.bE a::L) (own enc c a.sv a.xs::(a.xs.map d.bE++L)):=by
  rw[←IW];exact Tr.sY
theorem Tr.yK[d:Deep τ]{enc:τ->Array Value}{c:Nat}[f:dY τ enc c]{a:Sl τ}:Tr (own enc c a.sv a.xs::(a.xs.map d.bE++L)) (Deep.bE a::L):=by
  rw[←IW];exact Tr.PZ
theorem Tr.P0[d:Deep τ]{enc:τ->Array Value}{c:Nat}[f:dY τ enc c][Plain τ]{a:Sl τ}:Tr (Deep.bE a::L) (own enc c a.sv a.xs::L):=Tr.D4.trans (Tr.plain.cons _)
theorem Tr.A2[d:Deep τ]{enc:τ->Array Value}{c:Nat}[f:dY τ enc c][Plain τ]{a:Sl τ}:Tr (own enc c a.sv a.xs::L) (Deep.bE a::L):=(Tr.IV.cons _).trans Tr.yK
theorem IX{α β:Type}(f:α->β){xs:List α}{i:Nat}{x:α}(hx:xs[i]? =some x):(xs.map f).Perm (f x::(xs.eraseIdx i).map f):=by
  have h1:=(IY hx).map f;exact h1
where IY {α:Type}: ∀{L:List α} {i:Nat} {e:α},L[i]? =some e->L.Perm (e::L.eraseIdx i)
  |[],i,e,h=>by simp at h
  |x::L,0,e,h=>by obtain rfl:x=e:=by simpa using h
                  simp
  |x::L,i+1,e,h=>by
   have:=IY (L:=L) (i:=i) (e:=e) (by simpa using h);rw[List.eraseIdx_cons_succ];exact(this.cons x).trans (.swap _ _ _)
theorem Tr.pick[d:Deep τ]{enc:τ→Array Value}{c:Nat}[f:dY τ enc c]{a:Sl τ}{i:Nat}{x:τ}(hx:a.xs[i]? =some x):
    Tr (Deep.bE a::L) (own enc c a.sv a.xs::Deep.bE x::((a.xs.eraseIdx i).map d.bE++L)):=
  Tr.D4.trans (Tr.cons (Tr.right (Tr.perm (IX d.bE hx)) L) _)
theorem IZ{α:Type}: ∀(xs:List α) (i:Nat) (y:α),(xs.set i y).eraseIdx i=xs.eraseIdx i
  |[],_,_=>by simp
  |_::_,0,_=>by simp
  |_::xs,i+1,y=>by simp[IZ xs i y]
theorem Tr.lay[d:Deep τ]{enc:τ→Array Value}{c:Nat}[f:dY τ enc c]{s:Sv}{xs:List τ}{i:Nat}{y:τ}(hi:i<xs.length):
    Tr (own enc c s (xs.set i y)::Deep.bE y::((xs.eraseIdx i).map d.bE++L)) (Deep.bE (⟨s,xs.set i y⟩:Sl τ)::L):=by
  have hy:(xs.set i y)[i]? =some y:=by simp[hi]
  have:=(IX d.bE hy).symm;rw[IZ]at this;exact(Tr.cons (Tr.right (Tr.perm this) L) _).trans (Tr.yK (a:=⟨s,xs.set i y⟩))
class Take(L:List ah){τ:Type}[Deep τ](x:τ)(R:outParam (List ah)):Prop where
  h:Tr L (Deep.bE x::R)
class wy(L:List ah){τ:Type}[Deep τ](xs:List τ)(R:outParam (List ah)):Prop where
  h:Tr L (xs.map Deep.bE++R)
instance (priority:=high) Take.at [Deep τ]{x:τ}{i:Nat}[a:At L (Deep.bE x) i][d:cI L i R]:Take L x R:=⟨by
  have:=Tr.front a.h;rwa [d.h]at this⟩
instance Take.own[Deep τ][p:Plain τ]{enc:τ->Array Value}{c:Nat}[f:dY τ enc c]{s:Sv}{xs:List τ}{i:Nat}[a:At L (own enc c s xs) i][d:cI L i R]:Take L (⟨s,xs⟩:Sl τ) R:=⟨by
  have:=Tr.front a.h;rw[d.h]at this;exact this.trans (Tr.A2 (a:=⟨s,xs⟩))⟩
instance wy.nil[Deep τ]:wy L ([]:List τ) L:=⟨.refl⟩
instance wy.cons[Deep τ]{x:τ}{xs:List τ}[a:Take L x R1][b:wy R1 xs R2]:wy L (x::xs) R2:=⟨a.h.trans (b.h.cons _)⟩
instance:Plain UInt8:=⟨fun _=>rfl⟩
end
section
variable {P:Program} {N:bW} {w0:World} {env:Env} {L R R1 R2:List ah} {l:List Oper} {Q:Exit->Act->World->Prop} {rest:List Oper} {d:Option Tmp} {ty:TypeId} {ps:String} {af:Array Edge}
variable {τ:Type} [dp:Deep τ] {enc:τ->Array Value} {c:Nat}
theorem P1{α:Type}{enc:α→Array Value}{c:Nat}{s:Sv}{xs ys:List α}{t tx e:TypeId}{x y:Operand}{yv:Value}{cn:Nat}[ht:dH P t e c cn][he:bc enc c](R:List ah)(hx:ev env x=some s.val)(hy:ev env y=some yv)
    (ho: ∀w,Mem w0 L w->Mem w0 (own enc c s xs::R) w) (hc:0<c) (hs: ∀w,Mem w0 L w->Src P c tx yv ys.length (aF enc ys) w) (hb:(xs.length+ys.length)*cn<=140737488355328) (gN:xs.length+ys.length<=140737488355328)
    (hk: ∀s':Sv,Sq P N w0 l Q rest (cd env d s'.val) (own enc c s' (xs++ys)::R)) (hd:cO N d=true:=by rfl):
    Sq P N w0 l Q (⟨d, .call {callee:= .builtin .append,args:= #[x,y],argTypes:= #[t,tx]},ty,ps,af,none⟩::rest) env L:=
  lN rfl hd fun a w ha hw=>by
    obtain⟨s',w',h1,h2,h3,h4⟩:=DV (i:=0) (ty:=ty) ht hc (ho w hw) rfl (hs w hw) hb gN;refine⟨s'.val,w',_,?_,by simpa using h4,hk s'⟩;simp[execOp,ha.ev hx,ha.ev hy,resolve,invoke,builtin,h1,Result.andThen]
theorem P2{s:Sv}{t tx e e':TypeId}{x y:Operand}{cn m:Nat}[f:dY τ enc c][ht:dH P t e c cn][P3:dA P tx e' m][he:bc enc c](a:Sl τ)(ys:List τ)(hx:ev env x=some a.sv.val)(hy:ev env y=some s.val)[q:Hd w0 L s enc c ys]
    [k1:Take L a R1] [k2:wy R1 ys R2] (hc:0<c) (hb:(a.xs.length+ys.length)*cn<=140737488355328) (gN:a.xs.length+ys.length<=140737488355328)
    (hk: ∀a':Sl τ,a'.xs=a.xs++ys->Sq P N w0 l Q rest (cd env d a'.sv.val) (Deep.bE a'::R2)) (hd:cO N d=true:=by rfl):
    Sq P N w0 l Q (⟨d, .call {callee:= .builtin .append,args:= #[x,y],argTypes:= #[t,tx]},ty,ps,af,none⟩::rest) env L:=
  P1 (enc:=enc) (c:=c) (xs:=a.xs) (ys:=ys) (a.xs.map dp.bE++(ys.map dp.bE++R2)) hx hy (fun w hw=>((k1.h.trans (k2.h.cons _)).trans Tr.D4).mem hw) hc (fun w hw=>gM P3.dB hc (q.h w hw)) hb gN
    (fun s' aa w ha hw=>hk ⟨s',a.xs++ys⟩ rfl aa w ha (by
      have t1:Tr (own enc c s' (a.xs++ys)::(a.xs.map dp.bE++(ys.map dp.bE++R2))) (Deep.bE (⟨s',a.xs++ys⟩:Sl τ)::R2):=by
        have:=Tr.yK (enc:=enc) (c:=c) (a:=(⟨s',a.xs++ys⟩:Sl τ)) (L:=R2);simpa using this
      exact t1.mem hw)) hd
theorem Mem.wz{w:World}[f:dY τ enc c](h:Mem w0 L w):Mem w0 (Deep.bE (⟨Sv.none,[]⟩:Sl τ)::L) w:=
  (Tr.yK (enc:=enc) (c:=c) (a:=(⟨Sv.none,[]⟩:Sl τ)) (L:=L)).mem (by simpa using h.cR enc c)
def oV{τ:Type}(s:Sl (Sl τ))(i:Nat):Sl τ:=s.xs.getD i ⟨Sv.none,[]⟩
theorem A3{τ:Type}{s:Sl (Sl τ)}{i:Nat}{x:Sl τ}(h:s.xs[i]? =some x):oV s i=x:=by simp[oV,h]
theorem A4{τ:Type}{s:Sl (Sl τ)}{i:Nat}(h:s.xs.length<=i):oV s i=⟨Sv.none,[]⟩:=by simp[oV,h]
theorem yL{τ:Type}(s:Sl (Sl τ))(i:Nat):(oV s i).xs=(lx s).getD i []:=by
  rcases Nat.lt_or_ge i s.xs.length with h|h
  ·have:s.xs[i]? =some s.xs[i]:=by simp[h]
   simp[A3 this,lx,h]
  ·rw[A4 h];simp[lx,h]
theorem uN{h:Nat->Option Obj}:Deep.aU h (⟨Sv.none,[]⟩:Sl τ):=⟨bI.nil _ _ _,fun _ hx=>by cases hx⟩
instance aO.oV{s:Sl (Sl τ)}{i:Nat}[q:aO w0 L s]:aO w0 L (oV s i):=⟨fun w hw=>by
  rcases Nat.lt_or_ge i s.xs.length with h|h
  ·have hx:s.xs[i]? =some s.xs[i]:=by simp[h]
   rw[A3 hx];exact(q.h w hw).2 _ (List.mem_of_getElem? hx)
  ·rw[A4 h];exact uN⟩
theorem Tr.I0{L:List ah}[f:dY τ enc c]: ∀n,Tr L ((List.replicate n (⟨Sv.none,[]⟩:Sl τ)).map Deep.bE++L)
  |0=> .refl
  |n+1=>by
   rw[List.replicate_succ,List.map_cons];exact(Tr.I0 n).trans fun K w0 w hw=>Mem.wz (enc:=enc) (c:=c) hw
theorem P4{t e:TypeId}{cn n cap:Nat}{x y:Operand}{k k':IntKind}{ix iy:Int}[f:dY τ enc c][ht:dH P t e 1 cn][hz:dj P e (.slice none 0 0)](hx:ev env x=some (.int k ix))(hy:ev env y=some (.int k' iy))(ex:ix=(n:Int))(ey:iy=(cap:Int))(hle:n≤cap)(hb:cn*cap≤281474976710656)(gN:cap≤140737488355328)
    (hk: ∀a:Sl (Sl τ),a.xs=List.replicate n ⟨Sv.none,[]⟩->Sq P N w0 l Q rest (cd env d a.sv.val) (Deep.bE a::L)) (hd:cO N d=true:=by rfl):
    Sq P N w0 l Q (⟨d, .makeSlice t x y,ty,ps,af,none⟩::rest) env L:=
  qb (enc:=bP (τ:=τ)) (n:=n) (cap:=cap) (⟨Sv.none,[]⟩:Sl τ) rfl hx hy ex ey hle hb gN (fun b a w ha hw=>hk ⟨⟨false,b,0,n,cap,none⟩,List.replicate n ⟨Sv.none,[]⟩⟩ rfl a w ha
    (((Tr.I0 (enc:=enc) (c:=c) n).cons _|>.trans (Tr.yK (enc:=bP) (c:=1) (a:=(⟨⟨false,b,0,n,cap,none⟩,List.replicate n ⟨Sv.none,[]⟩⟩:Sl (Sl τ))))).mem hw)) hd
end
section
variable {P:Program} {N:bW} {w0:World} {env:Env} {L:List ah} {l:List Oper} {Q:Exit->Act->World->Prop} {rest:List Oper} {d:Option Tmp} {ty:TypeId} {ps:String} {af:Array Edge}
end
theorem Sv.fY(s:Sv):s.val.cells= #[s.val]:=by unfold Sv.val;split<;>rfl
theorem Tr.P5{τ:Type}[Deep τ][Plain τ]{enc:τ→Array Value}{c:Nat}[dY τ enc c]{a:Sl (Sl τ)}{x:Sl τ}{i:Nat}{B:List ah}(hx:a.xs[i]? =some x):
    Tr (B++[Deep.bE a]) (own bP 1 a.sv a.xs::own enc c x.sv x.xs::(B++(a.xs.eraseIdx i).map Deep.bE)):=by
  refine(Tr.perm (List.perm_append_comm (l₁:=B) (l₂:=[Deep.bE a]))).trans ?_;refine(Tr.pick (L:=B) hx).trans (Tr.cons (Tr.P0.trans (Tr.cons (Tr.perm List.perm_append_comm) _)) _)
theorem Tr.P6{τ:Type}[Deep τ][Plain τ]{enc:τ→Array Value}{c:Nat}[dY τ enc c]{s y:Sv}{xs:List (Sl τ)}{ys:List τ}{i:Nat}{B:List ah}(hi:i<xs.length):
    Tr (own bP 1 s (xs.set i ⟨y,ys⟩)::own enc c y ys::(B++(xs.eraseIdx i).map Deep.bE)) (Deep.bE (⟨s,xs.set i ⟨y,ys⟩⟩:Sl (Sl τ))::B):=by
  refine Tr.trans ?_ (Tr.lay (L:=B) hi);exact Tr.cons ((Tr.A2 (a:=(⟨y,ys⟩:Sl τ))).trans (Tr.cons (Tr.perm List.perm_append_comm) _)) _
theorem A5{P:Program}{N:bW}{w0:World}{env:Env}{L:List ah}{l:List Oper}{Q:Exit→Act→World→Prop}{rest:List Oper}{ty:TypeId}{ps:String}{af:Array Edge}{τ:Type}{t:TypeId}{x y:Operand}{i k p:Nat}{s:Sv}{xs:List (Sl τ)}{a:Sl τ}(a':Sl τ)
    (sz:(P.info? t).map (·.size)=some 1) (hx:ev env x=some (.pointer (some ⟨s.b,p,none⟩))) (hy:ev env y=some a'.sv.val) [q:dN L s (bP (τ:=τ)) 1 xs i] (eB:p=s.o+k*1) (ha:xs[k]? =some a) {L':List ah} [hu:dX L i (own bP 1 s (xs.set k a')) L'] (hk:Sq P N w0 l Q rest env L'):
    Sq P N w0 l Q (⟨none, .store t x y,ty,ps,af,none⟩::rest) env L:=
  iz (j:=0) (a':=a') sz hx hy (q:=q) eB ha (by rw[Sv.fY];simp[Sv.one]) (by rw[Sv.fY];rfl) (by decide) (by rw[Sv.fY];rfl) hk
section
variable {P:Program} {N:bW} {w0:World} {env:Env} {L:List ah} {l:List Oper} {Q:Exit->Act->World->Prop} {rest:List Oper} {d:Option Tmp} {ty:TypeId} {ps:String} {af:Array Edge} {gd:Option (Nat×Bool)}
variable {fs:List Nat} {F:Act->Prop} {k:Nat}
theorem kX{o:Oper}{v:Value}{j t:Nat}{b g:Bool}(hg:o.guard=some (j,b))(hj:(l[j]?).bind (·.dst)=some t)(hv:look env t=some (.bool g))(ht:g=b)(h:Yl P N w0 env L o v)
    (hk:Sq P N w0 l Q rest (cd env o.dst v) L) (hd:cO N o.dst=true:=by rfl):Sq P N w0 l Q (o::rest) env L:=fun a w ha hw=>by
  unfold wpList;rw[uB ha hg hj hv,ht,beq_self_eq_true,if_pos rfl];exact .inl (wh ha hw h fun w' eT=>hk _ _ (ha.put hd v) eT)
end
theorem sZ{P:Program}{N:bW}{w0:World}{env:Env}{L:List ah}{d:Option Tmp}{ty:TypeId}{ps:String}{af:Array Edge}{gd:Option (Nat×Bool)}{c x y:Operand}{g:Bool}{v:Value}(hc:ev env c=some (.bool g))(ht:g=true)(hx:ev env x=some v)(hy:ev env y=some (.bool false)):
    Ry P N w0 env L ⟨d, .pick c x y,ty,ps,af,gd⟩ v:=by
  subst ht;have h:=DC (P:=P) (N:=N) (w0:=w0) (L:=L) (d:=d) (ty:=ty) (ps:=ps) (af:=af) (gd:=gd) hc hx hy;simpa using h
abbrev bR:=List UInt8
def dec(n:Nat):bR:=Lib.decDigits n
variable {n top:Nat} {s t:bR} {c:UInt8}
theorem s0(h:n<10):dec n=[UInt8.ofNat (48+n)]:=by rw[dec,Lib.decDigits,dif_pos h]
theorem wA(h:10<=n):dec n=dec (n/10)++[UInt8.ofNat (48+n%10)]:=by
 rw[dec,Lib.decDigits,dif_neg (by omega)];rfl
def jP(c:UInt8):Bool:=decide (48<=c.toNat/\c.toNat<=57)
def val(s:bR):Nat:=s.foldl (fun a c=>10*a+(c.toNat -48)) 0
theorem A6:val (s++[c])=10*val s+(c.toNat -48):=by simp[val,List.foldl_append]
theorem yM{d:Nat}(h:d<10):(UInt8.ofNat (48+d)).toNat=48+d:=by
 rw[UInt8.toNat_ofNat'];omega
theorem D5: ∀n,(dec n).all jP=true:=by
 intro n
 induction n using Nat.strongRecOn with
 |_ n ih=>
  rcases Nat.lt_or_ge n 10 with h|h
  ·
   rw[s0 h];have:=yM h;simp[jP,this];omega
  rw[wA h,List.all_append,ih (n/10) (by omega)];have:=yM (Nat.mod_lt n (show 0<10 by decide));simp[jP,this];omega
theorem D6: ∀n,val (dec n)=n:=by
 intro n
 induction n using Nat.strongRecOn with
 |_ n ih=>
  rcases Nat.lt_or_ge n 10 with h|h
  ·
   rw[s0 h];have:=yM h;simp[val];omega
  rw[wA h,A6,ih (n/10) (by omega),yM (Nat.mod_lt n (by decide))];omega
theorem I1:dec n≠[]:=by
 rcases Nat.lt_or_ge n 10 with h|h
 ·
  rw[s0 h];simp
 rw[wA h];simp
def A7(s:bR):Prop:=s≠[]/\(s.length<=1\/s.head?≠some 48)
theorem P7: ∀n,0<n->(dec n).head?≠some 48:=by
 intro n
 induction n using Nat.strongRecOn with
 |_ n ih=>
  intro hn;rcases Nat.lt_or_ge n 10 with h|h
  ·
   rw[s0 h];intro e;simp only[List.head?_cons,Option.some.injEq]at e;have h2:=congrArg UInt8.toNat e;rw[yM h]at h2;have:(48:UInt8).toNat=48:=rfl;omega
  rw[wA h,List.head?_append]
  cases hd:(dec (n/10)).head? with
  |none=>exact absurd (List.head?_eq_none_iff.1 hd) I1
  |some x=>
   have:=ih (n/10) (by omega) (by omega);rw[hd]at this;simpa using this
theorem D7(n:Nat):A7 (dec n):=by
 refine⟨I1,?_⟩;rcases Nat.eq_zero_or_pos n with rfl|h
 ·
  left;rw[s0 (by decide)];simp
 exact .inr (P7 n h)
theorem P8: ∀{s:bR},A7 s->s.all jP=true->dec (val s)=s:=by
 intro s;have key: ∀k (s:bR),s.length=k->A7 s->s.all jP=true->dec (val s)=s:=by
  intro k
  induction k with
  |zero=>intro s hl hp _;exact absurd (List.length_eq_zero_iff.1 hl) hp.1
  |succ k ih=>
   intro s hl hp hd;obtain⟨t,c,rfl⟩: ∃t c,s=t++[c]:=by
    rcases List.eq_nil_or_concat s with h|⟨t,c,h⟩
    ·
     exact absurd h hp.1
    exact⟨t,c,by simpa using h⟩
   rw[List.all_append,Bool.and_eq_true]at hd;have hc:48<=c.toNat/\c.toNat<=57:=by
    have:=hd.2;simpa[jP]using this
   have I2:UInt8.ofNat (48+(c.toNat -48))=c:=by
    rw[show 48+(c.toNat -48)=c.toNat by omega];exact UInt8.ofNat_toNat
   rw[A6]
   by_cases ht:t=[]
   ·
    subst ht;rw[show val []=0 from rfl,Nat.mul_zero,Nat.zero_add,s0 (by omega),I2];rfl
   have aW:t.length=k:=by simpa using hl
   have P9:A7 t:=by
    refine⟨ht,?_⟩;rcases hp.2 with h|h
    ·
     left;simp only[List.length_append,List.length_cons,List.length_nil]at h;omega
    right;rw[List.head?_append]at h
    cases Az:t.head? with
    |none=>simp
    |some x=>rw[Az]at h;simpa using h
   have D8:=ih t aW P9 hd.1;have hv:0<val t:=by
    rcases Nat.eq_zero_or_pos (val t)with h0|h0
    ·
     exfalso;rw[h0,s0 (by decide)]at D8;rcases hp.2 with h|h
     ·
      simp only[List.length_append,List.length_cons,List.length_nil]at h;have:=List.length_pos_iff.2 ht;omega
     rw[←D8]at h;exact h rfl
    exact h0
   rw[wA (by omega),show(10*val t+(c.toNat -48))/10=val t by omega,D8,show(10*val t+(c.toNat -48))%10=c.toNat -48 by omega,I2]
 exact key s.length s rfl
def cq(s:bR)(top:Nat):Option Nat:=if(s≠[]/\(s.length<=1\/s.head?≠some 48)/\s.all jP=true/\val s<=top)then some (val s)else none
theorem jQ:cq s top=some n↔s=dec n/\n<=top:=by
 unfold cq;constructor
 ·
  intro h;split at h
  ·
   rename_i h1;obtain⟨h2,h3,h4,h5⟩:=h1;obtain rfl:=Option.some.inj h;exact⟨(P8 ⟨h2,h3⟩ h4).symm,h5⟩
  cases h
 rintro⟨rfl,h⟩;obtain⟨h1,h2⟩:=D7 n;rw[if_pos ⟨h1,h2,D5 n,by rw[D6];exact h⟩,D6]
theorem D9(h:n<=top):cq (dec n) top=some n:=jQ.2 ⟨rfl,h⟩
theorem Qa: ∀k n,n<10^k->0<k->(dec n).length<=k:=by
 intro k
 induction k with
 |zero=>intro n _ h;omega
 |succ k ih=>
  intro n h _;rcases Nat.lt_or_ge n 10 with h1|h1
  ·
   rw[s0 h1];simp
  rw[wA h1,List.length_append];have hk:0<k:=by
   rcases Nat.eq_zero_or_pos k with rfl|hk
   ·
    simp at h;omega
   exact hk
  have:=ih (n/10) (by rw[Nat.pow_succ]at h;omega) hk;simpa using this
theorem I3(h:jP c=false):c∉dec n:=fun hc=>by
 have:=List.all_eq_true.1 (D5 n) c hc;rw[h]at this;cases this
def cr(c:UInt8):bR->List bR
 |[]=>[[]]
 |x::s=>if x=c then[]::cr c s else match cr c s with
  |[]=>[[x]]
  |p::r=>(x::p)::r
theorem Ea: ∀s,cr c s≠[]
 |[]=>by simp[cr]
 |x::s=>by
  rw[cr];split
  ·
   simp
  split<;>simp
theorem Eb(h:c∉s):cr c s=[s]:=by
 induction s with
 |nil=>rfl
 |cons x s ih=>
  rw[cr,if_neg (fun e=>h (by simp[e])),ih (fun hc=>h (List.mem_cons_of_mem _ hc))]
theorem A8(h:c∉s):cr c (s++c::t)=s::cr c t:=by
 induction s with
 |nil=>rw[List.nil_append,cr,if_pos rfl]
 |cons x s ih=>
  rw[List.cons_append,cr,if_neg (fun e=>h (by simp[e])),ih (fun hc=>h (List.mem_cons_of_mem _ hc))]
theorem wB: ∀(s:bR),(c∉s/\cr c s=[s])\/ ∃a b,s=a++c::b/\c∉a/\cr c s=a::cr c b
 |[]=> .inl ⟨by simp,rfl⟩
 |x::s=>by
  by_cases hx:x=c
  ·
   subst hx;exact .inr ⟨[],s,rfl,by simp,by rw[cr,if_pos rfl]⟩
  rcases wB s with⟨h1,h2⟩|⟨a,b,h1,h2,h3⟩
  ·
   left;have:c∉x::s:=fun h=>(List.mem_cons.1 h).elim (fun e=>hx e.symm) h1;exact⟨this,Eb this⟩
  right;have:c∉x::a:=fun h=>(List.mem_cons.1 h).elim (fun e=>hx e.symm) h2;exact⟨x::a,b,by rw[h1];rfl,this,by rw[h1,←List.cons_append,A8 this]⟩
theorem Qb{a:bR}(h:cr c s=[a]):s=a/\c∉s:=by
 rcases wB (c:=c) s with⟨h1,h2⟩|⟨x,y,h1,h2,h3⟩
 ·
  rw[h2]at h;exact⟨(List.cons.inj h).1,h1⟩
 rw[h3]at h;exact absurd (List.cons.inj h).2 (Ea y)
theorem Ec{a b:bR}{r:List bR}(h:cr c s=a::b::r): ∃u,s=a++c::u/\c∉a/\cr c u=b::r:=by
 rcases wB (c:=c) s with⟨h1,h2⟩|⟨x,y,h1,h2,h3⟩
 ·
  rw[h2]at h;cases(List.cons.inj h).2
 rw[h3]at h;obtain⟨e1,e2⟩:=List.cons.inj h;subst e1;exact⟨y,h1,h2,e2⟩
def yN(s:bR):Array Value:= #[.string ⟨s.toArray⟩]
instance (s:bR):bL (yN s) 0 (.string ⟨s.toArray⟩):=⟨rfl⟩
theorem wC(s:bR):(⟨s.toArray⟩:ByteArray).size=s.length:=by simp[ByteArray.size]
theorem Qc(s:bR)(i:Nat):(⟨s.toArray⟩:ByteArray)[i]? =s[i]? :=by
 by_cases h:i<s.length
 ·
  rw[ByteArray.getElem?_lt' _ _ (by rw[wC];exact h),List.getElem?_eq_getElem h];rfl
 rw[ByteArray.getElem?_ge' _ _ (by rw[wC];exact h),List.getElem?_eq_none (by omega)]
theorem Qd(s:ByteArray):s=⟨s.data.toList.toArray⟩:=by cases s;simp
theorem I4(c:UInt8): ∀s:bR,(cr c s).length<=s.length+1
 |[]=>by simp[cr]
 |x::s=>by
  have ih:=I4 c s;rw[cr];split
  ·
   simp;omega
  split
  ·
   simp
  rename_i p r h;rw[h]at ih;simp at ih⊢;omega
section
variable {P:Program} {N:bW} {w0:World} {env:Env} {L:List ah} {d:Option Tmp} {ty t u:TypeId} {ps:String} {af:Array Edge} {gd:Option (Nat×Bool)} {x y lo hi:Operand} {k k':IntKind} {a b s:bR}
theorem oW(ht:P.underlying t=some .string)(hx:ev env x=some (.string ⟨s.toArray⟩)):
  Ry P N w0 env L ⟨d, .call {callee:= .builtin .len,args:= #[x],argTypes:= #[t]},ty,ps,af,gd⟩ (.int .i64 (s.length:Nat)):=fun aa w ha _=>by
 have h:(Builtin.len_ #[t] ty #[.string ⟨s.toArray⟩]).run P w= .ok (goInt s.length) w:=by
  rw[run_len_string w t ty _ ht,wC]
 simp[execOp,ha.ev hx,resolve,invoke,builtin,h,Result.andThen,goInt]
theorem ra{j:Int}(i:Nat)(hu:P.underlying t=some .string)(hx:ev env x=some (.string ⟨s.toArray⟩))(hj:ev env y=some (.int k j))(ej:j=(i:Int))(h:i<s.length):
  Ry P N w0 env L ⟨d, .index t x y,ty,ps,af,gd⟩ (.int .u8 ((s.getD i 0).toNat:Nat)):=Po hu hx hj (by omega) (by
 subst ej;rw[Qc,Int.toNat_natCast,List.getElem?_eq_getElem h];simp[List.getD,h])
theorem Ry.as{o:Oper}{v v':Value}(h:Ry P N w0 env L o v)(e:v=v'):Ry P N w0 env L o v':=e▸h
theorem Qe{p:Nat}{v1 v2:Int}(hx:ev env x=some (.int .u8 v1))(hy:ev env y=some (.int k' v2))(ea:v1=p)(hp:p<16)(eb:v2=4:=by rfl):
  Ry P N w0 env L ⟨d, .binOp .shl t x y u,ty,ps,af,gd⟩ (.int .u8 ((p*16:Nat):Int)):=by
 subst ea eb;refine Ry.as (AN hx hy (by decide)) (congrArg (Value.int .u8) ?_);have e:((p:Int)*2^min (4:Int).toNat IntKind.u8.bits)=((p*16:Nat):Int):=by
  rw[show(2:Int)^min (4:Int).toNat IntKind.u8.bits=16 by decide];omega
 rw[e];exact nk (by simp only[nb];omega)
theorem A9{p q:Nat}{v1 v2:Int}(hx:ev env x=some (.int k v1))(hy:ev env y=some (.int k v2))(ea:v1=p)(eb:v2=q)(h:q<=p)(h2:p<2^nb k:=by first|(simp only[nb];omega)|exact(UInt8.toNat_lt _)):
  Ry P N w0 env L ⟨d, .binOp .sub t x y u,ty,ps,af,gd⟩ (.int k ((p -q:Nat):Int)):=c2 hx hy (by
 subst ea eb;rw[jK,show(p:Int) -(q:Int)=((p -q:Nat):Int) by omega,nk (by omega)])
end
variable {s a b:bR} {c:UInt8}
theorem I5(h:c∉s):Lib.index s [c]= -1:=by
 induction s with
 |nil=>rfl
 |cons x s ih=>
  have hx:x≠c:=fun e=>h (by simp[e]);have hp:([c]:bR).isPrefixOf (x::s)=false:=by
   simp only[List.isPrefixOf,Bool.and_true];simpa using fun e=>hx e.symm
  rw[Lib.index,hp,ih (fun hc=>h (List.mem_cons_of_mem _ hc))];rfl
theorem I6(h:c∉a):Lib.index (a++c::b) [c]=(a.length:Int):=by
 induction a with
 |nil=>
  rw[List.nil_append,Lib.index,if_pos (by simp[List.isPrefixOf])];rfl
 |cons x a ih=>
  have hx:x≠c:=fun e=>h (by simp[e]);have hp:([c]:bR).isPrefixOf (x::(a++c::b))=false:=by
   simp only[List.isPrefixOf,Bool.and_true];simpa using fun e=>hx e.symm
  rw[List.cons_append,Lib.index,hp,ih (fun hc=>h (List.mem_cons_of_mem _ hc)),if_neg (by simp),if_neg (by simp only[beq_iff_eq];omega)];simp
def dq(c:UInt8)(s:bR):bR×bR×Bool:=Lib.cut s [c]
theorem Qf(h:c∉s):dq c s=(s,[],false):=by
 rw[dq,Lib.cut,I5 h,if_neg (by decide)]
theorem Qg(h:c∉a):dq c (a++c::b)=(a,b,true):=by
 rw[dq,Lib.cut,I6 h,if_pos (by omega)];simp
theorem I7(c:UInt8): ∀(n:Nat) (s:ByteArray),s.size<=n->(Lib.splitB ⟨#[c]⟩ 0 (Lib.countB s ⟨#[c]⟩) s).map (·.data.toList)=cr c s.data.toList:=by
 intro n
 induction n with
 |zero=>
  intro s hs;have hz:s.data.toList=[]:=by
   apply List.length_eq_zero_iff.1;have:=Lib.size_eq s;omega
  have hi:Lib.indexB s ⟨#[c]⟩= -1:=by
   show Lib.index s.data.toList [c]= -1;rw[hz];rfl
  rw[Lib.splitB_miss _ _ _ _ hi,hz];simp[hz,cr]
 |succ n ih=>
  intro s hs;rcases wB (c:=c) s.data.toList with⟨h1,h2⟩|⟨a,b,h1,h2,h3⟩
  ·
   have hi:Lib.indexB s ⟨#[c]⟩= -1:=I5 h1;rw[Lib.splitB_miss _ _ _ _ hi,h2];rfl
  have hi:Lib.indexB s ⟨#[c]⟩=(a.length:Int):=by
   show Lib.index s.data.toList [c]=_;rw[h1];exact I6 h2
  have dW:(⟨#[c]⟩:ByteArray).size=1:=rfl;have hlen:s.size=a.length+(b.length+1):=by rw[Lib.size_eq,h1];simp
  rw[Lib.countB_hit s _ a.length (by rw[dW];decide) hi,Nat.add_comm 1,Lib.splitB,if_neg (by rw[hi];simp only[beq_iff_eq];omega),hi,h3];have e1:((a.length:Int)).toNat=a.length:=by omega
  rw[e1,List.map_cons];have ed: ∀x y:Nat,(s.extract x y).data.toList=(s.data.toList.drop x).take (y -x):=fun x y=>Lib.extract_data s x y;have e2:(s.extract 0 (a.length+0)).data.toList=a:=by rw[ed,h1];simp
  have e3:(s.extract (a.length+(⟨#[c]⟩:ByteArray).size) s.size).data.toList=b:=by
   rw[ed,h1,dW,hlen];simp;exact List.take_of_length_le (by omega)
  rw[e2,ih _ (by have:=Lib.size_eq (s.extract (a.length+(⟨#[c]⟩:ByteArray).size) s.size);rw[e3]at this;omega),e3]
theorem Qh(c:UInt8)(s:ByteArray):Lib.countB s ⟨#[c]⟩+1=(cr c s.data.toList).length:=by
 rw[←I7 c s.size s (Nat.le_refl _),List.length_map,Lib.splitB_all _ (Nat.le_refl _) 0 _ s rfl]
end Go.aA
namespace Go.Kb
abbrev Key:=BitVec 128
def bg(k:Key)(i:Nat):Nat:=k.toNat/2^(8*(15 -i))%2^8
theorem iB(k:Key)(i:Nat):bg k i<256:=Nat.mod_lt _ (by decide)
theorem Qi(k:Key)(i j:Nat)(hj:j<8):(bg k i).testBit j=k.toNat.testBit (8*(15 -i)+j):=by
 unfold bg;rw[Nat.testBit_mod_two_pow,Nat.testBit_div_two_pow];simp[hj,Nat.add_comm]
theorem Qj(k:Key)(n:Nat)(h:n<128):k.getMsbD n=k.toNat.testBit (127 -n):=by
 simp only[BitVec.getMsbD,BitVec.getLsbD,h,decide_true,Bool.true_and]
theorem rb(k:Key)(n:Nat)(h:n<128):k.getMsbD n=(bg k (n/8)).testBit (7 -n%8):=by
 rw[Qj k n h,Qi k (n/8) (7 -n%8) (by omega)];congr 1;omega
theorem Ed(k:Key)(n:Nat)(h:128<=n):k.getMsbD n=false:=by
 simp only[BitVec.getMsbD];simp;omega
theorem s8{a b:Key}(h: ∀n,n<128->a.getMsbD n=b.getMsbD n):a=b:=BitVec.eq_of_getMsbD_eq fun i hi=>h i hi
theorem Qk{x y:Nat}(hx:x<256)(hy:y<256)(h: ∀j,j<8->x.testBit j=y.testBit j):x=y:=by
 refine Nat.eq_of_testBit_eq fun j=>?_;rcases Nat.lt_or_ge j 8 with hj|hj
 ·
  exact h j hj
 have hp:2^8<=2^j:=Nat.pow_le_pow_right (by decide) hj;rw[Nat.testBit_lt_two_pow (Nat.lt_of_lt_of_le hx hp),Nat.testBit_lt_two_pow (Nat.lt_of_lt_of_le hy hp)]
theorem re{a b:Key}(h: ∀i,i<16->bg a i=bg b i):a=b:=
 s8 fun n hn=>by rw[rb a n hn,rb b n hn,h (n/8) (by omega)]
theorem Ql{k:Key}{i x:Nat}(hi:i<16)(hx:x<256)(h: ∀m,m<8->k.getMsbD (8*i+m)=x.testBit (7 -m)):bg k i=x:=
 Qk (iB k i) hx fun j hj=>by
  have:=h (7 -j) (by omega);rw[rb k _ (by omega),show(8*i+(7 -j))/8=i by omega,show 7 -(8*i+(7 -j))%8=j by omega,show 7 -(7 -j)=j by omega]at this;exact this
def mE(f:Nat->Nat):Key:=BitVec.ofNat 128 ((List.range 16).foldl (fun a i=>a*2^8+f i%2^8) 0)
theorem Ba(f:Nat->Nat): ∀n,(List.range n).foldl (fun a i=>a*2^8+f i%2^8) 0<2^(8*n)
 |0=>by simp
 |n+1=>by
  rw[List.range_succ,List.foldl_append];have:=Ba f n;have h2:f n%2^8<2^8:=Nat.mod_lt _ (by decide);simp only[List.foldl_cons,List.foldl_nil];rw[Nat.mul_add,Nat.mul_one,Nat.pow_add];omega
theorem I8(f:Nat->Nat): ∀n i,i<n->(List.range n).foldl (fun a i=>a*2^8+f i%2^8) 0/2^(8*(n -1 -i))%2^8=f i%2^8
 |0,i,h=>by omega
 |n+1,i,h=>by
  rw[List.range_succ,List.foldl_append];simp only[List.foldl_cons,List.foldl_nil];generalize hF:(List.range n).foldl (fun a i=>a*2^8+f i%2^8) 0=F
  by_cases hi:i=n
  ·
   subst hi;rw[show i+1 -1 -i=0 by omega];simp
  have ih:=I8 f n i (by omega);rw[hF]at ih;rw[show 8*(n+1 -1 -i)=8+8*(n -1 -i) by omega,Nat.pow_add,←Nat.div_div_eq_div_mul];have:(F*2^8+f n%2^8)/2^8=F:=by
   have h2:f n%2^8<2^8:=Nat.mod_lt _ (by decide);omega
  rw[this];exact ih
theorem rf(f:Nat->Nat)(i:Nat)(h:i<16):bg (mE f) i=f i%2^8:=by
 unfold bg mE;have e:((List.range 16).foldl (fun a i=>a*2^8+f i%2^8) 0)%2^128=(List.range 16).foldl (fun a i=>a*2^8+f i%2^8) 0:=Nat.mod_eq_of_lt (Ba f 16);rw[BitVec.toNat_ofNat,e];exact I8 f 16 i h
def wD(k:Key)(i x:Nat):Key:=mE fun j=>if j=i then x else bg k j
theorem Ee(k:Key)(i x j:Nat)(hj:j<16)(hx:x<256):bg (wD k i x) j=if j=i then x else bg k j:=by
 unfold wD;rw[rf _ j hj];split
 ·
  omega
 have:=iB k j;omega
def bF(k:Key):Array Value:=((List.range 16).map fun i=>Value.int .u8 (bg k i)).toArray
theorem eJ(k:Key):(bF k).size=16:=by unfold bF;simp
theorem jl(k:Key)(i:Nat)(h:i<16):(bF k)[i]? =some (.int .u8 (bg k i)):=by unfold bF;simp[h]
theorem I9(k:Key)(i:Nat)(h:16<=i):(bF k)[i]? =none:=by unfold bF;simp;omega
theorem Ef{A:Array Value}{k:Key}(hs:A.size=16)(h: ∀i,i<16->A[i]? =some (.int .u8 (bg k i))):A=bF k:=by
 apply Array.ext_getElem?;intro i;rcases Nat.lt_or_ge i 16 with hi|hi
 ·
  rw[h i hi,jl k i hi]
 rw[I9 k i hi];simp;omega
theorem Qm(k:Key)(i x:Nat)(hi:i<16)(hx:x<256):(bF k).setIfInBounds i (.int .u8 x)=bF (wD k i x):=by
 refine Ef (by simp[eJ]) fun j hj=>?_;rw[Array.getElem?_setIfInBounds,Ee k i x j hj hx]
 by_cases h:i=j
 ·
  subst h;simp[eJ,hi]
 rw[if_neg h,if_neg (fun e=>h e.symm),jl k j hj]
theorem Ja{a b:Key}(h:bF a=bF b):a=b:=re fun i hi=>by
 have h1:=jl a i hi;rw[h,jl b i hi]at h1;simp at h1;omega
def cJ(k:Key)(n:Int):Key:=if n<1 then 0#128 else(k>>>(128 -n.toNat))<<<(128 -n.toNat)
theorem qf(k:Key)(n:Int)(i:Nat):(cJ k n).getMsbD i=(decide ((i:Int)<n)&&k.getMsbD i):=by
 unfold cJ;split
 ·
  have: ¬((i:Int)<n):=by omega
  simp[this]
 rcases Nat.lt_or_ge i 128 with hi|hi
 ·
  rw[BitVec.getMsbD_shiftLeft,BitVec.getMsbD_ushiftRight]
  by_cases hn:(i:Int)<n
  ·
   have h1:i+(128 -n.toNat)<128:=by omega
   have h2:i+(128 -n.toNat) -(128 -n.toNat)=i:=by omega
   simp[hn,h1,h2]
  have h1: ¬i+(128 -n.toNat)<128:=by omega
  simp[hn,h1]
 rw[Ed _ _ hi,Ed _ _ hi];simp
theorem Jb(k:Key)(n:Int)(h:128<=n):cJ k n=k:=s8 fun i hi=>by
 rw[qf];have:(i:Int)<n:=by omega
 simp[this]
theorem Bb(k:Key)(n:Int)(h:n<1):cJ k n=0#128:=by unfold cJ;rw[if_pos h]
theorem Jc(k:Key)(n m:Int):cJ (cJ k n) m=cJ k (min n m):=s8 fun i _=>by
 rw[qf,qf,qf,←Bool.and_assoc];congr 1;rw[←Bool.decide_and,decide_eq_decide];omega
theorem Bc(k:Key)(n:Int):cJ k n=k↔ ∀i:Nat,i<128->n<=(i:Int)->k.getMsbD i=false:=by
 constructor
 ·
  intro h i hi hn;rw[←h,qf];have: ¬(i:Int)<n:=by omega
  simp[this]
 intro h;refine s8 fun i hi=>?_;rw[qf]
 by_cases hn:(i:Int)<n
 ·
  simp[hn]
 rw[h i hi (by omega)];simp
theorem yO(k:Key)(n:Nat)(i:Nat)(hi:i<16):bg (cJ k n) i=if 8*i+8<=n then bg k i else if 8*i<=n then bg k i/2^(8 -(n -8*i))*2^(8 -(n -8*i))else 0:=by
 have hb:=iB k i;have aW:(if 8*i+8<=n then bg k i else if 8*i<=n then bg k i/2^(8 -(n -8*i))*2^(8 -(n -8*i))else 0)<256:=by
  split
  ·
   exact hb
  split
  ·
   exact Nat.lt_of_le_of_lt (Nat.div_mul_le_self _ _) hb
  omega
 refine Ql hi aW fun m hm=>?_;rw[qf,rb k _ (by omega),show(8*i+m)/8=i by omega,show 7 -(8*i+m)%8=7 -m by omega];split
 ·
  have:((8*i+m:Nat):Int)<(n:Int):=by omega
  simp only[this,decide_true,Bool.true_and]
 split
 ·
  generalize ht:8 -(n -8*i)=t;rw[Nat.testBit_mul_two_pow,Nat.testBit_div_two_pow]
  by_cases aW:((8*i+m:Nat):Int)<(n:Int)
  ·
   have h1:t<=7 -m:=by omega
   simp only[aW,h1,decide_true,Bool.true_and];rw[show 7 -m -t+t=7 -m by omega]
  have h1: ¬t<=7 -m:=by omega
  simp only[aW,h1,decide_false,Bool.false_and]
 have: ¬((8*i+m:Nat):Int)<(n:Int):=by omega
 simp only[this,decide_false,Bool.false_and,Nat.zero_testBit]
def n7(k:Key)(n:Int):Int:=if 0<=n/\n<128 then(if k.getMsbD n.toNat then 1 else 0)else 0
theorem Qn(x j:Nat):((x/2^j%2:Nat):Int)=if x.testBit j then 1 else 0:=by
 rw[Nat.testBit_eq_decide_div_mod_eq]
 by_cases h:x/2^j%2=1
 ·
  simp[h]
 have:x/2^j%2=0:=by omega
 simp[this]
theorem Qo(k:Key)(n:Int)(h0:0<=n)(h1:n<128):n7 k n=((bg k (n/8).toNat/2^(7 -n%8).toNat%2:Nat):Int):=by
 unfold n7;rw[if_pos ⟨h0,h1⟩,Qn,rb k n.toNat (by omega)];rw[show(n/8).toNat=n.toNat/8 by omega,show(7 -n%8).toNat=7 -n.toNat%8 by omega]
theorem s9(k:Key)(n:Int):0<=n7 k n/\n7 k n<=1:=by unfold n7;split<;>(try split)<;>omega
theorem Bd(k:Key)(n:Nat):n7 k n=if k.getMsbD n then 1 else 0:=by
 unfold n7;rcases Nat.lt_or_ge n 128 with h|h
 ·
  rw[if_pos (by omega)];simp
 rw[if_neg (by omega),Ed k n h];simp
def gv(k:Key)(n:Int):Int:=if 0<=n/\n<32 then 8*n7 k (4*n)+4*n7 k (4*n+1)+2*n7 k (4*n+2)+n7 k (4*n+3)else 0
theorem Qp(k:Key)(n:Int)(h:n<0\/32<=n):gv k n=0:=by unfold gv;rw[if_neg (by omega)]
theorem ta(k:Key)(i j:Nat)(hi:i<16)(hj:j<8):n7 k ((8*i+j:Nat):Int)=((bg k i/2^(7 -j)%2:Nat):Int):=by
 rw[Qo k _ (by omega) (by omega)];rw[show(((8*i+j:Nat):Int)/8).toNat=i by omega,show(7 -((8*i+j:Nat):Int)%8).toNat=7 -j by omega]
theorem Qq(b:Nat)(h:b<256):8*(b/2^7%2)+4*(b/2^6%2)+2*(b/2^5%2)+b/2^4%2=b/2^4:=by
 simp only[Nat.reducePow];omega
theorem Qr(b:Nat):8*(b/2^3%2)+4*(b/2^2%2)+2*(b/2^1%2)+b/2^0%2=b%16:=by
 simp only[Nat.reducePow];omega
theorem Qs(k:Key)(n:Int)(h0:0<=n)(h1:n<32)(he:n%2=0):gv k n=((bg k (n/2).toNat/2^4:Nat):Int):=by
 unfold gv;rw[if_pos ⟨h0,h1⟩];generalize hi:(n/2).toNat=i;have e0:4*n=((8*i+0:Nat):Int):=by omega
 have e1:4*n+1=((8*i+1:Nat):Int):=by omega
 have e2:4*n+2=((8*i+2:Nat):Int):=by omega
 have e3:4*n+3=((8*i+3:Nat):Int):=by omega
 rw[e1,e2,e3,e0,ta k i 0 (by omega) (by omega),ta k i 1 (by omega) (by omega),ta k i 2 (by omega) (by omega),ta k i 3 (by omega) (by omega)];have:=Qq (bg k i) (iB k i);simp only[Nat.reduceSub]at*;omega
theorem Qu(k:Key)(n:Int)(h0:0<=n)(h1:n<32)(he:n%2=1):gv k n=((bg k (n/2).toNat%16:Nat):Int):=by
 unfold gv;rw[if_pos ⟨h0,h1⟩];generalize hi:(n/2).toNat=i;have e0:4*n=((8*i+4:Nat):Int):=by omega
 have e1:4*n+1=((8*i+5:Nat):Int):=by omega
 have e2:4*n+2=((8*i+6:Nat):Int):=by omega
 have e3:4*n+3=((8*i+7:Nat):Int):=by omega
 rw[e1,e2,e3,e0,ta k i 4 (by omega) (by omega),ta k i 5 (by omega) (by omega),ta k i 6 (by omega) (by omega),ta k i 7 (by omega) (by omega)];have:=Qr (bg k i);simp only[Nat.reduceSub]at*;omega
structure cc where
 bits:Int
 len:Int
 key:Key
 deriving DecidableEq
def cU(p:cc):Bool:=decide (p.bits=32\/p.bits=128)&&decide (0<=p.len)&&decide (p.len<=p.bits)&&decide (cJ p.key p.len=p.key)
theorem wE(p:cc):cU p=true↔(p.bits=32\/p.bits=128)/\0<=p.len/\p.len<=p.bits/\cJ p.key p.len=p.key:=by
 unfold cU;simp[and_assoc]
def Eg(p:cc)(k:Key):Bool:=cU p&&decide (cJ k p.bits=k)&&decide (cJ k p.len=p.key)
def Qv(p q:cc):Bool:=cU p&&cU q&&decide (p.bits=q.bits)&&decide (p.len<=q.len)&&decide (cJ q.key p.len=p.key)
def oX(p q:cc):Bool:=cU p&&cU q&&(if p.bits≠q.bits then decide (p.bits=32)else if p.key≠q.key then decide (p.key.toNat<q.key.toNat)else decide (p.len<q.len))
def cA(p:cc):Array Value:= #[.int .i64 p.bits, .int .i64 p.len]++bF p.key
theorem nn(p:cc):(cA p).size=18:=by unfold cA;rw[Array.size_append,eJ];rfl
theorem uO(p:cc):(cA p)[0]? =some (.int .i64 p.bits):=by unfold cA;rw[Array.getElem?_append];rfl
theorem uP(p:cc):(cA p)[1]? =some (.int .i64 p.len):=by unfold cA;rw[Array.getElem?_append];rfl
theorem n8(p:cc)(j:Nat):(cA p)[2+j]? =(bF p.key)[j]? :=by
 unfold cA;rw[Array.getElem?_append,if_neg (by simp)];congr 1;simp
theorem Jd{a b:cc}(h:cA a=cA b):a=b:=by
 have h0:=uO a;rw[h,uO]at h0;have h1:=uP a;rw[h,uP]at h1;have h2:a.key=b.key:=Ja (Array.ext_getElem? fun i=>by rw[←n8,←n8,h])
 cases a;cases b
 simp at h0 h1 h2⊢;exact⟨h0.symm,h1.symm,h2⟩
theorem Je(k:Key):mE (bg k)=k:=re fun i hi=>by
 rw[rf _ i hi];have:=iB k i;omega
theorem Jf{a b:Key}{i:Nat}(hi:i<16)(hs: ∀j,j<i->bg a j=bg b j)(hd:bg a i<bg b i):a.toNat<b.toNat:=by
 have key: ∀n,n<=16->i<n->(List.range n).foldl (fun x j=>x*2^8+bg a j%2^8) 0<(List.range n).foldl (fun x j=>x*2^8+bg b j%2^8) 0:=by
  intro n
  induction n with
  |zero=>intro _ h;omega
  |succ n ih=>
   intro hn iQ;rw[List.range_succ,List.foldl_append,List.foldl_append];simp only[List.foldl_cons,List.foldl_nil];have ha:=iB a n;have hb:=iB b n
   by_cases h:i=n
   ·
    subst h;have e:(List.range i).foldl (fun x j=>x*2^8+bg a j%2^8) 0=(List.range i).foldl (fun x j=>x*2^8+bg b j%2^8) 0:=by
     have aux: ∀(l:List Nat) (z:Nat),(∀j∈l,bg a j=bg b j)->l.foldl (fun x j=>x*2^8+bg a j%2^8) z=l.foldl (fun x j=>x*2^8+bg b j%2^8) z:=by
      intro l
      induction l with
      |nil=>intro z _;rfl
      |cons x l ih=>intro z hl;simp only[List.foldl_cons];rw[hl x (by simp)];exact ih _ fun j hj=>hl j (by simp[hj])
     exact aux _ _ fun j hj=>hs j (List.mem_range.1 hj)
    rw[e];omega
   have:=ih (by omega) (by omega);omega
 have Jg:=key 16 (Nat.le_refl _) hi;have ea:a.toNat=(List.range 16).foldl (fun x j=>x*2^8+bg a j%2^8) 0:=by
  conv=>lhs;rw[←Je a]
  unfold mE;rw[BitVec.toNat_ofNat];exact Nat.mod_eq_of_lt (Ba (bg a) 16)
 have eb:b.toNat=(List.range 16).foldl (fun x j=>x*2^8+bg b j%2^8) 0:=by
  conv=>lhs;rw[←Je b]
  unfold mE;rw[BitVec.toNat_ofNat];exact Nat.mod_eq_of_lt (Ba (bg b) 16)
 rw[ea,eb];exact Jg
def n9(a b:Key):Int:=if a.toNat<b.toNat then -1 else if b.toNat<a.toNat then 1 else 0
theorem Jh(a b:Key):n9 a b=0↔a=b:=by
 unfold n9;constructor
 ·
  intro h;split at h
  ·
   omega
  split at h
  ·
   omega
  exact BitVec.eq_of_toNat_eq (by omega)
 rintro rfl;simp
theorem Qw(a b:Key):n9 a b<0↔a.toNat<b.toNat:=by
 unfold n9;split
 ·
  simp[*]
 split<;>simp[*]
theorem Eh(p:cc)(k:Key):Eg p k=true↔cU p=true/\cJ k p.bits=k/\cJ k p.len=p.key:=by
 unfold Eg;simp[and_assoc]
theorem Be(p:cc):cU p=true↔(p.bits=32\/p.bits=128)/\0<=p.len/\p.len<=p.bits/\ ∀i:Nat,i<128->p.len<=(i:Int)->p.key.getMsbD i=false:=by
 rw[wE,Bc]
structure Rt where
 p:cc
 aY:UInt16
 deriving DecidableEq
def fu:Rt:=⟨⟨0,0,0#128⟩,0⟩
def av(r:Rt):Array Value:=cA r.p++ #[.int .u16 r.aY.toNat]
theorem jm(r:Rt):(av r).size=19:=by unfold av;rw[Array.size_append,nn];rfl
theorem mF(r:Rt)(j:Nat)(h:j<18):(av r)[j]? =(cA r.p)[j]? :=by
 unfold av;rw[Array.getElem?_append_left (by rw[nn];exact h)]
theorem wF(r:Rt):(av r)[18]? =some (.int .u16 r.aY.toNat):=by
 unfold av;rw[Array.getElem?_append_right (by rw[nn];omega),nn];rfl
def oY(xs:List Rt)(i:Nat):Bool:=match xs[i]?with
 |none=>true
 |some r=>cU r.p&&match i with
  |0=>true
  |j+1=>match xs[j]?with
   |none=>true
   |some q=>oX q.p r.p
def rh(xs:List Rt)(n:Nat):Bool:=(List.range n).all (oY xs)
def fb(xs:List Rt):Bool:=decide (xs.length<=256)&&rh xs xs.length
theorem Qx(xs:List Rt):rh xs 0=true:=rfl
theorem Qy(xs:List Rt)(n:Nat):rh xs (n+1)=(rh xs n&&oY xs n):=by
 simp[rh,List.range_succ]
theorem Ji{xs:List Rt}(h:256<xs.length):fb xs=false:=by
 simp[fb];omega
theorem Ei{xs:List Rt}{i:Nat}(hi:i<xs.length)(h:oY xs i=false):fb xs=false:=by
 have:rh xs xs.length=false:=by
  rw[rh,List.all_eq_false];exact⟨i,List.mem_range.2 hi,by simp[h]⟩
 simp[fb,this]
theorem Qz{xs:List Rt}(h:xs.length<=256)(ho:rh xs xs.length=true):fb xs=true:=by simp[fb,h,ho]
theorem Jj{xs:List Rt}{i:Nat}{r:Rt}(hi:xs[i]? =some r)(h:cU r.p=false):oY xs i=false:=by simp[oY,hi,h]
theorem QA{xs:List Rt}{r:Rt}(hi:xs[0]? =some r):oY xs 0=cU r.p:=by simp[oY,hi]
theorem QB{xs:List Rt}{i:Nat}{q r:Rt}(hi:xs[i+1]? =some r)(hq:xs[i]? =some q):oY xs (i+1)=(cU r.p&&oX q.p r.p):=by simp[oY,hi,hq]
theorem QC{xs:List Rt}{i:Nat}{q r:Rt}(h0:0<i)(hi:xs[i]? =some r)(hq:xs[i -1]? =some q):oY xs i=(cU r.p&&oX q.p r.p):=by
 obtain⟨j,rfl⟩: ∃j,i=j+1:=⟨i -1,by omega⟩;exact QB hi (by simpa using hq)
theorem Jk{xs:List Rt}{i:Nat}{q r:Rt}(hi:xs[i]? =some r)(hq:xs[i -1]? =some q):oY xs i=(cU r.p&& !(decide (0<(i:Int))&& !oX q.p r.p)):=by
 rcases Nat.eq_zero_or_pos i with h|h
 ·
  subst h;rw[QA hi];simp
 rw[QC h hi hq];simp[h]
theorem get_some{α:Type}{xs:List α}{i:Nat}(h:i<xs.length): ∃r,xs[i]? =some r:=⟨xs[i],by simp[h]⟩
theorem QD{a b:Rt}(h:av a=av b):a=b:=by
 have hp:cA a.p=cA b.p:=Array.ext_getElem? fun j=>by
  rcases Nat.lt_or_ge j 18 with hj|hj
  ·
   rw[←mF a j hj,←mF b j hj,h]
  rw[Array.getElem?_eq_none (by rw[nn];exact hj),Array.getElem?_eq_none (by rw[nn];exact hj)]
 have hh:=wF a;rw[h,wF b]at hh;have e1:b.aY=a.aY:=by
  apply UInt16.toNat_inj.1;simp only[Option.some.injEq,Value.int.injEq,true_and]at hh;omega
 obtain⟨p,q⟩:=a;obtain⟨p',q'⟩:=b;simp only at e1 hp;rw[Jd hp,e1]
open Go.aA
variable {s:bR} {c:UInt8} {k:Key}
def uQ(n:Nat):UInt8:=if n<10 then UInt8.ofNat (48+n)else UInt8.ofNat (87+n)
def jn(c:UInt8):Option Nat:=if 48<=c.toNat/\c.toNat<=57 then some (c.toNat -48)else if 97<=c.toNat/\c.toNat<=102 then some (c.toNat -87)else none
theorem QE{n:Nat}(h:n<16):(uQ n).toNat=if n<10 then 48+n else 87+n:=by
 unfold uQ;split
 ·
  rw[UInt8.toNat_ofNat'];omega
 rw[UInt8.toNat_ofNat'];omega
theorem Bf{n:Nat}(h:n<16):jn c=some n↔c=uQ n:=by
 have ht:=QE h;constructor
 ·
  intro h1;apply UInt8.toNat_inj.1;rw[ht];unfold jn at h1;split at h1
  ·
   have:=Option.some.inj h1;split<;>omega
  split at h1
  ·
   have:=Option.some.inj h1;split<;>omega
  cases h1
 rintro rfl;unfold jn;rw[ht];split
 ·
  rw[if_pos (by omega)];congr 1;omega
 rw[if_neg (by omega),if_pos (by omega)];congr 1;omega
theorem Ej{n:Nat}(h:jn c=some n):n<16:=by
 unfold jn at h;split at h
 ·
  have:=Option.some.inj h;omega
 split at h
 ·
  have:=Option.some.inj h;omega
 cases h
theorem QF{n:Nat}(h:n<16){c:UInt8}(hc:jn c=none):uQ n≠c:=fun e=>by
 have:=(Bf h).2 e.symm;rw[hc]at this;cases this
def wG(k:Key):bR:=dec (bg k 0)++46::(dec (bg k 1)++46::(dec (bg k 2)++46::dec (bg k 3)))
def oZ(k:Key)(i:Nat):Nat:=if i%2=0 then bg k (i/2)/16 else bg k (i/2)%16
theorem Ek(k:Key)(i:Nat):oZ k i<16:=by
 have:=iB k (i/2);unfold oZ;split<;>omega
def o8(k:Key):bR:=(List.range 32).map fun i=>uQ (oZ k i)
def yP(k:Key)(bits:Int):bR:=if bits=32 then wG k else o8 k
def four(a b c d:Nat):Key:=mE fun i=>if i=0 then a else if i=1 then b else if i=2 then c else if i=3 then d else 0
def hY(s:bR):Option Key:=match cr 46 s with
 |[a,b,c,d]=>match cq a 255,cq b 255,cq c 255,cq d 255 with
  |some a,some b,some c,some d=>some (four a b c d)
  |_,_,_,_=>none
 |_=>none
def Bg(s:bR):Bool:=s.all fun c=>(jn c).isSome
def jo(s:bR)(i:Nat):Nat:=(jn (s.getD i 0)).getD 0
def wH(s:bR):Key:=mE fun i=>16*jo s (2*i)+jo s (2*i+1)
def jR(s:bR):Option Key:=if s.length=32/\Bg s=true then some (wH s)else none
def kY(s:bR):Option (Key×Int):=match hY s with
 |some k=>some (k,32)
 |none=>(jR s).map fun k=>(k,128)
theorem uR{a b c d:Nat}(ha:a<=255)(hb:b<=255)(hc:c<=255)(hd:d<=255){i:Nat}(hi:i<16):bg (four a b c d) i=if i=0 then a else if i=1 then b else if i=2 then c else if i=3 then d else 0:=by
 rw[four,rf _ _ hi];split
 ·
  omega
 split
 ·
  omega
 split
 ·
  omega
 split<;>omega
theorem Jl:cJ k 32=k↔ ∀i,4<=i->i<16->bg k i=0:=by
 constructor
 ·
  intro h i h1 h2;have:=yO k 32 i h2;rw[show cJ k ((32:Nat):Int)=k from h]at this;rw[this,if_neg (by omega)];split
  ·
   have hb:=iB k i;obtain rfl:i=4:=by omega
   rw[show(8 -(32 -8*4))=8 by decide];omega
  rfl
 intro h;refine re fun i hi=>?_;rw[show cJ k 32=cJ k ((32:Nat):Int)from rfl,yO k 32 i hi];split
 ·
  rfl
 have:=h i (by omega) hi;rw[this];split<;>simp
theorem Jm:hY s=some k↔cJ k 32=k/\s=wG k:=by
 constructor
 ·
  intro h;unfold hY at h;split at h
  ·
   rename_i a b c d hs;obtain⟨u1,e1,_,h1⟩:=Ec hs;obtain⟨u2,e2,_,h2⟩:=Ec h1;obtain⟨u3,e3,_,h3⟩:=Ec h2;obtain⟨e4,_⟩:=Qb h3;split at h
   ·
    rename_i na nb nc nd ha hb hc hd;obtain⟨ea,la⟩:=jQ.1 ha;obtain⟨eb,lb⟩:=jQ.1 hb;obtain⟨ec,lc⟩:=jQ.1 hc;obtain⟨ed,ld⟩:=jQ.1 hd;obtain rfl:=Option.some.inj h;refine⟨Jl.2 fun i h1 h2=>?_,?_⟩
    ·
     rw[uR la lb lc ld h2,if_neg (by omega),if_neg (by omega),if_neg (by omega),if_neg (by omega)]
    rw[wG,uR la lb lc ld (by decide),uR la lb lc ld (by decide),uR la lb lc ld (by decide),uR la lb lc ld (by decide)];simp only[if_true,Nat.one_ne_zero,if_false,(by decide:(2:Nat)≠0),(by decide:(2:Nat)≠1),(by decide:(3:Nat)≠0),(by decide:(3:Nat)≠1),(by decide:(3:Nat)≠2)];rw[e1,e2,e3,e4,ea,eb,ec,ed]
   cases h
  cases h
 rintro⟨h,rfl⟩;have hn: ∀n,(46:UInt8)∉dec n:=fun n=>I3 (by decide);have hs:cr 46 (wG k)=[dec (bg k 0),dec (bg k 1),dec (bg k 2),dec (bg k 3)]:=by
  rw[wG,A8 (hn _),A8 (hn _),A8 (hn _),Eb (hn _)]
 have hl: ∀i,bg k i<=255:=fun i=>by have:=iB k i;omega
 have e:hY (wG k)=some (four (bg k 0) (bg k 1) (bg k 2) (bg k 3)):=by
  unfold hY;rw[hs];simp only[D9 (hl _)]
 rw[e];refine congrArg some (re fun i hi=>?_);rw[uR (hl _) (hl _) (hl _) (hl _) hi];rcases Nat.lt_or_ge i 4 with h4|h4
 ·
  have:i=0\/i=1\/i=2\/i=3:=by omega
  rcases this with rfl|rfl|rfl|rfl<;>simp
 rw[if_neg (by omega),if_neg (by omega),if_neg (by omega),if_neg (by omega),Jl.1 h i h4 hi]
theorem Jn(k:Key){i:Nat}(h:i<32):(o8 k)[i]? =some (uQ (oZ k i)):=by simp[o8,h]
theorem Jo(k:Key):(o8 k).length=32:=by simp[o8]
theorem Jp(k:Key){i:Nat}(h:i<32):jo (o8 k) i=oZ k i:=by
 unfold jo;rw[List.getD,Jn k h,Option.getD_some,(Bf (Ek k i)).2 rfl];rfl
theorem QG(k:Key):Bg (o8 k)=true:=by
 unfold Bg o8;rw[List.all_map,List.all_eq_true];intro i _;simp only[Function.comp];rw[(Bf (Ek k i)).2 rfl];rfl
theorem Jq:jR s=some k↔s=o8 k:=by
 constructor
 ·
  intro h;unfold jR at h;split at h
  ·
   rename_i h1;obtain⟨hl,ha⟩:=h1;obtain rfl:=Option.some.inj h;have hh: ∀i,i<32-> ∃n,n<16/\s[i]? =some (uQ n)/\jo s i=n:=fun i hi=>by
    have dI:i<s.length:=by omega
    have hm:s[i]? =some (s.getD i 0):=by simp[List.getD,dI]
    have:=List.all_eq_true.1 ha _ (List.mem_of_getElem? hm);obtain⟨n,hn⟩:=Option.isSome_iff_exists.1 this;have aW:=Ej hn;exact⟨n,aW,by rw[hm,(Bf aW).1 hn],by rw[jo,hn];rfl⟩
   have hb: ∀j,j<16->bg (wH s) j=16*jo s (2*j)+jo s (2*j+1):=fun j hj=>by
    obtain⟨n,h1,_,h2⟩:=hh (2*j) (by omega);obtain⟨m,h3,_,h4⟩:=hh (2*j+1) (by omega);rw[wH,rf _ _ hj];omega
   refine List.ext_getElem? fun i=>?_;rcases Nat.lt_or_ge i 32 with hi|hi
   ·
    obtain⟨n,h1,h2,h3⟩:=hh i hi;rw[h2,Jn _ hi];have hn:oZ (wH s) i=n:=by
     unfold oZ;rw[hb (i/2) (by omega)];have mG:=fun j (hj:j<32)=>hh j hj;split
     ·
      rename_i he;obtain⟨m,h5,_,h6⟩:=hh (2*(i/2)+1) (by omega);rw[show 2*(i/2)=i by omega,h3,show i+1=2*(i/2)+1 by omega,h6];omega
     rename_i he;obtain⟨m,h5,_,h6⟩:=hh (2*(i/2)) (by omega);rw[show 2*(i/2)+1=i by omega,h3,h6];omega
    rw[hn]
   rw[List.getElem?_eq_none (by omega),List.getElem?_eq_none (by rw[Jo];omega)]
  cases h
 rintro rfl;unfold jR;rw[if_pos ⟨Jo k,QG k⟩];congr 1;refine re fun j hj=>?_;rw[wH,rf _ _ hj,Jp k (by omega),Jp k (by omega)];have hb:=iB k j;have e1:oZ k (2*j)=bg k j/16:=by unfold oZ;rw[if_pos (by omega),show 2*j/2=j by omega]
 have e2:oZ k (2*j+1)=bg k j%16:=by unfold oZ;rw[if_neg (by omega),show(2*j+1)/2=j by omega]
 rw[e1,e2];omega
theorem QH(k:Key){c:UInt8}(hc:jn c=none):c∉o8 k:=fun h=>by
 obtain⟨i,_,hi⟩:=List.mem_map.1 h;exact QF (Ek k i) hc hi
theorem QI(k:Key):hY (o8 k)=none:=by
 unfold hY;rw[Eb (QH k (by decide))]
theorem QJ{b:Int}:kY s=some (k,b)↔cU ⟨b,b,k⟩=true/\s=yP k b:=by
 rw[wE];simp only;constructor
 ·
  intro h;unfold kY at h;split at h
  ·
   rename_i k' hk;obtain⟨rfl,rfl⟩:=Prod.mk.inj (Option.some.inj h);obtain⟨h1,h2⟩:=Jm.1 hk;exact⟨⟨.inl rfl,by decide,Int.le_refl _,h1⟩,by rw[yP,if_pos rfl];exact h2⟩
  obtain⟨k',hk,he⟩:=Option.map_eq_some_iff.1 h;obtain⟨rfl,rfl⟩:=Prod.mk.inj he;exact⟨⟨.inr rfl,by decide,Int.le_refl _,Jb _ _ (Int.le_refl _)⟩,by rw[yP,if_neg (by decide)];exact Jq.1 hk⟩
 rintro⟨⟨h1,_,_,h2⟩,rfl⟩;rcases h1 with rfl|rfl
 ·
  rw[yP,if_pos rfl,kY,Jm.2 ⟨h2,rfl⟩]
 rw[yP,if_neg (by decide),kY,QI,Jq.2 rfl];rfl
def ky(s:bR):Option cc:=match cr 47 s with
 |[a,b]=>match kY a,cq b 128 with
  |some (k,bits),some n=>if cU ⟨bits,(n:Int),k⟩=true then some ⟨bits,(n:Int),k⟩else none
  |_,_=>none
 |_=>none
def qg(s:bR):Option Rt:=match cr 32 s with
 |[a,b]=>match ky a,cq b 65535 with
  |some p,some n=>some ⟨p,UInt16.ofNat n⟩
  |_,_=>none
 |_=>none
variable {s:bR} {i n top:Nat} {c:UInt8}
def pa(c:UInt8):Int:=match jn c with
 |some n=>(n:Int)
 |none=> -1
def yQ(s:bR)(top:Nat):Int:=match cq s top with
 |some n=>(n:Int)
 |none=> -1
theorem Jr(h:i<s.length):s.take (i+1)=s.take i++[s.getD i 0]:=by
 rw[List.take_succ_eq_append_getElem h];simp[List.getD,h]
theorem Bh(h:i<s.length):val (s.take (i+1))=10*val (s.take i)+((s.getD i 0).toNat -48):=by rw[Jr h,A6]
theorem Js(h:i<s.length)(h1:(s.take i).all jP=true)(h2:48<=(s.getD i 0).toNat/\(s.getD i 0).toNat<=57):(s.take (i+1)).all jP=true:=by
 rw[Jr h,List.all_append,h1];simp only[List.all_cons,List.all_nil,jP];simpa using h2
theorem QK: ∀k (s:bR),s.length=k->s.all jP=true->val s<10^k:=by
 intro k
 induction k with
 |zero=>intro s hl _;rw[List.length_eq_zero_iff.1 hl];simp[val]
 |succ k ih=>
  intro s hl hd;obtain⟨t,c,rfl⟩: ∃t c,s=t++[c]:=by
   rcases List.eq_nil_or_concat s with h|⟨t,c,h⟩
   ·
    subst h;simp at hl
   exact⟨t,c,by simpa using h⟩
  rw[List.all_append,Bool.and_eq_true]at hd;have hc:48<=c.toNat/\c.toNat<=57:=by
   have:=hd.2;simpa[jP]using this
  have:=ih t (by simpa using hl) hd.1;rw[A6,Nat.pow_succ];omega
theorem QL(h:i<=5)(hi:i<=s.length)(h1:(s.take i).all jP=true):val (s.take i)<100000:=by
 have:=QK i (s.take i) (by simp;omega) h1;exact Nat.lt_of_lt_of_le this (Nat.pow_le_pow_right (by decide) h)
theorem QM(a b:bR):val a<=val (a++b):=by
 have key: ∀(b:bR) (m:Nat),m<=b.foldl (fun a c=>10*a+(c.toNat -48)) m:=by
  intro b
  induction b with
  |nil=>intro m;exact Nat.le_refl _
  |cons x b ih=>intro m;exact Nat.le_trans (show m<=10*m+(x.toNat -48) by omega) (ih _)
 unfold val;rw[List.foldl_append];exact key b _
theorem El(h:0<s.length):s.head?=some (s.getD 0 0):=by
 cases s with
 |nil=>simp at h
 |cons x s=>rfl
theorem QN(ht:top<=65535)(h:s.length=0\/5<s.length\/(1<s.length/\(s.getD 0 0).toNat=48)):cq s top=none:=by
 cases e:cq s top with
 |none=>rfl
 |some n=>
  obtain⟨rfl,hn⟩:=jQ.1 e;have hl:=Qa 5 n (by omega) (by decide);have hp:=D7 n;have h0:=List.length_pos_iff.2 hp.1;rcases h with h|h|⟨h,h2⟩
  ·
   omega
  ·
   omega
  rcases hp.2 with h3|h3
  ·
   omega
  rw[El h0]at h3;exact absurd (congrArg some (UInt8.toNat_inj.1 h2:(dec n).getD 0 0=48)) h3
theorem QO(h:s=[]\/(1<s.length/\(s.getD 0 0).toNat=48)):cq s top=none:=by
 cases e:cq s top with
 |none=>rfl
 |some n=>
  obtain⟨rfl,hn⟩:=jQ.1 e;have hp:=D7 n;have h0:=List.length_pos_iff.2 hp.1;rcases h with h|⟨h,h2⟩
  ·
   exact absurd h hp.1
  rcases hp.2 with h3|h3
  ·
   omega
  rw[El h0]at h3;exact absurd (congrArg some (UInt8.toNat_inj.1 h2:(dec n).getD 0 0=48)) h3
theorem Jt(h:i<s.length)(h2:(s.getD i 0).toNat<48\/57<(s.getD i 0).toNat):cq s top=none:=by
 cases e:cq s top with
 |none=>rfl
 |some n=>
  obtain⟨rfl,hn⟩:=jQ.1 e;have:=List.all_eq_true.1 (D5 n) ((dec n).getD i 0) (by simp[List.getD,h]);simp only[jP,decide_eq_true_eq]at this;omega
theorem Ju(h:top<val (s.take i)):cq s top=none:=by
 cases e:cq s top with
 |none=>rfl
 |some n=>
  obtain⟨rfl,hn⟩:=jQ.1 e;have:=QM ((dec n).take i) ((dec n).drop i);rw[List.take_append_drop,D6]at this;omega
theorem Jv(h:s≠[])(h1: ¬(1<s.length/\(s.getD 0 0).toNat=48))(h2:s.all jP=true)(h3:val s<=top):cq s top=some (val s):=by
 unfold cq;rw[if_pos];refine⟨h,?_,h2,h3⟩;have h0:=List.length_pos_iff.2 h;rcases Nat.lt_or_ge 1 s.length with h4|h4
 ·
  right;rw[El h0];intro e;exact h1 ⟨h4,by rw[Option.some.inj e];rfl⟩
 exact .inl h4
variable {s:bR} {i n st:Nat} {c:UInt8}
variable {ps:List bR}
theorem QP{x:bR}: ∀(s:bR),x∈cr c s->x.length<=s.length:=by
 intro s;have key: ∀n (s:bR),s.length<=n->x∈cr c s->x.length<=s.length:=by
  intro n
  induction n with
  |zero=>
   intro s hs hx;obtain rfl:=List.length_eq_zero_iff.1 (Nat.le_zero.1 hs);simp[cr]at hx;simp[hx]
  |succ n ih=>
   intro s hs hx;rcases wB (c:=c) s with⟨_,h2⟩|⟨a,b,h1,_,h3⟩
   ·
    rw[h2,List.mem_singleton]at hx;rw[hx];exact Nat.le_refl _
   rw[h3,List.mem_cons]at hx;have hl:s.length=a.length+(b.length+1):=by rw[h1];simp
   rcases hx with rfl|hx
   ·
    omega
   have:=ih b (by omega) hx;omega
 exact key s.length s (Nat.le_refl _)
variable {k:Key} {i n:Nat} {s:bR} {c:UInt8}
section
variable {P:Program} {N:bW} {w0:World} {env:Env} {L:List ah} {d:Option Tmp} {ty t u:TypeId} {ps:String} {af:Array Edge} {gd:Option (Nat×Bool)}
end
variable {k:Key} {i:Nat}
end Go.Kb

/- Part of a proof. -/
import Derived.WalkKit
import Derived.Deep.Quiet
import Derived.Laws.CopyRow
import Derived.RangeFuncRecord
import Derived.RangeFuncCalls
import Derived.OrdersIn
import Derived.IntWalk
import Derived.StillTail
import Derived.Deep.MidRow
import Derived.Deep.AppendSrc
import Derived.Laws.MakeOwn
import Derived.Laws.Append
import Derived.Laws.Slices
import Derived.Laws.AppendOwn
import Derived.Laws.IdiomStrings
import Derived.Laws.Strings
import Derived.Laws.Cover3
import GoSem.Core.Value
set_option maxRecDepth 20000
set_option linter.unusedSimpArgs false
set_option linter.unusedVariables false
namespace Go.ay
open Go.RowKit
structure ak where
 fp:Nat→Prop
 sat:(Nat→Option Obj)→Prop
 loc: ∀h h':Nat→Option Obj,(∀k,fp k→h' k=h k)→sat h→sat h'
def ar(b:Nat)(cs:Array Value)(T:TypeId):ak:=⟨fun k=>k=b,fun h=>h b=some (.cells cs T (0,0)),fun _ _ e s=>by rw[e b rfl];exact s⟩
structure Mem(w0:World)(L:List ak)(w:World):Prop where
 below:Below w0.heap.size w0 w
 sat: ∀e∈L,e.sat fun k=>w.heap[k]?
 jq: ∀e∈L,∀k,e.fp k→w0.heap.size≤k∧k<w.heap.size
 np:L.Pairwise fun a b=> ∀k,a.fp k→ ¬b.fp k
theorem Mem.init(w:World):Mem w [] w:=⟨Below.refl _ _,by simp,by simp,by simp⟩
theorem Mem.PM{w w':World}(h:Below w.heap.size w w'):Mem w [] w':=⟨h,by simp,by simp,by simp⟩
theorem Mem.le{w0:World}{L:List ak}{w:World}(h:Mem w0 L w):w0.heap.size≤w.heap.size:=h.below.size
theorem Mem.call{w0:World}{L E:List ak}{w w':World}(h:Mem w0 L w)(h':Mem w E w'):Mem w0 (E++L) w':=by
 refine⟨h.below.trans (h'.below.mono h.le),fun e he=> ?_,fun e he k hk=> ?_,?_⟩
 ·
  rcases List.mem_append.1 he with he|he
  ·
   exact h'.sat e he
  ·
   exact e.loc _ _ (fun k hk=>h'.below.block k (h.jq e he k hk).2) (h.sat e he)
 ·
  rcases List.mem_append.1 he with he|he
  ·
   have:=h'.jq e he k hk;have:=h.le;omega
  ·
   have:=h.jq e he k hk;have:=h'.below.size;omega
 ·
  refine List.pairwise_append.2 ⟨h'.np,h.np,fun a ha b hb k hk jN=> ?_⟩
  have:=h'.jq a ha k hk;have:=h.jq b hb k jN;omega
theorem Mem.step{w0:World}{L:List ak}{w w':World}(h:Mem w0 L w)(h':Below w.heap.size w w'):Mem w0 L w':=h.call (E:=[]) (.PM h')
theorem Mem.drew{w0:World}{L:List ak}{w:World}(h:Mem w0 L w):Mem w0 L w.drew:=h.step ((Below.refl _ _).drew)
theorem Mem.Ay{w0:World}{L:List ak}{w:World}(h:Mem w0 L w):Mem w0 L {w with drawn:=w.drawn+1}:=h.step ((Below.refl _ _).drew)
theorem Mem.sub{w0:World}{L L':List ak}{w:World}(h:Mem w0 L w)(s:L'.Sublist L):Mem w0 L' w:=
 ⟨h.below,fun e he=>h.sat e (s.subset he),fun e he=>h.jq e (s.subset he),h.np.sublist s⟩
theorem Mem.perm{w0:World}{L L':List ak}{w:World}(h:Mem w0 L w)(s:L.Perm L'):Mem w0 L' w:=
 ⟨h.below,fun e he=>h.sat e (s.mem_iff.2 he),fun e he=>h.jq e (s.mem_iff.2 he),s.pairwise h.np (fun Az k hk jN=>Az k jN hk)⟩
theorem Mem.get{w0:World}{L:List ak}{w:World}(h:Mem w0 L w){i:Nat}{e:ak}(hi:L[i]? =some e):e.sat fun k=>w.heap[k]? :=h.sat e (List.mem_of_getElem? hi)
theorem Below.AA(w:World)(o:Obj):(w.alloc o).heap[w.heap.size]? =some o:=by
 show(w.heap.push o)[w.heap.size]? =some o
 simp
theorem Mem.alloc{w0:World}{L:List ak}{w:World}(h:Mem w0 L w)(cs:Array Value)(T:TypeId):Mem w0 (ar w.heap.size cs T::L) (w.alloc (.cells cs T)):=by
 refine h.call (E:=[ar w.heap.size cs T]) ⟨(Below.refl _ _).alloc (Nat.le_refl _) _,fun e he=> ?_,fun e he k hk=> ?_,by simp⟩
 ·
  simp at he;subst he
  exact Below.AA w _
 ·
  simp at he;subst he
  have:k=w.heap.size:=hk
  subst this;simp
theorem Mem.change{w0:World}{L:List ak}{w w':World}(h:Mem w0 L w){i:Nat}{e e':ak}(hi:L[i]? =some e)(uq: ∀k,e'.fp k→e.fp k)
  (hB: ∀k,¬e.fp k→w'.heap[k]? =w.heap[k]?) (hs:w'.heap.size=w.heap.size) (ho:w'.os=w.os∧w'.tape=w.tape∧w'.output=w.output)
  (PN:e'.sat fun k=>w'.heap[k]?):Mem w0 (L.set i e') w':=by
 have AB:i<L.length:=by
  rcases Nat.lt_or_ge i L.length with h'|h'
  ·
   exact h'
  ·
   simp[List.getElem?_eq_none h']at hi
 have AD:L[i]=e:=by simpa[List.getElem?_eq_getElem AB]using hi
 have Is:e∈L:=AD▸List.getElem_mem AB
 refine⟨⟨ho.1.trans h.below.os,ho.2.1.trans h.below.tape,ho.2.2.trans h.below.output,hs▸h.below.size,fun k hk=> ?_⟩,fun x hx=> ?_,fun x hx k hk=> ?_,?_⟩
 ·
  rw[hB k (fun hf=>by have:=h.jq e Is k hf;omega)];exact h.below.block k hk
 ·
  obtain⟨j,hj,oR⟩:=List.getElem_of_mem hx
  rw[List.getElem_set]at oR
  split at oR
  ·
   subst oR;exact PN
  ·
   rename_i cH
   have iZ:j<L.length:=by simpa using hj
   subst oR
   have hd:=h.np
   rw[List.pairwise_iff_getElem]at hd
   refine(L[j]).loc _ _ (fun k hk=>hB k (fun hf=> ?_)) (h.sat _ (List.getElem_mem iZ))
   rw[←AD]at hf
   rcases Nat.lt_or_gt_of_ne cH with bx|bx
   ·
    exact hd i j AB iZ bx k hf hk
   ·
    exact hd j i iZ AB bx k hk hf
 ·
  rw[hs]
  obtain⟨j,hj,oR⟩:=List.getElem_of_mem hx
  rw[List.getElem_set]at oR
  split at oR
  ·
   subst oR;exact h.jq e Is k (uq k hk)
  ·
   subst oR;exact h.jq _ (List.getElem_mem _) k hk
 ·
  rw[List.pairwise_iff_getElem]
  intro p q hp hq v7 k hk jN
  have hd:=h.np
  rw[List.pairwise_iff_getElem]at hd
  rw[List.getElem_set]at hk jN
  have bE:p<L.length:=by simpa using hp
  have AE:q<L.length:=by simpa using hq
  have:=hd p q bE AE v7 k
  split at hk<;>split at jN
  ·
   omega
  ·
   rename_i h1 h2
   subst h1
   exact this (by rw[AD];exact uq k hk) jN
  ·
   rename_i h1 h2
   subst h2
   exact this hk (by rw[AD];exact uq k jN)
  ·
   exact this hk jN
theorem Mem.cell{w0:World}{L:List ak}{w:World}(h:Mem w0 L w){i b:Nat}{cs:Array Value}{T:TypeId}(hi:L[i]? =some (ar b cs T))(o:Nat):w.cell? ⟨b,o,none⟩=cs[o]? :=by
 have:w.heap[b]? =some (.cells cs T (0,0)):=h.get hi
 simp[World.cell?,this]
theorem Mem.block{w0:World}{L:List ak}{w:World}(h:Mem w0 L w){i b:Nat}{cs:Array Value}{T:TypeId}(hi:L[i]? =some (ar b cs T)):w.heap[b]? =some (.cells cs T (0,0)):=h.get hi
theorem Mem.setRow{w0:World}{L:List ak}{w:World}(h:Mem w0 L w){i b:Nat}{cs:Array Value}{T:TypeId}(hi:L[i]? =some (ar b cs T))(cs':Array Value):Mem w0 (L.set i (ar b cs' T)) (w.setRow b cs'):=by
 have hb:=h.block hi
 refine h.change hi (fun k hk=>hk) (fun k hk=> ?_) (by simp[World.setRow]) ⟨rfl,rfl,rfl⟩ ?_
 ·
  exact setRow_other w b k cs' (fun e=>hk e)
 ·
  exact setRow_heap w b cs cs' T (0,0) hb
open Go.RowKit
def k8(ro:Option Nat):Fence:={fn:=fun _=>True,depth:=none,alive:=false,round:=ro}
def nV(l:List Oper):Bool:=l.all fun o=>match o.op with
 | .defer _=>false
 |_=>true
theorem Iu{l:List Oper}(h:nV l=true){i:Nat}{o:Oper}(hi:l.toArray[i]? =some o): ∀c,o.op≠ .defer c:=fun c e=>by
 have hm:o∈l:=by simpa using Array.mem_of_getElem? hi
 have:=List.all_eq_true.1 h o hm
 rw[e]at this;cases this
class jZ(Q:Exit→Act→World→Prop):Prop where
 h: ∀a w,¬Q .outgrown a w
instance jZ.then{K:Act→World→Prop}{Q:Exit→Act→World→Prop}[q:jZ Q]:jZ (Exit.then K Q):=⟨fun a w h=>q.h a w h⟩
instance jZ.block{id:Nat}{Q:Exit→Act→World→Prop}[q:jZ Q]:jZ (Exit.inBlock id Q):=⟨fun a w h=>q.h a w h⟩
variable {P:Program} {ro:Option Nat}
theorem PO{f:FuncId}{args:Array Value}{w:World}{R:Ending→World→Prop}(h:Calls P f args w R):CallsIn (k8 ro) 0 P f args w R:=by
 have h':CallsIn Fence.wide 0 P f args w R:=callsIn_wide.2 h
 cases ro with
 |none=>exact h'
 |some l=>exact h'.inRound l
theorem PQ{row:String}{args:Array Value}{w:World}{R:Value→World→Prop}(h:Rows P row args w R):RowsIn (k8 ro) 0 P row args w R:=fun c cs _=>by
 obtain⟨v,w',hR,hs⟩:=h c cs
 refine⟨v,w',hR,?_⟩
 have h':StepsIn (Machine.fenced P Fence.wide) P _ _:=stepsIn_wide.2 hs
 exact h'
theorem PR{o:Oper}{a:Act}{w:World}{K:Act→World→Prop}{Q:Exit→Act→World→Prop}(cB: ∀c,o.op≠ .defer c)(h:o.wp P a w K Q):o.wpIn (k8 ro) 0 P a w K Q:=by
 refine⟨fun _ _=>trivial,?_⟩
 rw[Oper.semAt_eq _ _ _ cB]
 unfold Oper.wp at h
 generalize(execOp a.eval o).run P w=r at h⊢
 unfold Oper.upon at h
 unfold Oper.uponIn
 split at h
 ·
  exact h
 ·
  exact h
 ·
  exact h
 ·
  exact⟨fun e=>(by cases e),PO h⟩
 ·
  exact⟨fun e=>(by cases e),PQ h⟩
 ·
  exact h
 ·
  exact h.elim
theorem yh{ops:Array Oper}{Q:Exit→Act→World→Prop}[q:jZ Q](cB: ∀(i:Nat) (o:Oper),ops[i]? =some o→ ∀c,o.op≠ .defer c): ∀(l:List Nat) (a:Act) (w:World),wpOps P ops Q l a w→wpOpsIn (k8 ro) 0 P ops Q l a w
 |[],_,_,h=>h
 |i::rest,a,w,h=>by
  unfold wpOps at h
  unfold wpOpsIn
  split at h
  ·
   rename_i ho;simp only[ho];exact yh cB rest a w h
  ·
   rename_i o ho
   simp only[ho]
   split at h
   ·
    rename_i hw
    rw[if_pos hw]
    rcases h with h|⟨_,a',w',h⟩
    ·
     exact Oper.wpIn_mono (fun a w h=>yh cB rest a w h) (PR (cB i o ho) h)
    ·
     exact absurd h (q.h a' w')
   ·
    rename_i hw
    rw[if_neg hw]
    exact⟨fun _ _=>trivial,yh cB rest _ w h⟩
theorem PS{id:Nat}{l:List Oper}{Q:Exit→Act→World→Prop}{a:Act}{w:World}[jZ Q](cB:nV l=true)(h:wpList P l.toArray Q l a w):(Code.region id l.toArray false).wpIn (k8 ro) 0 P Q a w:=
 wpIn_region (yh (fun _ _ hi=>Iu cB hi) _ a w (by rw[List.range_eq_range',←Array.length_toList,wpOps_eq_wpList l.toArray.toList 0 (by simp)];exact h))
theorem DU{id:Nat}{l:List Oper}{Q:Exit→Act→World→Prop}{a:Act}{w:World}[jZ Q](cB:nV l=true)(hm:P.follows .mixedOrders=true)
  (h:wpAny P .any l.toArray Q l.toArray.size (Array.replicate l.toArray.size false) a {w with drawn:=w.drawn+1}):(Code.region id l.toArray true).wpIn (k8 ro) 0 P Q a w:=
 wpIn_region_draw fun t=>yh (fun _ _ hi=>Iu cB hi) _ a _ (by
  simp only[Region.schedule,hm,Bool.true_or,if_true]
  exact wpAny_sound l.toArray.size t _ a _ h)
theorem PT{id:Nat}{l:List Oper}{C:World→Prop}{Q:Exit→Act→World→Prop}{a:Act}{w:World}[jZ Q](cB:nV l=true)(hm:P.follows .mixedOrders=true)(hB:Region.lexB .any l.toArray=true)(hC:C {w with drawn:=w.drawn+1})
  (h:wpQuiet P l.toArray C (fun a'=> ∀w',C w'→Q .normal a' w') l a):(Code.region id l.toArray true).wpIn (k8 ro) 0 P Q a w:=by
 simp only[Region.lexB,Bool.and_eq_true]at hB
 refine DU cB hm (wpAny_of_quiet (Q:=fun a'=> ∀w',C w'→Q .normal a' w') (fun _ w' gK h=>h w' gK) _ _ _ _ hC ?_)
 have:=wpAnyQ_lex (C:=C) (md:= .any) hB.1 l 0 (Array.replicate l.toArray.size false) a (by simp) (by simpa using hB.2) h
 simpa using this
def mark(D:Nat):Deferred:={target:= .collected D,args:= #[]}
def yi(P:Program)(fn:Func)(R:Ending→World→Prop):Exit→Act→World→Prop:=fun e a w=>(e= .normal∨e= .ret)∧bodyPostM (k8 none) 0 P fn R e a w
instance jZ.end{fn:Func}{R:Ending→World→Prop}:jZ (yi P fn R):=⟨fun a w h=>by rcases h.1 with h|h<;>cases h⟩
theorem Iv{f:FuncId}{fn:Func}{c:Code}{args:Array Value}{w:World}{R:Ending→World→Prop}(hf:P.funcs[f]? =some fn)(hb:fn.body=some c)
  (h:c.wpIn (k8 none) 0 P (yi P fn R) {tmps:=args++Array.replicate (fn.ntmps -args.size) undef,defers:=[]} w):Calls P f args w R:=
 callsIn_wide.1 (callsIn_of_wp_marks (F:=k8 none) (n:=0) hf hb trivial (wpIn_mono h fun _ _ _ h=>h.2))
section
variable {P:Program} {l:List Oper} {C:World→Prop} {Q:Exit→Act→World→Prop} {n:Nat} {fs:List Nat}
def fr(l:List Oper)(fs:List Nat)(v:Nat→Value)(a0:Act):Nat→Act
 |0=>a0
 |k+1=>if fs.contains k=true then fr l fs v a0 k else match l[k]?with
  |some o=>(fr l fs v a0 k).put o.dst (v k)
  |none=>fr l fs v a0 k
def dH(l:List Oper)(j:Nat):Option Tmp:=(l[j]?).bind (·.dst)
theorem jr(a:Act)(d:Option Tmp)(v:Value)(t:Nat)(h:d≠some t):(a.put d v).tmps[t]? =a.tmps[t]? :=by
 cases d with
 |none=>rfl
 |some d=>
  have:d≠t:=fun e=>h (by rw[e])
  simp[Act.put,this]
theorem qI(a:Act)(d:Option Tmp)(v:Value):(a.put d v).tmps.size=a.tmps.size:=by cases d<;>simp[Act.put]
theorem qJ(a:Act)(d:Option Tmp)(v:Value):(a.put d v).defers=a.defers:=by cases d<;>rfl
theorem Iw(a b:Act)(d:Nat)(v:Value)(h:a.tmps.size=b.tmps.size):(a.put (some d) v).tmps[d]? =(b.put (some d) v).tmps[d]? :=by
 simp[Act.put,Array.getElem?_setIfInBounds,h]
theorem ur{v:Nat→Value}{a0:Act}{k:Nat}{o:Oper}(hf:fs.contains k=false)(h:l[k]? =some o):fr l fs v a0 (k+1)=(fr l fs v a0 k).put o.dst (v k):=by
 show(if fs.contains k=true then _ else match l[k]?with|some o=>(fr l fs v a0 k).put o.dst (v k)|none=>fr l fs v a0 k)=_
 rw[hf,h];rfl
theorem v8{v:Nat→Value}{a0:Act}{k:Nat}(hf:fs.contains k=true):fr l fs v a0 (k+1)=fr l fs v a0 k:=by
 show(if fs.contains k=true then _ else match l[k]?with|some o=>(fr l fs v a0 k).put o.dst (v k)|none=>fr l fs v a0 k)=_
 rw[hf];rfl
theorem yj{v:Nat→Value}{a0:Act}{k:Nat}(h:l[k]? =none):fr l fs v a0 (k+1)=fr l fs v a0 k:=by
 show(if fs.contains k=true then _ else match l[k]?with|some o=>(fr l fs v a0 k).put o.dst (v k)|none=>fr l fs v a0 k)=_
 rw[h];split<;>rfl
theorem yk(v:Nat→Value)(a0:Act): ∀k,(fr l fs v a0 k).tmps.size=a0.tmps.size
 |0=>rfl
 |k+1=>by
  cases hf:fs.contains k with
  |true=>rw[v8 hf];exact yk v a0 k
  |false=>
   cases ho:l[k]?with
   |none=>rw[yj ho];exact yk v a0 k
   |some o=>rw[ur hf ho,qI];exact yk v a0 k
theorem AF(v:Nat→Value)(a0:Act): ∀k,(fr l fs v a0 k).defers=a0.defers
 |0=>rfl
 |k+1=>by
  cases hf:fs.contains k with
  |true=>rw[v8 hf];exact AF v a0 k
  |false=>
   cases ho:l[k]?with
   |none=>rw[yj ho];exact AF v a0 k
   |some o=>rw[ur hf ho,qJ];exact AF v a0 k
theorem uu(v:Nat→Value)(a0:Act)(t k:Nat): ∀m,k≤m→(∀j,k≤j→j<m→fs.contains j=false→dH l j≠some t)→(fr l fs v a0 m).tmps[t]? =(fr l fs v a0 k).tmps[t]?
 |0,h,_=>by obtain rfl:k=0:=by omega
            rfl
 |m+1,h,hn=>by
  by_cases e:k=m+1
  ·
   subst e;rfl
  ·
   have ih:=uu v a0 t k m (by omega) fun j h1 h2=>hn j h1 (by omega)
   rw[←ih]
   cases hf:fs.contains m with
   |true=>rw[v8 hf]
   |false=>
    cases ho:l[m]?with
    |none=>rw[yj ho]
    |some o=>
     rw[ur hf ho]
     exact jr _ _ _ _ (by simpa[dH,ho]using hn m (by omega) (by omega) hf)
def ym(l:List Oper)(fs:List Nat)(n:Nat):Bool:=
 (List.range n).all fun k=>match l[k]?with
  |none=>false
  |some o=>
   (match o.op with| .select .. =>false|_=>true)&&
   (o.after.all fun e=> !Region.binds .any e||decide (e.on<k))&&
   (List.range n).all fun j=>match dH l j with
    |none=>true
    |some d=>(!(o.looksAt l.toArray).contains d||(decide (j<k)&&(!fs.contains j||fs.contains k)&&o.after.any fun e=>Region.binds .any e&&e.on==j))&&(j==k||o.dst !=some d)
structure yn(l:List Oper)(fs:List Nat)(n k:Nat)(o:Oper):Prop where
 sP: ∀cs b,o.op≠ .select cs b
 back: ∀e∈o.after,Region.binds .any e=true→e.on<k
 reads: ∀j d,j<n→dH l j=some d→d∈o.looksAt l.toArray→j<k∧(fs.contains j=true→fs.contains k=true)∧ ∃e∈o.after,Region.binds .any e=true∧e.on=j
 one: ∀j d,j<n→dH l j=some d→j≠k→o.dst≠some d
theorem AG(h:ym l fs n=true)(k:Nat)(hk:k<n): ∃o,l[k]? =some o∧yn l fs n k o:=by
 have:=List.all_eq_true.1 h k (List.mem_range.2 hk)
 cases ho:l[k]?with
 |none=>simp[ho]at this
 |some o=>
  rw[ho]at this
  simp only[Bool.and_eq_true]at this
  obtain⟨⟨h1,h2⟩,h3⟩:=this
  refine⟨o,rfl,⟨fun cs b e=>by rw[e]at h1;simp at h1,fun e he hb=> ?_,fun j d hj hd hl=> ?_,fun j d hj hd cH=> ?_⟩⟩
  ·
   have:=(Array.all_eq_true_iff_forall_mem.1 h2) e he
   simpa[hb]using this
  ·
   have:=List.all_eq_true.1 h3 j (List.mem_range.2 hj)
   rw[hd]at this
   simp only[Bool.and_eq_true,Bool.or_eq_true,Bool.not_eq_true',decide_eq_true_eq]at this
   rcases this.1 with h4|h4
   ·
    exact absurd hl (by simpa using h4)
   ·
    obtain⟨⟨h5,h6⟩,h7⟩:=h4
    obtain⟨e,he,hb⟩:=Array.any_eq_true'.1 h7
    simp only[Bool.and_eq_true,beq_iff_eq]at hb
    exact⟨h5,fun jt=>h6.elim (fun h=>by rw[h]at jt;cases jt) id,e,he,hb.1,hb.2⟩
  ·
   have:=List.all_eq_true.1 h3 j (List.mem_range.2 hj)
   rw[hd]at this
   simp only[Bool.and_eq_true,Bool.or_eq_true,beq_iff_eq]at this
   rcases this.2 with h4|h4
   ·
    exact absurd h4 cH
   ·
    simpa using h4
def rK(P:Program)(o:Oper)(a:Act)(C:World→Prop)(v:Value):Prop:= ∀w,C w→o.quietAt P a (Mem w []) w v
def DV(P:Program)(l:List Oper)(fs:List Nat)(C:World→Prop)(v:Nat→Value)(a0:Act)(k:Nat):Prop:=
 ∀o,l[k]? =some o→(Region.wanted o (yielded l.toArray (fr l fs v a0 k).tmps)=true→rK P o (fr l fs v a0 k) C (v k))∧
  (Region.wanted o (yielded l.toArray (fr l fs v a0 k).tmps)=false→v k=undef)
def lT(P:Program)(ops:Array Oper)(fs:List Nat)(C:World→Prop)(F:Act→Prop):Nat→List Oper→Act→Prop
 |_,[],a=>F a
 |k,o::rest,a=>if fs.contains k=true then lT P ops fs C F (k+1) rest a
  else if Region.wanted o (yielded ops a.tmps)=true then∃v,rK P o a C v∧lT P ops fs C F (k+1) rest (a.put o.dst v)else lT P ops fs C F (k+1) rest (a.put o.dst undef)
theorem DW{F:Act→Prop}: ∀(m k:Nat) (a0:Act) (v0:Nat→Value),k+m≤l.length→lT P l.toArray fs C F k ((l.drop k).take m) (fr l fs v0 a0 k)→
  ∃v,(∀j,j<k→v j=v0 j)∧(∀j,k≤j→j<k+m→fs.contains j=false→DV P l fs C v a0 j)∧F (fr l fs v a0 (k+m))
 |0,k,a0,v0,_,h=>⟨v0,fun _ _=>rfl,fun j h1 h2=>by omega,by simpa[lT]using h⟩
 |m+1,k,a0,v0,hle,h=>by
  have hk:k<l.length:=by omega
  have ed:l.drop k=l[k]::l.drop (k+1):=List.drop_eq_getElem_cons hk
  rw[ed,List.take_succ_cons]at h
  have Ix:l[k]? =some l[k]:=List.getElem?_eq_getElem hk
  have Iy: ∀v v':Nat→Value,∀j,(∀i,i<j→v i=v' i)→fr l fs v a0 j=fr l fs v' a0 j:=by
   intro v v' j
   induction j with
   |zero=>intro _;rfl
   |succ j ih=>
    intro hh
    have e:=ih fun i hi=>hh i (by omega)
    cases hf:fs.contains j with
    |true=>rw[v8 hf,v8 hf,e]
    |false=>
     cases ho:l[j]?with
     |none=>rw[yj ho,yj ho,e]
     |some o=>rw[ur hf ho,ur hf ho,e,hh j (by omega)]
  unfold lT at h
  cases uv:fs.contains k with
  |true=>
   rw[if_pos uv]at h
   obtain⟨v,g1,g2,g3⟩:=DW m (k+1) a0 v0 (by omega) (by rw[v8 uv];exact h)
   refine⟨v,fun j hj=>g1 j (by omega),fun j h3 h4 h5=> ?_,by rw[show k+(m+1)=k+1+m by omega];exact g3⟩
   by_cases hj:j=k
   ·
    subst hj;rw[uv]at h5;cases h5
   ·
    exact g2 j (by omega) (by omega) h5
  |false=>
   rw[if_neg (by rw[uv];exact Bool.false_ne_true)]at h
   have step: ∀u:Value,lT P l.toArray fs C F (k+1) ((l.drop (k+1)).take m) ((fr l fs v0 a0 k).put l[k].dst u)→
     ((Region.wanted l[k] (yielded l.toArray (fr l fs v0 a0 k).tmps)=true→rK P l[k] (fr l fs v0 a0 k) C u)∧(Region.wanted l[k] (yielded l.toArray (fr l fs v0 a0 k).tmps)=false→u=undef))→
     ∃v,(∀j,j<k→v j=v0 j)∧(∀j,k≤j→j<k+(m+1)→fs.contains j=false→DV P l fs C v a0 j)∧F (fr l fs v a0 (k+(m+1))):=by
    intro u h2 hu
    let v1:Nat→Value:=fun j=>if j=k then u else v0 j
    have e1:fr l fs v1 a0 k=fr l fs v0 a0 k:=Iy _ _ k fun i hi=>by simp[v1,show i≠k by omega]
    have e2:fr l fs v1 a0 (k+1)=(fr l fs v0 a0 k).put l[k].dst u:=by
     rw[ur uv Ix,e1];simp[v1]
    obtain⟨v,g1,g2,g3⟩:=DW m (k+1) a0 v1 (by omega) (by rw[e2];exact h2)
    have e3:fr l fs v a0 k=fr l fs v0 a0 k:=Iy _ _ k fun i hi=>by rw[g1 i (by omega)];simp[v1,show i≠k by omega]
    have e4:v k=u:=by rw[g1 k (by omega)];simp[v1]
    refine⟨v,fun j hj=>by rw[g1 j (by omega)];simp[v1,show j≠k by omega],fun j h3 h4 h5=> ?_,by rw[show k+(m+1)=k+1+m by omega];exact g3⟩
    by_cases hj:j=k
    ·
     subst hj
     intro o ho
     rw[Ix]at ho;cases ho
     rw[e3,e4]
     exact hu
    ·
     exact g2 j (by omega) (by omega) h5
   split at h
   ·
    rename_i hw
    obtain⟨u,h1,h2⟩:=h
    exact step u h2 ⟨fun _=>h1,fun hf=>by rw[hw]at hf;cases hf⟩
   ·
    rename_i hw
    exact step undef h ⟨fun ht=>absurd ht hw,fun _=>rfl⟩
def Iz(P:Program)(w:World)(R:Value→World→List ak→Prop):Result Next→Prop
 | .ok (.value v) w'=> ∃E,R v w' E
 | .ok (.enter f args) w'=>w'=w∧Calls P f args w fun e nW=> ∃v E,e= .returned v∧R v nW E
 |_=>False
def rL(P:Program)(l:List Oper)(n:Nat)(Q:Exit→Act→World→Prop)(w0:World)(Lq:List ak):List Nat→Act→List ak→Prop
 |[],af,L=> ∀w,Mem w0 L w→wpList P l.toArray Q (l.drop n) af w
 |j::js,af,L=> ∃o,l[j]? =some o∧o.guard=none∧ ∀w,Mem w0 L w→Iz P w (fun v w' L'=>Mem w0 L' w'∧(∀w,Mem w0 L' w→Mem w0 Lq w)∧rL P l n Q w0 Lq js (af.put o.dst v) L') ((execOp af.eval o).run P w)
def qK(l:List Oper):List Nat→Bool
 |j::k::r=>(match l[k]?with|some o=>o.after.any fun e=>Region.binds .any e&&e.on==j|none=>false)&&qK l (k::r)
 |_=>true
theorem IA: ∀(rs:List Nat) (j0:Nat),qK l (j0::rs)=true→ ∀i∈rs,∃p∈j0::rs,∃o,l[i]? =some o∧ ∃e∈o.after,Region.binds .any e=true∧e.on=p
 |[],_,_,i,hi=>by cases hi
 |k::r,j0,h,i,hi=>by
  simp only[qK,Bool.and_eq_true]at h
  rcases List.mem_cons.1 hi with rfl|hi
  ·
   cases ho:l[i]?with
   |none=>rw[ho]at h;simp at h
   |some o=>
    rw[ho]at h
    obtain⟨e,he,hb⟩:=Array.any_eq_true'.1 h.1
    simp only[Bool.and_eq_true,beq_iff_eq]at hb
    exact⟨j0,by simp,o,rfl,e,he,hb.1,hb.2⟩
  ·
   obtain⟨p,hp,o,ho,e,he,hb⟩:=IA r k h.2 i hi
   exact⟨p,List.mem_cons_of_mem _ hp,o,ho,e,he,hb⟩
structure sQ(P:Program)(l:List Oper)(fs:List Nat)(Q:Exit→Act→World→Prop)(w0:World)(L0:List ak)(n:Nat)(v:Nat→Value)(a0:Act)(rs:List Nat)(af:Act)(bk:Array Bool)(a:Act)(w:World):Prop where
 inv:HeadInv .any l.toArray n bk
 mem: ∃L,Mem w0 L w∧(∀w,Mem w0 L w→Mem w0 L0 w)∧rL P l n Q w0 L0 rs af L
 size:a.tmps.size=a0.tmps.size
 oS:af.tmps.size=a0.tmps.size
 defers:a.defers=a0.defers
 qL:af.defers=a0.defers
 gL: ∃ds,fs=ds++rs
 todo: ∀j,j<n→fs.contains j=true→(bk.getD j true=false↔j∈rs)
 done: ∀j d,j<n→bk.getD j true=true→dH l j=some d→a.tmps[d]? =af.tmps[d]?
 rest: ∀d,(∀j,j<n→bk.getD j true=true→dH l j≠some d)→a.tmps[d]? =a0.tmps[d]?
 full: ∀d,(∀j,j<n→fs.contains j=true→bk.getD j true=true→dH l j≠some d)→af.tmps[d]? =(fr l fs v a0 n).tmps[d]?
variable {w0:World} {L0:List ak}
theorem DX{bk:Array Bool}{i:Nat}(h:bk.getD i true=false):i<bk.size:=by
 rcases Nat.lt_or_ge i bk.size with h'|h'
 ·
  exact h'
 ·
  simp[Array.getElem?_eq_none h']at h
theorem IB{v:Nat→Value}{a0 a af:Act}{rs:List Nat}{bk:Array Bool}{w:World}(H:sQ P l fs Q w0 L0 n v a0 rs af bk a w){k:Nat}{o:Oper}(ho:yn l fs n k o)
  (oT: ∀e∈o.after,Region.binds .any e=true→bk.getD e.on false=true) (t:Nat) (ht:t∈o.looksAt l.toArray):a.tmps[t]? =af.tmps[t]? :=by
 by_cases hw: ∃j,j<n∧dH l j=some t
 ·
  obtain⟨j,hj,hd⟩:=hw
  obtain⟨_,_,e,he,hb,dW⟩:=ho.reads j t hj hd ht
  have hl:=oT e he hb
  rw[dW]at hl
  have PU:bk.getD j true=true:=by
   have yo:j<bk.size:=by
    rcases Nat.lt_or_ge j bk.size with h|h
    ·
     exact h
    ·
     simp[Array.getElem?_eq_none h]at hl
   simp[yo]at hl⊢;exact hl
  exact H.done j t hj PU hd
 ·
  have h1: ∀j,j<n→dH l j≠some t:=fun j hj hd=>hw ⟨j,hj,hd⟩
  rw[H.rest t fun j hj _=>h1 j hj,H.full t fun j hj _ _=>h1 j hj]
  exact(uu v a0 t 0 n (by omega) fun j _ h2 _=>h1 j h2).symm
theorem PW{v:Nat→Value}{a0 a af:Act}{rs:List Nat}{bk:Array Bool}{w:World}(H:sQ P l fs Q w0 L0 n v a0 rs af bk a w){k:Nat}{o:Oper}(hk:k<n)(uv:fs.contains k=false)(ho:yn l fs n k o)(hB:ym l fs n=true)
  (oT: ∀e∈o.after,Region.binds .any e=true→bk.getD e.on false=true) (t:Nat) (ht:t∈o.looksAt l.toArray):a.tmps[t]? =(fr l fs v a0 k).tmps[t]? :=by
 rw[IB H ho oT t ht]
 by_cases hw: ∃j,j<n∧dH l j=some t
 ·
  obtain⟨j,hj,hd⟩:=hw
  obtain⟨AH,PX,_⟩:=ho.reads j t hj hd ht
  have uniq: ∀i,i<n→i≠j→dH l i≠some t:=fun i hi nX he=>by
   obtain⟨oi,sR,nq⟩:=AG hB i hi
   exact nq.one j t hj hd (Ne.symm nX) (by simpa[dH,sR]using he)
  rw[H.full t fun i hi hf _ he=> ?_]
  ·
   exact uu v a0 t k n (by omega) fun i h1 h2 _=>uniq i h2 (by omega)
  ·
   by_cases nX:i=j
   ·
    subst nX;have:=PX hf;rw[uv]at this;cases this
   ·
    exact uniq i hi nX he
 ·
  have h1: ∀j,j<n→dH l j≠some t:=fun j hj hd=>hw ⟨j,hj,hd⟩
  rw[H.full t fun j hj _ _=>h1 j hj,uu v a0 t 0 n (by omega) fun j _ h2 _=>h1 j h2]
  exact(uu v a0 t 0 k (by omega) fun j _ h2 _=>h1 j (by omega)).symm
theorem DY{a b:Act}{o:Oper}{ops:Array Oper}(h: ∀t∈o.looksAt ops,a.tmps[t]? =b.tmps[t]?): ∀x∈o.op.operands,a.eval x=b.eval x:=by
 intro x hx
 cases x with
 |tmp t=>
  have:t∈o.looksAt ops:=by
   unfold Oper.looksAt
   refine List.mem_append_left _ (List.mem_filterMap.2 ⟨.tmp t,by simpa using hx,rfl⟩)
  simp[Act.eval,h t this]
 |_=>rfl
theorem IC{a b:Act}{o:Oper}{ops:Array Oper}(h: ∀t∈o.looksAt ops,a.tmps[t]? =b.tmps[t]?):Region.wanted o (yielded ops a.tmps)=Region.wanted o (yielded ops b.tmps):=by
 unfold Region.wanted
 cases hg:o.guard with
 |none=>rfl
 |some p=>
  obtain⟨j,b'⟩:=p
  have:yielded ops a.tmps j=yielded ops b.tmps j:=by
   unfold yielded
   cases hd:(ops[j]?).bind (·.dst)with
   |none=>rfl
   |some d=>
    have hm:d∈o.looksAt ops:=by unfold Oper.looksAt;rw[hg];simp[hd]
    simp[h d hm]
  simp[this]
def v9(size n:Nat):Array Bool:=((List.range size).map fun i=>decide (i<n)).toArray
theorem PY{v:Nat→Value}{a0 a af:Act}{rs:List Nat}{bk:Array Bool}{w w':World}(H:sQ P l fs Q w0 L0 n v a0 rs af bk a w){i:Nat}{o:Oper}(hi:i<n)(ju:fs.contains i=false)(uw:l[i]? =some o)(ho:yn l fs n i o)(hB:ym l fs n=true)
  (hr:i∈Region.ready .any l.toArray bk) (gK:Mem w [] w'):sQ P l fs Q w0 L0 n v a0 rs af (bk.setIfInBounds i true) (a.put o.dst (v i)) w':=by
 have hO:=(mem_ready.1 hr).1
 have kt:dH l i=o.dst:=by simp[dH,uw]
 have bx:=DX hO
 have gM: ∀j,j≠i→(bk.setIfInBounds i true).getD j true=bk.getD j true:=fun j cD=>getD_set_ne true (Ne.symm cD)
 have nY:(bk.setIfInBounds i true).getD i true=true:=by simp[bx]
 obtain⟨L,hL,lB,hF⟩:=H.mem
 have uniq: ∀d,dH l i=some d→ ∀j,j<n→j≠i→dH l j≠some d:=fun d hd j hj cD he=>by
  obtain⟨oj,PZ,jt⟩:=AG hB j hj
  exact jt.one i d hi hd (Ne.symm cD) (by simpa[dH,PZ]using he)
 refine⟨H.inv.set hr hi,⟨L,by simpa using hL.call gK,lB,hF⟩,by rw[qI];exact H.size,H.oS,by rw[qJ];exact H.defers,H.qL,H.gL,fun j hj hf=> ?_,fun j d hj hl hd=> ?_,fun d hd=> ?_,fun d hd=> ?_⟩
 ·
  rw[gM j (fun e=>by subst e;rw[ju]at hf;cases hf)];exact H.todo j hj hf
 ·
  by_cases cD:j=i
  ·
   subst cD
   have ID:=hd
   rw[kt]at hd
   rw[hd,H.full d fun j' jt pR _=>uniq d ID j' jt (fun e=>by subst e;rw[ju]at pR;cases pR)]
   have e1:(fr l fs v a0 n).tmps[d]? =(fr l fs v a0 (j+1)).tmps[d]? :=uu v a0 d (j+1) n (by omega) fun i' h1 h2 _=>uniq d ID i' h2 (by omega)
   rw[e1,ur ju uw,hd]
   exact Iw _ _ _ _ (by rw[H.size,yk])
  ·
   rw[gM j cD]at hl
   rw[jr _ _ _ _ (ho.one j d hj hd cD)]
   exact H.done j d hj hl hd
 ·
  have h1:o.dst≠some d:=by
   have:=hd i hi nY
   rwa [kt]at this
  rw[jr _ _ _ _ h1]
  refine H.rest d fun j hj hl=> ?_
  by_cases cD:j=i
  ·
   subst cD;rw[kt];exact h1
  ·
   exact hd j hj (by rw[gM j cD];exact hl)
 ·
  refine H.full d fun j hj hf hl=> ?_
  exact hd j hj hf (by rw[gM j (fun e=>by subst e;rw[ju]at hf;cases hf)];exact hl)
theorem P0{v:Nat→Value}{a0 a af:Act}{i:Nat}{rs:List Nat}{bk:Array Bool}{w w':World}(H:sQ P l fs Q w0 L0 n v a0 (i::rs) af bk a w){o:Oper}(hi:i<n)(ju:fs.contains i=true)(cB:fs.Nodup)(uw:l[i]? =some o)(ho:yn l fs n i o)
  (hr:i∈Region.ready .any l.toArray bk) {u:Value} {L':List ak} (gK:Mem w0 L' w') (lB: ∀w,Mem w0 L' w→Mem w0 L0 w) (hF:rL P l n Q w0 L0 rs (af.put o.dst u) L'):
  sQ P l fs Q w0 L0 n v a0 rs (af.put o.dst u) (bk.setIfInBounds i true) (a.put o.dst u) w':=by
 have hO:=(mem_ready.1 hr).1
 have kt:dH l i=o.dst:=by simp[dH,uw]
 have bx:=DX hO
 have gM: ∀j,j≠i→(bk.setIfInBounds i true).getD j true=bk.getD j true:=fun j cD=>getD_set_ne true (Ne.symm cD)
 have nY:(bk.setIfInBounds i true).getD i true=true:=by simp[bx]
 obtain⟨ds,ux⟩:=H.gL
 have AI:i∉rs:=fun h=>by
  rw[ux]at cB
  have:=(List.nodup_append.1 cB).2.1
  exact(List.nodup_cons.1 this).1 h
 refine⟨H.inv.set hr hi,⟨L',gK,lB,hF⟩,by rw[qI];exact H.size,by rw[qI];exact H.oS,by rw[qJ];exact H.defers,by rw[qJ];exact H.qL,⟨ds++[i],by rw[ux];simp⟩,fun j hj hf=> ?_,fun j d hj hl hd=> ?_,fun d hd=> ?_,fun d hd=> ?_⟩
 ·
  by_cases cD:j=i
  ·
   subst cD;rw[nY];simp[AI]
  ·
   rw[gM j cD,H.todo j hj hf];simp[cD]
 ·
  by_cases cD:j=i
  ·
   subst cD
   rw[kt]at hd
   rw[hd]
   exact Iw _ _ _ _ (by rw[H.size,H.oS])
  ·
   rw[gM j cD]at hl
   rw[jr _ _ _ _ (ho.one j d hj hd cD),jr _ _ _ _ (ho.one j d hj hd cD)]
   exact H.done j d hj hl hd
 ·
  have h1:o.dst≠some d:=by
   have:=hd i hi nY
   rwa [kt]at this
  rw[jr _ _ _ _ h1]
  refine H.rest d fun j hj hl=> ?_
  by_cases cD:j=i
  ·
   subst cD;rw[kt];exact h1
  ·
   exact hd j hj (by rw[gM j cD];exact hl)
 ·
  have h1:o.dst≠some d:=by
   have:=hd i hi ju nY
   rwa [kt]at this
  rw[jr _ _ _ _ h1]
  refine H.full d fun j hj hf hl=> ?_
  by_cases cD:j=i
  ·
   subst cD;rw[kt];exact h1
  ·
   exact hd j hj hf (by rw[gM j cD];exact hl)
theorem P1{v:Nat→Value}{a0 a af:Act}{rs:List Nat}{bk:Array Bool}{w:World}(H:sQ P l fs Q w0 L0 n v a0 rs af bk a w)(hQ: ∀j,j<n→bk.getD j true=true):a=af:=by
 have:a.tmps=af.tmps:=by
  apply Array.ext_getElem?
  intro d
  by_cases hw: ∃j,j<n∧dH l j=some d
  ·
   obtain⟨j,hj,hd⟩:=hw
   exact H.done j d hj (hQ j hj) hd
  ·
   have h1: ∀j,j<n→dH l j≠some d:=fun j hj hd=>hw ⟨j,hj,hd⟩
   rw[H.rest d fun j hj _=>h1 j hj,H.full d fun j hj _ _=>h1 j hj]
   exact(uu v a0 d 0 n (by omega) fun j _ h2 _=>h1 j h2).symm
 have h2:a.defers=af.defers:=by rw[H.defers,H.qL]
 cases a;cases af
 simp_all
def left(n:Nat)(bk:Array Bool):Nat:=((List.range n).filter fun i=> !bk.getD i true).length
theorem IE{bk:Array Bool}{i:Nat}(hi:i<n)(hO:bk.getD i true=false):left n bk=left n (bk.setIfInBounds i true)+1:=by
 have bx:=DX hO
 have key: ∀m,i<m→((List.range m).filter fun j=> !bk.getD j true).length=((List.range m).filter fun j=> !(bk.setIfInBounds i true).getD j true).length+1:=by
  intro m
  induction m with
  |zero=>intro h;omega
  |succ m ih=>
   intro h
   rw[List.range_succ,List.filter_append,List.filter_append,List.length_append,List.length_append]
   by_cases e:i=m
   ·
    subst e
    have h1:((List.range i).filter fun j=> !bk.getD j true)=((List.range i).filter fun j=> !(bk.setIfInBounds i true).getD j true):=by
     apply List.filter_congr
     intro j hj
     rw[getD_set_ne true (by have:=List.mem_range.1 hj;omega)]
    rw[h1]
    simp only[List.filter_cons,hO,Bool.not_false,if_true,List.filter_nil,List.length_cons,List.length_nil]
    simp[bx]
   ·
    have:=ih (by omega)
    have h2:(bk.setIfInBounds i true).getD m true=bk.getD m true:=getD_set_ne true e
    simp only[List.filter_cons,h2,List.filter_nil]
    omega
 exact key n hi
theorem DZ{v:Nat→Value}{a0:Act}(hB:ym l fs n=true)(hn:n<l.length)(hs:Region.sinkB .any l.toArray n=true)(hc:Region.chainB .any l.toArray n=true)
  (D0:Region.seqB .any l.toArray (l.length -n) n (v9 l.length n)=true) (cB:fs.Nodup) (bx: ∀j∈fs,j<n) (yp:qK l fs=true) (hq: ∀k,k<n→fs.contains k=false→DV P l fs (Mem w0 L0) v a0 k):
  ∀(m:Nat) (rs:List Nat) (af:Act) (bk:Array Bool) (a:Act) (w:World),left n bk=m→sQ P l fs Q w0 L0 n v a0 rs af bk a w→wpAny P .any l.toArray Q (m+(l.length -n)) bk a w
 |0,rs,af,bk,a,w,hm,H=>by
  have hQ: ∀j,j<n→bk.getD j true=true:=fun j hj=>by
   cases h:bk.getD j true with
   |true=>rfl
   |false=>
    have:j∈(List.range n).filter fun i=> !bk.getD i true:=List.mem_filter.2 ⟨List.mem_range.2 hj,by rw[h];rfl⟩
    rw[List.length_eq_zero_iff.1 hm]at this
    cases this
  have e1:=P1 H hQ
  have e2:bk=v9 l.length n:=by
   apply Array.ext_getElem?
   intro j
   have fc:bk.size=l.length:=by simpa using H.inv.size
   by_cases hj:j<l.length
   ·
    have yo:j<bk.size:=by omega
    simp only[v9,List.getElem?_toArray,List.getElem?_map,List.getElem?_range hj,Option.map_some,Array.getElem?_eq_getElem yo]
    by_cases sS:j<n
    ·
     have:=hQ j sS
     simp[yo]at this
     simp[this,sS]
    ·
     have:=H.inv.tail j (by omega) (by simpa using hj)
     simp[yo]at this
     simp[this,sS]
   ·
    simp[v9,show ¬j<l.length from hj];omega
  have e3:rs=[]:=by
   cases rs with
   |nil=>rfl
   |cons r uy=>
    obtain⟨ds,ux⟩:=H.gL
    have hr:r∈fs:=by rw[ux];simp
    have:=(H.todo r (bx r hr) (by simpa using hr)).2 (by simp)
    rw[hQ r (bx r hr)]at this;cases this
  subst e1 e2 e3
  obtain⟨L,hL,_,hF⟩:=H.mem
  have:=wpAny_of_seq (P:=P) (md:= .any) (Q':=Q) (l.drop n) n (v9 l.length n) a w (fun j=>by simp[List.getElem?_drop]) (by rw[List.length_drop];exact D0) (hF w hL)
  rw[List.length_drop]at this
  rw[Nat.zero_add]
  exact this
 |m+1,rs,af,bk,a,w,hm,H=>by
  rw[show m+1+(l.length -n)=(m+(l.length -n))+1 by omega]
  obtain⟨i0,yq,AJ,yr⟩: ∃i,i<n∧bk.getD i true=false∧ ∀j,j<i→bk.getD j true=true:=by
   have cH: ∃i,i<n∧bk.getD i true=false:=by
    cases hf:(List.range n).filter fun i=> !bk.getD i true with
    |nil=>rw[left,hf]at hm;cases hm
    |cons i r=>
     have:i∈(List.range n).filter fun i=> !bk.getD i true:=by rw[hf];simp
     obtain⟨h1,h2⟩:=List.mem_filter.1 this
     exact⟨i,List.mem_range.1 h1,by simpa using h2⟩
   obtain⟨i,h1,h2⟩:=cH
   induction i using Nat.strongRecOn with
   |_ i ih=>
    by_cases h: ∃j,j<i∧bk.getD j true=false
    ·
     obtain⟨j,hj,dO⟩:=h
     exact ih j hj (by omega) dO
    ·
     refine⟨i,h1,h2,fun j hj=> ?_⟩
     cases hh:bk.getD j true with
     |true=>rfl
     |false=>exact absurd ⟨j,hj,hh⟩ h
  have fc:bk.size=l.length:=by simpa using H.inv.size
  have yt:i0∈Region.ready .any l.toArray bk:=by
   obtain⟨o,ho,bR⟩:=AG hB i0 yq
   refine mem_ready.2 ⟨AJ,o,by simpa using ho,fun e he hb=> ?_⟩
   have h1:=bR.back e he hb
   have h2:=yr e.on h1
   have h3:e.on<bk.size:=by omega
   simp[h3]at h2⊢;exact h2
  refine⟨fun h=>(by rw[h]at yt;cases yt),fun i hi=> ?_⟩
  have gU:i<n:=by
   rcases Nat.lt_or_ge i n with h|h
   ·
    exact h
   ·
    exact absurd hi (tail_waits hs hc (by simpa using hn) H.inv _ i0 rfl yq AJ i h)
  obtain⟨o,ho,bR⟩:=AG hB i gU
  obtain⟨hO,o',nr,oT⟩:=mem_ready.1 hi
  have:o'=o:=by simpa[ho]using nr.symm
  subst this
  have qM:left n (bk.setIfInBounds i true)=m:=by have:=IE gU hO;omega
  obtain⟨L,hL,lB,hF⟩:=H.mem
  cases ju:fs.contains i with
  |false=>
   have AK:=PW H gU ju bR hB oT
   have ew:=IC (ops:=l.toArray) AK
   have ee:execOp a.eval o'=execOp (fr l fs v a0 i).eval o':=execOp_congr o' bR.sP (DY AK)
   obtain⟨IF,P2⟩:=hq i gU ju o' ho
   have next: ∀w',Mem w [] w'→wpAny P .any l.toArray Q (m+(l.length -n)) (bk.setIfInBounds i true) (a.put o'.dst (v i)) w':=fun w' gK=>
    DZ hB hn hs hc D0 cB bx yp hq m rs af _ _ w' qM (PY H gU ju ho bR hB hi gK)
   unfold wpOp
   simp only[nr]
   rw[ew]
   split
   ·
    rename_i nZ
    have h1:=IF nZ w (lB w hL)
    refine .inl ?_
    unfold Oper.wp
    rw[ee]
    unfold Oper.quietAt at h1
    generalize(execOp (fr l fs v a0 i).eval o').run P w=r at h1
    unfold Oper.quietUpon at h1
    split at h1
    ·
     obtain⟨rfl,rfl⟩:=h1;exact next _ (Mem.init _)
    ·
     obtain⟨rfl,e⟩:=h1;rw[e]at next;exact next _ (Mem.init _)
    ·
     obtain⟨rfl,rM⟩:=h1
     exact rM.mono fun e nW ⟨he,hm⟩=>by subst he;exact next _ hm
    ·
     exact h1.elim
   ·
    rename_i nZ
    have:=P2 (by simpa using nZ)
    rw[this]at next
    exact next w (Mem.init _)
  |true=>
   have AI:i∈rs:=(H.todo i gU ju).1 hO
   cases rs with
   |nil=>cases AI
   |cons r uy=>
    have yu:i=r:=by
     rcases List.mem_cons.1 AI with h|h
     ·
      exact h
     ·
      exfalso
      obtain⟨ds,ux⟩:=H.gL
      have P3:qK l (r::uy)=true:=by
       rw[ux]at yp
       have key: ∀ds:List Nat,qK l (ds++r::uy)=true→qK l (r::uy)=true:=by
        intro ds
        induction ds with
        |nil=>exact id
        |cons d ds ih=>
         intro hh
         cases ds with
         |nil=>simp only[List.cons_append,List.nil_append,qK,Bool.and_eq_true]at hh;exact hh.2
         |cons d' ds'=>simp only[List.cons_append,qK,Bool.and_eq_true]at hh;exact ih hh.2
       exact key ds yp
      obtain⟨p,hp,op,dP,e,he,hb,dW⟩:=IA uy r P3 i h
      have:op=o':=by rw[ho]at dP;exact(Option.some.inj dP).symm
      subst this
      have hl:=oT e he hb
      rw[dW]at hl
      have IG:p∈fs:=by rw[ux];exact List.mem_append_right _ hp
      have h1:=(H.todo p (bx p IG) (by simpa using IG)).2 hp
      rw[getD_both h1]at hl
      cases hl
    subst yu
    obtain⟨of,oU,hg,fX⟩:=hF
    have:of=o':=by rw[ho]at oU;exact(Option.some.inj oU).symm
    subst this
    have AK:=IB H bR oT
    have ee:execOp a.eval of=execOp af.eval of:=execOp_congr of bR.sP (DY AK)
    have h1:=fX w hL
    have next: ∀u w' E,(Mem w0 E w'∧(∀w,Mem w0 E w→Mem w0 L0 w)∧rL P l n Q w0 L0 uy (af.put of.dst u) E)→wpAny P .any l.toArray Q (m+(l.length -n)) (bk.setIfInBounds i true) (a.put of.dst u) w':=fun u w' E ⟨gK,P4,P5⟩=>
     DZ hB hn hs hc D0 cB bx yp hq m uy (af.put of.dst u) _ _ w' qM (P0 H gU ju cB ho bR hi gK P4 P5)
    unfold wpOp
    simp only[nr]
    rw[if_pos (by simp[Region.wanted,hg])]
    refine .inl ?_
    unfold Oper.wp
    rw[ee]
    generalize(execOp af.eval of).run P w=r at h1
    unfold Iz at h1
    split at h1
    ·
     obtain⟨E,hR⟩:=h1;exact next _ _ E hR
    ·
     obtain⟨rfl,rM⟩:=h1
     exact rM.mono fun e nW ⟨u,E,he,hR⟩=>by subst he;exact next u _ E hR
    ·
     exact h1.elim
def AL(l:List Oper)(fs:List Nat)(n:Nat):Bool:=
 ym l fs n&&decide (n<l.length)&&Region.sinkB .any l.toArray n&&Region.chainB .any l.toArray n&&Region.seqB .any l.toArray (l.length -n) n (v9 l.length n)&&
  decide fs.Nodup&&(fs.all fun j=>decide (j<n))&&qK l fs
theorem P6{id:Nat}{ro:Option Nat}[jZ Q]{a:Act}{w:World}(n:Nat)(cB:nV l=true)(hm:P.follows .mixedOrders=true)(hB:AL l fs n=true){L:List ak}(hC:Mem w0 L {w with drawn:=w.drawn+1})(lB: ∀w,Mem w0 L w→Mem w0 L0 w)
  (h:lT P l.toArray fs (Mem w0 L0) (fun a'=>rL P l n Q w0 L0 fs a' L) 0 (l.take n) a):(Code.region id l.toArray true).wpIn (k8 ro) 0 P Q a w:=by
 simp only[AL,Bool.and_eq_true,decide_eq_true_eq]at hB
 obtain⟨⟨⟨⟨⟨⟨⟨h1,h2⟩,h3⟩,h4⟩,h5⟩,h6⟩,h7⟩,h8⟩:=hB
 have P7: ∀j∈fs,j<n:=fun j hj=>by have:=List.all_eq_true.1 h7 j hj;simpa using this
 obtain⟨v,_,g2,g3⟩:=DW (P:=P) (C:=Mem w0 L0) (l:=l) (fs:=fs) n 0 a (fun _=>undef) (by omega) (by simpa[fr]using h)
 refine DU cB hm ?_
 have D1:HeadInv .any l.toArray n (Array.replicate l.toArray.size false):=
  ⟨by simp,fun j oj _ hl=>(by rw[getD_replicate_false]at hl;cases hl),fun t _ ht=>getD_in (by simpa using ht) (getD_replicate_false _ _)⟩
 have qM:left n (Array.replicate l.toArray.size false)=n:=by
  unfold left
  rw[List.filter_eq_self.2 (fun j hj=> ?_),List.length_range]
  have jt:=List.mem_range.1 hj
  simp[show j<l.length by omega]
 rw[Nat.zero_add]at g3
 have:=DZ (P:=P) (Q:=Q) (w0:=w0) (L0:=L0) (v:=v) (a0:=a) h1 h2 h3 h4 h5 h6 P7 h8 (fun k hk hf=>g2 k (by omega) (by omega) hf) n fs (fr l fs v a n) (Array.replicate l.toArray.size false) a _ qM
  ⟨D1,⟨L,hC,lB,g3⟩,rfl,yk v a n,rfl,AF v a n,⟨[],rfl⟩,fun j hj hf=> ?_,fun j d hj hl=> ?_,fun _ _=>rfl,fun _ _=>rfl⟩
 ·
  rw[show n+(l.length -n)=l.toArray.size by simp;omega]at this
  exact this
 ·
  have:j∈fs:=by simpa using hf
  simp[show j<l.length by omega,this]
 ·
  simp[show j<l.length by omega]at hl
end
open Go.RowKit
abbrev Env:=List (Nat×Value)
theorem D2{a b:Nat}(h: ¬a=b):Nat.beq a b=false:=by
 cases hb:Nat.beq a b with
 |false=>rfl
 |true=>exact absurd (Nat.eq_of_beq_eq_true hb) h
def look:Env→Nat→Option Value
 |[],_=>none
 |(k,v)::r,d=>match Nat.beq k d with
  |true=>some v
  |false=>look r d
structure cE where
 n:Nat
 ds:List Nat
 ro:Option Nat
structure db(N:cE)(env:Env)(a:Act):Prop where
 size:a.tmps.size=N.n
 get: ∀d v,look env d=some v→a.tmps[d]? =some v
 defers:a.defers=N.ds.map mark
def ev(env:Env):Operand→Option Value
 | .tmp t=>look env t
 | .const v=>some v
 | .global g=>some (.pointer (some ⟨g,0,none⟩))
 | .func f=>some (.func (.func f) #[] #[])
theorem db.ev{N:cE}{env:Env}{a:Act}(h:db N env a){x:Operand}{v:Value}(e:ev env x=some v):a.eval x=v:=by
 match x,e with
 | .tmp t,e=>
  have:=h.get t v e
  simp[Act.eval,this]
 | .const u,e=>simpa[ay.ev,Act.eval]using e
 | .global g,e=>simpa[ay.ev,Act.eval]using e
 | .func f,e=>simpa[ay.ev,Act.eval]using e
def hU(env:Env):List Operand→Option (List Value)
 |[]=>some []
 |x::r=>match ev env x,hU env r with
  |some v,some vs=>some (v::vs)
  |_,_=>none
theorem db.hU{N:cE}{env:Env}{a:Act}(h:db N env a): ∀{xs:List Operand} {vs:List Value},hU env xs=some vs→xs.map a.eval=vs
 |[],vs,e=>by simp[ay.hU]at e;simp[e]
 |x::r,vs,e=>by
  unfold ay.hU at e
  split at e
  ·
   rename_i v P8 hv wa
   simp only[Option.some.injEq]at e
   subst e
   simp[h.ev hv,h.hU wa]
  ·
   simp at e
theorem gN{env:Env}:hU env []=some []:=rfl
theorem dI{env:Env}{x:Operand}{r:List Operand}{v:Value}{vs:List Value}(h:ev env x=some v)(h':hU env r=some vs):hU env (x::r)=some (v::vs):=by
 simp[hU,h,h']
def cy(env:Env):Option Tmp→Value→Env
 |some d,v=>(d,v)::env
 |none,_=>env
def dn(N:cE):Option Tmp→Bool
 |some d=>Nat.ble (d+1) N.n
 |none=>true
theorem db.put{N:cE}{env:Env}{a:Act}(h:db N env a){dst:Option Tmp}(hd:dn N dst=true)(v:Value):db N (cy env dst v) (a.put dst v):=by
 cases dst with
 |none=>exact h
 |some d=>
  have bx:d<N.n:=Nat.le_of_ble_eq_true hd
  refine⟨by simp[Act.put,h.size],fun d' v' hv=> ?_,h.defers⟩
  simp only[cy,look]at hv
  simp only[Act.put,Array.getElem?_setIfInBounds]
  by_cases he:d=d'
  ·
   subst he
   simp at hv
   simp[hv,h.size,bx]
  ·
   have:Nat.beq d d'=false:=D2 he
   rw[this]at hv
   rw[if_neg he]
   exact h.get d' v' hv
def Sub(AM env:Env):Prop:= ∀d v,look AM d=some v→look env d=some v
theorem Sub.nil(env:Env):Sub [] env:=fun _ _ h=>by simp[look]at h
theorem Sub.cons{r env:Env}{d:Nat}{v:Value}(hv:look env d=some v)(h:Sub r env):Sub ((d,v)::r) env:=fun d' v' h'=>by
 simp only[look]at h'
 by_cases he:d=d'
 ·
  subst he;simp at h';rw[←h'];exact hv
 ·
  have:Nat.beq d d'=false:=D2 he
  rw[this]at h';exact h d' v' h'
theorem db.sub{N:cE}{env AM:Env}{a:Act}(h:db N env a)(s:Sub AM env):db N AM a:=⟨h.size,fun d v e=>h.get d v (s d v e),h.defers⟩
theorem db.enter(args:List Value)(N:Nat)(h:args.length≤N):db ⟨N,[],none⟩ (args.zipIdx.map fun p=>(p.2,p.1)) {tmps:=args.toArray++Array.replicate (N -args.toArray.size) undef,defers:=[]}:=by
 refine⟨by simp;omega,fun d v e=> ?_,rfl⟩
 have key: ∀(l:List Value) (k:Nat),look ((l.zipIdx k).map fun p=>(p.2,p.1)) d=some v→k≤d∧l[d -k]? =some v:=by
  intro l
  induction l with
  |nil=>intro k h;simp[look]at h
  |cons x r ih=>
   intro k h
   simp only[List.zipIdx_cons,List.map_cons,look]at h
   by_cases he:k=d
   ·
    subst he;simp at h;simp[h]
   ·
    have:Nat.beq k d=false:=D2 he
    rw[this]at h
    obtain⟨h1,h2⟩:=ih (k+1) h
    refine⟨by omega,?_⟩
    rw[show d -k=(d -(k+1))+1 by omega,List.getElem?_cons_succ];exact h2
 have hh:=(key args 0 e).2
 rw[Nat.sub_zero]at hh
 have bx:d<args.length:=by
  rcases Nat.lt_or_ge d args.length with h'|h'
  ·
   exact h'
  ·
   simp[List.getElem?_eq_none h']at hh
 rw[Array.getElem?_append_left (by simpa using bx)]
 simpa using hh
section
variable {P:Program} {N:cE} {w0:World} {env:Env} {L:List ak} {d:Option Tmp} {ty:TypeId} {ps:String} {af:Array Edge} {gd:Option (Nat×Bool)}
def Ry(P:Program)(N:cE)(w0:World)(env:Env)(L:List ak)(o:Oper)(v:Value):Prop:=
 ∀a w,db N env a→Mem w0 L w→(execOp a.eval o).run P w= .ok (.value v) w
def Yl(P:Program)(N:cE)(w0:World)(env:Env)(L:List ak)(o:Oper)(v:Value):Prop:=
 ∀a,db N env a→rK P o a (Mem w0 L) v
theorem Ry.yl{o:Oper}{v:Value}(h:Ry P N w0 env L o v):Yl P N w0 env L o v:=fun a ha w hw=>by
 unfold Oper.quietAt;rw[h a w ha hw];exact⟨rfl,rfl⟩
theorem aE{x:Operand}{v:Value}(hx:ev env x=some v):Ry P N w0 env L ⟨d, .move x,ty,ps,af,gd⟩ v:=fun a w ha _=>by
 simp only[execOp,ha.ev hx,Sem.run_pure]
theorem bn{x:Operand}{v:Value}(hx:ev env x=some v):Ry P N w0 env L ⟨d, .assign x,ty,ps,af,gd⟩ v:=fun a w ha _=>by
 simp only[execOp,ha.ev hx,Sem.run_pure]
theorem D3{c x y:Operand}{g:Bool}{vx vy:Value}(hc:ev env c=some (.bool g))(hx:ev env x=some vx)(hy:ev env y=some vy):
  Ry P N w0 env L ⟨d, .pick c x y,ty,ps,af,gd⟩ (if g=true then vx else vy):=fun a w ha _=>by
 simp only[execOp,ha.ev hx,ha.ev hc,ha.ev hy,Sem.run_bind,Sem.run_pure,asBool,Result.andThen]
theorem uz{c x y:Operand}{g b:Bool}(hc:ev env c=some (.bool g))(hx:ev env x=some (if g=true then .bool b else undef))(hy:ev env y=some (.bool false)):
  Ry P N w0 env L ⟨d, .pick c x y,ty,ps,af,gd⟩ (.bool (g&&b)):=by
 have h:=D3 (P:=P) (N:=N) (w0:=w0) (L:=L) (d:=d) (ty:=ty) (ps:=ps) (af:=af) (gd:=gd) hc hx hy
 cases g<;>simpa using h
theorem lU{c x y:Operand}{g b:Bool}(hc:ev env c=some (.bool g))(hx:ev env x=some (.bool true))(hy:ev env y=some (if(!g)=true then .bool b else undef)):
  Ry P N w0 env L ⟨d, .pick c x y,ty,ps,af,gd⟩ (.bool (g||b)):=by
 have h:=D3 (P:=P) (N:=N) (w0:=w0) (L:=L) (d:=d) (ty:=ty) (ps:=ps) (af:=af) (gd:=gd) hc hx hy
 cases g<;>simpa using h
theorem iD{x:Operand}{g:Bool}{t:TypeId}(hx:ev env x=some (.bool g)):Ry P N w0 env L ⟨d, .unOp .not t x,ty,ps,af,gd⟩ (.bool (!g)):=fun a w ha _=>by
 simp only[execOp,ha.ev hx,Op.unary,Sem.run_bind,Sem.run_pure,Result.andThen]
theorem aU{x:Operand}{vs:Array Value}{i:Nat}{v:Value}(hx:ev env x=some (.tuple vs))(hv:vs[i]? =some v):Ry P N w0 env L ⟨d, .extract x i,ty,ps,af,gd⟩ v:=fun a w ha _=>by
 simp only[execOp,ha.ev hx,Instr.extract,hv,Sem.run_bind,Sem.run_pure,Result.andThen]
def k9(op:BinOp)(k:IntKind)(a b:Int):Option Value:=
 match op with
 | .add=>some (.int k (k.wrap (a+b)))
 | .sub=>some (.int k (k.wrap (a -b)))
 | .mul=>some (.int k (k.wrap (a*b)))
 | .quo=>if b=0 then none else some (.int k (k.wrap (a.tdiv b)))
 | .rem=>if b=0 then none else some (.int k (a.tmod b))
 | .and=>some (.int k (k.wrap (BitVec.ofInt k.bits a&&&BitVec.ofInt k.bits b).toNat))
 | .or=>some (.int k (k.wrap (BitVec.ofInt k.bits a|||BitVec.ofInt k.bits b).toNat))
 | .xor=>some (.int k (k.wrap (BitVec.ofInt k.bits a^^^BitVec.ofInt k.bits b).toNat))
 | .andNot=>some (.int k (k.wrap (BitVec.ofInt k.bits a&&& ~~~BitVec.ofInt k.bits b).toNat))
 | .eql=>some (.bool (decide (a=b)))
 | .neq=>some (.bool (!decide (a=b)))
 | .lss=>some (.bool (decide (a<b)))
 | .leq=>some (.bool (decide (a≤b)))
 | .gtr=>some (.bool (decide (b<a)))
 | .geq=>some (.bool (decide (b≤a)))
 |_=>none
theorem D4(op:BinOp)(t:TypeId)(x y:Operand)(k k':IntKind)(a b:Int)(w:World):(eqGuard op t x y (.int k a) (.int k' b)).run P w= .ok () w:=by
 cases op<;>rfl
theorem P9{op:BinOp}{k:IntKind}{a b:Int}{v:Value}(t:TypeId)(h:k9 op k a b=some v)(w:World):(binOp op t (.int k a) (.int k b)).run P w= .ok v w:=by
 cases op<;>simp only[k9,Option.some.injEq,reduceCtorEq]at h<;>(try split at h)<;>(try simp only[Option.some.injEq,reduceCtorEq]at h)<;>(try subst h)<;>
  simp_all[binOp,Op.intArith,Op.intDiv,Op.intBits,Op.intCmp]<;>rfl
theorem cz{op:BinOp}{k:IntKind}{x y:Operand}{a b:Int}{v:Value}{t u:TypeId}(hx:ev env x=some (.int k a))(hy:ev env y=some (.int k b))(h:k9 op k a b=some v):
  Ry P N w0 env L ⟨d, .binOp op t x y u,ty,ps,af,gd⟩ v:=fun a w ha _=>by
 simp only[execOp,ha.ev hx,ha.ev hy,Sem.run_bind,D4,P9 t h,Sem.run_pure,Result.andThen]
end
def sU:TypeDesc→Bool
 | .struct _| .array _ _=>true
 |_=>false
class fY(P:Program)(t:TypeId)(n:outParam Nat):Prop where
 row: ∃d,P.underlying t=some d∧sU d=true
 size:(P.info? t).map (·.size)=some n
class gV(P:Program)(t:TypeId):Prop where
 one: ∃d,P.underlying t=some d∧sU d=false
 size:(P.info? t).map (·.size)=some 1
class dJ(P:Program)(s:TypeId)(i:Nat)(off:outParam Nat):Prop where
 Qa: ∃fs f m,P.underlying s=some (.struct fs)∧fs[i]? =some f∧f.offset=off∧(P.info? f.type).map (·.size)=some (m+1)
class uA(P:Program)(t:TypeId)(n m:outParam Nat):Prop where
 arr: ∃e,P.underlying t=some (.array n e)∧(P.info? e).map (·.size)=some m
class fe(P:Program)(t:TypeId)(e:outParam TypeId)(m:outParam Nat):Prop where
 eE:P.underlying t=some (.slice e)
 size:(P.info? e).map (·.size)=some m
class lV(P:Program)(t:TypeId)(k:outParam IntKind):Prop where
 eE:P.underlying t=some (.int k)
class fo(P:Program)(t:TypeId)(v:outParam Value):Prop where
 zero:(P.info? t).map (·.zero)=some (some v)
class aR(P:Program)(f:FuncId):Prop where
 fn: ∃fn,P.funcs[f]? =some fn∧fn.body.isNone=false∧(fn.name== "runtime.NumGoroutine")=false
class Has(L:List ak)(b:Nat)(cs:outParam (Array Value))(T:outParam TypeId)(i:outParam Nat):Prop where
 h:L[i]? =some (ar b cs T)
instance (priority:=high) Has.here {L:List ak}{b:Nat}{cs:Array Value}{T:TypeId}:Has (ar b cs T::L) b cs T 0:=⟨rfl⟩
instance Has.there{L:List ak}{e:ak}{b:Nat}{cs:Array Value}{T:TypeId}{i:Nat}[q:Has L b cs T i]:Has (e::L) b cs T (i+1):=⟨by simpa using q.h⟩
class fE(L:List ak)(i:Nat)(e:ak)(L':outParam (List ak)):Prop where
 h:L.set i e=L'
instance fE.here{L:List ak}{x e:ak}:fE (x::L) 0 e (e::L):=⟨rfl⟩
instance fE.there{L L':List ak}{x e:ak}{i:Nat}[q:fE L i e L']:fE (x::L) (i+1) e (x::L'):=⟨by simp[q.h]⟩
class cm(cs:Array Value)(o:Nat)(v:outParam Value):Prop where
 h:cs[o]? =some v
class n0(cs:Array Value)(o n:Nat)(sub:outParam (Array Value)):Prop where
 size:sub.size=n
 h: ∀j,j<n→cs[o+j]? =sub[j]?
class gq(cs:Array Value)(n:outParam Nat):Prop where
 h:cs.size=n
 one:cs.all (·.oneCell')=true
class oV(P:Program)(f:FuncId)(vs:List Value)(v:outParam Value):Prop where
 h: ∀w,Calls P f vs.toArray w fun e w'=>e= .returned v∧Mem w [] w'
class wb(P:Program)(t:TypeId)(x y:Value)(r:outParam Bool):Prop where
 h: ∀w,(Op.equalIn 10000 t x y).run P w= .ok r w
 plain:P.eqGuardType P.depth t=false
 agg: ∃xs ys,x= .agg xs∧y= .agg ys
section
variable {P:Program} (w:World)
theorem IH{t:TypeId}{i:TypeInfo}(h:P.info? t=some i):(typeInfo t).run P w= .ok i w:=by
 simp[typeInfo,h]
theorem kK{t:TypeId}{n:Nat}(h:(P.info? t).map (·.size)=some n):(sizeOf t).run P w= .ok n w:=by
 cases hi:P.info? t with
 |none=>simp[hi]at h
 |some i=>simp[hi]at h;simp[sizeOf,IH w hi,h]
theorem AN{t:TypeId}{v:Value}(h:fo P t v):(zeroValue t).run P w= .ok v w:=by
 have h:=h.zero
 cases hi:P.info? t with
 |none=>simp[hi]at h
 |some i=>simp[hi]at h;simp[zeroValue,IH w hi,h]
theorem AO{t:TypeId}{d:TypeDesc}(h:P.underlying t=some d):(isAgg t).run P w= .ok (sU d) w:=by
 cases d<;>simp[isAgg,run_underlying h,sU]
theorem Qb{t:TypeId}(h:gV P t){a:Addr}{v:Value}(hc:w.cell? a=some v):(loadVar t a).run P w= .ok v w:=by
 obtain⟨d,hu,hd⟩:=h.one
 simp[loadVar,AO w hu,hd,hc]
theorem D5{t:TypeId}{n:Nat}(h:fY P t n){a:Addr}{cs:Array Value}(hn:cs.size=n)(hc: ∀j,j<n→w.cell? (a.add j)=cs[j]?):(loadVar t a).run P w= .ok (.agg cs) w:=by
 obtain⟨d,hu,hd⟩:=h.row
 have hl:(loadCells a n).run P w= .ok cs w:=by
  have:=run_loadCells_list (P:=P) w a cs.toList (fun j v hv=>by
   have hj:j<n:=by
    have:=(List.getElem?_eq_some_iff.1 hv).1
    simpa[hn]using this
   rw[hc j hj];simpa using hv)
  simpa[hn]using this
 simp[loadVar,AO w hu,hd,kK w h.size,hl]
end
section
variable {P:Program} {N:cE} {w0:World} {env:Env} {L:List ak} {d:Option Tmp} {ty:TypeId} {ps:String} {af:Array Edge} {gd:Option (Nat×Bool)}
theorem Addr.gB(b o j:Nat):(⟨b,o,none⟩:Addr).add j=⟨b,o+j,none⟩:=by
 unfold Addr.add;split<;>simp_all
theorem wc{t:TypeId}{x:Operand}{p:Addr}{v:Value}(ht:gV P t)(hx:ev env x=some (.pointer (some p)))(hc: ∀w,Mem w0 L w→w.cell? p=some v):
  Ry P N w0 env L ⟨d, .load t x,ty,ps,af,gd⟩ v:=fun a w ha hw=>by
 simp only[execOp,ha.ev hx,Instr.loadAt,Instr.sureAddr,Sem.run_bind,Sem.run_pure,Result.andThen,Qb w ht (hc w hw)]
theorem yw{t:TypeId}{x:Operand}{p:Addr}{n:Nat}{cs:Array Value}(ht:fY P t n)(hx:ev env x=some (.pointer (some p)))(hn:cs.size=n)(hc: ∀w,Mem w0 L w→ ∀j,j<n→w.cell? (p.add j)=cs[j]?):
  Ry P N w0 env L ⟨d, .load t x,ty,ps,af,gd⟩ (.agg cs):=fun a w ha hw=>by
 simp only[execOp,ha.ev hx,Instr.loadAt,Instr.sureAddr,Sem.run_bind,Sem.run_pure,Result.andThen,D5 w ht hn (hc w hw)]
theorem II{t:TypeId}{x:Operand}{i b o:Nat}{cs:Array Value}{T:TypeId}{v:Value}(hx:ev env x=some (.pointer (some ⟨b,o,none⟩)))[ht:gV P t][hi:Has L b cs T i](hc:cs[o]? =some v):
  Ry P N w0 env L ⟨d, .load t x,ty,ps,af,gd⟩ v:=wc ht hx fun w hw=>by rw[hw.cell hi.h];exact hc
theorem bJ{t:TypeId}{x:Operand}{i b o:Nat}{cs:Array Value}{T:TypeId}{v:Value}(hx:ev env x=some (.pointer (some ⟨b,o,none⟩)))[ht:gV P t][hi:Has L b cs T i][hc:cm cs o v]:
  Ry P N w0 env L ⟨d, .load t x,ty,ps,af,gd⟩ v:=II hx hc.h
theorem gu{t:TypeId}{x:Operand}{i b n:Nat}{cs:Array Value}{T:TypeId}(hx:ev env x=some (.pointer (some ⟨b,0,none⟩)))[ht:fY P t n][hi:Has L b cs T i][hn:gq cs n]:
  Ry P N w0 env L ⟨d, .load t x,ty,ps,af,gd⟩ (.agg cs):=yw ht hx hn.h fun w hw j _=>by rw[Addr.gB,hw.cell hi.h,Nat.zero_add]
theorem jv{t:TypeId}{x:Operand}{i b o n:Nat}{cs sub:Array Value}{T:TypeId}(hx:ev env x=some (.pointer (some ⟨b,o,none⟩)))[ht:fY P t n][hi:Has L b cs T i][hs:n0 cs o n sub]:
  Ry P N w0 env L ⟨d, .load t x,ty,ps,af,gd⟩ (.agg sub):=yw ht hx hs.size fun w hw j hj=>by rw[Addr.gB,hw.cell hi.h];exact hs.h j hj
theorem aI{s:TypeId}{x:Operand}{fi off b o o':Nat}[hf:dJ P s fi off](hx:ev env x=some (.pointer (some ⟨b,o,none⟩)))(ho:Nat.add o off=o'):
  Ry P N w0 env L ⟨d, .fieldAddr s x fi,ty,ps,af,gd⟩ (.pointer (some ⟨b,o',none⟩)):=fun a w ha _=>by
 obtain⟨fs,f,m,hu,ju,oU,fc⟩:=hf.Qa
 subst ho oU
 simp only[execOp,ha.ev hx,Instr.fieldAt,Sem.run_bind,run_underlying hu,Result.andThen,ju,Instr.sureAddr,Sem.run_pure,fieldPlace,kK w fc,Nat.succ_ne_zero,if_false,Addr.gB,Nat.add_eq]
theorem Qc{t:TypeId}{x ix:Operand}{n m b o:Nat}{k:IntKind}{j:Int}[ht:uA P t n m](hx:ev env x=some (.pointer (some ⟨b,o,none⟩)))(hj:ev env ix=some (.int k j))(h0:0≤j)(h1:j<n):
  Ry P N w0 env L ⟨d, .indexAddr t x ix,ty,ps,af,gd⟩ (.pointer (some ⟨b,o+j.toNat*m,none⟩)):=fun a w ha _=>by
 obtain⟨e,hu,fc⟩:=ht.arr
 simp only[execOp,ha.ev hx,ha.ev hj,Instr.indexAt,asIntOf,Sem.run_bind,run_underlying hu,Result.andThen,Instr.sureAddr,Sem.run_pure,kK w fc,h0,h1,and_self,if_true,Addr.gB]
theorem rN{t:TypeId}{x ix:Operand}{n b:Nat}{k:IntKind}{j:Int}[ht:uA P t n 1](hx:ev env x=some (.pointer (some ⟨b,0,none⟩)))(hj:ev env ix=some (.int k j))(h0:0≤j)(h1:j<n):
  Ry P N w0 env L ⟨d, .indexAddr t x ix,ty,ps,af,gd⟩ (.pointer (some ⟨b,j.toNat,none⟩)):=by
 have:=Qc (P:=P) (t:=t) (N:=N) (w0:=w0) (L:=L) (d:=d) (ty:=ty) (ps:=ps) (af:=af) (gd:=gd) hx hj h0 h1
 simpa using this
theorem IJ{t e:TypeId}{x ix:Operand}{m b o len cap:Nat}{k:IntKind}{j:Int}[ht:fe P t e m](hx:ev env x=some (.slice (some ⟨b,o,none⟩) len cap))(hj:ev env ix=some (.int k j))(h0:0≤j)(h1:j<len):
  Ry P N w0 env L ⟨d, .indexAddr t x ix,ty,ps,af,gd⟩ (.pointer (some ⟨b,o+j.toNat*m,none⟩)):=fun a w ha _=>by
 simp only[execOp,ha.ev hx,ha.ev hj,Instr.indexAt,asIntOf,Sem.run_bind,run_underlying ht.eE,Result.andThen,Sem.run_pure,kK w ht.size,h0,h1,and_self,if_true,Addr.gB]
theorem rO{s t:TypeId}{x:Operand}{k k':IntKind}{n m:Int}[hs:lV P s k'][ht:lV P t k](hx:ev env x=some (.int k' n))(hm:k.wrap n=m):
  Ry P N w0 env L ⟨d, .convert s t x,ty,ps,af,gd⟩ (.int k m):=fun a w ha _=>by
 subst hm
 simp only[execOp,ha.ev hx,convert,Sem.run_bind,run_underlying hs.eE,run_underlying ht.eE,Result.andThen,Conv.intToInt,Sem.run_pure]
theorem uB{t e:TypeId}{x:Operand}{m len cap:Nat}{p:Option Addr}[ht:fe P t e m](hx:ev env x=some (.slice p len cap)):
  Ry P N w0 env L ⟨d, .call {callee:= .builtin .len,args:= #[x],argTypes:= #[t]},ty,ps,af,gd⟩ (.int .i64 len):=fun a w ha _=>by
 simp[execOp,ha.ev hx,resolve,invoke,builtin,Builtin.len_,run_underlying ht.eE,goInt,Result.andThen]
theorem AP{f:FuncId}(hf:aR P f){ρ:Operand→Value}{xs:List Operand}{ts:Array TypeId}(w:World)(Qd:ρ (.func f)= .func (.func f) #[] #[]):
  (execOp ρ ⟨d, .call {callee:= .value (.func f),args:=xs.toArray,argTypes:=ts},ty,ps,af,gd⟩).run P w= .ok (.enter f (xs.map ρ).toArray) w:=by
 obtain⟨fn,h1,h2,h3⟩:=hf.fn
 have D6: ¬fn.body=none:=fun e=>by simp[e]at h2
 have we: ¬fn.name= "runtime.NumGoroutine" :=by simpa using h3
 simp[execOp,resolve,Qd,Deferred.ofValue,invoke,callFunc,h1,D6,we,Result.andThen]
theorem AQ{f:FuncId}{xs:List Operand}{ts:Array TypeId}{vs:List Value}{v:Value}[hf:aR P f](hx:hU env xs=some vs)
  (hc: ∀w,Mem w0 L w→Calls P f vs.toArray w fun e w'=>e= .returned v∧Mem w [] w'):
  Yl P N w0 env L ⟨d, .call {callee:= .value (.func f),args:=xs.toArray,argTypes:=ts},ty,ps,af,gd⟩ v:=fun a ha w hw=>by
 unfold Oper.quietAt
 rw[AP hf w rfl,ha.hU hx]
 exact⟨rfl,hc w hw⟩
theorem wg{f:FuncId}{xs:List Operand}{ts:Array TypeId}{vs:List Value}{v:Value}[hf:aR P f](hx:hU env xs=some vs)[hc:oV P f vs v]:
  Yl P N w0 env L ⟨d, .call {callee:= .value (.func f),args:=xs.toArray,argTypes:=ts},ty,ps,af,gd⟩ v:=AQ hx fun w _=>hc.h w
theorem IK{op:BinOp}{t:TypeId}(hm:P.eqGuardType P.depth t=false)(x y:Operand)(xs ys:Array Value)(w:World):(eqGuard op t x y (.agg xs) (.agg ys)).run P w= .ok () w:=run_eqGuard_agg w op t x y xs ys hm
theorem IL{x y:Operand}{t u:TypeId}{vx vy:Value}{r:Bool}(hx:ev env x=some vx)(hy:ev env y=some vy)[h:wb P t vx vy r]:
  Ry P N w0 env L ⟨d, .binOp .eql t x y u,ty,ps,af,gd⟩ (.bool r):=fun a w ha _=>by
 obtain⟨xs,ys,e1,e2⟩:=h.agg
 subst e1 e2
 simp only[execOp,ha.ev hx,ha.ev hy,Sem.run_bind,IK h.plain,Result.andThen,run_eql_struct,h.h,Sem.run_pure]
theorem D7{x y:Operand}{t u:TypeId}{vx vy:Value}{r:Bool}(hx:ev env x=some vx)(hy:ev env y=some vy)[h:wb P t vx vy r]:
  Ry P N w0 env L ⟨d, .binOp .neq t x y u,ty,ps,af,gd⟩ (.bool (!r)):=fun a w ha _=>by
 obtain⟨xs,ys,e1,e2⟩:=h.agg
 subst e1 e2
 simp only[execOp,ha.ev hx,ha.ev hy,Sem.run_bind,IK h.plain,Result.andThen,run_neq_struct,h.h,Sem.run_pure]
theorem Qe{x y:Operand}{t u:TypeId}{a b:Bool}(hx:ev env x=some (.bool a))(hy:ev env y=some (.bool b))(ht:P.underlying t=some .bool):
  Ry P N w0 env L ⟨d, .binOp .eql t x y u,ty,ps,af,gd⟩ (.bool (a==b)):=fun aa w ha _=>by
 have h1:(Op.equal t (.bool a) (.bool b)).run P w= .ok (a==b) w:=run_equalIn_bool' w 9999 t a b ht
 have h2:(eqGuard BinOp.eql t x y (.bool a) (.bool b)).run P w= .ok () w:=rfl
 simp only[execOp,ha.ev hx,ha.ev hy,Sem.run_bind,h2,Result.andThen_ok,binOp,h1,Sem.run_pure]
theorem wrap64_in{n:Int}(h: -9223372036854775808≤n∧n≤9223372036854775807):IntKind.i64.wrap n=n:=IntWalk.i64_in n h
theorem pS{x y:Operand}{a b:Int}{t u:TypeId}(hx:ev env x=some (.int .i64 a))(hy:ev env y=some (.int .i64 b))(h: -9223372036854775808≤a+b∧a+b≤9223372036854775807):
  Ry P N w0 env L ⟨d, .binOp .add t x y u,ty,ps,af,gd⟩ (.int .i64 (a+b)):=cz hx hy (by rw[k9,wrap64_in h])
theorem yx{x y:Operand}{a b:Int}{t u:TypeId}(hx:ev env x=some (.int .i64 a))(hy:ev env y=some (.int .i64 b))(h: -9223372036854775808≤a -b∧a -b≤9223372036854775807):
  Ry P N w0 env L ⟨d, .binOp .sub t x y u,ty,ps,af,gd⟩ (.int .i64 (a -b)):=cz hx hy (by rw[k9,wrap64_in h])
theorem uC{x y:Operand}{a b:Int}{t u:TypeId}(hx:ev env x=some (.int .i64 a))(hy:ev env y=some (.int .i64 b))(h: -9223372036854775808≤a*b∧a*b≤9223372036854775807):
  Ry P N w0 env L ⟨d, .binOp .mul t x y u,ty,ps,af,gd⟩ (.int .i64 (a*b)):=cz hx hy (by rw[k9,wrap64_in h])
theorem n7{x y:Operand}{a b:Int}{t u:TypeId}(hx:ev env x=some (.int .i64 a))(hy:ev env y=some (.int .i64 b))(h:0≤a∧a≤9223372036854775807)(hb:0<b):
  Ry P N w0 env L ⟨d, .binOp .quo t x y u,ty,ps,af,gd⟩ (.int .i64 (a/b)):=cz hx hy (by
 have h2:a/b≤a:=Int.ediv_le_self _ h.1
 have h3:0≤a/b:=Int.ediv_nonneg h.1 (by omega)
 rw[k9,if_neg (by omega),Int.tdiv_eq_ediv_of_nonneg h.1,wrap64_in (by omega)])
theorem yy{x y:Operand}{a b:Int}{k:IntKind}{t u:TypeId}(hx:ev env x=some (.int k a))(hy:ev env y=some (.int k b))(h:0≤a)(hb:0<b):
  Ry P N w0 env L ⟨d, .binOp .rem t x y u,ty,ps,af,gd⟩ (.int k (a%b)):=cz hx hy (by
 rw[k9,if_neg (by omega),Int.tmod_eq_emod_of_nonneg h])
def kL(env:Env):List (Nat×Operand)→Option (List (Nat×Value))
 |[]=>some []
 |(i,x)::r=>match ev env x,kL env r with
  |some v,some vs=>some ((i,v)::vs)
  |_,_=>none
theorem IM:kL env []=some []:=rfl
theorem yz{i:Nat}{x:Operand}{r:List (Nat×Operand)}{v:Value}{vs:List (Nat×Value)}(h:ev env x=some v)(h':kL env r=some vs):kL env ((i,x)::r)=some ((i,v)::vs):=by
 simp[kL,h,h']
theorem db.kL{a:Act}(h:db N env a): ∀{xs:List (Nat×Operand)} {vs:List (Nat×Value)},kL env xs=some vs→(xs.map fun p=>(p.1,a.eval p.2))=vs
 |[],vs,e=>by simp[ay.kL]at e;simp[e]
 |(i,x)::r,vs,e=>by
  unfold ay.kL at e
  split at e
  ·
   rename_i v P8 hv wa
   simp only[Option.some.injEq]at e
   subst e
   simp[h.ev hv,h.kL wa]
  ·
   simp at e
class yA(P:Program)(t:TypeId)(vs:List (Nat×Value))(v:outParam Value):Prop where
 h: ∀w,(Instr.build t vs.toArray).run P w= .ok v w
theorem cW{t:TypeId}{xs:List (Nat×Operand)}{vs:List (Nat×Value)}{v:Value}(hx:kL env xs=some vs)(hb: ∀w,(Instr.build t vs.toArray).run P w= .ok v w):
  Ry P N w0 env L ⟨d, .build t xs.toArray,ty,ps,af,gd⟩ v:=fun a w ha _=>by
 have e:(xs.toArray.map fun(p:Nat×Operand)=>match p with|(i,x)=>(i,a.eval x))=vs.toArray:=by
  rw[←ha.kL hx];simp
 simp only[execOp,e,Sem.run_bind,hb w,Result.andThen,Sem.run_pure]
theorem sV{t:TypeId}{xs:List (Nat×Operand)}{vs:List (Nat×Value)}{v:Value}(hx:kL env xs=some vs)[hb:yA P t vs v]:
  Ry P N w0 env L ⟨d, .build t xs.toArray,ty,ps,af,gd⟩ v:=cW hx hb.h
theorem IN{k:IntKind}{i:Int}{y:Nat}(h0:0≤i)(h1:i≤y)(c:BoundsCode)(w:World):(Instr.sliceBound (.int k i) y c).run P w= .ok i.toNat w:=by
 simp[Instr.sliceBound,asIntOf,h0,h1]
theorem IP{t:TypeId}{x hi:Operand}{n m b o:Nat}{k:IntKind}{h:Int}[ht:uA P t n m](hx:ev env x=some (.pointer (some ⟨b,o,none⟩)))(hh:ev env hi=some (.int k h))(h0:0≤h)(h1:h≤n):
  Ry P N w0 env L ⟨d, .slice t x none (some hi) none,ty,ps,af,gd⟩ (.slice (some ⟨b,o,none⟩) h.toNat n):=fun a w ha _=>by
 obtain⟨e,hu,fc⟩:=ht.arr
 have e0:(⟨b,o,none⟩:Addr).add 0=⟨b,o,none⟩:=rfl
 simp[execOp,ha.ev hx,ha.ev hh,Instr.sliceAt,run_underlying hu,Instr.sureAddr,Instr.sliceBounds,IN h0 h1,kK w fc,Result.andThen,e0]
theorem uD{t:TypeId}{x:Operand}{n m b o:Nat}[ht:uA P t n m](hx:ev env x=some (.pointer (some ⟨b,o,none⟩))):
  Ry P N w0 env L ⟨d, .slice t x none none none,ty,ps,af,gd⟩ (.slice (some ⟨b,o,none⟩) n n):=fun a w ha _=>by
 obtain⟨e,hu,fc⟩:=ht.arr
 have e0:(⟨b,o,none⟩:Addr).add 0=⟨b,o,none⟩:=rfl
 simp[execOp,ha.ev hx,Instr.sliceAt,run_underlying hu,Instr.sureAddr,Instr.sliceBounds,kK w fc,Result.andThen,e0]
theorem IQ{t:TypeId}{x lo:Operand}{n m b o:Nat}{k:IntKind}{l:Int}[ht:uA P t n m](hx:ev env x=some (.pointer (some ⟨b,o,none⟩)))(hl:ev env lo=some (.int k l))(h0:0≤l)(h1:l<n):
  Ry P N w0 env L ⟨d, .slice t x (some lo) none none,ty,ps,af,gd⟩ (.slice (some ⟨b,o+l.toNat*m,none⟩) (n -l.toNat) (n -l.toNat)):=fun a w ha _=>by
 obtain⟨e,hu,fc⟩:=ht.arr
 have e0:(if n=l.toNat then(⟨b,o,none⟩:Addr)else(⟨b,o,none⟩:Addr).add (l.toNat*m))=⟨b,o+l.toNat*m,none⟩:=by rw[if_neg (by omega),Addr.gB]
 simp[execOp,ha.ev hx,ha.ev hl,Instr.sliceAt,run_underlying hu,Instr.sureAddr,Instr.sliceBounds,IN h0 (Int.le_of_lt h1),kK w fc,Result.andThen,e0]
def nb:IntKind→Nat
 | .i8=>7| .i16=>15| .i32=>31| .i64=>63| .u8=>8| .u16=>16| .u32=>32| .u64=>64
theorem Qf(k:IntKind):nb k≤k.bits:=by cases k<;>decide
theorem oW{k:IntKind}{n:Nat}(h:n<2^nb k):k.wrap (n:Int)=n:=by
 cases k<;>simp[IntKind.wrap,IntKind.bits,IntKind.signed,nb]at* <;>omega
theorem wh(b n:Nat):BitVec.ofInt b (n:Int)=BitVec.ofNat b n:=by
 apply BitVec.eq_of_toNat_eq;simp
theorem oX{k:IntKind}{n:Nat}(h:n<2^nb k):n<2^k.bits:=Nat.lt_of_lt_of_le h (Nat.pow_le_pow_right (by decide) (Qf k))
variable {x y:Operand} {k k':IntKind} {p q:Nat} {t u:TypeId}
theorem Qg{a b:Int}(hx:ev env x=some (.int k a))(hy:ev env y=some (.int k b))(ea:a=p)(eb:b=q)(hp:p<2^nb k)(hq:q<2^nb k):
  Ry P N w0 env L ⟨d, .binOp .and t x y u,ty,ps,af,gd⟩ (.int k ((p&&&q:Nat):Int)):=cz hx hy (by
 subst ea eb
 simp only[k9,wh,BitVec.toNat_and,BitVec.toNat_ofNat,Nat.mod_eq_of_lt (oX hp),Nat.mod_eq_of_lt (oX hq)]
 rw[oW (Nat.and_lt_two_pow _ hq)])
theorem AR{a b:Int}(hx:ev env x=some (.int k a))(hy:ev env y=some (.int k b))(ea:a=p)(eb:b=q)(hp:p<2^nb k)(hq:q<2^nb k):
  Ry P N w0 env L ⟨d, .binOp .or t x y u,ty,ps,af,gd⟩ (.int k ((p|||q:Nat):Int)):=cz hx hy (by
 subst ea eb
 simp only[k9,wh,BitVec.toNat_or,BitVec.toNat_ofNat,Nat.mod_eq_of_lt (oX hp),Nat.mod_eq_of_lt (oX hq)]
 rw[oW (Nat.or_lt_two_pow hp hq)])
theorem IS{a b:Int}(hx:ev env x=some (.int k a))(hy:ev env y=some (.int k b))(ea:a=p)(eb:b=q)(hp:p<2^nb k)(hq:q<2^nb k):
  Ry P N w0 env L ⟨d, .binOp .xor t x y u,ty,ps,af,gd⟩ (.int k ((p^^^q:Nat):Int)):=cz hx hy (by
 subst ea eb
 simp only[k9,wh,BitVec.toNat_xor,BitVec.toNat_ofNat,Nat.mod_eq_of_lt (oX hp),Nat.mod_eq_of_lt (oX hq)]
 rw[oW (Nat.xor_lt_two_pow hp hq)])
theorem Qh(hp:p<2^nb k)(hq:q<2^nb k):k9 .andNot k p q=some (.int k ((p&&&(2^k.bits -1 -q):Nat):Int)):=by
 simp only[k9,wh,BitVec.toNat_and,BitVec.toNat_not,BitVec.toNat_ofNat,Nat.mod_eq_of_lt (oX hp),Nat.mod_eq_of_lt (oX hq)]
 rw[oW (Nat.lt_of_le_of_lt Nat.and_le_left hp)]
theorem Qi{a b:Int}(h:0≤b)(w:World):(binOp .shr t (.int k a) (.int k' b)).run P w= .ok (.int k (a.fdiv (2^min b.toNat k.bits))) w:=by
 simp[binOp,Op.shift,show ¬b<0 by omega]
theorem Qj{a b:Int}(h:0≤b)(w:World):(binOp .shl t (.int k a) (.int k' b)).run P w= .ok (.int k (k.wrap (a*2^min b.toNat k.bits))) w:=by
 simp[binOp,Op.shift,show ¬b<0 by omega]
theorem yB{a b:Int}(hx:ev env x=some (.int k a))(hy:ev env y=some (.int k b))(ea:a=p)(eb:b=q)(h:p+q<2^nb k):
  Ry P N w0 env L ⟨d, .binOp .add t x y u,ty,ps,af,gd⟩ (.int k ((p+q:Nat):Int)):=cz hx hy (by
 subst ea eb
 rw[k9,←Int.natCast_add,oW h])
theorem D8{a b:Int}{ts:Array TypeId}(hx:ev env x=some (.int k a))(hy:ev env y=some (.int k b)):
  Ry P N w0 env L ⟨d, .call {callee:= .builtin .min,args:= #[x,y],argTypes:=ts},ty,ps,af,gd⟩ (.int k (min a b)):=fun aa w ha _=>by
 have e:(if b<a then b else a)=min a b:=by rw[Int.min_def];split<;>split<;>omega
 simp[execOp,ha.ev hx,ha.ev hy,resolve,invoke,builtin,Builtin.min_,Builtin.min2,e]
theorem uE{a b:Int}{ts:Array TypeId}(hx:ev env x=some (.int k a))(hy:ev env y=some (.int k b)):
  Ry P N w0 env L ⟨d, .call {callee:= .builtin .max,args:= #[x,y],argTypes:=ts},ty,ps,af,gd⟩ (.int k (max a b)):=fun aa w ha _=>by
 have e:(if a<b then b else a)=max a b:=by rw[Int.max_def];split<;>split<;>omega
 simp[execOp,ha.ev hx,ha.ev hy,resolve,invoke,builtin,Builtin.max_,Builtin.max2,e]
theorem pT{s:TypeId}{n:Nat}[hs:lV P s k'][ht:lV P t k](hx:ev env x=some (.int k' n))(hn:n<2^nb k):
  Ry P N w0 env L ⟨d, .convert s t x,ty,ps,af,gd⟩ (.int k n):=rO hx (oW hn)
theorem Qk{s:TypeId}{n:Int}[hs:lV P s k'][ht:lV P t k](hx:ev env x=some (.int k' n))(h0:0≤n)(hn:n.toNat<2^nb k):
  Ry P N w0 env L ⟨d, .convert s t x,ty,ps,af,gd⟩ (.int k n):=rO hx (by
 have:=oW hn;rwa [Int.toNat_of_nonneg h0]at this)
theorem uF{b:Int}(hx:ev env x=some (.int k p))(hy:ev env y=some (.int k' b))(hp:p<2^nb k)(hb:0≤b):
  Ry P N w0 env L ⟨d, .binOp .shr t x y u,ty,ps,af,gd⟩ (.int k ((p/2^b.toNat:Nat):Int)):=fun a w ha _=>by
 have e:((p:Int).fdiv (2^min b.toNat k.bits))=((p/2^b.toNat:Nat):Int):=by
  rw[Int.fdiv_eq_ediv_of_nonneg _ (Int.pow_nonneg (by decide)),show((2:Int)^min b.toNat k.bits)=((2^min b.toNat k.bits:Nat):Int) by simp,←Int.natCast_ediv]
  congr 1
  by_cases h:b.toNat≤k.bits
  ·
   rw[Nat.min_eq_left h]
  ·
   rw[Nat.min_eq_right (by omega),Nat.div_eq_of_lt (oX hp),Nat.div_eq_of_lt (Nat.lt_of_lt_of_le (oX hp) (Nat.pow_le_pow_right (by decide) (by omega)))]
 simp only[execOp,ha.ev hx,ha.ev hy,Sem.run_bind,D4,Qi hb,e,Sem.run_pure,Result.andThen]
theorem IT{a b:Int}(hx:ev env x=some (.int k a))(hy:ev env y=some (.int k' b))(hb:0≤b):
  Ry P N w0 env L ⟨d, .binOp .shl t x y u,ty,ps,af,gd⟩ (.int k (k.wrap (a*2^min b.toNat k.bits))):=fun aa w ha _=>by
 simp only[execOp,ha.ev hx,ha.ev hy,Sem.run_bind,D4,Qj hb,Sem.run_pure,Result.andThen]
end
section
variable {P:Program} {N:cE} {w0:World} {env:Env} {L:List ak} {l:List Oper} {Q:Exit→Act→World→Prop} {F:Act→Prop} {fs:List Nat} {k:Nat} {rest:List Oper}
def Ex(N:cE)(w0:World)(Q:Exit→Act→World→Prop)(e:Exit)(env:Env)(L:List ak):Prop:= ∀a w,db N env a→Mem w0 L w→Q e a w
def Sq(P:Program)(N:cE)(w0:World)(l:List Oper)(Q:Exit→Act→World→Prop)(rest:List Oper)(env:Env)(L:List ak):Prop:=
 ∀a w,db N env a→Mem w0 L w→wpList P l.toArray Q rest a w
def Qt(P:Program)(N:cE)(w0:World)(l:List Oper)(fs:List Nat)(F:Act→Prop)(k:Nat)(rest:List Oper)(env:Env)(L:List ak):Prop:=
 ∀a,db N env a→lT P l.toArray fs (Mem w0 L) F k rest a
theorem aY(h:Ex N w0 Q .normal env L):Sq P N w0 l Q [] env L:=h
theorem wi(h:Ex N w0 Q .normal env L):Qt P N w0 l fs (fun a'=> ∀w',Mem w0 L w'→Q .normal a' w') k [] env L:=fun a ha w' gK=>h a w' ha gK
def Fr(P:Program)(N:cE)(w0:World)(Lq:List ak)(l:List Oper)(n:Nat)(Q:Exit→Act→World→Prop)(fs:List Nat)(env:Env)(L:List ak):Prop:=
 (∀w,Mem w0 L w→Mem w0 Lq w)→ ∀a,db N env a→rL P l n Q w0 Lq fs a L
theorem sW{n:Nat}{gs:List Nat}{L':List ak}(h:Fr P N w0 L l n Q gs env L')(hq: ∀w,Mem w0 L' w→Mem w0 L w:=by exact fun _ h=>h):Qt P N w0 l fs (fun a'=>rL P l n Q w0 L gs a' L') k [] env L:=fun a ha=>h hq a ha
theorem sX{n:Nat}{Lq:List ak}(h:Sq P N w0 l Q (l.drop n) env L):Fr P N w0 Lq l n Q [] env L:=fun _ a ha w hw=>h a w ha hw
theorem Ql{o:Oper}(hk:Qt P N w0 l fs F (k+1) rest env L)(hf:fs.contains k=true:=by rfl):Qt P N w0 l fs F k (o::rest) env L:=fun a ha=>by
 unfold lT;rw[if_pos hf];exact hk a ha
theorem pU{o:Oper}{y:Nat→Option Bool}(h:o.guard=none):Region.wanted o y=true:=by simp[Region.wanted,h]
theorem uG{o:Oper}{a:Act}{j t:Nat}{b g:Bool}(ha:db N env a)(h:o.guard=some (j,b))(hj:(l[j]?).bind (·.dst)=some t)(hv:look env t=some (.bool g)):
  Region.wanted o (yielded l.toArray a.tmps)=(g==b):=by
 have:=ha.get _ _ hv
 simp[Region.wanted,h,yielded,hj,this]
theorem D9{o:Oper}{a:Act}{j t:Nat}{b c g:Bool}(ha:db N env a)(h:o.guard=some (j,b))(hj:(l[j]?).bind (·.dst)=some t)(hv:look env t=some (if c=true then .bool g else undef)):
  Region.wanted o (yielded l.toArray a.tmps)=(c&&(g==b)):=by
 have:=ha.get _ _ hv
 cases c
 ·
  simp only[Bool.false_eq_true,if_false]at this
  simp[Region.wanted,h,yielded,hj,this,undef]
 ·
  simp only[if_true]at this
  simp[Region.wanted,h,yielded,hj,this]
theorem wj{o:Oper}{a:Act}{w:World}{v:Value}{K:Act→World→Prop}(ha:db N env a)(hw:Mem w0 L w)(h:Yl P N w0 env L o v)(hk: ∀w',Mem w0 L w'→K (a.put o.dst v) w'):o.wp P a w K Q:=by
 have h1:=h a ha w hw
 unfold Oper.quietAt at h1
 unfold Oper.wp
 generalize(execOp a.eval o).run P w=r at h1
 unfold Oper.quietUpon at h1
 split at h1
 ·
  obtain⟨rfl,rfl⟩:=h1;exact hk _ hw
 ·
  obtain⟨rfl,rfl⟩:=h1;exact hk _ hw
 ·
  obtain⟨rfl,hc⟩:=h1
  exact hc.mono fun e nW ⟨he,hm⟩=>by subst he;exact hk _ (by simpa using hw.call hm)
 ·
  exact h1.elim
theorem fF{o:Oper}{v:Value}(h:Yl P N w0 env L o v)(hk:Sq P N w0 l Q rest (cy env o.dst v) L)(hg:o.guard=none:=by rfl)(hd:dn N o.dst=true:=by rfl):Sq P N w0 l Q (o::rest) env L:=fun a w ha hw=>by
 unfold wpList
 rw[if_pos (pU hg)]
 exact .inl (wj ha hw h fun w' gK=>hk _ _ (ha.put hd v) gK)
theorem ah{o:Oper}{v:Value}(h:Ry P N w0 env L o v)(hk:Sq P N w0 l Q rest (cy env o.dst v) L)(hg:o.guard=none:=by rfl)(hd:dn N o.dst=true:=by rfl):Sq P N w0 l Q (o::rest) env L:=fF h.yl hk hg hd
theorem uH{o:Oper}{v:Value}(h:Yl P N w0 env L o v)(hk:Qt P N w0 l fs F (k+1) rest (cy env o.dst v) L)(hg:o.guard=none:=by rfl)(hd:dn N o.dst=true:=by rfl)(hf:fs.contains k=false:=by rfl):Qt P N w0 l fs F k (o::rest) env L:=fun a ha=>by
 unfold lT
 rw[if_neg (by rw[hf];exact Bool.false_ne_true)]
 rw[if_pos (pU hg)]
 exact⟨v,h a ha,hk _ (ha.put hd v)⟩
theorem bA{o:Oper}{v:Value}(h:Ry P N w0 env L o v)(hk:Qt P N w0 l fs F (k+1) rest (cy env o.dst v) L)(hg:o.guard=none:=by rfl)(hd:dn N o.dst=true:=by rfl)(hf:fs.contains k=false:=by rfl):Qt P N w0 l fs F k (o::rest) env L:=uH h.yl hk hg hd hf
theorem look_eq{t:Nat}{u v:Value}(h:look env t=some u)(e:u=v):look env t=some v:=by rw[h,e]
theorem gv{o:Oper}{v:Value}{j t:Nat}{g:Bool}(hg:o.guard=some (j,true))(hj:(l[j]?).bind (·.dst)=some t)(hv:look env t=some (.bool g))(h:g=true→Yl P N w0 env L o v)
  (hk:Sq P N w0 l Q rest (cy env o.dst (if g=true then v else undef)) L) (hd:dn N o.dst=true:=by rfl):Sq P N w0 l Q (o::rest) env L:=fun a w ha hw=>by
 unfold wpList
 rw[uG ha hg hj hv]
 cases g
 ·
  exact hk _ _ (ha.put hd undef) hw
 ·
  exact .inl (wj ha hw (h rfl) fun w' gK=>hk _ _ (ha.put hd v) gK)
theorem fK{o:Oper}{v:Value}{j t:Nat}{g:Bool}(hg:o.guard=some (j,true))(hj:(l[j]?).bind (·.dst)=some t)(hv:look env t=some (.bool g))(h:g=true→Yl P N w0 env L o v)
  (hk:Qt P N w0 l fs F (k+1) rest (cy env o.dst (if g=true then v else undef)) L) (hd:dn N o.dst=true:=by rfl) (hf:fs.contains k=false:=by rfl):Qt P N w0 l fs F k (o::rest) env L:=fun a ha=>by
 unfold lT
 rw[if_neg (by rw[hf];exact Bool.false_ne_true)]
 rw[uG ha hg hj hv]
 cases g
 ·
  exact hk _ (ha.put hd undef)
 ·
  exact⟨v,h rfl a ha,hk _ (ha.put hd v)⟩
theorem bS{o:Oper}{v:Value}{j t:Nat}{g:Bool}(hg:o.guard=some (j,false))(hj:(l[j]?).bind (·.dst)=some t)(hv:look env t=some (.bool g))(h:(!g)=true→Yl P N w0 env L o v)
  (hk:Sq P N w0 l Q rest (cy env o.dst (if(!g)=true then v else undef)) L) (hd:dn N o.dst=true:=by rfl):Sq P N w0 l Q (o::rest) env L:=fun a w ha hw=>by
 unfold wpList
 rw[uG ha hg hj hv]
 cases g
 ·
  exact .inl (wj ha hw (h rfl) fun w' gK=>hk _ _ (ha.put hd v) gK)
 ·
  exact hk _ _ (ha.put hd undef) hw
theorem iM{o:Oper}{v:Value}{j t:Nat}{g:Bool}(hg:o.guard=some (j,false))(hj:(l[j]?).bind (·.dst)=some t)(hv:look env t=some (.bool g))(h:(!g)=true→Yl P N w0 env L o v)
  (hk:Qt P N w0 l fs F (k+1) rest (cy env o.dst (if(!g)=true then v else undef)) L) (hd:dn N o.dst=true:=by rfl) (hf:fs.contains k=false:=by rfl):Qt P N w0 l fs F k (o::rest) env L:=fun a ha=>by
 unfold lT
 rw[if_neg (by rw[hf];exact Bool.false_ne_true)]
 rw[uG ha hg hj hv]
 cases g
 ·
  exact⟨v,h rfl a ha,hk _ (ha.put hd v)⟩
 ·
  exact hk _ (ha.put hd undef)
theorem lC{o:Oper}{v:Value}{j t:Nat}{c g:Bool}(hg:o.guard=some (j,true))(hj:(l[j]?).bind (·.dst)=some t)(hv:look env t=some (if c=true then .bool g else undef))(h:(c&&g)=true→Yl P N w0 env L o v)
  (hk:Sq P N w0 l Q rest (cy env o.dst (if(c&&g)=true then v else undef)) L) (hd:dn N o.dst=true:=by rfl):Sq P N w0 l Q (o::rest) env L:=fun a w ha hw=>by
 unfold wpList
 rw[D9 ha hg hj hv]
 cases c<;>cases g
 ·
  exact hk _ _ (ha.put hd undef) hw
 ·
  exact hk _ _ (ha.put hd undef) hw
 ·
  exact hk _ _ (ha.put hd undef) hw
 ·
  exact .inl (wj ha hw (h rfl) fun w' gK=>hk _ _ (ha.put hd v) gK)
theorem pV{o:Oper}{v:Value}{j t:Nat}{c g:Bool}(hg:o.guard=some (j,false))(hj:(l[j]?).bind (·.dst)=some t)(hv:look env t=some (if c=true then .bool g else undef))(h:(c&& !g)=true→Yl P N w0 env L o v)
  (hk:Sq P N w0 l Q rest (cy env o.dst (if(c&& !g)=true then v else undef)) L) (hd:dn N o.dst=true:=by rfl):Sq P N w0 l Q (o::rest) env L:=fun a w ha hw=>by
 unfold wpList
 rw[D9 ha hg hj hv]
 cases c<;>cases g
 ·
  exact hk _ _ (ha.put hd undef) hw
 ·
  exact hk _ _ (ha.put hd undef) hw
 ·
  exact .inl (wj ha hw (h rfl) fun w' gK=>hk _ _ (ha.put hd v) gK)
 ·
  exact hk _ _ (ha.put hd undef) hw
theorem Ea{o:Oper}{v:Value}{j t:Nat}{c g:Bool}(hg:o.guard=some (j,false))(hj:(l[j]?).bind (·.dst)=some t)(hv:look env t=some (if c=true then .bool g else undef))(h:(c&& !g)=true→Yl P N w0 env L o v)
  (hk:Qt P N w0 l fs F (k+1) rest (cy env o.dst (if(c&& !g)=true then v else undef)) L) (hd:dn N o.dst=true:=by rfl) (hf:fs.contains k=false:=by rfl):Qt P N w0 l fs F k (o::rest) env L:=fun a ha=>by
 unfold lT
 rw[if_neg (by rw[hf];exact Bool.false_ne_true)]
 rw[D9 ha hg hj hv]
 cases c<;>cases g
 ·
  exact hk _ (ha.put hd undef)
 ·
  exact hk _ (ha.put hd undef)
 ·
  exact⟨v,h rfl a ha,hk _ (ha.put hd v)⟩
 ·
  exact hk _ (ha.put hd undef)
theorem sY{x:Operand}{c g:Bool}{v u:Value}(hc:c=true)(h:ev env x=some (if(c&&g)=true then v else u)):ev env x=some (if g=true then v else u):=by subst hc;simpa using h
theorem aG{x:Operand}{g:Bool}{v u:Value}(hg:g=true)(h:ev env x=some (if g=true then v else u)):ev env x=some v:=by rw[h,if_pos hg]
variable {d:Option Tmp} {ty:TypeId} {ps:String} {af:Array Edge}
theorem mA{o:Oper}(hg:o.guard=none)(hd:dn N o.dst=true)
  (h: ∀a w,db N env a→Mem w0 L w→ ∃v w' L',(execOp a.eval o).run P w= .ok (.value v) w'∧Mem w0 L' w'∧Sq P N w0 l Q rest (cy env o.dst v) L'):Sq P N w0 l Q (o::rest) env L:=fun a w ha hw=>by
 unfold wpList
 rw[if_pos (pU hg)]
 obtain⟨v,w',L',h1,h2,h3⟩:=h a w ha hw
 refine .inl ?_
 unfold Oper.wp
 rw[h1]
 exact h3 _ _ (ha.put hd v) h2
theorem AS{o:Oper}(hg:o.guard=none)(hd:o.dst=none)
  (h: ∀a w,db N env a→Mem w0 L w→ ∃w' L',(execOp a.eval o).run P w= .ok .skip w'∧Mem w0 L' w'∧Sq P N w0 l Q rest env L'):Sq P N w0 l Q (o::rest) env L:=fun a w ha hw=>by
 unfold wpList
 rw[if_pos (pU hg)]
 obtain⟨w',L',h1,h2,h3⟩:=h a w ha hw
 refine .inl ?_
 unfold Oper.wp
 rw[h1]
 show wpList P l.toArray Q rest (a.put o.dst undef) w'
 rw[hd]
 exact h3 _ _ ha h2
theorem Eb{t:TypeId}{x:Operand}{v:Value}(hx:ev env x=some v)(hk: ∀b,Sq P N w0 l Q rest (cy env d (.pointer (some ⟨b,0,none⟩))) (ar b v.cells t::L))(hd:dn N d=true:=by rfl):
  Sq P N w0 l Q (⟨d, .box t x,ty,ps,af,none⟩::rest) env L:=
 mA rfl hd fun a w ha hw=>⟨_,_,_,by simp only[execOp,ha.ev hx,Instr.box,newVar,newRow,Sem.run_bind,newObj,Sem.run,Result.andThen,Sem.run_pure];rfl,hw.alloc v.cells t,hk _⟩
theorem IU{t:TypeId}{z:Value}[hz:fo P t z](hk: ∀b,Sq P N w0 l Q rest (cy env d (.pointer (some ⟨b,0,none⟩))) (ar b z.cells t::L))(hd:dn N d=true:=by rfl):
  Sq P N w0 l Q (⟨d, .alloc t,ty,ps,af,none⟩::rest) env L:=
 mA rfl hd fun a w ha hw=>⟨_,_,_,by simp only[execOp,Instr.alloc,newVar,newRow,Sem.run_bind,AN w hz,newObj,Sem.run,Result.andThen,Sem.run_pure];rfl,hw.alloc z.cells t,hk _⟩
theorem cA{t:TypeId}{x:Operand}{cs:Array Value}(hx:ev env x=some (.agg cs))(hk: ∀b,Sq P N w0 l Q rest (cy env d (.pointer (some ⟨b,0,none⟩))) (ar b cs t::L))(hd:dn N d=true:=by rfl):
  Sq P N w0 l Q (⟨d, .box t x,ty,ps,af,none⟩::rest) env L:=Eb hx hk hd
theorem bM{t:TypeId}{cs:Array Value}[hz:fo P t (.agg cs)](hk: ∀b,Sq P N w0 l Q rest (cy env d (.pointer (some ⟨b,0,none⟩))) (ar b cs t::L))(hd:dn N d=true:=by rfl):
  Sq P N w0 l Q (⟨d, .alloc t,ty,ps,af,none⟩::rest) env L:=IU (z:= .agg cs) hk hd
theorem Qm{cs:Array Value}(h:cs.all (·.oneCell')=true)(a b:Nat):(cs.extract a b).all (·.oneCell')=true:=by
 rw[Array.all_eq_true_iff_forall_mem]at h⊢
 intro v hv
 have:v∈(cs.extract a b).toList:=Array.mem_toList_iff.2 hv
 rw[Array.toList_extract]at this
 simp only[List.extract]at this
 exact h v (by simpa using List.mem_of_mem_drop (List.mem_of_mem_take this))
theorem eV{t:TypeId}{x y:Operand}{i b o:Nat}{cs:Array Value}{T:TypeId}{v:Value}(hx:ev env x=some (.pointer (some ⟨b,o,none⟩)))(hy:ev env y=some v)[ht:gV P t][hh:Has L b cs T i](ho:o<cs.size)(hv:v.oneCell'=true){cs':Array Value}{L':List ak}(gO:cs.setIfInBounds o v=cs')[hu:fE L i (ar b cs' T) L'](hk:Sq P N w0 l Q rest env L'):
  Sq P N w0 l Q (⟨none, .store t x y,ty,ps,af,none⟩::rest) env L:=
 AS rfl rfl fun a w ha hw=>by
  have hi:=hh.h
  have hb:=hw.block hi
  have hc:w.cell? ⟨b,o,none⟩=some cs[o]:=by rw[hw.cell hi];simp[ho]
  have hf:w.frozen? ⟨b,o,none⟩=false:=frozen_of_row w b o cs T hb
  subst gO
  refine⟨w.setCell ⟨b,o,none⟩ v,_,?_,?_,hk⟩
  ·
   have h1:(storeCells ⟨b,o,none⟩ [v]).run P w= .ok () (w.setCell ⟨b,o,none⟩ v):=by
    have:=run_storeCells_at (P:=P) b o T [v] 0 cs w hb (by simp;omega) (by simpa using hv)
    rw[this,setCell_eq_setRow w b o cs T (0,0) v hb]
    congr 2
    apply Array.ext'
    simp[List.set_eq_take_append_cons_drop,ho]
   have gO:v.cells= #[v]:=by cases v<;>simp_all[Value.oneCell',Value.cells]
   simp only[execOp,ha.ev hx,ha.ev hy,Instr.storeAt,Instr.sureAddr,storeVar,Sem.run_bind,Sem.run_pure,Result.andThen,kK w ht.size,gO]
   simp[h1]
  ·
   rw[setCell_eq_setRow w b o cs T (0,0) v hb]
   rw[←hu.h]
   exact hw.setRow hi _
def cT(cs:Array Value)(o:Nat)(vs:Array Value):Array Value:=(cs.toList.take o++vs.toList++cs.toList.drop (o+vs.size)).toArray
theorem yC{t:TypeId}{x y:Operand}{i b o n:Nat}{cs vs:Array Value}{T:TypeId}(hx:ev env x=some (.pointer (some ⟨b,o,none⟩)))(hy:ev env y=some (.agg vs))[ht:fY P t n][hh:Has L b cs T i][hs:gq vs n](ho:o+n≤cs.size){cs':Array Value}{L':List ak}(gO:cT cs o vs=cs')[hu:fE L i (ar b cs' T) L'](hk:Sq P N w0 l Q rest env L'):
  Sq P N w0 l Q (⟨none, .store t x y,ty,ps,af,none⟩::rest) env L:=
 AS rfl rfl fun a w ha hw=>by
  have hi:=hh.h
  have hn:=hs.h
  have hv:=hs.one
  have hb:=hw.block hi
  subst gO
  refine⟨_,_,?_,by rw[←hu.h];exact hw.setRow hi _,hk⟩
  have h1:=run_storeCells_at (P:=P) b o T vs.toList 0 cs w hb (by simp;omega) (fun v kM=>(Array.all_eq_true_iff_forall_mem.1 hv) v (by simpa using kM))
  simp only[execOp,ha.ev hx,ha.ev hy,Instr.storeAt,Instr.sureAddr,storeVar,Value.cells,Sem.run_bind,Sem.run_pure,Result.andThen,kK w ht.size,hn]
  simp[h1,cT]
theorem qN{t:TypeId}{x y:Operand}{i b n:Nat}{cs vs:Array Value}{T:TypeId}(hx:ev env x=some (.pointer (some ⟨b,0,none⟩)))(hy:ev env y=some (.agg vs))[ht:fY P t n][hh:Has L b cs T i][hs:gq vs n][hc:gq cs n]{L':List ak}[hu:fE L i (ar b vs T) L'](hk:Sq P N w0 l Q rest env L'):
  Sq P N w0 l Q (⟨none, .store t x y,ty,ps,af,none⟩::rest) env L:=by
 have hn:=hs.h
 have Qn:=hc.h
 refine yC hx hy (by omega) (?_:cT cs 0 vs=vs) hk
 apply Array.ext'
 simp[cT];omega
theorem Ec{x y:Operand}{tx fZ e:TypeId}{i b o dl dc sl sc:Nat}{a:Addr}{cs vs:Array Value}{T:TypeId}(hx:ev env x=some (.slice (some ⟨b,o,none⟩) dl dc))(hy:ev env y=some (.slice (some a) sl sc))
  [ht:fe P tx e 1] [hh:Has L b cs T i] (hn:vs.size=Nat.min sl dl) (lD: ∀w,Mem w0 L w→ ∀j,j<vs.size→w.cell? (a.add j)=vs[j]?) (hv:vs.all (·.oneCell')=true) (ho:o+vs.size≤cs.size)
  {cs':Array Value} {L':List ak} (gO:cT cs o vs=cs') [hu:fE L i (ar b cs' T) L'] (hk:Sq P N w0 l Q rest (cy env d (.int .i64 vs.size)) L') (hd:dn N d=true:=by rfl):
  Sq P N w0 l Q (⟨d, .call {callee:= .builtin .copy,args:= #[x,y],argTypes:= #[tx,fZ]},ty,ps,af,none⟩::rest) env L:=
 mA rfl hd fun aa w ha hw=>by
  have hi:=hh.h
  have hb:=hw.block hi
  subst gO
  have fX:=run_copy_row (P:=P) w tx fZ ty e b o dl dc a sl sc cs T vs.toList ht.eE ht.size hb (by simpa using hn)
   (fun j v kM=>by
    have hj:j<vs.size:=by simpa using(List.getElem?_eq_some_iff.1 kM).1
    rw[lD w hw j hj];simpa using kM) (by simpa using ho) (fun v kM=>(Array.all_eq_true_iff_forall_mem.1 hv) v (by simpa using kM))
  refine⟨_,w.setRow b (cT cs o vs),_,?_,by rw[←hu.h];exact hw.setRow hi _,hk⟩
  simp[execOp,ha.ev hx,ha.ev hy,resolve,invoke,builtin,fX,Result.andThen,goInt,cT]
end
section
variable {P:Program} {N:cE} {w0:World} {env:Env} {L Lq:List ak} {l:List Oper} {n j:Nat} {js:List Nat} {Q:Exit→Act→World→Prop} {d:Option Tmp} {ty:TypeId} {ps:String} {af:Array Edge}
theorem Qo{X:Type}{val:X→Value}{L':X→List ak}{pr:X→Prop}{f:FuncId}{xs:List Operand}{ts:Array TypeId}{vs:List Value}(hj:l[j]? =some ⟨d, .call {callee:= .value (.func f),args:=xs.toArray,argTypes:=ts},ty,ps,af,none⟩)[hf:aR P f](hx:hU env xs=some vs)
  (hc: ∀w,Mem w0 L w→Calls P f vs.toArray w fun e w'=> ∃x,e= .returned (val x)∧pr x∧Mem w0 (L' x) w') (hL: ∀x w,Mem w0 (L' x) w→Mem w0 Lq w) (hk: ∀x,pr x→Fr P N w0 Lq l n Q js (cy env d (val x)) (L' x)) (hd:dn N d=true:=by rfl):
  Fr P N w0 Lq l n Q (j::js) env L:=fun _ a ha=>
 ⟨_,hj,rfl,fun w hw=>by
  rw[AP hf w rfl,ha.hU hx]
  exact⟨rfl,(hc w hw).mono fun e w' ⟨x,he,hp,hm⟩=>⟨val x,L' x,he,hm,hL x,hk x hp (hL x) _ (ha.put hd _)⟩⟩⟩
end
section
variable {P:Program} {N:cE} {w0:World} {env:Env} {L:List ak} {Q:Exit→Act→World→Prop}
def Cw(P:Program)(N:cE)(w0:World)(Q:Exit→Act→World→Prop)(c:Code)(env:Env)(L:List ak):Prop:= ∀a w,db N env a→Mem w0 L w→c.wpIn (k8 N.ro) 0 P Q a w
theorem aO{x y:Code}(h:Cw P N w0 (Exit.then (y.wpIn (k8 N.ro) 0 P Q) Q) x env L):Cw P N w0 Q (.seq x y) env L:=fun a w ha hw=>wpIn_seq (h a w ha hw)
theorem ba{id:Nat}{l:List Oper}[jZ Q](h:Sq P N w0 l Q l env L)(cB:nV l=true:=by kernel_rfl):Cw P N w0 Q (.region id l.toArray false) env L:=fun a w ha hw=>PS cB (h a w ha hw)
theorem Ed{ops:Array Oper}{C:World→Prop}{F:Act→Prop}(hC: ∀w w',C w→Mem w [] w'→C w'): ∀(rest:List Oper) (k:Nat) (a:Act),lT P ops [] C F k rest a→wpQuiet P ops C F rest a
 |[],_,_,h=>h
 |o::rest,k,a,h=>by
  unfold lT at h
  rw[if_neg (by simp)]at h
  unfold wpQuiet
  split
  ·
   rename_i hw
   rw[if_pos hw]at h
   obtain⟨v,h1,h2⟩:=h
   refine⟨v,fun w AT=> ?_,Ed hC rest (k+1) _ h2⟩
   have h3:=h1 w AT
   unfold Oper.quietAt at h3⊢
   generalize(execOp a.eval o).run P w=r at h3
   unfold Oper.quietUpon at h3⊢
   split at h3
   ·
    exact h3
   ·
    exact h3
   ·
    exact⟨h3.1,by obtain⟨rfl,rM⟩:=h3;exact rM.mono fun e nW ⟨he,hm⟩=>⟨he,hC _ _ AT hm⟩⟩
   ·
    exact h3.elim
  ·
   rename_i hw
   rw[if_neg hw]at h
   exact Ed hC rest (k+1) _ h
theorem jw{id:Nat}{l:List Oper}[jZ Q](hm:P.follows .mixedOrders=true)(hB:Region.lexB .any l.toArray=true)(h:Qt P N w0 l [] (fun a'=> ∀w',Mem w0 L w'→Q .normal a' w') 0 l env L)(cB:nV l=true:=by kernel_rfl):Cw P N w0 Q (.region id l.toArray true) env L:=fun a _ ha hw=>
 PT cB (C:=Mem w0 L) hm hB hw.Ay (by simpa using Ed (fun w w' AT gK=>by simpa using AT.call gK) l 0 a (h a ha))
theorem IV{id:Nat}{l:List Oper}[jZ Q](n:Nat)(fs:List Nat)(Lq:List ak)(hq: ∀w,Mem w0 L w→Mem w0 Lq w)(hm:P.follows .mixedOrders=true)(hB:AL l fs n=true)(h:Qt P N w0 l fs (fun a'=>rL P l n Q w0 Lq fs a' L) 0 (l.take n) env Lq)(cB:nV l=true:=by kernel_rfl):Cw P N w0 Q (.region id l.toArray true) env L:=fun a _ ha hw=>
 P6 n cB hm hB hw.Ay hq (h a ha)
theorem uI{id:Nat}{l:List Oper}[jZ Q](n:Nat)(fs:List Nat)(hm:P.follows .mixedOrders=true)(hB:AL l fs n=true)(h:Qt P N w0 l fs (fun a'=>rL P l n Q w0 L fs a' L) 0 (l.take n) env L)(cB:nV l=true:=by kernel_rfl):Cw P N w0 Q (.region id l.toArray true) env L:=
 IV n fs L (fun _ h=>h) hm hB h cB
theorem av{c:Operand}{x y:Code}{g:Bool}(hc:ev env c=some (.bool g))(hx:g=true→Cw P N w0 Q x env L)(hy:g=false→Cw P N w0 Q y env L):Cw P N w0 Q (.cond c x y) env L:=fun a w ha hw=>
 wpIn_cond_split (ha.ev hc) (fun h=>hx h a w ha hw) (fun h=>hy h a w ha hw)
theorem lE{id:Nat}{c:Code}(h:Cw P N w0 (Exit.inBlock id Q) c env L):Cw P N w0 Q (.block id c) env L:=fun a w ha hw=>wpIn_block (h a w ha hw)
theorem gf(h:Ex N w0 Q .normal env L):Cw P N w0 Q .skip env L:=fun a w ha hw=>wpIn_skip (h a w ha hw)
theorem rP{id:Nat}(h:Ex N w0 Q (.exit id) env L):Cw P N w0 Q (.exit id) env L:=fun a w ha hw=>wpIn_exit (h a w ha hw)
theorem eF(h:Ex N w0 Q .ret env L):Cw P N w0 Q .ret env L:=fun a w ha hw=>wpIn_ret (h a w ha hw)
theorem ct{c:Code}{X:Type}(uJ:X→Env)(LI:X→List ak)(inv:X→Prop)(m:X→Nat)(x0:X)(h0:inv x0)(hs:Sub (uJ x0) env)(hL: ∀w,Mem w0 L w→Mem w0 (LI x0) w)
  (round: ∀x,inv x→Cw P N w0 (Exit.then (fun a w=> ∃x',inv x'∧m x'<m x∧db N (uJ x') a∧Mem w0 (LI x') w) Q) c (uJ x) (LI x)):Cw P N w0 Q (.loop c) env L:=by
 intro a0 w1 Qp lW b k cs kN hb hr
 have key: ∀n x,m x=n→inv x→ ∀a w,db N (uJ x) a→Mem w0 (LI x) w→
   ∃e a' w',Q e a' w'∧ArrivesIn (Machine.fenced P (k8 N.ro)) P (lone (b.atR a (.code c:: .inLoop c::k)) cs w) b k cs e a' w':=by
  intro n
  induction n using Nat.strongRecOn with
  |_ n ih=>
   intro x hm hI a w ha hw
   obtain⟨e,wk,wm,hq,sZ⟩:=round x hI a w ha hw b (.inLoop c::k) cs kN hb hr
   cases e with
   |normal=>
    obtain⟨x',Qq,bx,Qr,gK⟩:=hq
    obtain⟨Qs,Qu,Qv,Qw,Qx⟩:=ih (m x') (hm▸bx) x' rfl Qq wk wm Qr gK
    exact⟨Qs,Qu,Qv,Qw, .of_steps (StepsIn.trans sZ (.one (fenced_calm hb hr rfl) stepR_inLoop)) Qx⟩
   |exit id=>exact⟨_,wk,wm,hq, .pass (x:= .inLoop c) rfl (fun _ _=> .inl (by simp)) sZ⟩
   |goto l=>exact⟨_,wk,wm,hq, .pass (x:= .inLoop c) rfl (fun _ _=> .inl (by simp)) sZ⟩
   |ret=>exact⟨_,wk,wm,hq, .pass (x:= .inLoop c) rfl (fun _ _=> .inl (by simp)) sZ⟩
   |panic ch=>exact⟨_,wk,wm,hq, .pass (x:= .inLoop c) rfl (fun _ _=> .inl (by simp)) sZ⟩
   |outgrown=>exact⟨_,wk,wm,hq, .pass (x:= .inLoop c) rfl (fun _ _=> .inl (by simp)) sZ⟩
 obtain⟨e,a',w',hq,sZ⟩:=key _ x0 rfl h0 a0 w1 (Qp.sub hs) (hL w1 lW)
 exact⟨e,a',w',hq, .of_steps (.one (fenced_calm hb hr rfl) stepR_loop) sZ⟩
theorem wo{x y:Code}{X:Type}(yD:X→Env)(LJ:X→List ak)(J:X→Prop)
  (h:Cw P N w0 (Exit.then (fun a w=> ∃s,J s∧db N (yD s) a∧Mem w0 (LJ s) w) Q) x env L) (hy: ∀s,J s→Cw P N w0 Q y (yD s) (LJ s)):Cw P N w0 Q (.seq x y) env L:=fun a w ha hw=>
 wpIn_seq (wpIn_mono (h a w ha hw) fun e a' w' hq=>by
  cases e with
  |normal=>obtain⟨s,hs,hr,hm⟩:=hq;exact hy s hs a' w' hr hm
  |exit id=>exact hq
  |goto l=>exact hq
  |ret=>exact hq
  |panic ch=>exact hq
  |outgrown=>exact hq)
theorem aN{y:Code}{Q':Exit→Act→World→Prop}(h:Cw P N w0 Q y env L):Ex N w0 (Exit.then (y.wpIn (k8 N.ro) 0 P Q) Q') .normal env L:=h
theorem oY{X:Type}{yD:X→Env}{LJ:X→List ak}{J:X→Prop}(s:X)(hJ:J s)(hs:Sub (yD s) env)(hL: ∀w,Mem w0 L w→Mem w0 (LJ s) w):
  Ex N w0 (Exit.then (fun a w=> ∃s,J s∧db N (yD s) a∧Mem w0 (LJ s) w) Q) .normal env L:=fun _ w ha hw=>⟨s,hJ,ha.sub hs,hL w hw⟩
theorem bI{X:Type}{uJ:X→Env}{LI:X→List ak}{inv:X→Prop}{m:X→Nat}{x:X}(x':X)(hI:inv x')(hm:m x'<m x)(hs:Sub (uJ x') env)(hL: ∀w,Mem w0 L w→Mem w0 (LI x') w):
  Ex N w0 (Exit.then (fun a w=> ∃x',inv x'∧m x'<m x∧db N (uJ x') a∧Mem w0 (LI x') w) Q) .normal env L:=fun _ w ha hw=>⟨x',hI,hm,ha.sub hs,hL w hw⟩
theorem lX{K:Act→World→Prop}{id:Nat}(h:Ex N w0 Q (.exit id) env L):Ex N w0 (Exit.then K Q) (.exit id) env L:=h
theorem fq{K:Act→World→Prop}(h:Ex N w0 Q .ret env L):Ex N w0 (Exit.then K Q) .ret env L:=h
theorem oZ{id:Nat}(h:Ex N w0 Q .normal env L):Ex N w0 (Exit.inBlock id Q) .normal env L:=h
theorem rQ{id:Nat}(h:Ex N w0 Q .normal env L):Ex N w0 (Exit.inBlock id Q) (.exit id) env L:=fun a w ha hw=>by
 simp only[Exit.inBlock,if_true];exact h a w ha hw
theorem Qy{id AU:Nat}(cH:Nat.beq AU id=false)(h:Ex N w0 Q (.exit AU) env L):Ex N w0 (Exit.inBlock id Q) (.exit AU) env L:=fun a w ha hw=>by
 have: ¬AU=id:=fun e=>by subst e;simp at cH
 simp only[Exit.inBlock,this,if_false];exact h a w ha hw
theorem mB{id:Nat}(h:Ex N w0 Q .ret env L):Ex N w0 (Exit.inBlock id Q) .ret env L:=h
variable {fn:Func} {R:Ending→World→Prop}
theorem au{n:Nat}{e:Exit}(he:e= .ret∨e= .normal){v:Value}(hr: ∀a w,db ⟨n,[],none⟩ env a→Mem w0 L w→(results fn a.tmps).run P w= .ok v w)(h: ∀w,Mem w0 L w→R (.returned v) w):Ex ⟨n,[],none⟩ w0 (yi P fn R) e env L:=fun a w ha hw=>by
 have key:LeavesInM (k8 none) 0 P fn a.tmps R a.defers .returning w:=by
  rw[ha.defers];exact⟨v,hr a w ha hw,h w hw⟩
 rcases he with rfl|rfl
 ·
  exact⟨.inr rfl,key⟩
 ·
  exact⟨.inl rfl,key⟩
theorem ku{t:Nat}{v:Value}(hf:fn.results= #[.tmp t])(hv:look env t=some v): ∀a w,db N env a→Mem w0 L w→(results fn a.tmps).run P w= .ok v w:=fun a w ha _=>by
 have:=ha.get _ _ hv
 simp[results,hf,this]
theorem AV{t:Nat}{T T':TypeId}{b i n:Nat}{cs:Array Value}(hf:fn.results= #[.cell t T])(hv:look env t=some (.pointer (some ⟨b,0,none⟩)))[ht:fY P T n][hi:Has L b cs T' i][hn:gq cs n]:
  ∀a w,db N env a→Mem w0 L w→(results fn a.tmps).run P w= .ok (.agg cs) w:=fun a w ha hw=>by
 have h1:=ha.get _ _ hv
 have h2:(loadVar T ⟨b,0,none⟩).run P w= .ok (.agg cs) w:=D5 w ht hn.h fun j _=>by rw[Addr.gB,hw.cell hi.h,Nat.zero_add]
 simp[results,hf,h1,asAddr,h2]
theorem bh{N:Nat}{f:FuncId}{c:Code}{args:List Value}{w:World}(hf:P.funcs[f]? =some fn)(hb:fn.body=some c)(hN:fn.ntmps=N)(hle:Nat.ble args.length N=true)
  (h:Cw P ⟨N,[],none⟩ w (yi P fn R) c (args.zipIdx.map fun p=>(p.2,p.1)) []):Calls P f args.toArray w R:=
 Iv hf hb (h _ _ (by rw[hN];exact db.enter args N (Nat.le_of_ble_eq_true hle)) (Mem.init w))
end
theorem Z0(a b:Bool):((a&&b)=true)=(a=true∧b=true):=Bool.and_eq_true a b
theorem Z1(a b:Bool):((a||b)=true)=(a=true∨b=true):=Bool.or_eq_true a b
theorem Z2{x y:Bool}:(x&&y)=false↔x=false∨y=false:=Bool.and_eq_false_iff
theorem Z3{x y:Bool}:(x||y)=false↔x=false∧y=false:=Bool.or_eq_false_iff
theorem Z4(b:Bool):((!b)=true)=(b=false):=Bool.not_eq_true' b
theorem Z5(b:Bool):((!b)=false)=(b=true):=Bool.not_eq_false' b
theorem Z6{p:Prop}[inst:Decidable p]:(decide p=true)=p:=decide_eq_true_eq
theorem Z7{p:Prop}{x:Decidable p}:decide p=false↔ ¬p:=decide_eq_false_iff_not
theorem Z8(b:Bool):(¬b=true)=(b=false):=Bool.not_eq_true b
theorem Z9(b:Bool):(¬b=false)=(b=true):=Bool.not_eq_false b
open Go.RowKit
structure Sv where
  nil:Bool
  b:Nat
  o:Nat
  len:Nat
  cap:Nat
  sp:Option Nat
def Sv.val(s:Sv):Value:=match s.nil with
  |true=> .slice none 0 0
  |false=> .slice (some ⟨s.b,s.o,s.sp⟩) s.len s.cap
structure Sv.Ok(s:Sv):Prop where
  nil:s.nil=true→s.len=0∧s.cap=0
  le:s.len≤s.cap
  bd:s.len≤140737488355328
  sp:0<s.cap→s.sp=none
theorem Sv.Ok.some{s:Sv}(h:s.Ok)(hl:0<s.len):s.nil=false:=by
  cases hn:s.nil with
  |false=>rfl
  |true=>have:=h.nil hn;omega
theorem Sv.hY{s:Sv}(h:s.nil=false):s.val= .slice (some ⟨s.b,s.o,s.sp⟩) s.len s.cap:=by simp[Sv.val,h]
theorem Sv.qO{s:Sv}(h:s.nil=true):s.val= .slice none 0 0:=by simp[Sv.val,h]
def Sv.none:Sv:=⟨true,0,0,0,0, .none⟩
theorem Sv.wq:Sv.none.Ok:=⟨fun _=>⟨rfl,rfl⟩,Nat.le_refl _,Nat.zero_le _,fun _=>rfl⟩
theorem Sv.one(s:Sv):s.val.oneCell'=true:=by unfold Sv.val;split<;>rfl
def mC(h:Nat→Option Obj)(b o:Nat):Option Value:=match h b with
  |some (.cells cs _ _)=>cs[o]?
  |_=>none
abbrev hp(w:World):Nat→Option Obj:=fun k=>w.heap[k]?
theorem qP(w:World)(b o:Nat):w.cell? ⟨b,o,none⟩=mC (hp w) b o:=by
  unfold World.cell? mC
  split<;>simp_all
class bp{α:Type}(enc:α→Array Value)(c:outParam Nat):Prop where
  size: ∀x,(enc x).size=c
  one: ∀x,(enc x).all (·.oneCell')=true
structure bW{α:Type}(enc:α→Array Value)(c:Nat)(h:Nat→Option Obj)(s:Sv)(xs:List α):Prop where
  ok:s.Ok
  len:s.len=xs.length
  row: ∀i x,xs[i]? =some x→ ∀j,j<c→mC h s.b (s.o+i*c+j)=(enc x)[j]?
theorem bW.some{α:Type}{enc:α→Array Value}{c:Nat}{h:Nat→Option Obj}{s:Sv}{xs:List α}(r:bW enc c h s xs){i:Nat}(hi:i<xs.length):s.nil=false:=r.ok.some (by rw[r.len];omega)
theorem bW.nil{α:Type}(enc:α→Array Value)(c:Nat)(h:Nat→Option Obj):bW enc c h Sv.none ([]:List α):=⟨Sv.wq,rfl,by simp⟩
theorem bW.bd{α:Type}{enc:α→Array Value}{c:Nat}{h:Nat→Option Obj}{s:Sv}{xs:List α}(r:bW enc c h s xs):xs.length≤140737488355328:=by have:=r.ok.bd;have:=r.len;omega
theorem bW.mono{α:Type}{enc:α→Array Value}{c:Nat}[he:bp enc c]{w w':World}{s:Sv}{xs:List α}(r:bW enc c (hp w) s xs)(hb:Below w.heap.size w w'):bW enc c (hp w') s xs:=
  ⟨r.ok,r.len,fun i x hi j hj=>by
    have h:=r.row i x hi j hj
    rw[←h]
    have IW:((enc x)[j]?).isSome:=by rw[Array.getElem?_eq_getElem (by rw[he.size];exact hj)];rfl
    rw[←h]at IW
    have bx:s.b<w.heap.size:=by
      rcases Nat.lt_or_ge s.b w.heap.size with h'|h'
      ·exact h'
      ·simp[mC,hp,Array.getElem?_eq_none h']at IW
    have e:(hp w') s.b=(hp w) s.b:=hb.block s.b bx
    unfold mC
    rw[e]⟩
def Ee(n:Nat)(fz:Nat×Nat):Prop:= ∀j,j<n→ ¬(fz.1≤j∧j<fz.2)
theorem Ef(n:Nat):Ee n (0,0):=fun j _ h=>by have:=h.2;simp at this
def own{α:Type}(enc:α→Array Value)(c:Nat)(s:Sv)(xs:List α):ak:=
  ⟨fun k=>s.nil=false∧k=s.b,fun h=>bW enc c h s xs∧(s.nil=false→s.sp= .none∧ ∃cs T fz,h s.b=some (.cells cs T fz)∧s.o+s.cap*c≤cs.size∧Ee cs.size fz∧(1<c→fz=(0,0))),
   fun h h' e st=>by
    cases hn:s.nil with
    |true=>
     refine⟨⟨st.1.ok,st.1.len,fun i x hi=> ?_⟩,fun h=>by cases h⟩
     have:=st.1.some (List.getElem?_eq_some_iff.1 hi).1
     rw[hn]at this;cases this
    |false=>
     have e1:=e s.b ⟨hn,rfl⟩
     refine⟨⟨st.1.ok,st.1.len,fun i x hi j hj=> ?_⟩,fun _=> ?_⟩
     ·rw[←st.1.row i x hi j hj];unfold mC;rw[e1]
     ·rw[e1];exact st.2 hn⟩
section
variable {P:Program} {N:cE} {w0:World} {env:Env} {L:List ak} {d:Option Tmp} {ty:TypeId} {ps:String} {af:Array Edge} {gd:Option (Nat×Bool)}
variable {α:Type} {enc:α→Array Value} {c:Nat} {s:Sv} {xs:List α}
def o8(w0:World)(L:List ak){α:Type}(enc:α→Array Value)(c:Nat)(s:Sv)(xs:List α):Prop:= ∀w,Mem w0 L w→bW enc c (hp w) s xs
theorem yE[bp enc c](r:bW enc c (hp w0) s xs):o8 w0 L enc c s xs:=fun _ hw=>r.mono hw.below
class At(L:List ak)(e:ak)(i:outParam Nat):Prop where
  h:L[i]? =some e
instance (priority:=high) At.here {L:List ak}{e:ak}:At (e::L) e 0:=⟨rfl⟩
instance At.there{L:List ak}{e x:ak}{i:Nat}[q:At L e i]:At (x::L) e (i+1):=⟨by simpa using q.h⟩
theorem s8{t e:TypeId}{x:Operand}{m n:Nat}[ht:fe P t e m](hx:ev env x=some s.val)(hs:s.Ok)(hn:s.len=n):
    Ry P N w0 env L ⟨d, .call {callee:= .builtin .len,args:= #[x],argTypes:= #[t]},ty,ps,af,gd⟩ (.int .i64 n):=by
  subst hn
  cases h:s.nil with
  |false=>rw[Sv.hY h]at hx;exact uB hx
  |true=>
   rw[Sv.qO h]at hx
   rw[(hs.nil h).1]
   exact uB hx
theorem lF{t e:TypeId}{x ix:Operand}{m i:Nat}{k:IntKind}{j:Int}[ht:fe P t e m](hx:ev env x=some s.val)(hj:ev env ix=some (.int k j))(ej:j=(i:Int))(hs:s.Ok)(h1:i<s.len):
    Ry P N w0 env L ⟨d, .indexAddr t x ix,ty,ps,af,gd⟩ (.pointer (some ⟨s.b,s.o+i*m,none⟩)):=by
  subst ej
  rw[Sv.hY (hs.some (by omega)),hs.sp (by have:=hs.le;omega)]at hx
  have:=IJ (P:=P) (N:=N) (w0:=w0) (L:=L) (d:=d) (ty:=ty) (ps:=ps) (af:=af) (gd:=gd) (t:=t) hx hj (by omega) (by omega)
  simpa using this
theorem AW{t:TypeId}{x:Operand}{i p:Nat}{a:α}[ht:fY P t c][he:bp enc c](hx:ev env x=some (.pointer (some ⟨s.b,p,none⟩)))(hR:o8 w0 L enc c s xs)(hi:xs[i]? =some a)(gW:p=s.o+i*c):
    Ry P N w0 env L ⟨d, .load t x,ty,ps,af,gd⟩ (.agg (enc a)):=yw ht hx (he.size a) fun w hw j hj=>by
  rw[Addr.gB,qP,gW,(hR w hw).row i a hi j hj]
theorem Qz{t:TypeId}{x:Operand}{i p j:Nat}{a:α}{v:Value}[ht:gV P t](hx:ev env x=some (.pointer (some ⟨s.b,p,none⟩)))(hR:o8 w0 L enc c s xs)(hi:xs[i]? =some a)(gW:p=s.o+i*c+j)(hj:j<c)(hv:(enc a)[j]? =some v):
    Ry P N w0 env L ⟨d, .load t x,ty,ps,af,gd⟩ v:=wc ht hx fun w hw=>by
  rw[qP,gW,(hR w hw).row i a hi j hj,hv]
theorem IX{t:TypeId}{x:Operand}{i p j n:Nat}{a:α}{sub:Array Value}[ht:fY P t n](hx:ev env x=some (.pointer (some ⟨s.b,p,none⟩)))(hR:o8 w0 L enc c s xs)(hi:xs[i]? =some a)(gW:p=s.o+i*c+j)(hj:j+n≤c)[hs:n0 (enc a) j n sub]:
    Ry P N w0 env L ⟨d, .load t x,ty,ps,af,gd⟩ (.agg sub):=yw ht hx hs.size fun w hw k hk=>by
  rw[Addr.gB,qP,gW,Nat.add_assoc,(hR w hw).row i a hi (j+k) (by omega)];exact hs.h k hk
def Sv.sub(s:Sv)(c lo hi:Nat):Sv:=⟨s.nil,s.b,if s.cap=lo then s.o else s.o+lo*c,hi -lo,s.cap -lo,s.sp⟩
theorem Sv.Ok.sub{lo hi:Nat}(h:s.Ok)(h2:hi≤s.cap)(h3:hi≤s.len):(s.sub c lo hi).Ok:=
  ⟨fun hn=>by have:=h.nil hn;simp only[Sv.sub];omega,by simp only[Sv.sub];omega,by have:=h.bd;simp only[Sv.sub];omega,fun hc=>h.sp (by simp only[Sv.sub]at hc;omega)⟩
theorem bW.sub{h:Nat→Option Obj}(r:bW enc c h s xs){lo hi:Nat}(h1:lo≤hi)(h2:hi≤xs.length):bW enc c h (s.sub c lo hi) ((xs.drop lo).take (hi -lo)):=by
  have hl:=r.len
  have hc:=r.ok.le
  refine⟨r.ok.sub (by omega) (by omega),by simp[Sv.sub];omega,fun i x nq j hj=> ?_⟩
  have bx:i<hi -lo:=by
    have:=(List.getElem?_eq_some_iff.1 nq).1
    simp at this;omega
  rw[List.getElem?_take,if_pos bx,List.getElem?_drop]at nq
  have:=r.row (lo+i) x nq j hj
  rw[←this]
  have e:(s.sub c lo hi).o=s.o+lo*c:=by
    simp only[Sv.sub];rw[if_neg (by omega)]
  rw[e,show(s.sub c lo hi).b=s.b from rfl]
  congr 1
  rw[Nat.add_mul];omega
theorem o8.sub(r:o8 w0 L enc c s xs){lo hi:Nat}(h1:lo≤hi)(h2:hi≤xs.length):o8 w0 L enc c (s.sub c lo hi) ((xs.drop lo).take (hi -lo)):=fun w hw=>(r w hw).sub h1 h2
theorem wu{t e:TypeId}(hu:P.underlying t=some (.slice e)):P.elem t=e:=by simp[Program.elem,hu]
theorem Eg{lo hi:Nat}(hs:s.Ok)(h2:lo≤hi)(h:hi≤s.cap): ∀a len cap,s.val= .slice a len cap→len=s.len∧cap=s.cap∧sliced a lo hi cap c=(s.sub c lo hi).val:=by
  intro a len cap e
  cases hn:s.nil with
  |true=>
   rw[Sv.qO hn]at e
   obtain⟨rfl,rfl,rfl⟩:=by simpa using e
   have:=hs.nil hn
   have e2:(s.sub c lo hi).nil=true:=hn
   rw[Sv.qO e2]
   have:lo=0:=by omega
   have:hi=0:=by omega
   subst lo hi
   exact⟨by omega,by omega,by simp[sliced]⟩
  |false=>
   rw[Sv.hY hn]at e
   obtain⟨rfl,rfl,rfl⟩:=by simpa using e
   have e2:(s.sub c lo hi).nil=false:=hn
   rw[Sv.hY e2]
   refine⟨rfl,rfl,?_⟩
   simp only[sliced,Sv.sub]
   by_cases hc:s.cap=lo
   ·simp[hc]
   ·have gC:=hs.sp (by omega)
    simp[hc,gC,Addr.gB]
theorem Sv.ex(s:Sv): ∃ad len cap,s.val= .slice ad len cap:=by unfold Sv.val;split<;>exact⟨_,_,_,rfl⟩
theorem AX{t e:TypeId}{x lo hi:Operand}{m l h:Nat}{k k':IntKind}{il ih:Int}[ht:fe P t e m](hx:ev env x=some s.val)(hl:ev env lo=some (.int k il))(hh:ev env hi=some (.int k' ih))(el:il=(l:Int))(eh:ih=(h:Int))(hs:s.Ok)(h1:l≤h)(h2:h≤s.cap):
    Ry P N w0 env L ⟨d, .slice t x (some lo) (some hi) none,ty,ps,af,gd⟩ (s.sub m l h).val:=fun a w ha _=>by
  subst el eh
  have ee:=wu ht.eE
  have hu:P.underlying t=some (.slice (P.elem t)):=by rw[ee];exact ht.eE
  obtain⟨ad,len,cap,mD⟩:=s.ex
  obtain⟨e1,e2,e3⟩:=Eg (c:=m) hs h1 h2 ad len cap mD
  have hr:=run_slice_lh (P:=P) (w:=w) t ad len cap hu k k' (l:Int) (h:Int) (by omega) (by omega) (by omega)
  rw[ee,kK w ht.size]at hr
  simp only[Result.andThen,Int.toNat_natCast,e3]at hr
  simp only[execOp,ha.ev hx,ha.ev hl,ha.ev hh,mD,Option.map_some,Option.map_none,run_sliceAt_slice (h:=hu),hr,Sem.run_bind,Result.andThen,Sem.run_pure]
theorem s9{t e:TypeId}{x hi:Operand}{m h:Nat}{k':IntKind}{ih:Int}[ht:fe P t e m](hx:ev env x=some s.val)(hh:ev env hi=some (.int k' ih))(eh:ih=(h:Int))(hs:s.Ok)(h2:h≤s.cap):
    Ry P N w0 env L ⟨d, .slice t x none (some hi) none,ty,ps,af,gd⟩ (s.sub m 0 h).val:=fun a w ha _=>by
  subst eh
  have ee:=wu ht.eE
  have hu:P.underlying t=some (.slice (P.elem t)):=by rw[ee];exact ht.eE
  obtain⟨ad,len,cap,mD⟩:=s.ex
  obtain⟨e1,e2,e3⟩:=Eg (c:=m) hs (Nat.zero_le h) h2 ad len cap mD
  have hr:=run_slice_h (P:=P) (w:=w) t ad len cap hu k' (h:Int) (by omega) (by omega)
  rw[ee,kK w ht.size]at hr
  simp only[Result.andThen,Int.toNat_natCast,e3]at hr
  simp only[execOp,ha.ev hx,ha.ev hh,mD,Option.map_some,Option.map_none,run_sliceAt_slice (h:=hu),hr,Sem.run_bind,Result.andThen,Sem.run_pure]
theorem qQ{t e:TypeId}{x lo:Operand}{m l n:Nat}{k:IntKind}{il:Int}[ht:fe P t e m](hx:ev env x=some s.val)(hl:ev env lo=some (.int k il))(el:il=(l:Int))(hs:s.Ok)(hn:s.len=n)(h1:l≤n):
    Ry P N w0 env L ⟨d, .slice t x (some lo) none none,ty,ps,af,gd⟩ (s.sub m l n).val:=fun a w ha _=>by
  subst el hn
  have ee:=wu ht.eE
  have hu:P.underlying t=some (.slice (P.elem t)):=by rw[ee];exact ht.eE
  obtain⟨ad,len,cap,mD⟩:=s.ex
  obtain⟨e1,e2,e3⟩:=Eg (c:=m) hs h1 hs.le ad len cap mD
  have hle:=hs.le
  have hr:=run_slice_l (P:=P) (w:=w) t ad len cap hu k (l:Int) (by omega) (by omega)
  rw[ee,kK w ht.size]at hr
  simp only[Result.andThen,Int.toNat_natCast,e1]at hr
  rw[e1]at mD
  rw[e3]at hr
  simp only[execOp,ha.ev hx,ha.ev hl,mD,Option.map_some,Option.map_none,run_sliceAt_slice (h:=hu),hr,Sem.run_bind,Result.andThen,Sem.run_pure]
end
open Go.RowKit
theorem set_perm(x:ak): ∀(L:List ak) (i:Nat),i<L.length→(x::L.eraseIdx i).Perm (L.set i x)
  |[],_,h=>by simp at h
  |_::_,0,_=>by simp
  |a::L,i+1,h=>by
   simp only[List.eraseIdx_cons_succ,List.set_cons_succ]
   exact(List.Perm.swap a x _).trans ((set_perm x L i (by simpa using h)).cons a)
theorem Mem.swap{w0:World}{L:List ak}{w w':World}{E:ak}(h:Mem w0 L w){i:Nat}(hi:i<L.length)(h':Mem w [E] w'):Mem w0 (L.set i E) w':=
  ((h.call h').sub (L':=E::L.eraseIdx i) ((List.eraseIdx_sublist L i).cons_cons E)).perm (set_perm E L i hi)
theorem At.lt{L:List ak}{e:ak}{i:Nat}(h:L[i]? =some e):i<L.length:=(List.getElem?_eq_some_iff.1 h).1
class ft(P:Program)(t:TypeId)(e:outParam TypeId)(c:outParam Nat)(cI:outParam Nat):Prop where
  eE:P.underlying t=some (.slice e)
  row:(P.info? e).map (fun i=>(i.zero.map (·.cells.size),i.size,i.bytes))=some (some c,c,cI)
theorem ft.info{P:Program}{t e:TypeId}{c cI:Nat}(h:ft P t e c cI): ∃i z,P.info? e=some i∧i.zero=some z∧i.size=c∧i.bytes=cI∧z.cells.size=c:=by
  have h:=h.row
  cases hi:P.info? e with
  |none=>simp[hi]at h
  |some i=>
   cases hz:i.zero with
   |none=>simp[hi,hz]at h
   |some z=>simp[hi,hz]at h;exact⟨i,z,rfl,hz,h.2.1,h.2.2,h.1⟩
theorem uK{cs vs:Array Value}{o j:Nat}(ho:o+vs.size≤cs.size):(cT cs o vs)[j]? =if o≤j∧j<o+vs.size then vs[j -o]?else cs[j]? :=by
  unfold cT
  simp only[List.getElem?_toArray]
  rw[List.append_assoc,List.getElem?_append]
  have e1:(List.take o cs.toList).length=o:=by simp;omega
  rw[e1]
  by_cases h1:j<o
  ·rw[if_pos h1,if_neg (by omega),List.getElem?_take,if_pos h1];simp
  ·rw[if_neg h1,List.getElem?_append]
   by_cases h2:j -o<vs.toList.length
   ·rw[if_pos h2,if_pos (by simp at h2;omega)];simp
   ·rw[if_neg h2,if_neg (by simp at h2;omega),List.getElem?_drop]
    simp at h2⊢
    congr 1;omega
theorem mE{cs vs:Array Value}{o:Nat}(ho:o+vs.size≤cs.size):(cT cs o vs).size=cs.size:=by
  simp[cT];omega
theorem yF{P:Program}(g o:Nat)(t:TypeId)(fz:Nat×Nat): ∀(vs:List Value) (i:Nat) (cur:Array Value) (w:World),w.heap[g]? =some (.cells cur t fz)→Ee cur.size fz→o+i+vs.length≤cur.size→(∀v∈vs,v.oneCell'=true)→
    (storeCells ⟨g,o,none⟩ vs i).run P w= .ok () (w.setRow g (cur.toList.take (o+i)++vs++cur.toList.drop (o+i+vs.length)).toArray)
  |[],i,cur,w,hg,_,_,_=>by
   simp only[storeCells,List.append_nil,List.length_nil,Nat.add_zero,List.take_append_drop,Array.toArray_toList]
   rw[setRow_self w g cur t fz hg]
   rfl
  |v::rest,i,cur,w,hg,hf,hl,h1=>by
   have hi:o+i<cur.size:=by simp at hl;omega
   have QA:(⟨g,o,none⟩:Addr).add i=⟨g,o+i,none⟩:=by unfold Addr.add;split<;>simp_all
   have AY:w.cell? ⟨g,o+i,none⟩=some cur[o+i]:=by simp[World.cell?,hg,hi]
   have QB:w.frozen? ⟨g,o+i,none⟩=false:=by
      have:=hf (o+i) hi
      obtain⟨a,b⟩:=fz
      simp only[World.frozen?,hg]
      simp only[Bool.and_eq_false_iff,decide_eq_false_iff_not]
      omega
   have bH:(store ((⟨g,o,none⟩:Addr).add i) v).run P w= .ok () (w.setRow g (cur.setIfInBounds (o+i) v)):=by
      rw[QA,run_store P w _ v _ (h1 v (by simp)),AY]
      simp[QB,setCell_eq_setRow w g (o+i) cur t fz v hg]
   have ih:=yF (P:=P) g o t fz rest (i+1) (cur.setIfInBounds (o+i) v) (w.setRow g (cur.setIfInBounds (o+i) v)) (setRow_heap w g cur _ t _ hg) (by simpa using hf) (by simp at hl⊢;omega) (fun x hx=>h1 x (by simp[hx]))
   simp only[storeCells,Sem.run_bind,bH,Result.andThen_ok,ih,setRow_setRow]
   congr 3
   have e:=list_seg_step cur.toList (o+i) v rest (by simp at hl⊢;omega)
   simpa[Array.toList_setIfInBounds,Nat.add_assoc]using e
section
variable {α:Type} {enc:α→Array Value} {c:Nat}
def aJ(enc:α→Array Value)(xs:List α):List Value:=xs.flatMap fun x=>(enc x).toList
theorem gX[he:bp enc c]: ∀xs:List α,(aJ enc xs).length=xs.length*c
  |[]=>by simp[aJ]
  |x::xs=>by
   have:=gX xs
   simp only[aJ,List.flatMap_cons,List.length_append]at this⊢
   rw[this,Array.length_toList,he.size,List.length_cons,Nat.add_mul];omega
theorem mF[he:bp enc c]: ∀(xs:List α) (i:Nat) (x:α),xs[i]? =some x→ ∀j,j<c→(aJ enc xs)[i*c+j]? =(enc x)[j]?
  |[],i,x,h,_,_=>by simp at h
  |y::xs,0,x,h,j,hj=>by
   obtain rfl:y=x:=by simpa using h
   simp only[aJ,List.flatMap_cons,Nat.zero_mul,Nat.zero_add]
   rw[List.getElem?_append_left (by rw[Array.length_toList,he.size];exact hj)];simp
  |y::xs,i+1,x,h,j,hj=>by
   have:=mF xs i x (by simpa using h) j hj
   simp only[aJ,List.flatMap_cons]at this⊢
   rw[List.getElem?_append_right (by rw[Array.length_toList,he.size,Nat.add_mul];omega),Array.length_toList,he.size]
   rw[←this];congr 1;rw[Nat.add_mul];omega
theorem AZ(hc:0<c)[he:bp enc c]{xs:List α}{k:Nat}{v:Value}(h:(aJ enc xs)[k]? =some v): ∃x,xs[k/c]? =some x∧(enc x)[k%c]? =some v:=by
  have hk:k<xs.length*c:=by
    have:=(List.getElem?_eq_some_iff.1 h).1
    rwa [gX]at this
  have hd:k/c<xs.length:=Nat.div_lt_of_lt_mul (by rwa [Nat.mul_comm])
  refine⟨xs[k/c],by simp[hd],?_⟩
  rw[←mF xs (k/c) xs[k/c] (by simp[hd]) (k%c) (Nat.mod_lt _ hc),←h]
  congr 1;rw[Nat.mul_comm];exact Nat.div_add_mod k c
theorem ta[he:bp enc c](xs:List α): ∀u∈aJ enc xs,u.oneCell'=true:=fun u hu=>by
  obtain⟨x,_,hx⟩:=List.mem_flatMap.1 hu
  exact(Array.all_eq_true_iff_forall_mem.1 (he.one x)) u (by simpa using hx)
theorem td{h:Nat→Option Obj}{s:Sv}{xs:List α}{cs:Array Value}{T:TypeId}{fz:Nat×Nat}(ok:s.Ok)(hl:s.len=xs.length)(hb:h s.b=some (.cells cs T fz))
    (hc: ∀i x,xs[i]? =some x→ ∀j,j<c→cs[s.o+i*c+j]? =(enc x)[j]?):bW enc c h s xs:=
  ⟨ok,hl,fun i x hi j hj=>by unfold mC;rw[hb];exact hc i x hi j hj⟩
theorem kO{P:Program}{tx e':TypeId}(hk:P.underlying tx=some (.slice e'))(hc:0<c)[he:bp enc c]{w:World}{s:Sv}{xs:List α}(r:bW enc c (hp w) s xs):Src P c tx s.val xs.length (aJ enc xs) w:=by
  cases hn:s.nil with
  |true=>
   have:xs=[]:=by have:=(r.ok.nil hn).1;rw[r.len]at this;exact List.length_eq_zero_iff.1 this
   subst this
   rw[Sv.qO hn]
   exact Src.ofNil w hk 0
  |false=>
   rw[Sv.hY hn,r.len]
   refine Src.ofSlice w hk _ _ _ _ (gX xs) (fun j u hu=> ?_) (ta xs)
   obtain⟨x,hx,Eh⟩:=AZ hc hu
   have gC:=r.ok.sp (by have h1:=Nat.lt_of_le_of_lt (Nat.zero_le _) (List.getElem?_eq_some_iff.1 hx).1;have:=r.len;have:=r.ok.le;omega)
   rw[gC,Addr.gB,qP,←Eh,←r.row _ x hx (j%c) (Nat.mod_lt _ hc)]
   congr 1
   have:=Nat.div_add_mod j c
   rw[Nat.mul_comm]at this;omega
theorem Ei{P:Program}{t tx ty e:TypeId}{cI:Nat}(ht:ft P t e c cI)(hc:0<c)[he:bp enc c]{w0 w:World}{L:List ak}{i:Nat}{s:Sv}{xs ys:List α}{x:Value}
    (hw:Mem w0 L w) (hi:L[i]? =some (own enc c s xs)) (hs:Src P c tx x ys.length (aJ enc ys) w) (hb:(xs.length+ys.length)*cI≤140737488355328) (ja:xs.length+ys.length≤140737488355328):
    ∃s' w',(Builtin.append_ #[t,tx] ty #[s.val,x]).run P w= .ok (Sv.val s') w'∧s'.Ok∧s'.len=(xs++ys).length∧Mem w0 (L.set i (own enc c s' (xs++ys))) w':=by
  obtain⟨r,mG⟩:=hw.get hi
  obtain⟨i',z,bl,aH,bB,c6,lY⟩:=ht.info
  subst bB c6
  have hlen:=r.len
  have hle:=r.ok.le
  have grow:s.cap<s.len+ys.length→ ∀(base:Option Addr),s.val= .slice base s.len s.cap→(Builtin.firstCells i'.size s.len (.slice base s.len s.cap)).run P w.drew= .ok (aJ enc xs).toArray w.drew→
      ∃s' w',(Builtin.append_ #[t,tx] ty #[s.val,x]).run P w= .ok (Sv.val s') w'∧s'.Ok∧s'.len=(xs++ys).length∧Mem w0 (L.set i (own enc i'.size s' (xs++ys))) w':=by
    intro hg base hv hold
    have uL:=nextslicecap_le hg
    have iN:Builtin.nextslicecap (s.len+ys.length) s.cap*i'.bytes≤281474976710656:=by
      have h2:Builtin.nextslicecap (s.len+ys.length) s.cap*i'.bytes≤2*(s.len+ys.length)*i'.bytes:=Nat.mul_le_mul_right _ uL
      rw[Nat.mul_assoc,hlen]at h2
      rw[hlen];omega
    have hr:=run_append_grow_src w t tx ty e i' z ht.eE bl aH base s.len s.cap (aJ enc xs) hold x ys.length (aJ enc ys) hs hg (by omega) iN
    have qR:=grownCap_ge w (s.len+ys.length) s.cap e
    generalize grownCap w (s.len+ys.length) s.cap e=C at hr qR
    refine⟨⟨false,w.heap.size,0,s.len+ys.length,C,none⟩,_,by rw[hv,hr];rfl,⟨(fun h=>by cases h),qR,by simp only;omega,fun _=>rfl⟩,by simp[hlen],hw.swap (At.lt hi) ?_⟩
    have hm:=(Mem.init w).drew.alloc ((aJ enc xs++aJ enc ys).toArray++Builtin.zeroCells z.cells (C -(s.len+ys.length))) e
    refine⟨hm.below,fun q hq=> ?_,fun q hq k hk=> ?_,by simp⟩
    ·obtain rfl:=List.mem_singleton.1 hq
     have ei:hp (w.drew.alloc (.cells ((aJ enc xs++aJ enc ys).toArray++Builtin.zeroCells z.cells (C -(s.len+ys.length))) e)) w.heap.size=some (.cells ((aJ enc xs++aJ enc ys).toArray++Builtin.zeroCells z.cells (C -(s.len+ys.length))) e (0,0)):=Below.AA w.drew _
     have eG:aJ enc xs++aJ enc ys=aJ enc (xs++ys):=by simp[aJ]
     rw[eG]at ei
     rw[eG]
     have fc:(aJ enc (xs++ys)).length=(xs.length+ys.length)*i'.size:=by rw[gX];simp
     refine⟨td (enc:=enc) (c:=i'.size) (xs:=xs++ys) ⟨(fun h=>by cases h),qR,by simp only;omega,fun _=>rfl⟩ (by simp[hlen]) ei fun k y hy j hj=> ?_,fun _=>⟨rfl,_,_,_,ei,?_,Ef _,fun _=>rfl⟩⟩
     ·have uM:=mF (enc:=enc) (xs++ys) k y hy j hj
      have bx:k*i'.size+j<(aJ enc (xs++ys)).length:=by
          rw[fc]
          have h1:=(List.getElem?_eq_some_iff.1 hy).1
          rw[List.length_append]at h1
          calc k*i'.size+j<k*i'.size+i'.size:=by omega
            _=(k+1)*i'.size:=by rw[Nat.add_mul];omega
            _≤_:=Nat.mul_le_mul_right _ h1
      simp only[Nat.zero_add]
      rw[←uM,Array.getElem?_append_left (by simpa using bx)];simp
     ·have h3:=size_zeroCells z.cells (C -(s.len+ys.length))
      rw[lY]at h3
      simp only[Array.size_append,List.size_toArray,h3,fc,Nat.zero_add]
      rw[←Nat.add_mul,hlen]
      refine Nat.mul_le_mul_right _ ?_
      omega
    ·obtain rfl:=List.mem_singleton.1 hq
     obtain rfl:k=w.heap.size:=hk.2
     simp
  cases hn:s.nil with
  |true=>
   have h0:=r.ok.nil hn
   have dX:xs=[]:=by rw[hlen]at h0;exact List.length_eq_zero_iff.1 h0.1
   subst dX
   by_cases hy:ys.length=0
   ·have uN:ys=[]:=List.length_eq_zero_iff.1 hy
    subst uN
    refine⟨s,w,?_,r.ok,by simpa using hlen,?_⟩
    ·rw[Sv.qO hn]
     have wx:=hs.cells
     simp only[List.length_nil]at wx
     rcases hs.kind with⟨e',hk⟩|hk<;>simp[Builtin.append_,run_underlying ht.eE,run_underlying hk,sizeOf,typeInfo,bl,hs.len,wx]
    ·have:L.set i (own enc i'.size s ([]++[]))=L:=by
          rw[List.append_nil]
          refine List.ext_getElem? fun k=> ?_
          rw[List.getElem?_set]
          by_cases hk:i=k
          ·subst hk;rw[if_pos rfl,hi,if_pos (At.lt hi)]
          ·rw[if_neg hk]
     rw[this];exact hw
   ·refine grow (by omega) .none (by rw[Sv.qO hn,h0.1,h0.2]) ?_
    rw[h0.1,h0.2]
    exact run_firstCells_none w.drew _ _ _ _
  |false=>
   obtain⟨gC,cs,T,fz,ei,fc,lG,la⟩:=mG hn
   by_cases nt:s.len+ys.length≤s.cap
   ·have hmul:(s.len+ys.length)*i'.size≤s.cap*i'.size:=Nat.mul_le_mul_right _ nt
    have eG:(aJ enc ys).length=ys.length*i'.size:=gX ys
    have iN:s.o+s.len*i'.size+(aJ enc ys).toArray.size≤cs.size:=by
        rw[List.size_toArray,eG];rw[Nat.add_mul]at hmul;omega
    have bH:=yF (P:=P) s.b (s.o+s.len*i'.size) T fz (aJ enc ys) 0 cs w ei lG (by simpa using iN) hs.one
    have yG:(storeCells ⟨s.b,s.o+s.len*i'.size,none⟩ (aJ enc ys)).run P w= .ok () (w.setRow s.b (cT cs (s.o+s.len*i'.size) (aJ enc ys).toArray)):=by
        simpa[cT]using bH
    refine⟨{s with len:=s.len+ys.length},w.setRow s.b (cT cs (s.o+s.len*i'.size) (aJ enc ys).toArray),?_,⟨(fun h=>by rw[hn]at h;cases h),nt,by simp only;omega,r.ok.sp⟩,by simp[hlen],?_⟩
    ·have kM:({s with len:=s.len+ys.length}:Sv).val= .slice (some ⟨s.b,s.o,s.sp⟩) (s.len+ys.length) s.cap:=Sv.hY (s:={s with len:=s.len+ys.length}) hn
     rw[Sv.hY hn,kM,gC]
     rcases hs.kind with⟨e',hk⟩|hk<;>simp[Builtin.append_,run_underlying ht.eE,run_underlying hk,sizeOf,typeInfo,bl,hs.len,nt,hs.cells,Addr.gB,yG]
    ·have mH:hp (w.setRow s.b (cT cs (s.o+s.len*i'.size) (aJ enc ys).toArray)) s.b=some (.cells (cT cs (s.o+s.len*i'.size) (aJ enc ys).toArray) T fz):=setRow_heap w s.b cs _ T fz ei
     refine hw.change hi (fun k hk=>hk) (fun k hk=> ?_) (by simp[World.setRow]) ⟨rfl,rfl,rfl⟩ ⟨td ⟨(fun h=>by rw[hn]at h;cases h),nt,by simp only;omega,r.ok.sp⟩ (by simp[hlen]) mH fun k y hy j hj=> ?_,fun _=>⟨gC,_,_,_,mH,?_,by rw[mE iN];exact lG,la⟩⟩
     ·exact setRow_other w s.b k _ (fun e=>hk ⟨hn,e⟩)
     ·rw[uK iN]
      by_cases hk:k<xs.length
      ·rw[if_neg,←r.row k y (by rw[List.getElem?_append_left hk]at hy;exact hy) j hj]
       ·unfold mC;rw[ei]
       ·have:(k+1)*i'.size≤s.len*i'.size:=Nat.mul_le_mul_right _ (by omega)
        rw[Nat.add_mul]at this
        intro h;have:=h.1;simp only at this;omega
      ·rw[List.getElem?_append_right (by omega)]at hy
       have uM:=mF (enc:=enc) ys (k -xs.length) y hy j hj
       have n8:s.len*i'.size+(k -xs.length)*i'.size=k*i'.size:=by rw[←Nat.add_mul];congr 1;omega
       have bx:(k -xs.length+1)*i'.size≤ys.length*i'.size:=Nat.mul_le_mul_right _ (by have:=(List.getElem?_eq_some_iff.1 hy).1;omega)
       rw[Nat.add_mul]at bx
       rw[if_pos ⟨by simp only;omega,by rw[List.size_toArray,eG];simp only;omega⟩,←uM]
       simp only[List.getElem?_toArray]
       congr 1;omega
     ·rw[mE iN];exact fc
   ·refine grow (by omega) _ (by rw[Sv.hY hn,gC]) ?_
    refine run_firstCells_some w.drew _ _ _ _ _ _ (by rw[gX,hlen]) fun j u hu=> ?_
    obtain⟨y,hy,Eh⟩:=AZ hc hu
    have:=r.row _ y hy (j%i'.size) (Nat.mod_lt _ hc)
    rw[Eh]at this
    rw[Addr.gB]
    show w.cell? _=_
    rw[qP,←this]
    congr 1
    have h9:=Nat.div_add_mod j i'.size
    rw[Nat.mul_comm]at h9;omega
theorem IY(off:Nat): ∀(vs:List Value) (k:Nat) (cs:Array Value),off+k+vs.length≤cs.size→
    (vs.zipIdx k).foldl (fun cs (p:Value×Nat)=>cs.setIfInBounds (off+p.2) p.1) cs=(cs.toList.take (off+k)++vs++cs.toList.drop (off+k+vs.length)).toArray
  |[],k,cs,_=>by simp
  |v::vs,k,cs,h=>by
   simp only[List.zipIdx_cons,List.foldl_cons,List.length_cons]at h⊢
   rw[IY off vs (k+1) _ (by simp;omega)]
   apply Array.ext'
   have e1:(cs.setIfInBounds (off+k) v).toList=cs.toList.set (off+k) v:=by simp
   rw[e1]
   have bx:off+k<cs.toList.length:=by simp;omega
   have e2:(cs.toList.set (off+k) v).take (off+(k+1))=cs.toList.take (off+k)++[v]:=by
      rw[←Nat.add_assoc,List.take_add_one,List.take_set_of_le (Nat.le_refl _),List.getElem?_set_self bx]
      rfl
   have e3:(cs.toList.set (off+k) v).drop (off+(k+1)+vs.length)=cs.toList.drop (off+k+(vs.length+1)):=by
      rw[List.drop_set_of_lt (by omega)];congr 1;omega
   rw[e2,e3];simp
def idx(vals:List Value)(i:Nat):List (Nat×Value):=(vals.zipIdx i).map fun p=>(p.2,p.1)
theorem IZ[he:bp enc c]: ∀(xs:List α) (vals:List Value) (i:Nat) (cs:Array Value),vals.map Value.cells=xs.map enc→i*c+xs.length*c≤cs.size→
    Instr.fill (fun i=>some (i*c,c)) cs (idx vals i)=some (cs.toList.take (i*c)++aJ enc xs++cs.toList.drop (i*c+xs.length*c)).toArray
  |[],[],i,cs,_,_=>by simp[idx,Instr.fill,aJ]
  |[],_::_,_,_,h,_=>by simp at h
  |_::_,[],_,_,h,_=>by simp at h
  |x::xs,v::vals,i,cs,h,hs=>by
   simp only[List.map_cons,List.cons.injEq]at h
   obtain⟨h1,h2⟩:=h
   have fc:v.cells.size=c:=by rw[h1];exact he.size x
   rw[List.length_cons,Nat.add_mul,Nat.one_mul]at hs
   simp only[idx,List.zipIdx_cons,List.map_cons,Instr.fill,fc]
   rw[if_neg (by simp;omega)]
   have ef:v.cells.zipIdx.foldl (fun cs (p:Value×Nat)=>cs.setIfInBounds (i*c+p.2) p.1) cs=(cs.toList.take (i*c)++v.cells.toList++cs.toList.drop (i*c+c)).toArray:=by
      have:=IY (i*c) v.cells.toList 0 cs (by simp;omega)
      simp only[Nat.add_zero]at this
      rw[←Array.foldl_toList,Array.toList_zipIdx,this]
      simp[fc]
   have QC:(v.cells.zipIdx.foldl (fun cs (x:Value×Nat)=>match x with|(c',j)=>cs.setIfInBounds (i*c+j) c') cs)=(cs.toList.take (i*c)++v.cells.toList++cs.toList.drop (i*c+c)).toArray:=ef
   rw[QC]
   have I0:(cs.toList.take (i*c)++v.cells.toList).length=(i+1)*c:=by simp[fc,Nat.add_mul];omega
   have:=IZ xs vals (i+1) (cs.toList.take (i*c)++v.cells.toList++cs.toList.drop (i*c+c)).toArray h2 (by simp[fc,Nat.add_mul];omega)
   unfold idx at this
   rw[this]
   congr 1
   apply Array.ext'
   rw[List.take_left' I0,←List.drop_drop (j:=(i+1)*c) (i:=xs.length*c),List.drop_left' I0]
   simp only[aJ,List.flatMap_cons,h1,List.append_assoc,List.append_cancel_left_eq]
   rw[List.drop_drop,List.length_cons,show i*c+c+xs.length*c=i*c+(xs.length+1)*c by rw[Nat.add_mul];omega]
end
section
variable {P:Program} {N:cE} {w0:World} {env:Env} {L:List ak} {l:List Oper} {Q:Exit→Act→World→Prop} {rest:List Oper} {d:Option Tmp} {ty:TypeId} {ps:String} {af:Array Edge}
variable {α:Type} {enc:α→Array Value} {c:Nat} {s:Sv} {xs ys:List α}
class fL(L:List ak)(s:Sv){α:outParam Type}(enc:outParam (α→Array Value))(c:outParam Nat)(xs:outParam (List α))(i:outParam Nat):Prop where
  h:L[i]? =some (own enc c s xs)
instance (priority:=high) fL.here {L:List ak}:fL (own enc c s xs::L) s enc c xs 0:=⟨rfl⟩
instance fL.there{L:List ak}{e:ak}{i:Nat}[q:fL L s enc c xs i]:fL (e::L) s enc c xs (i+1):=⟨by simpa using q.h⟩
theorem fL.holds{i:Nat}(q:fL L s enc c xs i):o8 w0 L enc c s xs:=fun _ hw=>(hw.get q.h).1
theorem Mem.dQ{w:World}(enc:α→Array Value)(c:Nat)(h:Mem w0 L w):Mem w0 (own enc c Sv.none []::L) w:=
  h.call (E:=[own enc c Sv.none []]) ⟨Below.refl _ _,fun e he=>by
    obtain rfl:=List.mem_singleton.1 he
    exact⟨bW.nil enc c _,(fun h=>by cases h)⟩,fun e he k hk=>by
    obtain rfl:=List.mem_singleton.1 he
    exact absurd hk.1 (by simp[Sv.none]),by simp⟩
theorem lZ{t tx e:TypeId}{x y:Operand}{yv:Value}{cI i:Nat}[ht:ft P t e c cI][he:bp enc c](hx:ev env x=some s.val)(hy:ev env y=some yv)[q:fL L s enc c xs i](hc:0<c)
    (hs: ∀w,Mem w0 L w→Src P c tx yv ys.length (aJ enc ys) w) (hb:(xs.length+ys.length)*cI≤140737488355328) (ja:xs.length+ys.length≤140737488355328) {L':Sv→List ak} [hu: ∀s',fE L i (own enc c s' (xs++ys)) (L' s')]
    (hk: ∀s':Sv,s'.Ok→s'.len=(xs++ys).length→Sq P N w0 l Q rest (cy env d s'.val) (L' s')) (hd:dn N d=true:=by rfl):
    Sq P N w0 l Q (⟨d, .call {callee:= .builtin .append,args:= #[x,y],argTypes:= #[t,tx]},ty,ps,af,none⟩::rest) env L:=
  mA rfl hd fun a w ha hw=>by
    obtain⟨s',w',h1,h2,h3,h4⟩:=Ei (ty:=ty) ht hc hw q.h (hs w hw) hb ja
    refine⟨s'.val,w',L' s',?_,by rw[←(hu s').h];exact h4,hk s' h2 h3⟩
    simp[execOp,ha.ev hx,ha.ev hy,resolve,invoke,builtin,h1,Result.andThen]
theorem wy{w:World}{b:Nat}{cs:Array Value}{e:TypeId}(hb:b=w.heap.size)(n cap:Nat)(hn:n=xs.length)(hle:n≤cap)(ja:n≤140737488355328)(fc:cap*c≤cs.size)(hc: ∀i x,xs[i]? =some x→ ∀j,j<c→cs[i*c+j]? =(enc x)[j]?):
    Mem w [own enc c ⟨false,b,0,n,cap,none⟩ xs] (w.alloc (.cells cs e)):=by
  subst hb
  have hm:=(Mem.init w).alloc cs e
  have ei:hp (w.alloc (.cells cs e)) w.heap.size=some (.cells cs e (0,0)):=Below.AA w _
  refine⟨hm.below,fun q hq=> ?_,fun q hq k hk=> ?_,by simp⟩
  ·obtain rfl:=List.mem_singleton.1 hq
   exact⟨td ⟨(fun h=>by cases h),hle,ja,fun _=>rfl⟩ hn ei (by simpa using hc),fun _=>⟨rfl,_,_,_,ei,by simpa using fc,Ef _,fun _=>rfl⟩⟩
  ·obtain rfl:=List.mem_singleton.1 hq
   obtain rfl:k=w.heap.size:=hk.2
   simp
theorem Ej{n c:Nat}(h0:0<n*c)(h:n*c≤16777216):n≤140737488355328:=by
  have:n*1≤n*c:=Nat.mul_le_mul_left _ (by rcases Nat.eq_zero_or_pos c with rfl|h';·simp at h0
                                          ·exact h')
  omega
theorem Ek{t e:TypeId}{cI:Nat}(ht:ft P t e c cI)[he:bp enc c]{vals:List Value}(hv:vals.map Value.cells=xs.map enc)(hc:0<xs.length*c)(rR:xs.length*c≤16777216)(w:World):
    (Instr.buildSlice t xs.length (idx vals 0).toArray).run P w= .ok (.slice (some ⟨w.heap.size,0,none⟩) xs.length xs.length) (w.alloc (.cells (aJ enc xs).toArray e)):=by
  obtain⟨i',z,bl,aH,bB,c6,lY⟩:=ht.info
  subst bB
  have hf:=IZ (enc:=enc) (c:=i'.size) xs vals 0 ((Array.range (xs.length*i'.size)).map (z.cells[· %z.cells.size]!)) hv (by simp)
  have QD:((Array.range (xs.length*i'.size)).map (z.cells[· %z.cells.size]!)).toList.drop (0*i'.size+xs.length*i'.size)=[]:=by simp
  rw[QD]at hf
  simp only[Nat.zero_mul,List.take_zero,List.nil_append,List.append_nil]at hf
  have n1: ¬xs.length*i'.size>2^24:=by omega
  have n2: ¬xs.length*i'.size=0:=by omega
  simp[Instr.buildSlice,run_underlying ht.eE,sizeOf,typeInfo,zeroValue,bl,aH,n1,n2,hf,newRow,newObj,Sem.run,Result.andThen]
theorem pa{t e:TypeId}{cI n:Nat}[ht:ft P t e c cI][he:bp enc c]{ops:List (Nat×Operand)}{vals:List Value}(xs:List α)(hx:kL env ops=some (idx vals 0))(hv:vals.map Value.cells=xs.map enc)(hn:xs.length=n)(hc:0<n*c)(rR:n*c≤16777216)
    (hk: ∀b,Sq P N w0 l Q rest (cy env d (Sv.val ⟨false,b,0,n,n,none⟩)) (own enc c ⟨false,b,0,n,n,none⟩ xs::L)) (hd:dn N d=true:=by rfl):
    Sq P N w0 l Q (⟨d, .buildSlice t n ops.toArray,ty,ps,af,none⟩::rest) env L:=
  mA rfl hd fun a w ha hw=>by
    subst hn
    have e1:(ops.toArray.map fun(p:Nat×Operand)=>match p with|(i,x)=>(i,a.eval x))=(idx vals 0).toArray:=by
      rw[←ha.kL hx];simp
    refine⟨_,_,_,?_,hw.call (wy (enc:=enc) (c:=c) (xs:=xs) (cs:=(aJ enc xs).toArray) (e:=e) rfl xs.length xs.length rfl (Nat.le_refl _) (Ej hc rR) (by simp[gX]) fun i x hx j hj=>by rw[←mF (enc:=enc) xs i x hx j hj];simp),hk _⟩
    simp only[execOp,e1,Sem.run_bind,Ek ht hv hc rR w,Result.andThen,Sem.run_pure];rfl
theorem QE{zc:Array Value}(m n:Nat)(h:zc.size=c)(i j:Nat)(hi:i<n)(hj:j<c)(hm:n*c≤m):(madeCells zc m)[i*c+j]? =zc[j]? :=by
  have bx:i*c+j<m:=by
    have:(i+1)*c≤n*c:=Nat.mul_le_mul_right _ hi
    rw[Nat.add_mul]at this;omega
  have e1:(i*c+j)%zc.size=j:=by rw[h,Nat.mul_comm,Nat.mul_add_mod];exact Nat.mod_eq_of_lt hj
  have hz:j<zc.size:=by omega
  simp[madeCells,bx,e1,hz]
theorem El{t e:TypeId}{cI n cap:Nat}{z:Value}(ht:ft P t e c cI)(hz:fo P e z){k k':IntKind}(x0:α)(h0:enc x0=z.cells)(hle:n≤cap)(hb:cI*cap≤281474976710656)(ja:cap≤140737488355328)(w:World):
    ∃w',(Instr.makeSlice t (.int k n) (.int k' cap)).run P w= .ok (Sv.val ⟨false,w.heap.size,0,n,cap,none⟩) w'∧Mem w [own enc c ⟨false,w.heap.size,0,n,cap,none⟩ (List.replicate n x0)] w':=by
  obtain⟨i',z',bl,aH,bB,c6,lY⟩:=ht.info
  obtain rfl:z'=z:=by
    have:=hz.zero
    rw[bl,Option.map_some,aH]at this;exact Option.some.inj (Option.some.inj this)
  subst bB c6
  have mH:(i'.bytes:Int)*(cap:Int)≤281474976710656:=by
    have h:((i'.bytes*cap:Nat):Int)≤281474976710656:=by omega
    rwa [Int.natCast_mul]at h
  have hr:=run_make (P:=P) w t e i' _ ht.eE bl aH k k' n cap (by omega) (by omega) mH (by omega)
  simp only[Int.toNat_natCast]at hr
  refine⟨_,hr,wy rfl n cap (by simp) hle (by omega) (by simp[size_madeCells]) fun i x hx j hj=> ?_⟩
  have hi:i<n:=by
    have:=(List.getElem?_eq_some_iff.1 hx).1
    simpa using this
  obtain rfl:x0=x:=by rw[List.getElem?_replicate,if_pos hi]at hx;exact Option.some.inj hx
  rw[h0]
  exact QE _ n lY i j hi hj (Nat.mul_le_mul_right _ hle)
theorem te{t e:TypeId}{cI n cap:Nat}{z:Value}{x y:Operand}{k k':IntKind}{ix iy:Int}[ht:ft P t e c cI][hz:fo P e z](x0:α)(h0:enc x0=z.cells)(hx:ev env x=some (.int k ix))(hy:ev env y=some (.int k' iy))(ex:ix=(n:Int))(ey:iy=(cap:Int))(hle:n≤cap)(hb:cI*cap≤281474976710656)(ja:cap≤140737488355328)
    (hk: ∀b,Sq P N w0 l Q rest (cy env d (Sv.val ⟨false,b,0,n,cap,none⟩)) (own enc c ⟨false,b,0,n,cap,none⟩ (List.replicate n x0)::L)) (hd:dn N d=true:=by rfl):
    Sq P N w0 l Q (⟨d, .makeSlice t x y,ty,ps,af,none⟩::rest) env L:=
  mA rfl hd fun a w ha hw=>by
    subst ex ey
    obtain⟨w',h1,h2⟩:=El ht hz (k:=k) (k':=k') (n:=n) x0 h0 hle hb ja w
    exact⟨_,w',_,by simp only[execOp,ha.ev hx,ha.ev hy,Sem.run_bind,h1,Result.andThen,Sem.run_pure],hw.call h2,hk _⟩
theorem I1{w:World}{L':List ak}{i k j:Nat}{a a':α}{vs:Array Value}[he:bp enc c](hw:Mem w0 L w)(q:fL L s enc c xs i)(ha:xs[k]? =some a)(hv:vs.all (·.oneCell')=true)(hj:j+vs.size≤c)(pW:cT (enc a) j vs=enc a')(hu:fE L i (own enc c s (xs.set k a')) L'):
    ∃w',(storeCells ⟨s.b,s.o+k*c+j,none⟩ vs.toList).run P w= .ok () w'∧Mem w0 L' w':=by
  obtain⟨r,mG⟩:=hw.get q.h
  have hk:k<xs.length:=(List.getElem?_eq_some_iff.1 ha).1
  have hn:=r.some hk
  have hle:=r.ok.le
  have hlen:=r.len
  obtain⟨gC,cs,T,fz,ei,fc,lG,la⟩:=mG hn
  have hmul:(k+1)*c≤s.cap*c:=Nat.mul_le_mul_right _ (by omega)
  have ace:=hmul
  rw[Nat.add_mul]at hmul
  have iN:s.o+k*c+j+vs.size≤cs.size:=by omega
  have bH:=yF (P:=P) s.b (s.o+k*c+j) T fz vs.toList 0 cs w ei lG (by simpa using iN) (fun v kM=>(Array.all_eq_true_iff_forall_mem.1 hv) v (by simpa using kM))
  refine⟨w.setRow s.b (cT cs (s.o+k*c+j) vs),by simpa[cT]using bH,?_⟩
  have mH:hp (w.setRow s.b (cT cs (s.o+k*c+j) vs)) s.b=some (.cells (cT cs (s.o+k*c+j) vs) T fz):=setRow_heap w s.b cs _ T fz ei
  rw[←hu.h]
  refine hw.change q.h (fun k hk=>hk) (fun x hx=>setRow_other w s.b x _ (fun e=>hx ⟨hn,e⟩)) (by simp[World.setRow]) ⟨rfl,rfl,rfl⟩ ⟨td r.ok (by simpa using hlen) mH fun x y hy p gW=> ?_,fun _=>⟨gC,_,_,_,mH,by rw[mE iN];exact fc,by rw[mE iN];exact lG,la⟩⟩
  rw[uK iN]
  by_cases I2:x=k
  ·subst I2
   obtain rfl:a'=y:=by rw[List.getElem?_set_self hk]at hy;exact Option.some.inj hy
   rw[←pW,uK (by rw[he.size];exact hj)]
   by_cases h1:j≤p∧p<j+vs.size
   ·rw[if_pos h1,if_pos (by omega)];congr 1;omega
   ·rw[if_neg h1,if_neg (by omega),←r.row x a ha p gW]
    unfold mC;rw[ei]
  ·rw[List.getElem?_set_ne (by omega)]at hy
   rw[if_neg,←r.row x y hy p gW]
   ·unfold mC;rw[ei]
   ·intro h
    rcases Nat.lt_or_gt_of_ne I2 with h'|h'
    ·have:(x+1)*c≤k*c:=Nat.mul_le_mul_right _ h'
     rw[Nat.add_mul]at this;omega
    ·have:(k+1)*c≤x*c:=Nat.mul_le_mul_right _ h'
     rw[Nat.add_mul]at this;omega
theorem kP{t:TypeId}{x y:Operand}{i k j n p:Nat}{a a':α}{v:Value}(sz:(P.info? t).map (·.size)=some n)[he:bp enc c](hx:ev env x=some (.pointer (some ⟨s.b,p,none⟩)))(hy:ev env y=some v)[q:fL L s enc c xs i](gW:p=s.o+k*c+j)
    (ha:xs[k]? =some a) (hv:v.cells.all (·.oneCell')=true) (hn:v.cells.size=n) (hj:j+n≤c) (pW:cT (enc a) j v.cells=enc a') {L':List ak} [hu:fE L i (own enc c s (xs.set k a')) L'] (hk:Sq P N w0 l Q rest env L'):
    Sq P N w0 l Q (⟨none, .store t x y,ty,ps,af,none⟩::rest) env L:=
  AS rfl rfl fun aa w yH hw=>by
    subst gW hn
    obtain⟨w',h1,h2⟩:=I1 (P:=P) hw q ha hv hj pW hu
    refine⟨w',_,?_,h2,hk⟩
    simp only[execOp,yH.ev hx,yH.ev hy,Instr.storeAt,Instr.sureAddr,storeVar,Sem.run_bind,Sem.run_pure,Result.andThen,kK w sz]
    simp[h1]
theorem QF{X:Type}{val:X→Value}{L':X→List ak}{pr:X→Prop}{f:FuncId}{xs:List Operand}{ts:Array TypeId}{vs:List Value}[hf:aR P f](hx:hU env xs=some vs)
    (hc: ∀w,Mem w0 L w→Calls P f vs.toArray w fun e w'=> ∃x,e= .returned (val x)∧pr x∧Mem w0 (L' x) w') (hk: ∀x,pr x→Sq P N w0 l Q rest (cy env d (val x)) (L' x)) (hd:dn N d=true:=by rfl):
    Sq P N w0 l Q (⟨d, .call {callee:= .value (.func f),args:=xs.toArray,argTypes:=ts},ty,ps,af,none⟩::rest) env L:=fun a w ha hw=>by
  unfold wpList
  rw[if_pos (pU rfl)]
  refine .inl ?_
  unfold Oper.wp
  rw[AP hf w rfl,ha.hU hx]
  exact(hc w hw).mono fun e w' ⟨x,he,hp,hm⟩=>by subst he;exact hk x hp _ _ (ha.put hd _) hm
theorem kv{N:Nat}{fn:Func}{R:Ending→World→Prop}{f:FuncId}{c:Code}{args:List Value}{w:World}(hf:P.funcs[f]? =some fn)(hb:fn.body=some c)(hN:fn.ntmps=N)(hle:Nat.ble args.length N=true)(hw:Mem w0 L w)
    (h:Cw P ⟨N,[],none⟩ w0 (yi P fn R) c (args.zipIdx.map fun p=>(p.2,p.1)) L):Calls P f args.toArray w R:=
  Iv hf hb (h _ _ (by rw[hN];exact db.enter args N (Nat.le_of_ble_eq_true hle)) hw)
theorem A0{b n i:Nat}{cs:Array Value}{T:TypeId}[hi:Has L b cs T i][he:bp enc c](gO:cs=(aJ enc xs).toArray)(hn:xs.length=n)(ja:n≤140737488355328:=by decide):o8 w0 L enc c ⟨false,b,0,n,n,none⟩ xs:=fun w hw=>by
  have hb:=hw.block hi.h
  exact td ⟨(fun h=>by cases h),Nat.le_refl _,ja,fun _=>rfl⟩ hn.symm hb fun k x hx j hj=>by
    rw[←mF (enc:=enc) xs k x hx j hj,gO];simp
def wz(tmps:Array Value)(r:ResultVar):Sem Value:=match r with
  | .tmp t=>pure (tmps.getD t undef)
  | .cell c t=>do loadVar t (←asAddr (tmps.getD c undef))
theorem Em(fn:Func)(tmps:Array Value):results fn tmps=(do let vs←fn.results.mapM (wz tmps);pure (if h:vs.size=1 then vs[0]else .tuple vs)):=by
  have:(fun r=>wz tmps r)=(fun| .tmp t=>pure (tmps.getD t undef)| .cell a t=>do loadVar t (←asAddr (tmps.getD a undef)):ResultVar→Sem Value):=by
    funext r;cases r<;>rfl
  show _=(do let vs←fn.results.mapM (fun r=>wz tmps r);pure (if h:vs.size=1 then vs[0]else .tuple vs))
  rw[this];rfl
def RV(P:Program)(N:cE)(w0:World)(env:Env)(L:List ak)(r:ResultVar)(v:Value):Prop:= ∀a w,db N env a→Mem w0 L w→(wz a.tmps r).run P w= .ok v w
theorem aq{t:Nat}{v:Value}(hv:look env t=some v):RV P N w0 env L (.tmp t) v:=fun a w ha _=>by
  have:=ha.get _ _ hv
  simp[wz,this]
theorem ck{t b i n:Nat}{T T':TypeId}{cs:Array Value}(hv:look env t=some (.pointer (some ⟨b,0,none⟩)))[ht:fY P T n][hi:Has L b cs T' i][hn:gq cs n]:RV P N w0 env L (.cell t T) (.agg cs):=fun a w ha hw=>by
  have h1:=ha.get _ _ hv
  have h2:(loadVar T ⟨b,0,none⟩).run P w= .ok (.agg cs) w:=D5 w ht hn.h fun j _=>by rw[Addr.gB,hw.cell hi.h,Nat.zero_add]
  simp[wz,h1,asAddr,h2]
variable {fn:Func} {r1 r2 r3:ResultVar} {v1 v2 v3:Value}
theorem QG{A B:Type}(f:A→Sem B)(x y:A):(#[x,y]:Array A).mapM f=(do let a←f x;let b←f y;pure #[a,b]):=by simp
theorem QH{A B:Type}(f:A→Sem B)(x y z:A):(#[x,y,z]:Array A).mapM f=(do let a←f x;let b←f y;let c←f z;pure #[a,b,c]):=by simp
theorem aQ(hf:fn.results= #[r1])(h1:RV P N w0 env L r1 v1): ∀a w,db N env a→Mem w0 L w→(results fn a.tmps).run P w= .ok v1 w:=fun a w ha hw=>by
  have e1:=h1 a w ha hw
  rw[Em,hf]
  simp[e1]
theorem bq(hf:fn.results= #[r1,r2])(h1:RV P N w0 env L r1 v1)(h2:RV P N w0 env L r2 v2): ∀a w,db N env a→Mem w0 L w→(results fn a.tmps).run P w= .ok (.tuple #[v1,v2]) w:=fun a w ha hw=>by
  have e1:=h1 a w ha hw
  have e2:=h2 a w ha hw
  rw[Em,hf,QG]
  simp[e1,e2]
theorem tg(hf:fn.results= #[r1,r2,r3])(h1:RV P N w0 env L r1 v1)(h2:RV P N w0 env L r2 v2)(h3:RV P N w0 env L r3 v3): ∀a w,db N env a→Mem w0 L w→(results fn a.tmps).run P w= .ok (.tuple #[v1,v2,v3]) w:=fun a w ha hw=>by
  have e1:=h1 a w ha hw
  have e2:=h2 a w ha hw
  have e3:=h3 a w ha hw
  rw[Em,hf,QH]
  simp[e1,e2,e3]
end
def aM(b:UInt8):Array Value:= #[.int .u8 b.toNat]
instance:bp aM 1:=⟨fun _=>rfl,fun _=>by simp[aM,Value.oneCell']⟩
instance (b:UInt8):cm (aM b) 0 (.int .u8 b.toNat):=⟨rfl⟩
def qS(s:Sv):Array Value:= #[s.val]
instance:bp qS 1:=⟨fun _=>rfl,fun s=>by simp[qS,Sv.one]⟩
def b8(n:Nat):UInt8:=UInt8.ofNat n
theorem pX(n:Nat):(b8 n).toNat=n%256:=by simp[b8]
theorem I3(n:Nat):b8 (n%256)=b8 n:=by
 apply UInt8.toNat_inj.1;simp[pX]
theorem QI(n:Nat):IntKind.u8.wrap (n:Int)=((b8 n).toNat:Int):=by
 rw[pX];simp[IntKind.wrap,IntKind.bits,IntKind.signed]
def be(n:Nat):Nat→List UInt8
 |0=>[]
 |k+1=>b8 (n/256^k)::be n k
theorem ia(n:Nat): ∀k,(be n k).length=k
 |0=>rfl
 |k+1=>by simp[be,ia n k]
def de(l:List UInt8):Nat:=l.foldl (fun a b=>a*256+b.toNat) 0
theorem I4{xs:List UInt8}{i:Nat}{b:UInt8}(h:xs[i]? =some b):de (xs.take (i+1))=de (xs.take i)*256+b.toNat:=by
 rw[List.take_add_one,h];simp[de]
theorem En(xs:List UInt8): ∀i,i≤xs.length→de (xs.take i)<256^i
 |0,_=>by simp[de]
 |i+1,h=>by
  have:=En xs i (by omega)
  rw[I4 (b:=xs[i]) (by simp),Nat.pow_succ]
  have:=xs[i].toNat_lt;omega
section
variable {P:Program} {N:cE} {w0:World} {env:Env} {L:List ak} {d:Option Tmp} {ty:TypeId} {ps:String} {af:Array Edge} {gd:Option (Nat×Bool)}
variable {x y:Operand} {k k':IntKind} {p q:Nat} {t u s:TypeId}
theorem QJ{a b:Int}(hx:ev env x=some (.int k a))(hy:ev env y=some (.int k b))(ea:a=p)(eb:b=q)(hp:p<2^nb k)(hq:0<q):
  Ry P N w0 env L ⟨d, .binOp .quo t x y u,ty,ps,af,gd⟩ (.int k ((p/q:Nat):Int)):=cz hx hy (by
 subst ea eb
 rw[k9,if_neg (by omega),←Int.ofNat_tdiv,oW (Nat.lt_of_le_of_lt (Nat.div_le_self _ _) hp)])
theorem yI{a b:Int}(hx:ev env x=some (.int k a))(hy:ev env y=some (.int k b))(ea:a=p)(eb:b=q)(hq:0<q):
  Ry P N w0 env L ⟨d, .binOp .rem t x y u,ty,ps,af,gd⟩ (.int k ((p%q:Nat):Int)):=cz hx hy (by
 subst ea eb
 rw[k9,if_neg (by omega),←Int.ofNat_tmod])
theorem QK{a b:Int}(hx:ev env x=some (.int k a))(hy:ev env y=some (.int k b))(ea:a=p)(eb:b=q)(h:p*q<2^nb k):
  Ry P N w0 env L ⟨d, .binOp .mul t x y u,ty,ps,af,gd⟩ (.int k ((p*q:Nat):Int)):=cz hx hy (by
 subst ea eb
 rw[k9,←Int.natCast_mul,oW h])
theorem wA{n:Nat}{a:Int}[hs:lV P s k'][ht:lV P t .u8](hx:ev env x=some (.int k' a))(ea:a=n):
  Ry P N w0 env L ⟨d, .convert s t x,ty,ps,af,gd⟩ (.int .u8 (b8 n).toNat):=rO hx (by subst ea;exact QI n)
theorem QL{e:TypeId}{sv:Sv}{xs:List UInt8}(hs:P.underlying s=some (.slice e))(he:P.underlying e=some (.int .u8))(hd:P.underlying t=some .string)(hx:ev env x=some sv.val)(hR:o8 w0 L aM 1 sv xs):
  Ry P N w0 env L ⟨d, .convert s t x,ty,ps,af,gd⟩ (.string ⟨xs.toArray⟩):=fun a w ha hw=>by
 have r:=hR w hw
 have hr:(convert s t sv.val).run P w= .ok (.string ⟨xs.toArray⟩) w:=by
  cases hn:sv.nil with
  |true=>
   have:xs=[]:=by have:=(r.ok.nil hn).1;rw[r.len]at this;exact List.length_eq_zero_iff.1 this
   subst this
   rw[Sv.qO hn,run_convert_bytes_string w s t e none 0 0 hs he hd]
   rfl
  |false=>
   rw[Sv.hY hn,r.len]
   refine run_convert_bytes_back w s t e _ _ xs hs he hd fun j hj=> ?_
   rw[r.ok.sp (by have:=r.len;have:=r.ok.le;omega)]
   rw[Addr.gB,qP]
   have:=r.row j xs[j] (by simp) 0 (by decide)
   simp only[Nat.mul_one,Nat.add_zero]at this
   rw[this];rfl
 simp only[execOp,ha.ev hx,Sem.run_bind,hr,Result.andThen,Sem.run_pure]
theorem QM{a b:ByteArray}(hx:ev env x=some (.string a))(hy:ev env y=some (.string b)):
  Ry P N w0 env L ⟨d, .binOp .eql t x y u,ty,ps,af,gd⟩ (.bool (a.toList==b.toList)):=fun aa w ha _=>by
 have h2:(eqGuard BinOp.eql t x y (.string a) (.string b)).run P w= .ok () w:=rfl
 simp only[execOp,ha.ev hx,ha.ev hy,Sem.run_bind,h2,Result.andThen_ok,binOp_string_eql,Sem.run_pure]
end
section
variable {P:Program} {N:cE} {w0:World} {env:Env} {L:List ak} {l:List Oper} {Q:Exit→Act→World→Prop} {rest:List Oper} {d:Option Tmp} {ty:TypeId} {ps:String} {af:Array Edge}
end
def qT(b c:UInt8):UInt16:=UInt16.ofNat (b.toNat*256+c.toNat)
theorem Eo(b c:UInt8):(qT b c).toNat=b.toNat*256+c.toNat:=by
 have:=b.toNat_lt;have:=c.toNat_lt
 simp[qT];omega
theorem I5(p q:Nat)(h:q<256):(p*256)|||q=p*256+q:=by
 have:=Nat.two_pow_add_eq_or_of_lt (i:=8) (b:=q) (by simpa using h) p
 rw[show(2^8*p)=p*256 by rw[Nat.mul_comm]]at this
 exact this.symm
section
variable {P:Program} {N:cE} {w0:World} {env:Env} {L:List ak} {d:Option Tmp} {ty:TypeId} {ps:String} {af:Array Edge} {gd:Option (Nat×Bool)} {x y:Operand} {k:IntKind} {t u:TypeId}
theorem I6{b:UInt8}{k':IntKind}(hx:ev env x=some (.int k b.toNat))(hy:ev env y=some (.int k' 8))(hk:k= .u16∨k= .i64:=by decide):
  Ry P N w0 env L ⟨d, .binOp .shl t x y u,ty,ps,af,gd⟩ (.int k ((b.toNat*256:Nat):Int)):=by
 have h:=IT (P:=P) (N:=N) (w0:=w0) (L:=L) (d:=d) (ty:=ty) (ps:=ps) (af:=af) (gd:=gd) (t:=t) (u:=u) hx hy (by decide)
 have hb:=b.toNat_lt
 have e:k.wrap ((b.toNat:Int)*2^min (Int.toNat 8) k.bits)=((b.toNat*256:Nat):Int):=by
  rcases hk with rfl|rfl<;>simp[IntKind.wrap,IntKind.bits,IntKind.signed]<;>omega
 rw[e]at h;exact h
theorem I7{b c:UInt8}(hx:ev env x=some (.int k ((b.toNat*256:Nat):Int)))(hy:ev env y=some (.int k c.toNat))(hk:k= .u16∨k= .i64:=by decide):
  Ry P N w0 env L ⟨d, .binOp .or t x y u,ty,ps,af,gd⟩ (.int k ((qT b c).toNat:Nat)):=by
 have hb:=b.toNat_lt;have hc:=c.toNat_lt
 rw[Eo,←I5 _ _ hc]
 rcases hk with rfl|rfl
 ·
  exact AR hx hy rfl rfl (by simp only[nb];omega) (by simp only[nb];omega)
 ·
  exact AR hx hy rfl rfl (by simp only[nb];omega) (by simp only[nb];omega)
end
open Go.RowKit
def ak.emp:ak:=⟨fun _=>False,fun _=>True,fun _ _ _ s=>s⟩
def ak.two(a b:ak):ak:=⟨fun k=>a.fp k∨b.fp k,fun h=>a.sat h∧b.sat h∧ ∀k,a.fp k→ ¬b.fp k,
  fun h h' e s=>⟨a.loc h h' (fun k hk=>e k (.inl hk)) s.1,b.loc h h' (fun k hk=>e k (.inr hk)) s.2.1,s.2.2⟩⟩
def ak.all:List ak→ak
  |[]=> .emp
  |e::r=> .two e (.all r)
theorem Mem.yJ{w0 w:World}{L:List ak}:Mem w0 (.emp::L) w↔Mem w0 L w:=
  ⟨fun h=>h.sub (List.sublist_cons_self _ _),fun h=>⟨h.below,fun e he=>by
    rcases List.mem_cons.1 he with rfl|he
    ·exact trivial
    ·exact h.sat e he,fun e he k hk=>by
    rcases List.mem_cons.1 he with rfl|he
    ·exact hk.elim
    ·exact h.jq e he k hk,List.pairwise_cons.2 ⟨fun _ _ _ hk=>hk.elim,h.np⟩⟩⟩
theorem Mem.wB{w0 w:World}{a b:ak}{L:List ak}:Mem w0 (.two a b::L) w↔Mem w0 (a::b::L) w:=by
  constructor
  ·intro h
   have hs:(a.sat fun k=>w.heap[k]?)∧(b.sat fun k=>w.heap[k]?)∧ ∀k,a.fp k→ ¬b.fp k:=h.sat (.two a b) (by simp)
   have hd:=List.pairwise_cons.1 h.np
   refine⟨h.below,fun e he=> ?_,fun e he k hk=> ?_,?_⟩
   ·rcases List.mem_cons.1 he with rfl|he
    ·exact hs.1
    ·rcases List.mem_cons.1 he with rfl|he
     ·exact hs.2.1
     ·exact h.sat e (by simp[he])
   ·rcases List.mem_cons.1 he with rfl|he
    ·exact h.jq (.two e b) (by simp) k (.inl hk)
    ·rcases List.mem_cons.1 he with rfl|he
     ·exact h.jq (.two a e) (by simp) k (.inr hk)
     ·exact h.jq e (by simp[he]) k hk
   ·refine List.pairwise_cons.2 ⟨fun x hx k hk=> ?_,List.pairwise_cons.2 ⟨fun x hx k hk=>hd.1 x hx k (.inr hk),hd.2⟩⟩
    rcases List.mem_cons.1 hx with rfl|hx
    ·exact hs.2.2 k hk
    ·exact hd.1 x hx k (.inl hk)
  ·intro h
   have hd:=List.pairwise_cons.1 h.np
   have uO:=List.pairwise_cons.1 hd.2
   refine⟨h.below,fun e he=> ?_,fun e he k hk=> ?_,List.pairwise_cons.2 ⟨fun x hx k hk=> ?_,uO.2⟩⟩
   ·rcases List.mem_cons.1 he with rfl|he
    ·exact⟨h.sat a (by simp),h.sat b (by simp),fun k hk=>hd.1 b (by simp) k hk⟩
    ·exact h.sat e (by simp[he])
   ·rcases List.mem_cons.1 he with rfl|he
    ·rcases hk with hk|hk
     ·exact h.jq a (by simp) k hk
     ·exact h.jq b (by simp) k hk
    ·exact h.jq e (by simp[he]) k hk
   ·rcases hk with hk|hk
    ·exact hd.1 x (by simp[hx]) k hk
    ·exact uO.1 x hx k hk
theorem Mem.yK{w0 w:World}: ∀(es:List ak) {L:List ak},Mem w0 (.all es::L) w↔Mem w0 (es++L) w
  |[],_=>Mem.yJ
  |e::r,L=>by
   show Mem w0 (.two e (.all r)::L) w↔_
   rw[Mem.wB]
   have sw: ∀(a b:ak) (K:List ak),Mem w0 (a::b::K) w↔Mem w0 (b::a::K) w:=fun a b K=>⟨fun h=>h.perm (List.Perm.swap _ _ _),fun h=>h.perm (List.Perm.swap _ _ _)⟩
   rw[sw,Mem.yK r]
   exact⟨fun h=>h.perm (List.perm_middle),fun h=>h.perm (List.perm_middle).symm⟩
class Deep(τ:Type) where
  c:Nat
  cells:τ→Array Value
  size: ∀x,(cells x).size=c
  one: ∀x,(cells x).all (·.oneCell')=true
  aZ:(Nat→Option Obj)→τ→Prop
  bT:τ→ak
  fM: ∀h x,(bT x).sat h→aZ h x
  mono: ∀(w w':World) x,aZ (hp w) x→Below w.heap.size w w'→aZ (hp w') x
instance Deep.enc{τ:Type}[Deep τ]:bp (Deep.cells (τ:=τ)) (Deep.c τ):=⟨Deep.size,Deep.one⟩
@[reducible] def Deep.flat {τ:Type}(enc:τ→Array Value)(c:Nat)[he:bp enc c]:Deep τ:=⟨c,enc,he.size,he.one,fun _ _=>True,fun _=> .emp,fun _ _ _=>trivial,fun _ _ _ _ _=>trivial⟩
structure Sl(τ:Type) where
  sv:Sv
  xs:List τ
theorem ak.yL{h:Nat→Option Obj}: ∀{es:List ak},(ak.all es).sat h→ ∀e∈es,e.sat h
  |[],_,_,he=>by cases he
  |_::_,hs,e,he=>by
   rcases List.mem_cons.1 he with rfl|he
   ·exact hs.1
   ·exact ak.yL hs.2.1 e he
instance Deep.slice{τ:Type}[d:Deep τ]:Deep (Sl τ) where
  c:=1
  cells a:=qS a.sv
  size _:=rfl
  one a:=bp.one (enc:=qS) (c:=1) a.sv
  aZ h a:=bW (Deep.cells (τ:=τ)) (Deep.c τ) h a.sv a.xs∧ ∀x∈a.xs,d.aZ h x
  bT a:= .two (own (Deep.cells (τ:=τ)) (Deep.c τ) a.sv a.xs) (.all (a.xs.map d.bT))
  fM h _ hs:=⟨hs.1.1,fun x hx=>d.fM h x (ak.yL hs.2.1 _ (List.mem_map_of_mem hx))⟩
  mono w w' _ hg hb:=⟨hg.1.mono hb,fun x hx=>d.mono w w' x (hg.2 x hx) hb⟩
theorem Mem.th{τ:Type}[d:Deep τ]{w0 w:World}{L:List ak}{a:Sl τ}:Mem w0 (Deep.bT a::L) w↔Mem w0 (own (Deep.cells (τ:=τ)) (Deep.c τ) a.sv a.xs::a.xs.map d.bT++L) w:=by
  show Mem w0 (.two _ (.all _)::L) w↔_
  rw[Mem.wB]
  have sw: ∀(a b:ak) (K:List ak),Mem w0 (a::b::K) w↔Mem w0 (b::a::K) w:=fun a b K=>⟨fun h=>h.perm (List.Perm.swap _ _ _),fun h=>h.perm (List.Perm.swap _ _ _)⟩
  rw[sw,Mem.yK]
  exact⟨fun h=>h.perm (List.perm_middle),fun h=>h.perm (List.perm_middle).symm⟩
section
variable {w0:World} {L:List ak} {τ:Type}
class Hd(w0:World)(L:List ak)(s:Sv){α:outParam Type}(enc:outParam (α→Array Value))(c:outParam Nat)(xs:outParam (List α)):Prop where
  h:o8 w0 L enc c s xs
class Gv(w0:World)(s:Sv){α:outParam Type}(enc:outParam (α→Array Value))(c:outParam Nat)(xs:outParam (List α)):Prop where
  h:bW enc c (hp w0) s xs
instance (priority:=high) Hd.owned {s:Sv}{α:Type}{enc:α→Array Value}{c:Nat}{xs:List α}{i:Nat}[q:fL L s enc c xs i]:Hd w0 L s enc c xs:=⟨q.holds⟩
instance Hd.given{s:Sv}{α:Type}{enc:α→Array Value}{c:Nat}{xs:List α}[q:Gv w0 s enc c xs][bp enc c]:Hd w0 L s enc c xs:=⟨yE q.h⟩
class Rg(lo hi n:Nat):Prop where
  h:lo≤hi∧hi≤n
instance Hd.sub{s:Sv}{α:Type}{enc:α→Array Value}{c:Nat}{xs:List α}{lo hi:Nat}[q:Hd w0 L s enc c xs][r:Rg lo hi xs.length]:Hd w0 L (s.sub c lo hi) enc c ((xs.drop lo).take (hi -lo)):=⟨q.h.sub r.h.1 r.h.2⟩
class c8(w0:World)(L:List ak){α:Type}(enc:α→Array Value)(c:Nat)(s:Sv)(xs:outParam (List α)):Prop where
  h:o8 w0 L enc c s xs
instance (priority:=high) c8.of {s:Sv}{α:Type}{enc:α→Array Value}{c:Nat}{xs:List α}[q:Hd w0 L s enc c xs]:c8 w0 L enc c s xs:=⟨q.h⟩
instance c8.none{α:Type}{enc:α→Array Value}{c:Nat}:c8 w0 L enc c Sv.none []:=⟨fun _ _=>bW.nil enc c _⟩
class aW(w0:World)(L:List ak){τ:Type}[Deep τ](a:τ):Prop where
  h: ∀w,Mem w0 L w→Deep.aZ (hp w) a
class cM(w0:World){τ:Type}[Deep τ](a:τ):Prop where
  h:Deep.aZ (hp w0) a
class Mb{τ:Type}(x:τ)(a:outParam (Sl τ)):Prop where
  h:x∈a.xs
instance aW.given[Deep τ]{a:τ}[q:cM w0 a]:aW w0 L a:=⟨fun _ hw=>Deep.mono w0 _ a q.h hw.below⟩
instance (priority:=high) aW.owned [Deep τ]{a:τ}{i:Nat}[q:At L (Deep.bT a) i]:aW w0 L a:=⟨fun _ hw=>Deep.fM _ a (hw.get q.h)⟩
instance (priority:=low) aW.elem [Deep τ]{a:Sl τ}{x:τ}[q:aW w0 L a][m:Mb x a]:aW w0 L x:=⟨fun w hw=>(q.h w hw).2 x m.h⟩
class fN(τ:Type)[Deep τ](enc:outParam (τ→Array Value))(c:outParam Nat):Prop where
  hc:Deep.c τ=c
  h: ∀x:τ,Deep.cells x=enc x
instance (priority:=low) Hd.deep [d:Deep τ]{enc:τ→Array Value}{c:Nat}[f:fN τ enc c]{a:Sl τ}[q:aW w0 L a]:Hd w0 L a.sv enc c a.xs:=⟨fun w hw=>by
  have h:=(q.h w hw).1
  have e:Deep.cells (τ:=τ)=enc:=funext f.h
  rw[←e,←f.hc];exact h⟩
end
section
variable {P:Program} {N:cE} {w0:World} {env:Env} {L:List ak} {d:Option Tmp} {ty:TypeId} {ps:String} {af:Array Edge} {gd:Option (Nat×Bool)}
variable {α:Type} {enc:α→Array Value} {c:Nat} {s:Sv} {xs:List α}
theorem lb{t e:TypeId}{x:Operand}{m:Nat}[ht:fe P t e m](hx:ev env x=some s.val)[q:Hd w0 L s enc c xs]:
    Ry P N w0 env L ⟨d, .call {callee:= .builtin .len,args:= #[x],argTypes:= #[t]},ty,ps,af,gd⟩ (.int .i64 (xs.length:Nat)):=fun a w ha hw=>
  s8 (P:=P) (N:=N) (w0:=w0) (L:=L) (d:=d) (ty:=ty) (ps:=ps) (af:=af) (gd:=gd) hx (q.h w hw).ok (q.h w hw).len a w ha hw
theorem bo{t e:TypeId}{x ix:Operand}{m:Nat}{k:IntKind}{j:Int}[ht:fe P t e m](hx:ev env x=some s.val)(hj:ev env ix=some (.int k j))[q:Hd w0 L s enc c xs](i:Nat)(ej:j=(i:Int))(h1:i<xs.length):
    Ry P N w0 env L ⟨d, .indexAddr t x ix,ty,ps,af,gd⟩ (.pointer (some ⟨s.b,s.o+i*m,none⟩)):=fun a w ha hw=>
  lF (P:=P) (N:=N) (w0:=w0) (L:=L) (d:=d) (ty:=ty) (ps:=ps) (af:=af) (gd:=gd) hx hj ej (q.h w hw).ok (by rw[(q.h w hw).len];exact h1) a w ha hw
theorem jb{t:TypeId}{x:Operand}{p:Nat}{a:α}[ht:fY P t c][he:bp enc c][q:Hd w0 L s enc c xs](hx:ev env x=some (.pointer (some ⟨s.b,p,none⟩)))(i:Nat)(hi:xs[i]? =some a)(gW:p=s.o+i*c):
    Ry P N w0 env L ⟨d, .load t x,ty,ps,af,gd⟩ (.agg (enc a)):=AW hx q.h hi gW
theorem bO{t:TypeId}{x:Operand}{p j:Nat}{a:α}{v:Value}[ht:gV P t][q:Hd w0 L s enc c xs](hx:ev env x=some (.pointer (some ⟨s.b,p,none⟩)))(i:Nat)(hi:xs[i]? =some a)(gW:p=s.o+i*c+j)(hj:j<c)[hv:cm (enc a) j v]:
    Ry P N w0 env L ⟨d, .load t x,ty,ps,af,gd⟩ v:=Qz hx q.h hi gW hj hv.h
theorem I8{t:TypeId}{x:Operand}{p j n:Nat}{a:α}{sub:Array Value}[ht:fY P t n][q:Hd w0 L s enc c xs](hx:ev env x=some (.pointer (some ⟨s.b,p,none⟩)))(i:Nat)(hi:xs[i]? =some a)(gW:p=s.o+i*c+j)(hj:j+n≤c)[hs:n0 (enc a) j n sub]:
    Ry P N w0 env L ⟨d, .load t x,ty,ps,af,gd⟩ (.agg sub):=IX hx q.h hi gW hj
theorem A1{t e:TypeId}{x lo hi:Operand}{k k':IntKind}{il ih:Int}[ht:fe P t e c](hx:ev env x=some s.val)(hl:ev env lo=some (.int k il))(hh:ev env hi=some (.int k' ih))[q:Hd w0 L s enc c xs](l h:Nat)(el:il=(l:Int))(eh:ih=(h:Int))(h1:l≤h)(h2:h≤xs.length):
    Ry P N w0 env L ⟨d, .slice t x (some lo) (some hi) none,ty,ps,af,gd⟩ (s.sub c l h).val:=fun a w ha hw=>
  AX (P:=P) (N:=N) (w0:=w0) (L:=L) (d:=d) (ty:=ty) (ps:=ps) (af:=af) (gd:=gd) hx hl hh el eh (q.h w hw).ok h1 (by have:=(q.h w hw).len;have:=(q.h w hw).ok.le;omega) a w ha hw
theorem I9{t e:TypeId}{x hi:Operand}{k':IntKind}{ih:Int}[ht:fe P t e c](hx:ev env x=some s.val)(hh:ev env hi=some (.int k' ih))[q:Hd w0 L s enc c xs](h:Nat)(eh:ih=(h:Int))(h2:h≤xs.length):
    Ry P N w0 env L ⟨d, .slice t x none (some hi) none,ty,ps,af,gd⟩ (s.sub c 0 h).val:=fun a w ha hw=>
  s9 (P:=P) (N:=N) (w0:=w0) (L:=L) (d:=d) (ty:=ty) (ps:=ps) (af:=af) (gd:=gd) hx hh eh (q.h w hw).ok (by have:=(q.h w hw).len;have:=(q.h w hw).ok.le;omega) a w ha hw
theorem A2{t e:TypeId}{x lo:Operand}{k:IntKind}{il:Int}[ht:fe P t e c](hx:ev env x=some s.val)(hl:ev env lo=some (.int k il))[q:Hd w0 L s enc c xs](l:Nat)(el:il=(l:Int))(h1:l≤xs.length):
    Ry P N w0 env L ⟨d, .slice t x (some lo) none none,ty,ps,af,gd⟩ (s.sub c l xs.length).val:=fun a w ha hw=>
  qQ (P:=P) (N:=N) (w0:=w0) (L:=L) (d:=d) (ty:=ty) (ps:=ps) (af:=af) (gd:=gd) hx hl el (q.h w hw).ok (q.h w hw).len h1 a w ha hw
theorem Ja{t e tb:TypeId}{x:Operand}{xs:List UInt8}(hs:P.underlying tb=some (.slice e))(he:P.underlying e=some (.int .u8))(hd:P.underlying t=some .string)(hx:ev env x=some s.val)[q:Hd w0 L s aM 1 xs]:
    Ry P N w0 env L ⟨d, .convert tb t x,ty,ps,af,gd⟩ (.string ⟨xs.toArray⟩):=QL hs he hd hx q.h
theorem uP{s t:TypeId}{x:Operand}{k:IntKind}{b:UInt8}[hs:lV P s .u8][ht:lV P t k](hx:ev env x=some (.int .u8 b.toNat))(hk:8≤nb k:=by decide):
    Ry P N w0 env L ⟨d, .convert s t x,ty,ps,af,gd⟩ (.int k b.toNat):=pT hx (Nat.lt_of_lt_of_le b.toNat_lt (Nat.pow_le_pow_right (by decide) hk))
end
section
variable {P:Program} {N:cE} {w0:World} {env:Env} {L:List ak} {l:List Oper} {Q:Exit→Act→World→Prop} {rest:List Oper} {d:Option Tmp} {ty:TypeId} {ps:String} {af:Array Edge} {gd:Option (Nat×Bool)}
class cR(P:Program)(f:FuncId)(w0:World)(L:List ak)(vs:List Value)(v:outParam Value)(pre:outParam Prop):Prop where
  h:pre→ ∀w,Mem w0 L w→Calls P f vs.toArray w fun e w'=>e= .returned v∧Mem w [] w'
class cw(P:Program)(f:FuncId)(w0:World)(L:List ak)(vs:List Value)(X:outParam Type)(val:outParam (X→Value))(L':outParam (X→List ak))(pr:outParam (X→Prop))(pre:outParam Prop):Prop where
  h:pre→ ∀w,Mem w0 L w→Calls P f vs.toArray w fun e w'=> ∃x,e= .returned (val x)∧pr x∧Mem w0 (L' x) w'
instance (priority:=high) cR.pure {f:FuncId}{vs:List Value}{v:Value}[h:oV P f vs v]:cR P f w0 L vs v True:=⟨fun _ w _=>h.h w⟩
theorem cJ{f:FuncId}{xs:List Operand}{ts:Array TypeId}{vs:List Value}{v:Value}{pre:Prop}[hf:aR P f](hx:hU env xs=some vs)[hc:cR P f w0 L vs v pre](hp:pre):
    Yl P N w0 env L ⟨d, .call {callee:= .value (.func f),args:=xs.toArray,argTypes:=ts},ty,ps,af,gd⟩ v:=AQ hx fun w hw=>hc.h hp w hw
theorem bu{X:Type}{val:X→Value}{L':X→List ak}{pr:X→Prop}{pre:Prop}{f:FuncId}{xs:List Operand}{ts:Array TypeId}{vs:List Value}[hf:aR P f](hx:hU env xs=some vs)
    [hc:cw P f w0 L vs X val L' pr pre] (hp:pre) (hk: ∀x,pr x→Sq P N w0 l Q rest (cy env d (val x)) (L' x)) (hd:dn N d=true:=by rfl):
    Sq P N w0 l Q (⟨d, .call {callee:= .value (.func f),args:=xs.toArray,argTypes:=ts},ty,ps,af,none⟩::rest) env L:=QF hx (fun w hw=>hc.h hp w hw) hk hd
theorem QN{Lq:List ak}{n j:Nat}{js:List Nat}{X:Type}{val:X→Value}{L':X→List ak}{pr:X→Prop}{pre:Prop}{f:FuncId}{xs:List Operand}{ts:Array TypeId}{vs:List Value}(hj:l[j]? =some ⟨d, .call {callee:= .value (.func f),args:=xs.toArray,argTypes:=ts},ty,ps,af,none⟩)[hf:aR P f](hx:hU env xs=some vs)
    [hc:cw P f w0 L vs X val L' pr pre] (hp:pre) (hL: ∀x w,Mem w0 (L' x) w→Mem w0 Lq w) (hk: ∀x,pr x→Fr P N w0 Lq l n Q js (cy env d (val x)) (L' x)) (hd:dn N d=true:=by rfl):
    Fr P N w0 Lq l n Q (j::js) env L:=Qo hj hx (fun w hw=>hc.h hp w hw) hL hk hd
end
class dx(L:List ak)(i:Nat)(R:outParam (List ak)):Prop where
  h:L.eraseIdx i=R
instance dx.here{e:ak}{L:List ak}:dx (e::L) 0 L:=⟨rfl⟩
instance dx.there{e:ak}{L R:List ak}{i:Nat}[q:dx L i R]:dx (e::L) (i+1) (e::R):=⟨by simp[q.h]⟩
class ai(L L':List ak):Prop where
  h: ∃R,L.Perm (L'++R)
instance (priority:=high) ai.nil {L:List ak}:ai L []:=⟨⟨L, .refl _⟩⟩
instance (priority:=high) ai.same {L:List ak}:ai L L:=⟨⟨[],by simp⟩⟩
theorem nu{e:ak}: ∀{L:List ak} {i:Nat},L[i]? =some e→L.Perm (e::L.eraseIdx i)
  |[],i,h=>by simp at h
  |x::L,0,h=>by obtain rfl:x=e:=by simpa using h
                simp
  |x::L,i+1,h=>by
   have:=nu (L:=L) (i:=i) (by simpa using h)
   rw[List.eraseIdx_cons_succ]
   exact(this.cons x).trans (.swap _ _ _)
instance ai.cons{L L' R:List ak}{e:ak}{i:Nat}[a:At L e i][b:dx L i R][k:ai R L']:ai L (e::L'):=⟨by
  obtain⟨S,hS⟩:=k.h
  exact⟨S,(nu a.h).trans (by rw[b.h];exact hS.cons e)⟩⟩
theorem ai.mem{L L':List ak}[k:ai L L']{w0 w:World}(h:Mem w0 L w):Mem w0 L' w:=by
  obtain⟨R,hR⟩:=k.h
  exact(h.perm hR).sub (List.sublist_append_left _ _)
theorem qU{P:Program}{N:cE}{w0:World}{env:Env}{L:List ak}{Q:Exit→Act→World→Prop}{c:Code}(L':List ak)(h: ∀w,Mem w0 L w→Mem w0 L' w)(hk:Cw P N w0 Q c env L'):Cw P N w0 Q c env L:=fun a w ha hw=>hk a w ha (h w hw)
theorem QO{P:Program}{N:cE}{w0:World}{env:Env}{L:List ak}{Q:Exit→Act→World→Prop}{c:Code}(s:Sv){α:Type}{enc:α→Array Value}{n:Nat}{xs:List α}[q:Hd w0 L s enc n xs](hk:xs.length≤140737488355328→Cw P N w0 Q c env L):Cw P N w0 Q c env L:=
  fun a w ha hw=>hk (q.h w hw).bd a w ha hw
theorem n9{α:Type}{xs:List α}{i:Nat}{d:α}(h:i<xs.length):xs[i]? =some (xs.getD i d):=by
  simp[List.getD,h]
section
variable {P:Program} {N:cE} {w0:World} {env:Env} {L:List ak} {l:List Oper} {Q:Exit→Act→World→Prop} {rest:List Oper} {d:Option Tmp} {ty:TypeId} {ps:String} {af:Array Edge} {gd:Option (Nat×Bool)}
variable {α:Type} {enc:α→Array Value} {c:Nat} {s:Sv} {xs:List α}
theorem QP{x y:Operand}{t u:TypeId}{a b:List UInt8}(hx:ev env x=some (.string ⟨a.toArray⟩))(hy:ev env y=some (.string ⟨b.toArray⟩)):
    Ry P N w0 env L ⟨d, .binOp .eql t x y u,ty,ps,af,gd⟩ (.bool (decide (a=b))):=by
  have e:((⟨a.toArray⟩:ByteArray).toList==(⟨b.toArray⟩:ByteArray).toList)=decide (a=b):=by
    rw[ByteArray.toList_mk,ByteArray.toList_mk,Bool.eq_iff_iff];simp
  rw[←e];exact QM hx hy
theorem rS{t e:TypeId}{x:Operand}{u:TypeId}(ht:P.underlying t=some (.slice e))(hx:ev env x=some s.val):
    Ry P N w0 env L ⟨d, .binOp .eql t x (.const (.slice none 0 0)) u,ty,ps,af,gd⟩ (.bool s.nil):=fun a w ha _=>by
  have h1:(eqGuard BinOp.eql t x (.const (.slice none 0 0)) s.val (.slice none 0 0)).run P w= .ok () w:=by
    unfold Sv.val;split<;>rfl
  have h3:(Op.equal t s.val (.slice none 0 0)).run P w= .ok s.nil w:=by
    unfold Sv.val
    split<;>rename_i hn<;>rw[run_equal_slice_nil w t e _ _ _ ht,hn]<;>rfl
  have h2:(binOp .eql t s.val (.slice none 0 0)).run P w= .ok (.bool s.nil) w:=by
    have:binOp .eql t s.val (.slice none 0 0)=(do pure (.bool (←Op.equal t s.val (.slice none 0 0)))):=by unfold Sv.val;split<;>rfl
    rw[this,Sem.run_bind,h3];rfl
  simp only[execOp,ha.ev hx,show a.eval (.const (.slice none 0 0))= .slice none 0 0 from rfl,Sem.run_bind,h1,Result.andThen_ok,h2,Sem.run_pure]
theorem QQ{t e:TypeId}{cI:Nat}(ht:ft P t e c cI)(w:World):(Instr.buildSlice t 0 #[]).run P w= .ok (.slice (some ⟨w.heap.size,0,none⟩) 0 0) (w.alloc (.cells #[] e)):=by
  obtain⟨i',z,bl,aH,bB,c6,lY⟩:=ht.info
  have:(Array.range 0:Array Nat)= #[]:=by simp
  simp[Instr.buildSlice,run_underlying ht.eE,sizeOf,typeInfo,bl,Instr.fill,newRow,newObj,Sem.run,Result.andThen,this]
theorem ti{t e:TypeId}{cI:Nat}(enc:α→Array Value)[ht:ft P t e c cI][he:bp enc c](hk: ∀b,Sq P N w0 l Q rest (cy env d (Sv.val ⟨false,b,0,0,0,none⟩)) (own enc c ⟨false,b,0,0,0,none⟩ []::L))(hd:dn N d=true:=by rfl):
    Sq P N w0 l Q (⟨d, .buildSlice t 0 #[],ty,ps,af,none⟩::rest) env L:=
  mA rfl hd fun a w _ hw=>by
    refine⟨_,_,_,?_,hw.call (wy (enc:=enc) (c:=c) (xs:=[]) (cs:= #[]) (e:=e) rfl 0 0 rfl (Nat.le_refl _) (Nat.zero_le _) (by simp) (by simp)),hk _⟩
    simp only[execOp,Sem.run_bind,List.map_toArray,List.map_nil,QQ ht w,Result.andThen,Sem.run_pure];rfl
end
instance:Deep UInt8:=Deep.flat aM 1
instance:fN UInt8 aM 1:=⟨rfl,fun _=>rfl⟩
def cd{τ:Type}(a:Sl τ):Array Value:= #[a.sv.val]
instance {τ:Type}:bp (cd (τ:=τ)) 1:=⟨fun _=>rfl,fun a=>bp.one (enc:=qS) (c:=1) a.sv⟩
instance {τ:Type}[Deep τ]:fN (Sl τ) cd 1:=⟨rfl,fun _=>rfl⟩
instance {τ:Type}(a:Sl τ):cm (cd a) 0 a.sv.val:=⟨rfl⟩
def lx{τ:Type}(a:Sl (Sl τ)):List (List τ):=a.xs.map (·.xs)
theorem uQ{τ:Type}(a:Sl (Sl τ)):(lx a).length=a.xs.length:=by simp[lx]
section
variable {L L' L1 L2 R R1 R2:List ak} {τ:Type}
def Tr(L L':List ak):Prop:= ∀(K:List ak) (w0 w:World),Mem w0 (L++K) w→Mem w0 (L'++K) w
theorem Tr.mem(h:Tr L L'){w0 w:World}(hw:Mem w0 L w):Mem w0 L' w:=by
  have:=h [] w0 w (by simpa using hw);simpa using this
theorem Tr.refl:Tr L L:=fun _ _ _ h=>h
theorem Tr.trans(h:Tr L L1)(h':Tr L1 L2):Tr L L2:=fun K w0 w hw=>h' K w0 w (h K w0 w hw)
theorem Tr.perm(h:L.Perm L'):Tr L L':=fun K _ _ hw=>Mem.perm hw (h.append_right K)
theorem Tr.left(h:Tr L L')(X:List ak):Tr (X++L) (X++L'):=fun K w0 w hw=>by
  have p: ∀Y:List ak,(X++Y++K).Perm (Y++(X++K)):=fun Y=>by
    rw[List.append_assoc,←List.append_assoc Y]
    refine(List.perm_append_comm_assoc X Y K).trans ?_
    rw[List.append_assoc]
  exact(h (X++K) w0 w (hw.perm (p L))).perm (p L').symm
theorem Tr.right(h:Tr L L')(X:List ak):Tr (L++X) (L'++X):=fun K w0 w hw=>by
  rw[List.append_assoc]at hw⊢;exact h (X++K) w0 w hw
theorem Tr.cons(h:Tr L L')(x:ak):Tr (x::L) (x::L'):=h.left [x]
theorem Tr.front{e:ak}{i:Nat}(hi:L[i]? =some e):Tr L (e::L.eraseIdx i):= .perm (nu hi)
theorem Tr.emp:Tr (.emp::L) L:=fun _ _ _ hw=>Mem.yJ.1 hw
theorem Tr.QR:Tr L (.emp::L):=fun _ _ _ hw=>Mem.yJ.2 hw
theorem Tr.th[d:Deep τ]{a:Sl τ}:Tr (Deep.bT a::L) (own (Deep.cells (τ:=τ)) (Deep.c τ) a.sv a.xs::a.xs.map d.bT++L):=fun K w0 w hw=>by
  have:=Mem.th.1 hw
  simpa using this
theorem Tr.QS[d:Deep τ]{a:Sl τ}:Tr (own (Deep.cells (τ:=τ)) (Deep.c τ) a.sv a.xs::a.xs.map d.bT++L) (Deep.bT a::L):=fun K w0 w hw=>by
  refine Mem.th.2 ?_
  simpa using hw
class Plain(τ:Type)[Deep τ]:Prop where
  h: ∀x:τ,Deep.bT x= .emp
theorem Tr.plain[Deep τ][p:Plain τ]: ∀{xs:List τ},Tr (xs.map Deep.bT++L) L
  |[]=> .refl
  |x::xs=>by
   rw[List.map_cons,p.h]
   exact Tr.emp.trans Tr.plain
theorem Tr.Jb[Deep τ][p:Plain τ]: ∀{xs:List τ},Tr L (xs.map Deep.bT++L)
  |[]=> .refl
  |x::xs=>by
   rw[List.map_cons,p.h]
   exact(Tr.Jb (xs:=xs)).trans Tr.QR
theorem Jc[Deep τ]{enc:τ→Array Value}{c:Nat}[f:fN τ enc c](s:Sv)(xs:List τ):own (Deep.cells (τ:=τ)) (Deep.c τ) s xs=own enc c s xs:=by
  have e:Deep.cells (τ:=τ)=enc:=funext f.h
  rw[e,f.hc]
theorem Tr.Ep[d:Deep τ]{enc:τ→Array Value}{c:Nat}[f:fN τ enc c]{a:Sl τ}:Tr (Deep.bT a::L) (own enc c a.sv a.xs::(a.xs.map d.bT++L)):=by
  rw[←Jc];exact Tr.th
theorem Tr.yM[d:Deep τ]{enc:τ→Array Value}{c:Nat}[f:fN τ enc c]{a:Sl τ}:Tr (own enc c a.sv a.xs::(a.xs.map d.bT++L)) (Deep.bT a::L):=by
  rw[←Jc];exact Tr.QS
theorem Tr.QT[d:Deep τ]{enc:τ→Array Value}{c:Nat}[f:fN τ enc c][Plain τ]{a:Sl τ}:Tr (Deep.bT a::L) (own enc c a.sv a.xs::L):=Tr.Ep.trans (Tr.plain.cons _)
theorem Tr.Er[d:Deep τ]{enc:τ→Array Value}{c:Nat}[f:fN τ enc c][Plain τ]{a:Sl τ}:Tr (own enc c a.sv a.xs::L) (Deep.bT a::L):=(Tr.Jb.cons _).trans Tr.yM
theorem Jd{α β:Type}(f:α→β){xs:List α}{i:Nat}{x:α}(hx:xs[i]? =some x):(xs.map f).Perm (f x::(xs.eraseIdx i).map f):=by
  have h1:=(Je hx).map f
  exact h1
where Je {α:Type}: ∀{L:List α} {i:Nat} {e:α},L[i]? =some e→L.Perm (e::L.eraseIdx i)
  |[],i,e,h=>by simp at h
  |x::L,0,e,h=>by obtain rfl:x=e:=by simpa using h
                  simp
  |x::L,i+1,e,h=>by
   have:=Je (L:=L) (i:=i) (e:=e) (by simpa using h)
   rw[List.eraseIdx_cons_succ]
   exact(this.cons x).trans (.swap _ _ _)
theorem Tr.pick[d:Deep τ]{enc:τ→Array Value}{c:Nat}[f:fN τ enc c]{a:Sl τ}{i:Nat}{x:τ}(hx:a.xs[i]? =some x):
    Tr (Deep.bT a::L) (own enc c a.sv a.xs::Deep.bT x::((a.xs.eraseIdx i).map d.bT++L)):=
  Tr.Ep.trans (Tr.cons (Tr.right (Tr.perm (Jd d.bT hx)) L) _)
theorem Jf{α:Type}: ∀(xs:List α) (i:Nat) (y:α),(xs.set i y).eraseIdx i=xs.eraseIdx i
  |[],_,_=>by simp
  |_::_,0,_=>by simp
  |_::xs,i+1,y=>by simp[Jf xs i y]
theorem Tr.lay[d:Deep τ]{enc:τ→Array Value}{c:Nat}[f:fN τ enc c]{s:Sv}{xs:List τ}{i:Nat}{y:τ}(hi:i<xs.length):
    Tr (own enc c s (xs.set i y)::Deep.bT y::((xs.eraseIdx i).map d.bT++L)) (Deep.bT (⟨s,xs.set i y⟩:Sl τ)::L):=by
  have hy:(xs.set i y)[i]? =some y:=by simp[hi]
  have:=(Jd d.bT hy).symm
  rw[Jf]at this
  exact(Tr.cons (Tr.right (Tr.perm this) L) _).trans (Tr.yM (a:=⟨s,xs.set i y⟩))
class Take(L:List ak){τ:Type}[Deep τ](x:τ)(R:outParam (List ak)):Prop where
  h:Tr L (Deep.bT x::R)
class wC(L:List ak){τ:Type}[Deep τ](xs:List τ)(R:outParam (List ak)):Prop where
  h:Tr L (xs.map Deep.bT++R)
instance (priority:=high) Take.at [Deep τ]{x:τ}{i:Nat}[a:At L (Deep.bT x) i][d:dx L i R]:Take L x R:=⟨by
  have:=Tr.front a.h;rwa [d.h]at this⟩
instance Take.own[Deep τ][p:Plain τ]{enc:τ→Array Value}{c:Nat}[f:fN τ enc c]{s:Sv}{xs:List τ}{i:Nat}[a:At L (own enc c s xs) i][d:dx L i R]:Take L (⟨s,xs⟩:Sl τ) R:=⟨by
  have:=Tr.front a.h;rw[d.h]at this
  exact this.trans (Tr.Er (a:=⟨s,xs⟩))⟩
instance wC.nil[Deep τ]:wC L ([]:List τ) L:=⟨.refl⟩
instance wC.cons[Deep τ]{x:τ}{xs:List τ}[a:Take L x R1][b:wC R1 xs R2]:wC L (x::xs) R2:=⟨a.h.trans (b.h.cons _)⟩
instance:Plain UInt8:=⟨fun _=>rfl⟩
end
section
variable {P:Program} {N:cE} {w0:World} {env:Env} {L R R1 R2:List ak} {l:List Oper} {Q:Exit→Act→World→Prop} {rest:List Oper} {d:Option Tmp} {ty:TypeId} {ps:String} {af:Array Edge}
variable {τ:Type} [dp:Deep τ] {enc:τ→Array Value} {c:Nat}
theorem QU{α:Type}{enc:α→Array Value}{c:Nat}{s:Sv}{xs ys:List α}{t tx e:TypeId}{x y:Operand}{yv:Value}{cI:Nat}[ht:ft P t e c cI][he:bp enc c](R:List ak)(hx:ev env x=some s.val)(hy:ev env y=some yv)
    (ho: ∀w,Mem w0 L w→Mem w0 (own enc c s xs::R) w) (hc:0<c) (hs: ∀w,Mem w0 L w→Src P c tx yv ys.length (aJ enc ys) w) (hb:(xs.length+ys.length)*cI≤140737488355328) (ja:xs.length+ys.length≤140737488355328)
    (hk: ∀s':Sv,Sq P N w0 l Q rest (cy env d s'.val) (own enc c s' (xs++ys)::R)) (hd:dn N d=true:=by rfl):
    Sq P N w0 l Q (⟨d, .call {callee:= .builtin .append,args:= #[x,y],argTypes:= #[t,tx]},ty,ps,af,none⟩::rest) env L:=
  mA rfl hd fun a w ha hw=>by
    obtain⟨s',w',h1,h2,h3,h4⟩:=Ei (i:=0) (ty:=ty) ht hc (ho w hw) rfl (hs w hw) hb ja
    refine⟨s'.val,w',_,?_,by simpa using h4,hk s'⟩
    simp[execOp,ha.ev hx,ha.ev hy,resolve,invoke,builtin,h1,Result.andThen]
theorem QV{s:Sv}{t tx e e':TypeId}{x y:Operand}{cI m:Nat}[f:fN τ enc c][ht:ft P t e c cI][QW:fe P tx e' m][he:bp enc c](a:Sl τ)(ys:List τ)(hx:ev env x=some a.sv.val)(hy:ev env y=some s.val)[q:Hd w0 L s enc c ys]
    [k1:Take L a R1] [k2:wC R1 ys R2] (hc:0<c) (hb:(a.xs.length+ys.length)*cI≤140737488355328) (ja:a.xs.length+ys.length≤140737488355328)
    (hk: ∀a':Sl τ,a'.xs=a.xs++ys→Sq P N w0 l Q rest (cy env d a'.sv.val) (Deep.bT a'::R2)) (hd:dn N d=true:=by rfl):
    Sq P N w0 l Q (⟨d, .call {callee:= .builtin .append,args:= #[x,y],argTypes:= #[t,tx]},ty,ps,af,none⟩::rest) env L:=
  QU (enc:=enc) (c:=c) (xs:=a.xs) (ys:=ys) (a.xs.map dp.bT++(ys.map dp.bT++R2)) hx hy (fun w hw=>((k1.h.trans (k2.h.cons _)).trans Tr.Ep).mem hw) hc (fun w hw=>kO QW.eE hc (q.h w hw)) hb ja
    (fun s' aa w ha hw=>hk ⟨s',a.xs++ys⟩ rfl aa w ha (by
      have t1:Tr (own enc c s' (a.xs++ys)::(a.xs.map dp.bT++(ys.map dp.bT++R2))) (Deep.bT (⟨s',a.xs++ys⟩:Sl τ)::R2):=by
        have:=Tr.yM (enc:=enc) (c:=c) (a:=(⟨s',a.xs++ys⟩:Sl τ)) (L:=R2)
        simpa using this
      exact t1.mem hw)) hd
theorem Mem.A3{w:World}[f:fN τ enc c](h:Mem w0 L w):Mem w0 (Deep.bT (⟨Sv.none,[]⟩:Sl τ)::L) w:=
  (Tr.yM (enc:=enc) (c:=c) (a:=(⟨Sv.none,[]⟩:Sl τ)) (L:=L)).mem (by simpa using h.dQ enc c)
def pY{τ:Type}(s:Sl (Sl τ))(i:Nat):Sl τ:=s.xs.getD i ⟨Sv.none,[]⟩
theorem A4{τ:Type}{s:Sl (Sl τ)}{i:Nat}{x:Sl τ}(h:s.xs[i]? =some x):pY s i=x:=by simp[pY,h]
theorem A5{τ:Type}{s:Sl (Sl τ)}{i:Nat}(h:s.xs.length≤i):pY s i=⟨Sv.none,[]⟩:=by simp[pY,h]
theorem yN{τ:Type}(s:Sl (Sl τ))(i:Nat):(pY s i).xs=(lx s).getD i []:=by
  rcases Nat.lt_or_ge i s.xs.length with h|h
  ·have:s.xs[i]? =some s.xs[i]:=by simp[h]
   simp[A4 this,lx,h]
  ·rw[A5 h];simp[lx,h]
theorem uR{h:Nat→Option Obj}:Deep.aZ h (⟨Sv.none,[]⟩:Sl τ):=⟨bW.nil _ _ _,fun _ hx=>by cases hx⟩
instance aW.pY{s:Sl (Sl τ)}{i:Nat}[q:aW w0 L s]:aW w0 L (pY s i):=⟨fun w hw=>by
  rcases Nat.lt_or_ge i s.xs.length with h|h
  ·have hx:s.xs[i]? =some s.xs[i]:=by simp[h]
   rw[A4 hx];exact(q.h w hw).2 _ (List.mem_of_getElem? hx)
  ·rw[A5 h];exact uR⟩
theorem Tr.Jg{L:List ak}[f:fN τ enc c]: ∀n,Tr L ((List.replicate n (⟨Sv.none,[]⟩:Sl τ)).map Deep.bT++L)
  |0=> .refl
  |n+1=>by
   rw[List.replicate_succ,List.map_cons]
   exact(Tr.Jg n).trans fun K w0 w hw=>Mem.A3 (enc:=enc) (c:=c) hw
theorem QX{t e:TypeId}{cI n cap:Nat}{x y:Operand}{k k':IntKind}{ix iy:Int}[f:fN τ enc c][ht:ft P t e 1 cI][hz:fo P e (.slice none 0 0)](hx:ev env x=some (.int k ix))(hy:ev env y=some (.int k' iy))(ex:ix=(n:Int))(ey:iy=(cap:Int))(hle:n≤cap)(hb:cI*cap≤281474976710656)(ja:cap≤140737488355328)
    (hk: ∀a:Sl (Sl τ),a.xs=List.replicate n ⟨Sv.none,[]⟩→Sq P N w0 l Q rest (cy env d a.sv.val) (Deep.bT a::L)) (hd:dn N d=true:=by rfl):
    Sq P N w0 l Q (⟨d, .makeSlice t x y,ty,ps,af,none⟩::rest) env L:=
  te (enc:=cd (τ:=τ)) (n:=n) (cap:=cap) (⟨Sv.none,[]⟩:Sl τ) rfl hx hy ex ey hle hb ja (fun b a w ha hw=>hk ⟨⟨false,b,0,n,cap,none⟩,List.replicate n ⟨Sv.none,[]⟩⟩ rfl a w ha
    (((Tr.Jg (enc:=enc) (c:=c) n).cons _|>.trans (Tr.yM (enc:=cd) (c:=1) (a:=(⟨⟨false,b,0,n,cap,none⟩,List.replicate n ⟨Sv.none,[]⟩⟩:Sl (Sl τ))))).mem hw)) hd
end
section
variable {P:Program} {N:cE} {w0:World} {env:Env} {L:List ak} {l:List Oper} {Q:Exit→Act→World→Prop} {rest:List Oper} {d:Option Tmp} {ty:TypeId} {ps:String} {af:Array Edge}
end
theorem Sv.jc(s:Sv):s.val.cells= #[s.val]:=by unfold Sv.val;split<;>rfl
theorem Tr.QY{τ:Type}[Deep τ][Plain τ]{enc:τ→Array Value}{c:Nat}[fN τ enc c]{a:Sl (Sl τ)}{x:Sl τ}{i:Nat}{B:List ak}(hx:a.xs[i]? =some x):
    Tr (B++[Deep.bT a]) (own cd 1 a.sv a.xs::own enc c x.sv x.xs::(B++(a.xs.eraseIdx i).map Deep.bT)):=by
  refine(Tr.perm (List.perm_append_comm (l₁:=B) (l₂:=[Deep.bT a]))).trans ?_
  refine(Tr.pick (L:=B) hx).trans (Tr.cons (Tr.QT.trans (Tr.cons (Tr.perm List.perm_append_comm) _)) _)
theorem Tr.QZ{τ:Type}[Deep τ][Plain τ]{enc:τ→Array Value}{c:Nat}[fN τ enc c]{s y:Sv}{xs:List (Sl τ)}{ys:List τ}{i:Nat}{B:List ak}(hi:i<xs.length):
    Tr (own cd 1 s (xs.set i ⟨y,ys⟩)::own enc c y ys::(B++(xs.eraseIdx i).map Deep.bT)) (Deep.bT (⟨s,xs.set i ⟨y,ys⟩⟩:Sl (Sl τ))::B):=by
  refine Tr.trans ?_ (Tr.lay (L:=B) hi)
  exact Tr.cons ((Tr.Er (a:=(⟨y,ys⟩:Sl τ))).trans (Tr.cons (Tr.perm List.perm_append_comm) _)) _
theorem A6{P:Program}{N:cE}{w0:World}{env:Env}{L:List ak}{l:List Oper}{Q:Exit→Act→World→Prop}{rest:List Oper}{ty:TypeId}{ps:String}{af:Array Edge}{τ:Type}{t:TypeId}{x y:Operand}{i k p:Nat}{s:Sv}{xs:List (Sl τ)}{a:Sl τ}(a':Sl τ)
    (sz:(P.info? t).map (·.size)=some 1) (hx:ev env x=some (.pointer (some ⟨s.b,p,none⟩))) (hy:ev env y=some a'.sv.val) [q:fL L s (cd (τ:=τ)) 1 xs i] (gW:p=s.o+k*1) (ha:xs[k]? =some a) {L':List ak} [hu:fE L i (own cd 1 s (xs.set k a')) L'] (hk:Sq P N w0 l Q rest env L'):
    Sq P N w0 l Q (⟨none, .store t x y,ty,ps,af,none⟩::rest) env L:=
  kP (j:=0) (a':=a') sz hx hy (q:=q) gW ha (by rw[Sv.jc];simp[Sv.one]) (by rw[Sv.jc];rfl) (by decide) (by rw[Sv.jc];rfl) hk
section
variable {P:Program} {N:cE} {w0:World} {env:Env} {L:List ak} {l:List Oper} {Q:Exit→Act→World→Prop} {rest:List Oper} {d:Option Tmp} {ty:TypeId} {ps:String} {af:Array Edge} {gd:Option (Nat×Bool)}
variable {fs:List Nat} {F:Act→Prop} {k:Nat}
theorem kQ{o:Oper}{v:Value}{j t:Nat}{b g:Bool}(hg:o.guard=some (j,b))(hj:(l[j]?).bind (·.dst)=some t)(hv:look env t=some (.bool g))(ht:g=b)(h:Yl P N w0 env L o v)
    (hk:Sq P N w0 l Q rest (cy env o.dst v) L) (hd:dn N o.dst=true:=by rfl):Sq P N w0 l Q (o::rest) env L:=fun a w ha hw=>by
  unfold wpList
  rw[uG ha hg hj hv,ht,beq_self_eq_true,if_pos rfl]
  exact .inl (wj ha hw h fun w' gK=>hk _ _ (ha.put hd v) gK)
end
theorem tj{P:Program}{N:cE}{w0:World}{env:Env}{L:List ak}{d:Option Tmp}{ty:TypeId}{ps:String}{af:Array Edge}{gd:Option (Nat×Bool)}{c x y:Operand}{g:Bool}{v:Value}(hc:ev env c=some (.bool g))(ht:g=true)(hx:ev env x=some v)(hy:ev env y=some (.bool false)):
    Ry P N w0 env L ⟨d, .pick c x y,ty,ps,af,gd⟩ v:=by
  subst ht
  have h:=D3 (P:=P) (N:=N) (w0:=w0) (L:=L) (d:=d) (ty:=ty) (ps:=ps) (af:=af) (gd:=gd) hc hx hy
  simpa using h
end Go.ay
namespace Go.Kb
abbrev Key:=BitVec 128
def cK(k:Key)(i:Nat):Nat:=k.toNat/2^(8*(15 -i))%2^8
theorem ob(k:Key)(i:Nat):cK k i<256:=Nat.mod_lt _ (by decide)
theorem Q0(k:Key)(i j:Nat)(hj:j<8):(cK k i).testBit j=k.toNat.testBit (8*(15 -i)+j):=by
 unfold cK
 rw[Nat.testBit_mod_two_pow,Nat.testBit_div_two_pow]
 simp[hj,Nat.add_comm]
theorem Q1(k:Key)(n:Nat)(h:n<128):k.getMsbD n=k.toNat.testBit (127 -n):=by
 simp only[BitVec.getMsbD,BitVec.getLsbD,h,decide_true,Bool.true_and]
theorem A7(k:Key)(n:Nat)(h:n<128):k.getMsbD n=(cK k (n/8)).testBit (7 -n%8):=by
 rw[Q1 k n h,Q0 k (n/8) (7 -n%8) (by omega)]
 congr 1;omega
theorem Jh(k:Key)(n:Nat)(h:128≤n):k.getMsbD n=false:=by
 simp only[BitVec.getMsbD];simp;omega
theorem Ji{a b:Key}(h: ∀n,n<128→a.getMsbD n=b.getMsbD n):a=b:=BitVec.eq_of_getMsbD_eq fun i hi=>h i hi
theorem Q2{x y:Nat}(hx:x<256)(hy:y<256)(h: ∀j,j<8→x.testBit j=y.testBit j):x=y:=by
 refine Nat.eq_of_testBit_eq fun j=> ?_
 rcases Nat.lt_or_ge j 8 with hj|hj
 ·
  exact h j hj
 ·
  have hp:2^8≤2^j:=Nat.pow_le_pow_right (by decide) hj
  rw[Nat.testBit_lt_two_pow (Nat.lt_of_lt_of_le hx hp),Nat.testBit_lt_two_pow (Nat.lt_of_lt_of_le hy hp)]
theorem yO{a b:Key}(h: ∀i,i<16→cK a i=cK b i):a=b:=
 Ji fun n hn=>by rw[A7 a n hn,A7 b n hn,h (n/8) (by omega)]
theorem Q3{k:Key}{i x:Nat}(hi:i<16)(hx:x<256)(h: ∀m,m<8→k.getMsbD (8*i+m)=x.testBit (7 -m)):cK k i=x:=
 Q2 (ob k i) hx fun j hj=>by
  have:=h (7 -j) (by omega)
  rw[A7 k _ (by omega),show(8*i+(7 -j))/8=i by omega,show 7 -(8*i+(7 -j))%8=j by omega,show 7 -(7 -j)=j by omega]at this
  exact this
def oc(f:Nat→Nat):Key:=BitVec.ofNat 128 ((List.range 16).foldl (fun a i=>a*2^8+f i%2^8) 0)
theorem A8(f:Nat→Nat): ∀n,(List.range n).foldl (fun a i=>a*2^8+f i%2^8) 0<2^(8*n)
 |0=>by simp
 |n+1=>by
  rw[List.range_succ,List.foldl_append]
  have:=A8 f n
  have h2:f n%2^8<2^8:=Nat.mod_lt _ (by decide)
  simp only[List.foldl_cons,List.foldl_nil]
  rw[Nat.mul_add,Nat.mul_one,Nat.pow_add]
  omega
theorem Jj(f:Nat→Nat): ∀n i,i<n→(List.range n).foldl (fun a i=>a*2^8+f i%2^8) 0/2^(8*(n -1 -i))%2^8=f i%2^8
 |0,i,h=>by omega
 |n+1,i,h=>by
  rw[List.range_succ,List.foldl_append]
  simp only[List.foldl_cons,List.foldl_nil]
  generalize hF:(List.range n).foldl (fun a i=>a*2^8+f i%2^8) 0=F
  by_cases hi:i=n
  ·
   subst hi
   rw[show i+1 -1 -i=0 by omega]
   simp
  ·
   have ih:=Jj f n i (by omega)
   rw[hF]at ih
   rw[show 8*(n+1 -1 -i)=8+8*(n -1 -i) by omega,Nat.pow_add,←Nat.div_div_eq_div_mul]
   have:(F*2^8+f n%2^8)/2^8=F:=by
    have h2:f n%2^8<2^8:=Nat.mod_lt _ (by decide)
    omega
   rw[this];exact ih
theorem yP(f:Nat→Nat)(i:Nat)(h:i<16):cK (oc f) i=f i%2^8:=by
 unfold cK oc
 have e:((List.range 16).foldl (fun a i=>a*2^8+f i%2^8) 0)%2^128=(List.range 16).foldl (fun a i=>a*2^8+f i%2^8) 0:=Nat.mod_eq_of_lt (A8 f 16)
 rw[BitVec.toNat_ofNat,e]
 exact Jj f 16 i h
def yQ(k:Key)(i x:Nat):Key:=oc fun j=>if j=i then x else cK k j
theorem Jk(k:Key)(i x j:Nat)(hj:j<16)(hx:x<256):cK (yQ k i x) j=if j=i then x else cK k j:=by
 unfold yQ
 rw[yP _ j hj]
 split
 ·
  omega
 ·
  have:=ob k j;omega
def cn(k:Key):Array Value:=((List.range 16).map fun i=>Value.int .u8 (cK k i)).toArray
theorem gP(k:Key):(cn k).size=16:=by unfold cn;simp
theorem lH(k:Key)(i:Nat)(h:i<16):(cn k)[i]? =some (.int .u8 (cK k i)):=by unfold cn;simp[h]
theorem Jl(k:Key)(i:Nat)(h:16≤i):(cn k)[i]? =none:=by unfold cn;simp;omega
theorem Jm{A:Array Value}{k:Key}(hs:A.size=16)(h: ∀i,i<16→A[i]? =some (.int .u8 (cK k i))):A=cn k:=by
 apply Array.ext_getElem?
 intro i
 rcases Nat.lt_or_ge i 16 with hi|hi
 ·
  rw[h i hi,lH k i hi]
 ·
  rw[Jl k i hi];simp;omega
theorem Q4(k:Key)(i x:Nat)(hi:i<16)(hx:x<256):(cn k).setIfInBounds i (.int .u8 x)=cn (yQ k i x):=by
 refine Jm (by simp[gP]) fun j hj=> ?_
 rw[Array.getElem?_setIfInBounds,Jk k i x j hj hx]
 by_cases h:i=j
 ·
  subst h;simp[gP,hi]
 ·
  rw[if_neg h,if_neg (fun e=>h e.symm),lH k j hj]
theorem Jn{a b:Key}(h:cn a=cn b):a=b:=yO fun i hi=>by
 have h1:=lH a i hi
 rw[h,lH b i hi]at h1
 simp at h1;omega
def ib(k:Key)(n:Int):Key:=if n<1 then 0#128 else(k>>>(128 -n.toNat))<<<(128 -n.toNat)
theorem Jo(k:Key)(n:Int)(i:Nat):(ib k n).getMsbD i=(decide ((i:Int)<n)&&k.getMsbD i):=by
 unfold ib
 split
 ·
  have: ¬((i:Int)<n):=by omega
  simp[this]
 ·
  rcases Nat.lt_or_ge i 128 with hi|hi
  ·
   rw[BitVec.getMsbD_shiftLeft,BitVec.getMsbD_ushiftRight]
   by_cases hn:(i:Int)<n
   ·
    have h1:i+(128 -n.toNat)<128:=by omega
    have h2:i+(128 -n.toNat) -(128 -n.toNat)=i:=by omega
    simp[hn,h1,h2]
   ·
    have h1: ¬i+(128 -n.toNat)<128:=by omega
    simp[hn,h1]
  ·
   rw[Jh _ _ hi,Jh _ _ hi];simp
theorem Q5(k:Key)(n:Int)(h:128≤n):ib k n=k:=Ji fun i hi=>by
 rw[Jo];have:(i:Int)<n:=by omega
 simp[this]
theorem Q6(k:Key)(n:Int)(h:n<1):ib k n=0#128:=by unfold ib;rw[if_pos h]
theorem Es(k:Key)(n:Nat)(i:Nat)(hi:i<16):cK (ib k n) i=if 8*i+8≤n then cK k i else if 8*i≤n then cK k i/2^(8 -(n -8*i))*2^(8 -(n -8*i))else 0:=by
 have hb:=ob k i
 have bx:(if 8*i+8≤n then cK k i else if 8*i≤n then cK k i/2^(8 -(n -8*i))*2^(8 -(n -8*i))else 0)<256:=by
  split
  ·
   exact hb
  ·
   split
   ·
    exact Nat.lt_of_le_of_lt (Nat.div_mul_le_self _ _) hb
   ·
    omega
 refine Q3 hi bx fun m hm=> ?_
 rw[Jo,A7 k _ (by omega),show(8*i+m)/8=i by omega,show 7 -(8*i+m)%8=7 -m by omega]
 split
 ·
  have:((8*i+m:Nat):Int)<(n:Int):=by omega
  simp only[this,decide_true,Bool.true_and]
 ·
  split
  ·
   generalize ht:8 -(n -8*i)=t
   rw[Nat.testBit_mul_two_pow,Nat.testBit_div_two_pow]
   by_cases bx:((8*i+m:Nat):Int)<(n:Int)
   ·
    have h1:t≤7 -m:=by omega
    simp only[bx,h1,decide_true,Bool.true_and]
    rw[show 7 -m -t+t=7 -m by omega]
   ·
    have h1: ¬t≤7 -m:=by omega
    simp only[bx,h1,decide_false,Bool.false_and]
  ·
   have: ¬((8*i+m:Nat):Int)<(n:Int):=by omega
   simp only[this,decide_false,Bool.false_and,Nat.zero_testBit]
structure cU where
 bits:Int
 len:Int
 key:Key
 deriving DecidableEq
def cZ(p:cU):Bool:=decide (p.bits=32∨p.bits=128)&&decide (0≤p.len)&&decide (p.len≤p.bits)&&decide (ib p.key p.len=p.key)
theorem A9(p:cU):cZ p=true↔(p.bits=32∨p.bits=128)∧0≤p.len∧p.len≤p.bits∧ib p.key p.len=p.key:=by
 unfold cZ;simp[and_assoc]
def Q7(p:cU)(k:Key):Bool:=cZ p&&decide (ib k p.bits=k)&&decide (ib k p.len=p.key)
def Q8(p q:cU):Bool:=cZ p&&cZ q&&decide (p.bits=q.bits)&&decide (p.len≤q.len)&&decide (ib q.key p.len=p.key)
def dR(p q:cU):Bool:=cZ p&&cZ q&&(if p.bits≠q.bits then decide (p.bits=32)else if p.key≠q.key then decide (p.key.toNat<q.key.toNat)else decide (p.len<q.len))
def c5(p:cU):Array Value:= #[.int .i64 p.bits, .int .i64 p.len]++cn p.key
theorem od(p:cU):(c5 p).size=18:=by unfold c5;rw[Array.size_append,gP];rfl
theorem uS(p:cU):(c5 p)[0]? =some (.int .i64 p.bits):=by unfold c5;rw[Array.getElem?_append];rfl
theorem uT(p:cU):(c5 p)[1]? =some (.int .i64 p.len):=by unfold c5;rw[Array.getElem?_append];rfl
theorem pZ(p:cU)(j:Nat):(c5 p)[2+j]? =(cn p.key)[j]? :=by
 unfold c5;rw[Array.getElem?_append,if_neg (by simp)];congr 1;simp
theorem Jp{a b:cU}(h:c5 a=c5 b):a=b:=by
 have h0:=uS a;rw[h,uS]at h0
 have h1:=uT a;rw[h,uT]at h1
 have h2:a.key=b.key:=Jn (Array.ext_getElem? fun i=>by rw[←pZ,←pZ,h])
 cases a;cases b
 simp at h0 h1 h2⊢
 exact⟨h0.symm,h1.symm,h2⟩
theorem Jq(k:Key):oc (cK k)=k:=yO fun i hi=>by
 rw[yP _ i hi];have:=ob k i;omega
theorem Jr{a b:Key}{i:Nat}(hi:i<16)(hs: ∀j,j<i→cK a j=cK b j)(hd:cK a i<cK b i):a.toNat<b.toNat:=by
 have key: ∀n,n≤16→i<n→(List.range n).foldl (fun x j=>x*2^8+cK a j%2^8) 0<(List.range n).foldl (fun x j=>x*2^8+cK b j%2^8) 0:=by
  intro n
  induction n with
  |zero=>intro _ h;omega
  |succ n ih=>
   intro hn gU
   rw[List.range_succ,List.foldl_append,List.foldl_append]
   simp only[List.foldl_cons,List.foldl_nil]
   have ha:=ob a n
   have hb:=ob b n
   by_cases h:i=n
   ·
    subst h
    have e:(List.range i).foldl (fun x j=>x*2^8+cK a j%2^8) 0=(List.range i).foldl (fun x j=>x*2^8+cK b j%2^8) 0:=by
     have aux: ∀(l:List Nat) (z:Nat),(∀j∈l,cK a j=cK b j)→l.foldl (fun x j=>x*2^8+cK a j%2^8) z=l.foldl (fun x j=>x*2^8+cK b j%2^8) z:=by
      intro l
      induction l with
      |nil=>intro z _;rfl
      |cons x l ih=>intro z hl;simp only[List.foldl_cons];rw[hl x (by simp)];exact ih _ fun j hj=>hl j (by simp[hj])
     exact aux _ _ fun j hj=>hs j (List.mem_range.1 hj)
    rw[e];omega
   ·
    have:=ih (by omega) (by omega);omega
 have Q9:=key 16 (Nat.le_refl _) hi
 have ea:a.toNat=(List.range 16).foldl (fun x j=>x*2^8+cK a j%2^8) 0:=by
  conv=>lhs;rw[←Jq a]
  unfold oc;rw[BitVec.toNat_ofNat];exact Nat.mod_eq_of_lt (A8 (cK a) 16)
 have eb:b.toNat=(List.range 16).foldl (fun x j=>x*2^8+cK b j%2^8) 0:=by
  conv=>lhs;rw[←Jq b]
  unfold oc;rw[BitVec.toNat_ofNat];exact Nat.mod_eq_of_lt (A8 (cK b) 16)
 rw[ea,eb];exact Q9
def pc(a b:Key):Int:=if a.toNat<b.toNat then -1 else if b.toNat<a.toNat then 1 else 0
theorem Js(a b:Key):pc a b=0↔a=b:=by
 unfold pc
 constructor
 ·
  intro h
  split at h
  ·
   omega
  ·
   split at h
   ·
    omega
   ·
    exact BitVec.eq_of_toNat_eq (by omega)
 ·
  rintro rfl;simp
theorem Ra(a b:Key):pc a b<0↔a.toNat<b.toNat:=by
 unfold pc;split
 ·
  simp[*]
 ·
  split<;>simp[*]
theorem lI{p q:cU}(hp:cZ p=true)(hq:cZ q=true):dR p q=true↔p.bits<q.bits∨(p.bits=q.bits∧(p.key.toNat<q.key.toNat∨(p.key.toNat=q.key.toNat∧p.len<q.len))):=by
 obtain⟨p1,_⟩:=(A9 p).1 hp
 obtain⟨q1,_⟩:=(A9 q).1 hq
 have ek:p.key=q.key↔p.key.toNat=q.key.toNat:=⟨fun h=>by rw[h],BitVec.eq_of_toNat_eq⟩
 unfold dR
 rw[hp,hq,Bool.true_and,Bool.true_and]
 by_cases hb:p.bits=q.bits
 ·
  rw[if_neg (by simpa using hb)]
  by_cases hk:p.key=q.key
  ·
   rw[if_neg (by simpa using hk)];rw[ek]at hk;simp;omega
  ·
   rw[if_pos hk];rw[ek]at hk;simp;omega
 ·
  rw[if_pos hb];simp;omega
theorem Rb{p q:cU}:p=q↔p.bits=q.bits∧p.key.toNat=q.key.toNat∧p.len=q.len:=by
 constructor
 ·
  rintro rfl;exact⟨rfl,rfl,rfl⟩
 ·
  rintro⟨h1,h2,h3⟩
  have:=BitVec.eq_of_toNat_eq h2
  cases p;cases q;simp_all
structure Rt where
 p:cU
 dP:UInt16
 deriving DecidableEq
def jx:Rt:=⟨⟨0,0,0#128⟩,0⟩
def ax(r:Rt):Array Value:=c5 r.p++ #[.int .u16 r.dP.toNat]
theorem kx(r:Rt):(ax r).size=19:=by unfold ax;rw[Array.size_append,od];rfl
theorem og(r:Rt)(j:Nat)(h:j<18):(ax r)[j]? =(c5 r.p)[j]? :=by
 unfold ax;rw[Array.getElem?_append_left (by rw[od];exact h)]
theorem wD(r:Rt):(ax r)[18]? =some (.int .u16 r.dP.toNat):=by
 unfold ax;rw[Array.getElem?_append_right (by rw[od];omega),od];rfl
def p0(xs:List Rt)(i:Nat):Bool:=match xs[i]?with
 |none=>true
 |some r=>cZ r.p&&match i with
  |0=>true
  |j+1=>match xs[j]?with
   |none=>true
   |some q=>dR q.p r.p
def p6(xs:List Rt)(n:Nat):Bool:=(List.range n).all (p0 xs)
def dy(xs:List Rt):Bool:=decide (xs.length≤256)&&p6 xs xs.length
theorem Jt(xs:List Rt):p6 xs 0=true:=rfl
theorem Et(xs:List Rt)(n:Nat):p6 xs (n+1)=(p6 xs n&&p0 xs n):=by
 simp[p6,List.range_succ]
theorem Ju{xs:List Rt}(h:256<xs.length):dy xs=false:=by
 simp[dy];omega
theorem Ba{xs:List Rt}{i:Nat}(hi:i<xs.length)(h:p0 xs i=false):dy xs=false:=by
 have:p6 xs xs.length=false:=by
  rw[p6,List.all_eq_false]
  exact⟨i,List.mem_range.2 hi,by simp[h]⟩
 simp[dy,this]
theorem Jv{xs:List Rt}(h:xs.length≤256)(ho:p6 xs xs.length=true):dy xs=true:=by simp[dy,h,ho]
theorem Jw{xs:List Rt}{i:Nat}{r:Rt}(hi:xs[i]? =some r)(h:cZ r.p=false):p0 xs i=false:=by simp[p0,hi,h]
theorem Eu{xs:List Rt}{r:Rt}(hi:xs[0]? =some r):p0 xs 0=cZ r.p:=by simp[p0,hi]
theorem Bb{xs:List Rt}{i:Nat}{q r:Rt}(hi:xs[i+1]? =some r)(hq:xs[i]? =some q):p0 xs (i+1)=(cZ r.p&&dR q.p r.p):=by simp[p0,hi,hq]
theorem Rc{xs:List Rt}{i:Nat}{q r:Rt}(h0:0<i)(hi:xs[i]? =some r)(hq:xs[i -1]? =some q):p0 xs i=(cZ r.p&&dR q.p r.p):=by
 obtain⟨j,rfl⟩: ∃j,i=j+1:=⟨i -1,by omega⟩
 exact Bb hi (by simpa using hq)
theorem Jx{xs:List Rt}{i:Nat}{q r:Rt}(hi:xs[i]? =some r)(hq:xs[i -1]? =some q):p0 xs i=(cZ r.p&& !(decide (0<(i:Int))&& !dR q.p r.p)):=by
 rcases Nat.eq_zero_or_pos i with h|h
 ·
  subst h;rw[Eu hi];simp
 ·
  rw[Rc h hi hq];simp[h]
theorem get_some{α:Type}{xs:List α}{i:Nat}(h:i<xs.length): ∃r,xs[i]? =some r:=⟨xs[i],by simp[h]⟩
theorem Rd{a b:Rt}(h:ax a=ax b):a=b:=by
 have hp:c5 a.p=c5 b.p:=Array.ext_getElem? fun j=>by
  rcases Nat.lt_or_ge j 18 with hj|hj
  ·
   rw[←og a j hj,←og b j hj,h]
  ·
   rw[Array.getElem?_eq_none (by rw[od];exact hj),Array.getElem?_eq_none (by rw[od];exact hj)]
 have hh:=wD a
 rw[h,wD b]at hh
 have e1:b.dP=a.dP:=by
  apply UInt16.toNat_inj.1
  simp only[Option.some.injEq,Value.int.injEq,true_and]at hh
  omega
 obtain⟨p,q⟩:=a
 obtain⟨p',q'⟩:=b
 simp only at e1 hp
 rw[Jp hp,e1]
theorem Re{α:Type}{xs ys:List α}{i:Nat}{a b:α}(ha:xs[i]? =some a)(hb:ys[i]? =some b)(h: ¬a=b): ¬xs=ys:=fun e=>by
 rw[e,hb]at ha;exact h (Option.some.inj ha).symm
theorem Rf{α:Type}{xs ys:List α}(hl:xs.length=ys.length)(h: ∀j,j<xs.length→xs[j]? =ys[j]?):xs=ys:=List.ext_getElem? fun j=>by
 rcases Nat.lt_or_ge j xs.length with hj|hj
 ·
  exact h j hj
 ·
  rw[List.getElem?_eq_none hj,List.getElem?_eq_none (by omega)]
open Go.ay
structure It where
 id:Int
 body:Sl UInt8
def nv(x:It):Array Value:= #[.int .i64 x.id,x.body.sv.val]
instance:bp nv 2:=⟨fun _=>rfl,fun x=>by
 have h1:(Value.int .i64 x.id).oneCell'=true:=rfl
 simp only[nv,List.all_toArray,List.all_cons,List.all_nil,Sv.one,h1,Bool.and_self]⟩
instance (x:It):cm (nv x) 0 (.int .i64 x.id):=⟨rfl⟩
instance (x:It):cm (nv x) 1 x.body.sv.val:=⟨rfl⟩
instance:Deep It where
 c:=2
 cells:=nv
 size:=bp.size
 one:=bp.one
 aZ h x:=Deep.aZ h x.body
 bT x:=Deep.bT x.body
 fM h x hs:=Deep.fM h x.body hs
 mono w w' x:=Deep.mono w w' x.body
instance:fN It nv 2:=⟨rfl,fun _=>rfl⟩
instance {w0:World}{L:List ak}{x:It}[q:aW w0 L x]:aW w0 L x.body:=⟨q.h⟩
instance {L R:List ak}{i:Int}{b:Sl UInt8}[k:Take L b R]:Take L (It.mk i b) R:=⟨k.h⟩
def uU(a:Sl It):List (Int×List UInt8):=a.xs.map fun x=>(x.id,x.body.xs)
end Go.Kb

/- Part of a proof. -/
import Derived.WalkKit
import Derived.Deep.Quiet
import Derived.Laws.CopyRow
import Derived.RangeFuncRecord
import Derived.RangeFuncCalls
import Derived.OrdersIn
import Derived.IntWalk
import Derived.StillTail
import Derived.Deep.MidRow
import Derived.Deep.AppendSrc
import Derived.Laws.MakeOwn
import Derived.Laws.Append
import Derived.Laws.Slices
import Derived.Laws.AppendOwn
import Derived.Laws.IdiomStrings
import Derived.Laws.Strings
import Derived.Laws.Cover3
import GoSem.Core.Value
set_option maxRecDepth 20000
set_option linter.unusedSimpArgs false
set_option linter.unusedVariables false
namespace Go.ay
open Go.RowKit
structure aj where
 fp:Nat→Prop
 sat:(Nat→Option Obj)→Prop
 loc: ∀h h':Nat→Option Obj,(∀k,fp k→h' k=h k)→sat h→sat h'
def ar(b:Nat)(cs:Array Value)(T:TypeId):aj:=⟨fun k=>k=b,fun h=>h b=some (.cells cs T (0,0)),fun _ _ e s=>by rw[e b rfl];exact s⟩
structure Mem(w0:World)(L:List aj)(w:World):Prop where
 below:Below w0.heap.size w0 w
 sat: ∀e∈L,e.sat fun k=>w.heap[k]?
 je: ∀e∈L,∀k,e.fp k→w0.heap.size≤k∧k<w.heap.size
 na:L.Pairwise fun a b=> ∀k,a.fp k→ ¬b.fp k
theorem Mem.init(w:World):Mem w [] w:=⟨Below.refl _ _,by simp,by simp,by simp⟩
theorem Mem.O7{w w':World}(h:Below w.heap.size w w'):Mem w [] w':=⟨h,by simp,by simp,by simp⟩
theorem Mem.le{w0:World}{L:List aj}{w:World}(h:Mem w0 L w):w0.heap.size≤w.heap.size:=h.below.size
theorem Mem.call{w0:World}{L E:List aj}{w w':World}(h:Mem w0 L w)(h':Mem w E w'):Mem w0 (E++L) w':=by
 refine⟨h.below.trans (h'.below.mono h.le),fun e he=> ?_,fun e he k hk=> ?_,?_⟩
 ·
  rcases List.mem_append.1 he with he|he
  ·
   exact h'.sat e he
  ·
   exact e.loc _ _ (fun k hk=>h'.below.block k (h.je e he k hk).2) (h.sat e he)
 ·
  rcases List.mem_append.1 he with he|he
  ·
   have:=h'.je e he k hk;have:=h.le;omega
  ·
   have:=h.je e he k hk;have:=h'.below.size;omega
 ·
  refine List.pairwise_append.2 ⟨h'.na,h.na,fun a ha b hb k hk jF=> ?_⟩
  have:=h'.je a ha k hk;have:=h.je b hb k jF;omega
theorem Mem.step{w0:World}{L:List aj}{w w':World}(h:Mem w0 L w)(h':Below w.heap.size w w'):Mem w0 L w':=h.call (E:=[]) (.O7 h')
theorem Mem.drew{w0:World}{L:List aj}{w:World}(h:Mem w0 L w):Mem w0 L w.drew:=h.step ((Below.refl _ _).drew)
theorem Mem.Ab{w0:World}{L:List aj}{w:World}(h:Mem w0 L w):Mem w0 L {w with drawn:=w.drawn+1}:=h.step ((Below.refl _ _).drew)
theorem Mem.sub{w0:World}{L L':List aj}{w:World}(h:Mem w0 L w)(s:L'.Sublist L):Mem w0 L' w:=
 ⟨h.below,fun e he=>h.sat e (s.subset he),fun e he=>h.je e (s.subset he),h.na.sublist s⟩
theorem Mem.perm{w0:World}{L L':List aj}{w:World}(h:Mem w0 L w)(s:L.Perm L'):Mem w0 L' w:=
 ⟨h.below,fun e he=>h.sat e (s.mem_iff.2 he),fun e he=>h.je e (s.mem_iff.2 he),s.pairwise h.na (fun Ac k hk jF=>Ac k jF hk)⟩
theorem Mem.get{w0:World}{L:List aj}{w:World}(h:Mem w0 L w){i:Nat}{e:aj}(hi:L[i]? =some e):e.sat fun k=>w.heap[k]? :=h.sat e (List.mem_of_getElem? hi)
theorem Below.Ad(w:World)(o:Obj):(w.alloc o).heap[w.heap.size]? =some o:=by
 show(w.heap.push o)[w.heap.size]? =some o
 simp
theorem Mem.alloc{w0:World}{L:List aj}{w:World}(h:Mem w0 L w)(cs:Array Value)(T:TypeId):Mem w0 (ar w.heap.size cs T::L) (w.alloc (.cells cs T)):=by
 refine h.call (E:=[ar w.heap.size cs T]) ⟨(Below.refl _ _).alloc (Nat.le_refl _) _,fun e he=> ?_,fun e he k hk=> ?_,by simp⟩
 ·
  simp at he;subst he
  exact Below.Ad w _
 ·
  simp at he;subst he
  have:k=w.heap.size:=hk
  subst this;simp
theorem Mem.change{w0:World}{L:List aj}{w w':World}(h:Mem w0 L w){i:Nat}{e e':aj}(hi:L[i]? =some e)(tP: ∀k,e'.fp k→e.fp k)
  (hB: ∀k,¬e.fp k→w'.heap[k]? =w.heap[k]?) (hs:w'.heap.size=w.heap.size) (ho:w'.os=w.os∧w'.tape=w.tape∧w'.output=w.output)
  (O8:e'.sat fun k=>w'.heap[k]?):Mem w0 (L.set i e') w':=by
 have Ae:i<L.length:=by
  rcases Nat.lt_or_ge i L.length with h'|h'
  ·
   exact h'
  ·
   simp[List.getElem?_eq_none h']at hi
 have Ag:L[i]=e:=by simpa[List.getElem?_eq_getElem Ae]using hi
 have HM:e∈L:=Ag▸List.getElem_mem Ae
 refine⟨⟨ho.1.trans h.below.os,ho.2.1.trans h.below.tape,ho.2.2.trans h.below.output,hs▸h.below.size,fun k hk=> ?_⟩,fun x hx=> ?_,fun x hx k hk=> ?_,?_⟩
 ·
  rw[hB k (fun hf=>by have:=h.je e HM k hf;omega)];exact h.below.block k hk
 ·
  obtain⟨j,hj,oA⟩:=List.getElem_of_mem hx
  rw[List.getElem_set]at oA
  split at oA
  ·
   subst oA;exact O8
  ·
   rename_i cF
   have jf:j<L.length:=by simpa using hj
   subst oA
   have hd:=h.na
   rw[List.pairwise_iff_getElem]at hd
   refine(L[j]).loc _ _ (fun k hk=>hB k (fun hf=> ?_)) (h.sat _ (List.getElem_mem jf))
   rw[←Ag]at hf
   rcases Nat.lt_or_gt_of_ne cF with bt|bt
   ·
    exact hd i j Ae jf bt k hf hk
   ·
    exact hd j i jf Ae bt k hk hf
 ·
  rw[hs]
  obtain⟨j,hj,oA⟩:=List.getElem_of_mem hx
  rw[List.getElem_set]at oA
  split at oA
  ·
   subst oA;exact h.je e HM k (tP k hk)
  ·
   subst oA;exact h.je _ (List.getElem_mem _) k hk
 ·
  rw[List.pairwise_iff_getElem]
  intro p q hp hq vG k hk jF
  have hd:=h.na
  rw[List.pairwise_iff_getElem]at hd
  rw[List.getElem_set]at hk jF
  have bA:p<L.length:=by simpa using hp
  have Ah:q<L.length:=by simpa using hq
  have:=hd p q bA Ah vG k
  split at hk<;>split at jF
  ·
   omega
  ·
   rename_i h1 h2
   subst h1
   exact this (by rw[Ag];exact tP k hk) jF
  ·
   rename_i h1 h2
   subst h2
   exact this hk (by rw[Ag];exact tP k jF)
  ·
   exact this hk jF
theorem Mem.cell{w0:World}{L:List aj}{w:World}(h:Mem w0 L w){i b:Nat}{cs:Array Value}{T:TypeId}(hi:L[i]? =some (ar b cs T))(o:Nat):w.cell? ⟨b,o,none⟩=cs[o]? :=by
 have:w.heap[b]? =some (.cells cs T (0,0)):=h.get hi
 simp[World.cell?,this]
theorem Mem.block{w0:World}{L:List aj}{w:World}(h:Mem w0 L w){i b:Nat}{cs:Array Value}{T:TypeId}(hi:L[i]? =some (ar b cs T)):w.heap[b]? =some (.cells cs T (0,0)):=h.get hi
theorem Mem.setRow{w0:World}{L:List aj}{w:World}(h:Mem w0 L w){i b:Nat}{cs:Array Value}{T:TypeId}(hi:L[i]? =some (ar b cs T))(cs':Array Value):Mem w0 (L.set i (ar b cs' T)) (w.setRow b cs'):=by
 have hb:=h.block hi
 refine h.change hi (fun k hk=>hk) (fun k hk=> ?_) (by simp[World.setRow]) ⟨rfl,rfl,rfl⟩ ?_
 ·
  exact setRow_other w b k cs' (fun e=>hk e)
 ·
  exact setRow_heap w b cs cs' T (0,0) hb
open Go.RowKit
def kX(ro:Option Nat):Fence:={fn:=fun _=>True,depth:=none,alive:=false,round:=ro}
def nL(l:List Oper):Bool:=l.all fun o=>match o.op with
 | .defer _=>false
 |_=>true
theorem HN{l:List Oper}(h:nL l=true){i:Nat}{o:Oper}(hi:l.toArray[i]? =some o): ∀c,o.op≠ .defer c:=fun c e=>by
 have hm:o∈l:=by simpa using Array.mem_of_getElem? hi
 have:=List.all_eq_true.1 h o hm
 rw[e]at this;cases this
class jU(Q:Exit→Act→World→Prop):Prop where
 h: ∀a w,¬Q .outgrown a w
instance jU.then{K:Act→World→Prop}{Q:Exit→Act→World→Prop}[q:jU Q]:jU (Exit.then K Q):=⟨fun a w h=>q.h a w h⟩
instance jU.block{id:Nat}{Q:Exit→Act→World→Prop}[q:jU Q]:jU (Exit.inBlock id Q):=⟨fun a w h=>q.h a w h⟩
variable {P:Program} {ro:Option Nat}
theorem O9{f:FuncId}{args:Array Value}{w:World}{R:Ending→World→Prop}(h:Calls P f args w R):CallsIn (kX ro) 0 P f args w R:=by
 have h':CallsIn Fence.wide 0 P f args w R:=callsIn_wide.2 h
 cases ro with
 |none=>exact h'
 |some l=>exact h'.inRound l
theorem Pa{row:String}{args:Array Value}{w:World}{R:Value→World→Prop}(h:Rows P row args w R):RowsIn (kX ro) 0 P row args w R:=fun c cs _=>by
 obtain⟨v,w',hR,hs⟩:=h c cs
 refine⟨v,w',hR,?_⟩
 have h':StepsIn (Machine.fenced P Fence.wide) P _ _:=stepsIn_wide.2 hs
 exact h'
theorem Pb{o:Oper}{a:Act}{w:World}{K:Act→World→Prop}{Q:Exit→Act→World→Prop}(cy: ∀c,o.op≠ .defer c)(h:o.wp P a w K Q):o.wpIn (kX ro) 0 P a w K Q:=by
 refine⟨fun _ _=>trivial,?_⟩
 rw[Oper.semAt_eq _ _ _ cy]
 unfold Oper.wp at h
 generalize(execOp a.eval o).run P w=r at h⊢
 unfold Oper.upon at h
 unfold Oper.uponIn
 split at h
 ·
  exact h
 ·
  exact h
 ·
  exact h
 ·
  exact⟨fun e=>(by cases e),O9 h⟩
 ·
  exact⟨fun e=>(by cases e),Pa h⟩
 ·
  exact h
 ·
  exact h.elim
theorem xQ{ops:Array Oper}{Q:Exit→Act→World→Prop}[q:jU Q](cy: ∀(i:Nat) (o:Oper),ops[i]? =some o→ ∀c,o.op≠ .defer c): ∀(l:List Nat) (a:Act) (w:World),wpOps P ops Q l a w→wpOpsIn (kX ro) 0 P ops Q l a w
 |[],_,_,h=>h
 |i::rest,a,w,h=>by
  unfold wpOps at h
  unfold wpOpsIn
  split at h
  ·
   rename_i ho;simp only[ho];exact xQ cy rest a w h
  ·
   rename_i o ho
   simp only[ho]
   split at h
   ·
    rename_i hw
    rw[if_pos hw]
    rcases h with h|⟨_,a',w',h⟩
    ·
     exact Oper.wpIn_mono (fun a w h=>xQ cy rest a w h) (Pb (cy i o ho) h)
    ·
     exact absurd h (q.h a' w')
   ·
    rename_i hw
    rw[if_neg hw]
    exact⟨fun _ _=>trivial,xQ cy rest _ w h⟩
theorem Pc{id:Nat}{l:List Oper}{Q:Exit→Act→World→Prop}{a:Act}{w:World}[jU Q](cy:nL l=true)(h:wpList P l.toArray Q l a w):(Code.region id l.toArray false).wpIn (kX ro) 0 P Q a w:=
 wpIn_region (xQ (fun _ _ hi=>HN cy hi) _ a w (by rw[List.range_eq_range',←Array.length_toList,wpOps_eq_wpList l.toArray.toList 0 (by simp)];exact h))
theorem Dv{id:Nat}{l:List Oper}{Q:Exit→Act→World→Prop}{a:Act}{w:World}[jU Q](cy:nL l=true)(hm:P.follows .mixedOrders=true)
  (h:wpAny P .any l.toArray Q l.toArray.size (Array.replicate l.toArray.size false) a {w with drawn:=w.drawn+1}):(Code.region id l.toArray true).wpIn (kX ro) 0 P Q a w:=
 wpIn_region_draw fun t=>xQ (fun _ _ hi=>HN cy hi) _ a _ (by
  simp only[Region.schedule,hm,Bool.true_or,if_true]
  exact wpAny_sound l.toArray.size t _ a _ h)
theorem Pd{id:Nat}{l:List Oper}{C:World→Prop}{Q:Exit→Act→World→Prop}{a:Act}{w:World}[jU Q](cy:nL l=true)(hm:P.follows .mixedOrders=true)(hB:Region.lexB .any l.toArray=true)(hC:C {w with drawn:=w.drawn+1})
  (h:wpQuiet P l.toArray C (fun a'=> ∀w',C w'→Q .normal a' w') l a):(Code.region id l.toArray true).wpIn (kX ro) 0 P Q a w:=by
 simp only[Region.lexB,Bool.and_eq_true]at hB
 refine Dv cy hm (wpAny_of_quiet (Q:=fun a'=> ∀w',C w'→Q .normal a' w') (fun _ w' gH h=>h w' gH) _ _ _ _ hC ?_)
 have:=wpAnyQ_lex (C:=C) (md:= .any) hB.1 l 0 (Array.replicate l.toArray.size false) a (by simp) (by simpa using hB.2) h
 simpa using this
def mark(D:Nat):Deferred:={target:= .collected D,args:= #[]}
def xR(P:Program)(fn:Func)(R:Ending→World→Prop):Exit→Act→World→Prop:=fun e a w=>(e= .normal∨e= .ret)∧bodyPostM (kX none) 0 P fn R e a w
instance jU.end{fn:Func}{R:Ending→World→Prop}:jU (xR P fn R):=⟨fun a w h=>by rcases h.1 with h|h<;>cases h⟩
theorem HO{f:FuncId}{fn:Func}{c:Code}{args:Array Value}{w:World}{R:Ending→World→Prop}(hf:P.funcs[f]? =some fn)(hb:fn.body=some c)
  (h:c.wpIn (kX none) 0 P (xR P fn R) {tmps:=args++Array.replicate (fn.ntmps -args.size) undef,defers:=[]} w):Calls P f args w R:=
 callsIn_wide.1 (callsIn_of_wp_marks (F:=kX none) (n:=0) hf hb trivial (wpIn_mono h fun _ _ _ h=>h.2))
section
variable {P:Program} {l:List Oper} {C:World→Prop} {Q:Exit→Act→World→Prop} {n:Nat} {fs:List Nat}
def fr(l:List Oper)(fs:List Nat)(v:Nat→Value)(a0:Act):Nat→Act
 |0=>a0
 |k+1=>if fs.contains k=true then fr l fs v a0 k else match l[k]?with
  |some o=>(fr l fs v a0 k).put o.dst (v k)
  |none=>fr l fs v a0 k
def dC(l:List Oper)(j:Nat):Option Tmp:=(l[j]?).bind (·.dst)
theorem jg(a:Act)(d:Option Tmp)(v:Value)(t:Nat)(h:d≠some t):(a.put d v).tmps[t]? =a.tmps[t]? :=by
 cases d with
 |none=>rfl
 |some d=>
  have:d≠t:=fun e=>h (by rw[e])
  simp[Act.put,this]
theorem qm(a:Act)(d:Option Tmp)(v:Value):(a.put d v).tmps.size=a.tmps.size:=by cases d<;>simp[Act.put]
theorem qn(a:Act)(d:Option Tmp)(v:Value):(a.put d v).defers=a.defers:=by cases d<;>rfl
theorem HP(a b:Act)(d:Nat)(v:Value)(h:a.tmps.size=b.tmps.size):(a.put (some d) v).tmps[d]? =(b.put (some d) v).tmps[d]? :=by
 simp[Act.put,Array.getElem?_setIfInBounds,h]
theorem tT{v:Nat→Value}{a0:Act}{k:Nat}{o:Oper}(hf:fs.contains k=false)(h:l[k]? =some o):fr l fs v a0 (k+1)=(fr l fs v a0 k).put o.dst (v k):=by
 show(if fs.contains k=true then _ else match l[k]?with|some o=>(fr l fs v a0 k).put o.dst (v k)|none=>fr l fs v a0 k)=_
 rw[hf,h];rfl
theorem vH{v:Nat→Value}{a0:Act}{k:Nat}(hf:fs.contains k=true):fr l fs v a0 (k+1)=fr l fs v a0 k:=by
 show(if fs.contains k=true then _ else match l[k]?with|some o=>(fr l fs v a0 k).put o.dst (v k)|none=>fr l fs v a0 k)=_
 rw[hf];rfl
theorem xS{v:Nat→Value}{a0:Act}{k:Nat}(h:l[k]? =none):fr l fs v a0 (k+1)=fr l fs v a0 k:=by
 show(if fs.contains k=true then _ else match l[k]?with|some o=>(fr l fs v a0 k).put o.dst (v k)|none=>fr l fs v a0 k)=_
 rw[h];split<;>rfl
theorem xT(v:Nat→Value)(a0:Act): ∀k,(fr l fs v a0 k).tmps.size=a0.tmps.size
 |0=>rfl
 |k+1=>by
  cases hf:fs.contains k with
  |true=>rw[vH hf];exact xT v a0 k
  |false=>
   cases ho:l[k]?with
   |none=>rw[xS ho];exact xT v a0 k
   |some o=>rw[tT hf ho,qm];exact xT v a0 k
theorem Ai(v:Nat→Value)(a0:Act): ∀k,(fr l fs v a0 k).defers=a0.defers
 |0=>rfl
 |k+1=>by
  cases hf:fs.contains k with
  |true=>rw[vH hf];exact Ai v a0 k
  |false=>
   cases ho:l[k]?with
   |none=>rw[xS ho];exact Ai v a0 k
   |some o=>rw[tT hf ho,qn];exact Ai v a0 k
theorem tU(v:Nat→Value)(a0:Act)(t k:Nat): ∀m,k≤m→(∀j,k≤j→j<m→fs.contains j=false→dC l j≠some t)→(fr l fs v a0 m).tmps[t]? =(fr l fs v a0 k).tmps[t]?
 |0,h,_=>by obtain rfl:k=0:=by omega
            rfl
 |m+1,h,hn=>by
  by_cases e:k=m+1
  ·
   subst e;rfl
  ·
   have ih:=tU v a0 t k m (by omega) fun j h1 h2=>hn j h1 (by omega)
   rw[←ih]
   cases hf:fs.contains m with
   |true=>rw[vH hf]
   |false=>
    cases ho:l[m]?with
    |none=>rw[xS ho]
    |some o=>
     rw[tT hf ho]
     exact jg _ _ _ _ (by simpa[dC,ho]using hn m (by omega) (by omega) hf)
def xU(l:List Oper)(fs:List Nat)(n:Nat):Bool:=
 (List.range n).all fun k=>match l[k]?with
  |none=>false
  |some o=>
   (match o.op with| .select .. =>false|_=>true)&&
   (o.after.all fun e=> !Region.binds .any e||decide (e.on<k))&&
   (List.range n).all fun j=>match dC l j with
    |none=>true
    |some d=>(!(o.looksAt l.toArray).contains d||(decide (j<k)&&(!fs.contains j||fs.contains k)&&o.after.any fun e=>Region.binds .any e&&e.on==j))&&(j==k||o.dst !=some d)
structure xV(l:List Oper)(fs:List Nat)(n k:Nat)(o:Oper):Prop where
 sm: ∀cs b,o.op≠ .select cs b
 back: ∀e∈o.after,Region.binds .any e=true→e.on<k
 reads: ∀j d,j<n→dC l j=some d→d∈o.looksAt l.toArray→j<k∧(fs.contains j=true→fs.contains k=true)∧ ∃e∈o.after,Region.binds .any e=true∧e.on=j
 one: ∀j d,j<n→dC l j=some d→j≠k→o.dst≠some d
theorem Aj(h:xU l fs n=true)(k:Nat)(hk:k<n): ∃o,l[k]? =some o∧xV l fs n k o:=by
 have:=List.all_eq_true.1 h k (List.mem_range.2 hk)
 cases ho:l[k]?with
 |none=>simp[ho]at this
 |some o=>
  rw[ho]at this
  simp only[Bool.and_eq_true]at this
  obtain⟨⟨h1,h2⟩,h3⟩:=this
  refine⟨o,rfl,⟨fun cs b e=>by rw[e]at h1;simp at h1,fun e he hb=> ?_,fun j d hj hd hl=> ?_,fun j d hj hd cF=> ?_⟩⟩
  ·
   have:=(Array.all_eq_true_iff_forall_mem.1 h2) e he
   simpa[hb]using this
  ·
   have:=List.all_eq_true.1 h3 j (List.mem_range.2 hj)
   rw[hd]at this
   simp only[Bool.and_eq_true,Bool.or_eq_true,Bool.not_eq_true',decide_eq_true_eq]at this
   rcases this.1 with h4|h4
   ·
    exact absurd hl (by simpa using h4)
   ·
    obtain⟨⟨h5,h6⟩,h7⟩:=h4
    obtain⟨e,he,hb⟩:=Array.any_eq_true'.1 h7
    simp only[Bool.and_eq_true,beq_iff_eq]at hb
    exact⟨h5,fun jh=>h6.elim (fun h=>by rw[h]at jh;cases jh) id,e,he,hb.1,hb.2⟩
  ·
   have:=List.all_eq_true.1 h3 j (List.mem_range.2 hj)
   rw[hd]at this
   simp only[Bool.and_eq_true,Bool.or_eq_true,beq_iff_eq]at this
   rcases this.2 with h4|h4
   ·
    exact absurd h4 cF
   ·
    simpa using h4
def rn(P:Program)(o:Oper)(a:Act)(C:World→Prop)(v:Value):Prop:= ∀w,C w→o.quietAt P a (Mem w []) w v
def Dw(P:Program)(l:List Oper)(fs:List Nat)(C:World→Prop)(v:Nat→Value)(a0:Act)(k:Nat):Prop:=
 ∀o,l[k]? =some o→(Region.wanted o (yielded l.toArray (fr l fs v a0 k).tmps)=true→rn P o (fr l fs v a0 k) C (v k))∧
  (Region.wanted o (yielded l.toArray (fr l fs v a0 k).tmps)=false→v k=undef)
def lH(P:Program)(ops:Array Oper)(fs:List Nat)(C:World→Prop)(F:Act→Prop):Nat→List Oper→Act→Prop
 |_,[],a=>F a
 |k,o::rest,a=>if fs.contains k=true then lH P ops fs C F (k+1) rest a
  else if Region.wanted o (yielded ops a.tmps)=true then∃v,rn P o a C v∧lH P ops fs C F (k+1) rest (a.put o.dst v)else lH P ops fs C F (k+1) rest (a.put o.dst undef)
theorem Dx{F:Act→Prop}: ∀(m k:Nat) (a0:Act) (v0:Nat→Value),k+m≤l.length→lH P l.toArray fs C F k ((l.drop k).take m) (fr l fs v0 a0 k)→
  ∃v,(∀j,j<k→v j=v0 j)∧(∀j,k≤j→j<k+m→fs.contains j=false→Dw P l fs C v a0 j)∧F (fr l fs v a0 (k+m))
 |0,k,a0,v0,_,h=>⟨v0,fun _ _=>rfl,fun j h1 h2=>by omega,by simpa[lH]using h⟩
 |m+1,k,a0,v0,hle,h=>by
  have hk:k<l.length:=by omega
  have ed:l.drop k=l[k]::l.drop (k+1):=List.drop_eq_getElem_cons hk
  rw[ed,List.take_succ_cons]at h
  have HQ:l[k]? =some l[k]:=List.getElem?_eq_getElem hk
  have HR: ∀v v':Nat→Value,∀j,(∀i,i<j→v i=v' i)→fr l fs v a0 j=fr l fs v' a0 j:=by
   intro v v' j
   induction j with
   |zero=>intro _;rfl
   |succ j ih=>
    intro hh
    have e:=ih fun i hi=>hh i (by omega)
    cases hf:fs.contains j with
    |true=>rw[vH hf,vH hf,e]
    |false=>
     cases ho:l[j]?with
     |none=>rw[xS ho,xS ho,e]
     |some o=>rw[tT hf ho,tT hf ho,e,hh j (by omega)]
  unfold lH at h
  cases tV:fs.contains k with
  |true=>
   rw[if_pos tV]at h
   obtain⟨v,g1,g2,g3⟩:=Dx m (k+1) a0 v0 (by omega) (by rw[vH tV];exact h)
   refine⟨v,fun j hj=>g1 j (by omega),fun j h3 h4 h5=> ?_,by rw[show k+(m+1)=k+1+m by omega];exact g3⟩
   by_cases hj:j=k
   ·
    subst hj;rw[tV]at h5;cases h5
   ·
    exact g2 j (by omega) (by omega) h5
  |false=>
   rw[if_neg (by rw[tV];exact Bool.false_ne_true)]at h
   have step: ∀u:Value,lH P l.toArray fs C F (k+1) ((l.drop (k+1)).take m) ((fr l fs v0 a0 k).put l[k].dst u)→
     ((Region.wanted l[k] (yielded l.toArray (fr l fs v0 a0 k).tmps)=true→rn P l[k] (fr l fs v0 a0 k) C u)∧(Region.wanted l[k] (yielded l.toArray (fr l fs v0 a0 k).tmps)=false→u=undef))→
     ∃v,(∀j,j<k→v j=v0 j)∧(∀j,k≤j→j<k+(m+1)→fs.contains j=false→Dw P l fs C v a0 j)∧F (fr l fs v a0 (k+(m+1))):=by
    intro u h2 hu
    let v1:Nat→Value:=fun j=>if j=k then u else v0 j
    have e1:fr l fs v1 a0 k=fr l fs v0 a0 k:=HR _ _ k fun i hi=>by simp[v1,show i≠k by omega]
    have e2:fr l fs v1 a0 (k+1)=(fr l fs v0 a0 k).put l[k].dst u:=by
     rw[tT tV HQ,e1];simp[v1]
    obtain⟨v,g1,g2,g3⟩:=Dx m (k+1) a0 v1 (by omega) (by rw[e2];exact h2)
    have e3:fr l fs v a0 k=fr l fs v0 a0 k:=HR _ _ k fun i hi=>by rw[g1 i (by omega)];simp[v1,show i≠k by omega]
    have e4:v k=u:=by rw[g1 k (by omega)];simp[v1]
    refine⟨v,fun j hj=>by rw[g1 j (by omega)];simp[v1,show j≠k by omega],fun j h3 h4 h5=> ?_,by rw[show k+(m+1)=k+1+m by omega];exact g3⟩
    by_cases hj:j=k
    ·
     subst hj
     intro o ho
     rw[HQ]at ho;cases ho
     rw[e3,e4]
     exact hu
    ·
     exact g2 j (by omega) (by omega) h5
   split at h
   ·
    rename_i hw
    obtain⟨u,h1,h2⟩:=h
    exact step u h2 ⟨fun _=>h1,fun hf=>by rw[hw]at hf;cases hf⟩
   ·
    rename_i hw
    exact step undef h ⟨fun ht=>absurd ht hw,fun _=>rfl⟩
def HS(P:Program)(w:World)(R:Value→World→List aj→Prop):Result Next→Prop
 | .ok (.value v) w'=> ∃E,R v w' E
 | .ok (.enter f args) w'=>w'=w∧Calls P f args w fun e nM=> ∃v E,e= .returned v∧R v nM E
 |_=>False
def rp(P:Program)(l:List Oper)(n:Nat)(Q:Exit→Act→World→Prop)(w0:World)(Lq:List aj):List Nat→Act→List aj→Prop
 |[],af,L=> ∀w,Mem w0 L w→wpList P l.toArray Q (l.drop n) af w
 |j::js,af,L=> ∃o,l[j]? =some o∧o.guard=none∧ ∀w,Mem w0 L w→HS P w (fun v w' L'=>Mem w0 L' w'∧(∀w,Mem w0 L' w→Mem w0 Lq w)∧rp P l n Q w0 Lq js (af.put o.dst v) L') ((execOp af.eval o).run P w)
def qo(l:List Oper):List Nat→Bool
 |j::k::r=>(match l[k]?with|some o=>o.after.any fun e=>Region.binds .any e&&e.on==j|none=>false)&&qo l (k::r)
 |_=>true
theorem HT: ∀(rs:List Nat) (j0:Nat),qo l (j0::rs)=true→ ∀i∈rs,∃p∈j0::rs,∃o,l[i]? =some o∧ ∃e∈o.after,Region.binds .any e=true∧e.on=p
 |[],_,_,i,hi=>by cases hi
 |k::r,j0,h,i,hi=>by
  simp only[qo,Bool.and_eq_true]at h
  rcases List.mem_cons.1 hi with rfl|hi
  ·
   cases ho:l[i]?with
   |none=>rw[ho]at h;simp at h
   |some o=>
    rw[ho]at h
    obtain⟨e,he,hb⟩:=Array.any_eq_true'.1 h.1
    simp only[Bool.and_eq_true,beq_iff_eq]at hb
    exact⟨j0,by simp,o,rfl,e,he,hb.1,hb.2⟩
  ·
   obtain⟨p,hp,o,ho,e,he,hb⟩:=HT r k h.2 i hi
   exact⟨p,List.mem_cons_of_mem _ hp,o,ho,e,he,hb⟩
structure sq(P:Program)(l:List Oper)(fs:List Nat)(Q:Exit→Act→World→Prop)(w0:World)(L0:List aj)(n:Nat)(v:Nat→Value)(a0:Act)(rs:List Nat)(af:Act)(bj:Array Bool)(a:Act)(w:World):Prop where
 inv:HeadInv .any l.toArray n bj
 mem: ∃L,Mem w0 L w∧(∀w,Mem w0 L w→Mem w0 L0 w)∧rp P l n Q w0 L0 rs af L
 size:a.tmps.size=a0.tmps.size
 oB:af.tmps.size=a0.tmps.size
 defers:a.defers=a0.defers
 qp:af.defers=a0.defers
 gI: ∃ds,fs=ds++rs
 todo: ∀j,j<n→fs.contains j=true→(bj.getD j true=false↔j∈rs)
 done: ∀j d,j<n→bj.getD j true=true→dC l j=some d→a.tmps[d]? =af.tmps[d]?
 rest: ∀d,(∀j,j<n→bj.getD j true=true→dC l j≠some d)→a.tmps[d]? =a0.tmps[d]?
 full: ∀d,(∀j,j<n→fs.contains j=true→bj.getD j true=true→dC l j≠some d)→af.tmps[d]? =(fr l fs v a0 n).tmps[d]?
variable {w0:World} {L0:List aj}
theorem Dy{bj:Array Bool}{i:Nat}(h:bj.getD i true=false):i<bj.size:=by
 rcases Nat.lt_or_ge i bj.size with h'|h'
 ·
  exact h'
 ·
  simp[Array.getElem?_eq_none h']at h
theorem HU{v:Nat→Value}{a0 a af:Act}{rs:List Nat}{bj:Array Bool}{w:World}(H:sq P l fs Q w0 L0 n v a0 rs af bj a w){k:Nat}{o:Oper}(ho:xV l fs n k o)
  (oC: ∀e∈o.after,Region.binds .any e=true→bj.getD e.on false=true) (t:Nat) (ht:t∈o.looksAt l.toArray):a.tmps[t]? =af.tmps[t]? :=by
 by_cases hw: ∃j,j<n∧dC l j=some t
 ·
  obtain⟨j,hj,hd⟩:=hw
  obtain⟨_,_,e,he,hb,dO⟩:=ho.reads j t hj hd ht
  have hl:=oC e he hb
  rw[dO]at hl
  have Pe:bj.getD j true=true:=by
   have xW:j<bj.size:=by
    rcases Nat.lt_or_ge j bj.size with h|h
    ·
     exact h
    ·
     simp[Array.getElem?_eq_none h]at hl
   simp[xW]at hl⊢;exact hl
  exact H.done j t hj Pe hd
 ·
  have h1: ∀j,j<n→dC l j≠some t:=fun j hj hd=>hw ⟨j,hj,hd⟩
  rw[H.rest t fun j hj _=>h1 j hj,H.full t fun j hj _ _=>h1 j hj]
  exact(tU v a0 t 0 n (by omega) fun j _ h2 _=>h1 j h2).symm
theorem Pf{v:Nat→Value}{a0 a af:Act}{rs:List Nat}{bj:Array Bool}{w:World}(H:sq P l fs Q w0 L0 n v a0 rs af bj a w){k:Nat}{o:Oper}(hk:k<n)(tV:fs.contains k=false)(ho:xV l fs n k o)(hB:xU l fs n=true)
  (oC: ∀e∈o.after,Region.binds .any e=true→bj.getD e.on false=true) (t:Nat) (ht:t∈o.looksAt l.toArray):a.tmps[t]? =(fr l fs v a0 k).tmps[t]? :=by
 rw[HU H ho oC t ht]
 by_cases hw: ∃j,j<n∧dC l j=some t
 ·
  obtain⟨j,hj,hd⟩:=hw
  obtain⟨Ak,Pg,_⟩:=ho.reads j t hj hd ht
  have uniq: ∀i,i<n→i≠j→dC l i≠some t:=fun i hi nN he=>by
   obtain⟨oi,sr,nc⟩:=Aj hB i hi
   exact nc.one j t hj hd (Ne.symm nN) (by simpa[dC,sr]using he)
  rw[H.full t fun i hi hf _ he=> ?_]
  ·
   exact tU v a0 t k n (by omega) fun i h1 h2 _=>uniq i h2 (by omega)
  ·
   by_cases nN:i=j
   ·
    subst nN;have:=Pg hf;rw[tV]at this;cases this
   ·
    exact uniq i hi nN he
 ·
  have h1: ∀j,j<n→dC l j≠some t:=fun j hj hd=>hw ⟨j,hj,hd⟩
  rw[H.full t fun j hj _ _=>h1 j hj,tU v a0 t 0 n (by omega) fun j _ h2 _=>h1 j h2]
  exact(tU v a0 t 0 k (by omega) fun j _ h2 _=>h1 j (by omega)).symm
theorem Dz{a b:Act}{o:Oper}{ops:Array Oper}(h: ∀t∈o.looksAt ops,a.tmps[t]? =b.tmps[t]?): ∀x∈o.op.operands,a.eval x=b.eval x:=by
 intro x hx
 cases x with
 |tmp t=>
  have:t∈o.looksAt ops:=by
   unfold Oper.looksAt
   refine List.mem_append_left _ (List.mem_filterMap.2 ⟨.tmp t,by simpa using hx,rfl⟩)
  simp[Act.eval,h t this]
 |_=>rfl
theorem HV{a b:Act}{o:Oper}{ops:Array Oper}(h: ∀t∈o.looksAt ops,a.tmps[t]? =b.tmps[t]?):Region.wanted o (yielded ops a.tmps)=Region.wanted o (yielded ops b.tmps):=by
 unfold Region.wanted
 cases hg:o.guard with
 |none=>rfl
 |some p=>
  obtain⟨j,b'⟩:=p
  have:yielded ops a.tmps j=yielded ops b.tmps j:=by
   unfold yielded
   cases hd:(ops[j]?).bind (·.dst)with
   |none=>rfl
   |some d=>
    have hm:d∈o.looksAt ops:=by unfold Oper.looksAt;rw[hg];simp[hd]
    simp[h d hm]
  simp[this]
def vI(size n:Nat):Array Bool:=((List.range size).map fun i=>decide (i<n)).toArray
theorem Ph{v:Nat→Value}{a0 a af:Act}{rs:List Nat}{bj:Array Bool}{w w':World}(H:sq P l fs Q w0 L0 n v a0 rs af bj a w){i:Nat}{o:Oper}(hi:i<n)(ji:fs.contains i=false)(tW:l[i]? =some o)(ho:xV l fs n i o)(hB:xU l fs n=true)
  (hr:i∈Region.ready .any l.toArray bj) (gH:Mem w [] w'):sq P l fs Q w0 L0 n v a0 rs af (bj.setIfInBounds i true) (a.put o.dst (v i)) w':=by
 have gZ:=(mem_ready.1 hr).1
 have ko:dC l i=o.dst:=by simp[dC,tW]
 have bt:=Dy gZ
 have gJ: ∀j,j≠i→(bj.setIfInBounds i true).getD j true=bj.getD j true:=fun j cA=>getD_set_ne true (Ne.symm cA)
 have nO:(bj.setIfInBounds i true).getD i true=true:=by simp[bt]
 obtain⟨L,hL,lp,hF⟩:=H.mem
 have uniq: ∀d,dC l i=some d→ ∀j,j<n→j≠i→dC l j≠some d:=fun d hd j hj cA he=>by
  obtain⟨oj,Pj,jh⟩:=Aj hB j hj
  exact jh.one i d hi hd (Ne.symm cA) (by simpa[dC,Pj]using he)
 refine⟨H.inv.set hr hi,⟨L,by simpa using hL.call gH,lp,hF⟩,by rw[qm];exact H.size,H.oB,by rw[qn];exact H.defers,H.qp,H.gI,fun j hj hf=> ?_,fun j d hj hl hd=> ?_,fun d hd=> ?_,fun d hd=> ?_⟩
 ·
  rw[gJ j (fun e=>by subst e;rw[ji]at hf;cases hf)];exact H.todo j hj hf
 ·
  by_cases cA:j=i
  ·
   subst cA
   have HW:=hd
   rw[ko]at hd
   rw[hd,H.full d fun j' jh pD _=>uniq d HW j' jh (fun e=>by subst e;rw[ji]at pD;cases pD)]
   have e1:(fr l fs v a0 n).tmps[d]? =(fr l fs v a0 (j+1)).tmps[d]? :=tU v a0 d (j+1) n (by omega) fun i' h1 h2 _=>uniq d HW i' h2 (by omega)
   rw[e1,tT ji tW,hd]
   exact HP _ _ _ _ (by rw[H.size,xT])
  ·
   rw[gJ j cA]at hl
   rw[jg _ _ _ _ (ho.one j d hj hd cA)]
   exact H.done j d hj hl hd
 ·
  have h1:o.dst≠some d:=by
   have:=hd i hi nO
   rwa [ko]at this
  rw[jg _ _ _ _ h1]
  refine H.rest d fun j hj hl=> ?_
  by_cases cA:j=i
  ·
   subst cA;rw[ko];exact h1
  ·
   exact hd j hj (by rw[gJ j cA];exact hl)
 ·
  refine H.full d fun j hj hf hl=> ?_
  exact hd j hj hf (by rw[gJ j (fun e=>by subst e;rw[ji]at hf;cases hf)];exact hl)
theorem Pk{v:Nat→Value}{a0 a af:Act}{i:Nat}{rs:List Nat}{bj:Array Bool}{w w':World}(H:sq P l fs Q w0 L0 n v a0 (i::rs) af bj a w){o:Oper}(hi:i<n)(ji:fs.contains i=true)(cy:fs.Nodup)(tW:l[i]? =some o)(ho:xV l fs n i o)
  (hr:i∈Region.ready .any l.toArray bj) {u:Value} {L':List aj} (gH:Mem w0 L' w') (lp: ∀w,Mem w0 L' w→Mem w0 L0 w) (hF:rp P l n Q w0 L0 rs (af.put o.dst u) L'):
  sq P l fs Q w0 L0 n v a0 rs (af.put o.dst u) (bj.setIfInBounds i true) (a.put o.dst u) w':=by
 have gZ:=(mem_ready.1 hr).1
 have ko:dC l i=o.dst:=by simp[dC,tW]
 have bt:=Dy gZ
 have gJ: ∀j,j≠i→(bj.setIfInBounds i true).getD j true=bj.getD j true:=fun j cA=>getD_set_ne true (Ne.symm cA)
 have nO:(bj.setIfInBounds i true).getD i true=true:=by simp[bt]
 obtain⟨ds,tX⟩:=H.gI
 have Al:i∉rs:=fun h=>by
  rw[tX]at cy
  have:=(List.nodup_append.1 cy).2.1
  exact(List.nodup_cons.1 this).1 h
 refine⟨H.inv.set hr hi,⟨L',gH,lp,hF⟩,by rw[qm];exact H.size,by rw[qm];exact H.oB,by rw[qn];exact H.defers,by rw[qn];exact H.qp,⟨ds++[i],by rw[tX];simp⟩,fun j hj hf=> ?_,fun j d hj hl hd=> ?_,fun d hd=> ?_,fun d hd=> ?_⟩
 ·
  by_cases cA:j=i
  ·
   subst cA;rw[nO];simp[Al]
  ·
   rw[gJ j cA,H.todo j hj hf];simp[cA]
 ·
  by_cases cA:j=i
  ·
   subst cA
   rw[ko]at hd
   rw[hd]
   exact HP _ _ _ _ (by rw[H.size,H.oB])
  ·
   rw[gJ j cA]at hl
   rw[jg _ _ _ _ (ho.one j d hj hd cA),jg _ _ _ _ (ho.one j d hj hd cA)]
   exact H.done j d hj hl hd
 ·
  have h1:o.dst≠some d:=by
   have:=hd i hi nO
   rwa [ko]at this
  rw[jg _ _ _ _ h1]
  refine H.rest d fun j hj hl=> ?_
  by_cases cA:j=i
  ·
   subst cA;rw[ko];exact h1
  ·
   exact hd j hj (by rw[gJ j cA];exact hl)
 ·
  have h1:o.dst≠some d:=by
   have:=hd i hi ji nO
   rwa [ko]at this
  rw[jg _ _ _ _ h1]
  refine H.full d fun j hj hf hl=> ?_
  by_cases cA:j=i
  ·
   subst cA;rw[ko];exact h1
  ·
   exact hd j hj hf (by rw[gJ j cA];exact hl)
theorem Pm{v:Nat→Value}{a0 a af:Act}{rs:List Nat}{bj:Array Bool}{w:World}(H:sq P l fs Q w0 L0 n v a0 rs af bj a w)(iD: ∀j,j<n→bj.getD j true=true):a=af:=by
 have:a.tmps=af.tmps:=by
  apply Array.ext_getElem?
  intro d
  by_cases hw: ∃j,j<n∧dC l j=some d
  ·
   obtain⟨j,hj,hd⟩:=hw
   exact H.done j d hj (iD j hj) hd
  ·
   have h1: ∀j,j<n→dC l j≠some d:=fun j hj hd=>hw ⟨j,hj,hd⟩
   rw[H.rest d fun j hj _=>h1 j hj,H.full d fun j hj _ _=>h1 j hj]
   exact(tU v a0 d 0 n (by omega) fun j _ h2 _=>h1 j h2).symm
 have h2:a.defers=af.defers:=by rw[H.defers,H.qp]
 cases a;cases af
 simp_all
def left(n:Nat)(bj:Array Bool):Nat:=((List.range n).filter fun i=> !bj.getD i true).length
theorem HX{bj:Array Bool}{i:Nat}(hi:i<n)(gZ:bj.getD i true=false):left n bj=left n (bj.setIfInBounds i true)+1:=by
 have bt:=Dy gZ
 have key: ∀m,i<m→((List.range m).filter fun j=> !bj.getD j true).length=((List.range m).filter fun j=> !(bj.setIfInBounds i true).getD j true).length+1:=by
  intro m
  induction m with
  |zero=>intro h;omega
  |succ m ih=>
   intro h
   rw[List.range_succ,List.filter_append,List.filter_append,List.length_append,List.length_append]
   by_cases e:i=m
   ·
    subst e
    have h1:((List.range i).filter fun j=> !bj.getD j true)=((List.range i).filter fun j=> !(bj.setIfInBounds i true).getD j true):=by
     apply List.filter_congr
     intro j hj
     rw[getD_set_ne true (by have:=List.mem_range.1 hj;omega)]
    rw[h1]
    simp only[List.filter_cons,gZ,Bool.not_false,if_true,List.filter_nil,List.length_cons,List.length_nil]
    simp[bt]
   ·
    have:=ih (by omega)
    have h2:(bj.setIfInBounds i true).getD m true=bj.getD m true:=getD_set_ne true e
    simp only[List.filter_cons,h2,List.filter_nil]
    omega
 exact key n hi
theorem DA{v:Nat→Value}{a0:Act}(hB:xU l fs n=true)(hn:n<l.length)(hs:Region.sinkB .any l.toArray n=true)(hc:Region.chainB .any l.toArray n=true)
  (DB:Region.seqB .any l.toArray (l.length -n) n (vI l.length n)=true) (cy:fs.Nodup) (bt: ∀j∈fs,j<n) (xX:qo l fs=true) (hq: ∀k,k<n→fs.contains k=false→Dw P l fs (Mem w0 L0) v a0 k):
  ∀(m:Nat) (rs:List Nat) (af:Act) (bj:Array Bool) (a:Act) (w:World),left n bj=m→sq P l fs Q w0 L0 n v a0 rs af bj a w→wpAny P .any l.toArray Q (m+(l.length -n)) bj a w
 |0,rs,af,bj,a,w,hm,H=>by
  have iD: ∀j,j<n→bj.getD j true=true:=fun j hj=>by
   cases h:bj.getD j true with
   |true=>rfl
   |false=>
    have:j∈(List.range n).filter fun i=> !bj.getD i true:=List.mem_filter.2 ⟨List.mem_range.2 hj,by rw[h];rfl⟩
    rw[List.length_eq_zero_iff.1 hm]at this
    cases this
  have e1:=Pm H iD
  have e2:bj=vI l.length n:=by
   apply Array.ext_getElem?
   intro j
   have fv:bj.size=l.length:=by simpa using H.inv.size
   by_cases hj:j<l.length
   ·
    have xW:j<bj.size:=by omega
    simp only[vI,List.getElem?_toArray,List.getElem?_map,List.getElem?_range hj,Option.map_some,Array.getElem?_eq_getElem xW]
    by_cases su:j<n
    ·
     have:=iD j su
     simp[xW]at this
     simp[this,su]
    ·
     have:=H.inv.tail j (by omega) (by simpa using hj)
     simp[xW]at this
     simp[this,su]
   ·
    simp[vI,show ¬j<l.length from hj];omega
  have e3:rs=[]:=by
   cases rs with
   |nil=>rfl
   |cons r tY=>
    obtain⟨ds,tX⟩:=H.gI
    have hr:r∈fs:=by rw[tX];simp
    have:=(H.todo r (bt r hr) (by simpa using hr)).2 (by simp)
    rw[iD r (bt r hr)]at this;cases this
  subst e1 e2 e3
  obtain⟨L,hL,_,hF⟩:=H.mem
  have:=wpAny_of_seq (P:=P) (md:= .any) (Q':=Q) (l.drop n) n (vI l.length n) a w (fun j=>by simp[List.getElem?_drop]) (by rw[List.length_drop];exact DB) (hF w hL)
  rw[List.length_drop]at this
  rw[Nat.zero_add]
  exact this
 |m+1,rs,af,bj,a,w,hm,H=>by
  rw[show m+1+(l.length -n)=(m+(l.length -n))+1 by omega]
  obtain⟨i0,xY,Am,xZ⟩: ∃i,i<n∧bj.getD i true=false∧ ∀j,j<i→bj.getD j true=true:=by
   have cF: ∃i,i<n∧bj.getD i true=false:=by
    cases hf:(List.range n).filter fun i=> !bj.getD i true with
    |nil=>rw[left,hf]at hm;cases hm
    |cons i r=>
     have:i∈(List.range n).filter fun i=> !bj.getD i true:=by rw[hf];simp
     obtain⟨h1,h2⟩:=List.mem_filter.1 this
     exact⟨i,List.mem_range.1 h1,by simpa using h2⟩
   obtain⟨i,h1,h2⟩:=cF
   induction i using Nat.strongRecOn with
   |_ i ih=>
    by_cases h: ∃j,j<i∧bj.getD j true=false
    ·
     obtain⟨j,hj,dF⟩:=h
     exact ih j hj (by omega) dF
    ·
     refine⟨i,h1,h2,fun j hj=> ?_⟩
     cases hh:bj.getD j true with
     |true=>rfl
     |false=>exact absurd ⟨j,hj,hh⟩ h
  have fv:bj.size=l.length:=by simpa using H.inv.size
  have x4:i0∈Region.ready .any l.toArray bj:=by
   obtain⟨o,ho,bM⟩:=Aj hB i0 xY
   refine mem_ready.2 ⟨Am,o,by simpa using ho,fun e he hb=> ?_⟩
   have h1:=bM.back e he hb
   have h2:=xZ e.on h1
   have h3:e.on<bj.size:=by omega
   simp[h3]at h2⊢;exact h2
  refine⟨fun h=>(by rw[h]at x4;cases x4),fun i hi=> ?_⟩
  have gO:i<n:=by
   rcases Nat.lt_or_ge i n with h|h
   ·
    exact h
   ·
    exact absurd hi (tail_waits hs hc (by simpa using hn) H.inv _ i0 rfl xY Am i h)
  obtain⟨o,ho,bM⟩:=Aj hB i gO
  obtain⟨gZ,o',nf,oC⟩:=mem_ready.1 hi
  have:o'=o:=by simpa[ho]using nf.symm
  subst this
  have qq:left n (bj.setIfInBounds i true)=m:=by have:=HX gO gZ;omega
  obtain⟨L,hL,lp,hF⟩:=H.mem
  cases ji:fs.contains i with
  |false=>
   have An:=Pf H gO ji bM hB oC
   have ew:=HV (ops:=l.toArray) An
   have ee:execOp a.eval o'=execOp (fr l fs v a0 i).eval o':=execOp_congr o' bM.sm (Dz An)
   obtain⟨HY,Pn⟩:=hq i gO ji o' ho
   have next: ∀w',Mem w [] w'→wpAny P .any l.toArray Q (m+(l.length -n)) (bj.setIfInBounds i true) (a.put o'.dst (v i)) w':=fun w' gH=>
    DA hB hn hs hc DB cy bt xX hq m rs af _ _ w' qq (Ph H gO ji ho bM hB hi gH)
   unfold wpOp
   simp only[nf]
   rw[ew]
   split
   ·
    rename_i nP
    have h1:=HY nP w (lp w hL)
    refine .inl ?_
    unfold Oper.wp
    rw[ee]
    unfold Oper.quietAt at h1
    generalize(execOp (fr l fs v a0 i).eval o').run P w=r at h1
    unfold Oper.quietUpon at h1
    split at h1
    ·
     obtain⟨rfl,rfl⟩:=h1;exact next _ (Mem.init _)
    ·
     obtain⟨rfl,e⟩:=h1;rw[e]at next;exact next _ (Mem.init _)
    ·
     obtain⟨rfl,rr⟩:=h1
     exact rr.mono fun e nM ⟨he,hm⟩=>by subst he;exact next _ hm
    ·
     exact h1.elim
   ·
    rename_i nP
    have:=Pn (by simpa using nP)
    rw[this]at next
    exact next w (Mem.init _)
  |true=>
   have Al:i∈rs:=(H.todo i gO ji).1 gZ
   cases rs with
   |nil=>cases Al
   |cons r tY=>
    have ya:i=r:=by
     rcases List.mem_cons.1 Al with h|h
     ·
      exact h
     ·
      exfalso
      obtain⟨ds,tX⟩:=H.gI
      have Po:qo l (r::tY)=true:=by
       rw[tX]at xX
       have key: ∀ds:List Nat,qo l (ds++r::tY)=true→qo l (r::tY)=true:=by
        intro ds
        induction ds with
        |nil=>exact id
        |cons d ds ih=>
         intro hh
         cases ds with
         |nil=>simp only[List.cons_append,List.nil_append,qo,Bool.and_eq_true]at hh;exact hh.2
         |cons d' ds'=>simp only[List.cons_append,qo,Bool.and_eq_true]at hh;exact ih hh.2
       exact key ds xX
      obtain⟨p,hp,op,dG,e,he,hb,dO⟩:=HT tY r Po i h
      have:op=o':=by rw[ho]at dG;exact(Option.some.inj dG).symm
      subst this
      have hl:=oC e he hb
      rw[dO]at hl
      have HZ:p∈fs:=by rw[tX];exact List.mem_append_right _ hp
      have h1:=(H.todo p (bt p HZ) (by simpa using HZ)).2 hp
      rw[getD_both h1]at hl
      cases hl
    subst ya
    obtain⟨of,oD,hg,fT⟩:=hF
    have:of=o':=by rw[ho]at oD;exact(Option.some.inj oD).symm
    subst this
    have An:=HU H bM oC
    have ee:execOp a.eval of=execOp af.eval of:=execOp_congr of bM.sm (Dz An)
    have h1:=fT w hL
    have next: ∀u w' E,(Mem w0 E w'∧(∀w,Mem w0 E w→Mem w0 L0 w)∧rp P l n Q w0 L0 tY (af.put of.dst u) E)→wpAny P .any l.toArray Q (m+(l.length -n)) (bj.setIfInBounds i true) (a.put of.dst u) w':=fun u w' E ⟨gH,Pp,Pq⟩=>
     DA hB hn hs hc DB cy bt xX hq m tY (af.put of.dst u) _ _ w' qq (Pk H gO ji cy ho bM hi gH Pp Pq)
    unfold wpOp
    simp only[nf]
    rw[if_pos (by simp[Region.wanted,hg])]
    refine .inl ?_
    unfold Oper.wp
    rw[ee]
    generalize(execOp af.eval of).run P w=r at h1
    unfold HS at h1
    split at h1
    ·
     obtain⟨E,hR⟩:=h1;exact next _ _ E hR
    ·
     obtain⟨rfl,rr⟩:=h1
     exact rr.mono fun e nM ⟨u,E,he,hR⟩=>by subst he;exact next u _ E hR
    ·
     exact h1.elim
def Ao(l:List Oper)(fs:List Nat)(n:Nat):Bool:=
 xU l fs n&&decide (n<l.length)&&Region.sinkB .any l.toArray n&&Region.chainB .any l.toArray n&&Region.seqB .any l.toArray (l.length -n) n (vI l.length n)&&
  decide fs.Nodup&&(fs.all fun j=>decide (j<n))&&qo l fs
theorem Pr{id:Nat}{ro:Option Nat}[jU Q]{a:Act}{w:World}(n:Nat)(cy:nL l=true)(hm:P.follows .mixedOrders=true)(hB:Ao l fs n=true){L:List aj}(hC:Mem w0 L {w with drawn:=w.drawn+1})(lp: ∀w,Mem w0 L w→Mem w0 L0 w)
  (h:lH P l.toArray fs (Mem w0 L0) (fun a'=>rp P l n Q w0 L0 fs a' L) 0 (l.take n) a):(Code.region id l.toArray true).wpIn (kX ro) 0 P Q a w:=by
 simp only[Ao,Bool.and_eq_true,decide_eq_true_eq]at hB
 obtain⟨⟨⟨⟨⟨⟨⟨h1,h2⟩,h3⟩,h4⟩,h5⟩,h6⟩,h7⟩,h8⟩:=hB
 have Ps: ∀j∈fs,j<n:=fun j hj=>by have:=List.all_eq_true.1 h7 j hj;simpa using this
 obtain⟨v,_,g2,g3⟩:=Dx (P:=P) (C:=Mem w0 L0) (l:=l) (fs:=fs) n 0 a (fun _=>undef) (by omega) (by simpa[fr]using h)
 refine Dv cy hm ?_
 have DC:HeadInv .any l.toArray n (Array.replicate l.toArray.size false):=
  ⟨by simp,fun j oj _ hl=>(by rw[getD_replicate_false]at hl;cases hl),fun t _ ht=>getD_in (by simpa using ht) (getD_replicate_false _ _)⟩
 have qq:left n (Array.replicate l.toArray.size false)=n:=by
  unfold left
  rw[List.filter_eq_self.2 (fun j hj=> ?_),List.length_range]
  have jh:=List.mem_range.1 hj
  simp[show j<l.length by omega]
 rw[Nat.zero_add]at g3
 have:=DA (P:=P) (Q:=Q) (w0:=w0) (L0:=L0) (v:=v) (a0:=a) h1 h2 h3 h4 h5 h6 Ps h8 (fun k hk hf=>g2 k (by omega) (by omega) hf) n fs (fr l fs v a n) (Array.replicate l.toArray.size false) a _ qq
  ⟨DC,⟨L,hC,lp,g3⟩,rfl,xT v a n,rfl,Ai v a n,⟨[],rfl⟩,fun j hj hf=> ?_,fun j d hj hl=> ?_,fun _ _=>rfl,fun _ _=>rfl⟩
 ·
  rw[show n+(l.length -n)=l.toArray.size by simp;omega]at this
  exact this
 ·
  have:j∈fs:=by simpa using hf
  simp[show j<l.length by omega,this]
 ·
  simp[show j<l.length by omega]at hl
end
open Go.RowKit
abbrev Env:=List (Nat×Value)
theorem DD{a b:Nat}(h: ¬a=b):Nat.beq a b=false:=by
 cases hb:Nat.beq a b with
 |false=>rfl
 |true=>exact absurd (Nat.eq_of_beq_eq_true hb) h
def look:Env→Nat→Option Value
 |[],_=>none
 |(k,v)::r,d=>match Nat.beq k d with
  |true=>some v
  |false=>look r d
structure cB where
 n:Nat
 ds:List Nat
 ro:Option Nat
structure da(N:cB)(env:Env)(a:Act):Prop where
 size:a.tmps.size=N.n
 get: ∀d v,look env d=some v→a.tmps[d]? =some v
 defers:a.defers=N.ds.map mark
def ev(env:Env):Operand→Option Value
 | .tmp t=>look env t
 | .const v=>some v
 | .global g=>some (.pointer (some ⟨g,0,none⟩))
 | .func f=>some (.func (.func f) #[] #[])
theorem da.ev{N:cB}{env:Env}{a:Act}(h:da N env a){x:Operand}{v:Value}(e:ev env x=some v):a.eval x=v:=by
 match x,e with
 | .tmp t,e=>
  have:=h.get t v e
  simp[Act.eval,this]
 | .const u,e=>simpa[ay.ev,Act.eval]using e
 | .global g,e=>simpa[ay.ev,Act.eval]using e
 | .func f,e=>simpa[ay.ev,Act.eval]using e
def g6(env:Env):List Operand→Option (List Value)
 |[]=>some []
 |x::r=>match ev env x,g6 env r with
  |some v,some vs=>some (v::vs)
  |_,_=>none
theorem da.g6{N:cB}{env:Env}{a:Act}(h:da N env a): ∀{xs:List Operand} {vs:List Value},g6 env xs=some vs→xs.map a.eval=vs
 |[],vs,e=>by simp[ay.g6]at e;simp[e]
 |x::r,vs,e=>by
  unfold ay.g6 at e
  split at e
  ·
   rename_i v Pt hv vJ
   simp only[Option.some.injEq]at e
   subst e
   simp[h.ev hv,h.g6 vJ]
  ·
   simp at e
theorem gP{env:Env}:g6 env []=some []:=rfl
theorem dP{env:Env}{x:Operand}{r:List Operand}{v:Value}{vs:List Value}(h:ev env x=some v)(h':g6 env r=some vs):g6 env (x::r)=some (v::vs):=by
 simp[g6,h,h']
def cw(env:Env):Option Tmp→Value→Env
 |some d,v=>(d,v)::env
 |none,_=>env
def dj(N:cB):Option Tmp→Bool
 |some d=>Nat.ble (d+1) N.n
 |none=>true
theorem da.put{N:cB}{env:Env}{a:Act}(h:da N env a){dst:Option Tmp}(hd:dj N dst=true)(v:Value):da N (cw env dst v) (a.put dst v):=by
 cases dst with
 |none=>exact h
 |some d=>
  have bt:d<N.n:=Nat.le_of_ble_eq_true hd
  refine⟨by simp[Act.put,h.size],fun d' v' hv=> ?_,h.defers⟩
  simp only[cw,look]at hv
  simp only[Act.put,Array.getElem?_setIfInBounds]
  by_cases he:d=d'
  ·
   subst he
   simp at hv
   simp[hv,h.size,bt]
  ·
   have:Nat.beq d d'=false:=DD he
   rw[this]at hv
   rw[if_neg he]
   exact h.get d' v' hv
def Sub(Ap env:Env):Prop:= ∀d v,look Ap d=some v→look env d=some v
theorem Sub.nil(env:Env):Sub [] env:=fun _ _ h=>by simp[look]at h
theorem Sub.cons{r env:Env}{d:Nat}{v:Value}(hv:look env d=some v)(h:Sub r env):Sub ((d,v)::r) env:=fun d' v' h'=>by
 simp only[look]at h'
 by_cases he:d=d'
 ·
  subst he;simp at h';rw[←h'];exact hv
 ·
  have:Nat.beq d d'=false:=DD he
  rw[this]at h';exact h d' v' h'
theorem da.sub{N:cB}{env Ap:Env}{a:Act}(h:da N env a)(s:Sub Ap env):da N Ap a:=⟨h.size,fun d v e=>h.get d v (s d v e),h.defers⟩
theorem da.enter(args:List Value)(N:Nat)(h:args.length≤N):da ⟨N,[],none⟩ (args.zipIdx.map fun p=>(p.2,p.1)) {tmps:=args.toArray++Array.replicate (N -args.toArray.size) undef,defers:=[]}:=by
 refine⟨by simp;omega,fun d v e=> ?_,rfl⟩
 have key: ∀(l:List Value) (k:Nat),look ((l.zipIdx k).map fun p=>(p.2,p.1)) d=some v→k≤d∧l[d -k]? =some v:=by
  intro l
  induction l with
  |nil=>intro k h;simp[look]at h
  |cons x r ih=>
   intro k h
   simp only[List.zipIdx_cons,List.map_cons,look]at h
   by_cases he:k=d
   ·
    subst he;simp at h;simp[h]
   ·
    have:Nat.beq k d=false:=DD he
    rw[this]at h
    obtain⟨h1,h2⟩:=ih (k+1) h
    refine⟨by omega,?_⟩
    rw[show d -k=(d -(k+1))+1 by omega,List.getElem?_cons_succ];exact h2
 have hh:=(key args 0 e).2
 rw[Nat.sub_zero]at hh
 have bt:d<args.length:=by
  rcases Nat.lt_or_ge d args.length with h'|h'
  ·
   exact h'
  ·
   simp[List.getElem?_eq_none h']at hh
 rw[Array.getElem?_append_left (by simpa using bt)]
 simpa using hh
section
variable {P:Program} {N:cB} {w0:World} {env:Env} {L:List aj} {d:Option Tmp} {ty:TypeId} {ps:String} {af:Array Edge} {gd:Option (Nat×Bool)}
def Ry(P:Program)(N:cB)(w0:World)(env:Env)(L:List aj)(o:Oper)(v:Value):Prop:=
 ∀a w,da N env a→Mem w0 L w→(execOp a.eval o).run P w= .ok (.value v) w
def Yl(P:Program)(N:cB)(w0:World)(env:Env)(L:List aj)(o:Oper)(v:Value):Prop:=
 ∀a,da N env a→rn P o a (Mem w0 L) v
theorem Ry.yl{o:Oper}{v:Value}(h:Ry P N w0 env L o v):Yl P N w0 env L o v:=fun a ha w hw=>by
 unfold Oper.quietAt;rw[h a w ha hw];exact⟨rfl,rfl⟩
theorem aF{x:Operand}{v:Value}(hx:ev env x=some v):Ry P N w0 env L ⟨d, .move x,ty,ps,af,gd⟩ v:=fun a w ha _=>by
 simp only[execOp,ha.ev hx,Sem.run_pure]
theorem bn{x:Operand}{v:Value}(hx:ev env x=some v):Ry P N w0 env L ⟨d, .assign x,ty,ps,af,gd⟩ v:=fun a w ha _=>by
 simp only[execOp,ha.ev hx,Sem.run_pure]
theorem DE{c x y:Operand}{g:Bool}{vx vy:Value}(hc:ev env c=some (.bool g))(hx:ev env x=some vx)(hy:ev env y=some vy):
  Ry P N w0 env L ⟨d, .pick c x y,ty,ps,af,gd⟩ (if g=true then vx else vy):=fun a w ha _=>by
 simp only[execOp,ha.ev hx,ha.ev hc,ha.ev hy,Sem.run_bind,Sem.run_pure,asBool,Result.andThen]
theorem yb{c x y:Operand}{g b:Bool}(hc:ev env c=some (.bool g))(hx:ev env x=some (if g=true then .bool b else undef))(hy:ev env y=some (.bool false)):
  Ry P N w0 env L ⟨d, .pick c x y,ty,ps,af,gd⟩ (.bool (g&&b)):=by
 have h:=DE (P:=P) (N:=N) (w0:=w0) (L:=L) (d:=d) (ty:=ty) (ps:=ps) (af:=af) (gd:=gd) hc hx hy
 cases g<;>simpa using h
theorem mf{c x y:Operand}{g b:Bool}(hc:ev env c=some (.bool g))(hx:ev env x=some (.bool true))(hy:ev env y=some (if(!g)=true then .bool b else undef)):
  Ry P N w0 env L ⟨d, .pick c x y,ty,ps,af,gd⟩ (.bool (g||b)):=by
 have h:=DE (P:=P) (N:=N) (w0:=w0) (L:=L) (d:=d) (ty:=ty) (ps:=ps) (af:=af) (gd:=gd) hc hx hy
 cases g<;>simpa using h
theorem iu{x:Operand}{g:Bool}{t:TypeId}(hx:ev env x=some (.bool g)):Ry P N w0 env L ⟨d, .unOp .not t x,ty,ps,af,gd⟩ (.bool (!g)):=fun a w ha _=>by
 simp only[execOp,ha.ev hx,Op.unary,Sem.run_bind,Sem.run_pure,Result.andThen]
theorem aV{x:Operand}{vs:Array Value}{i:Nat}{v:Value}(hx:ev env x=some (.tuple vs))(hv:vs[i]? =some v):Ry P N w0 env L ⟨d, .extract x i,ty,ps,af,gd⟩ v:=fun a w ha _=>by
 simp only[execOp,ha.ev hx,Instr.extract,hv,Sem.run_bind,Sem.run_pure,Result.andThen]
def kY(op:BinOp)(k:IntKind)(a b:Int):Option Value:=
 match op with
 | .add=>some (.int k (k.wrap (a+b)))
 | .sub=>some (.int k (k.wrap (a -b)))
 | .mul=>some (.int k (k.wrap (a*b)))
 | .quo=>if b=0 then none else some (.int k (k.wrap (a.tdiv b)))
 | .rem=>if b=0 then none else some (.int k (a.tmod b))
 | .and=>some (.int k (k.wrap (BitVec.ofInt k.bits a&&&BitVec.ofInt k.bits b).toNat))
 | .or=>some (.int k (k.wrap (BitVec.ofInt k.bits a|||BitVec.ofInt k.bits b).toNat))
 | .xor=>some (.int k (k.wrap (BitVec.ofInt k.bits a^^^BitVec.ofInt k.bits b).toNat))
 | .andNot=>some (.int k (k.wrap (BitVec.ofInt k.bits a&&& ~~~BitVec.ofInt k.bits b).toNat))
 | .eql=>some (.bool (decide (a=b)))
 | .neq=>some (.bool (!decide (a=b)))
 | .lss=>some (.bool (decide (a<b)))
 | .leq=>some (.bool (decide (a≤b)))
 | .gtr=>some (.bool (decide (b<a)))
 | .geq=>some (.bool (decide (b≤a)))
 |_=>none
theorem DF(op:BinOp)(t:TypeId)(x y:Operand)(k k':IntKind)(a b:Int)(w:World):(eqGuard op t x y (.int k a) (.int k' b)).run P w= .ok () w:=by
 cases op<;>rfl
theorem Pu{op:BinOp}{k:IntKind}{a b:Int}{v:Value}(t:TypeId)(h:kY op k a b=some v)(w:World):(binOp op t (.int k a) (.int k b)).run P w= .ok v w:=by
 cases op<;>simp only[kY,Option.some.injEq,reduceCtorEq]at h<;>(try split at h)<;>(try simp only[Option.some.injEq,reduceCtorEq]at h)<;>(try subst h)<;>
  simp_all[binOp,Op.intArith,Op.intDiv,Op.intBits,Op.intCmp]<;>rfl
theorem cz{op:BinOp}{k:IntKind}{x y:Operand}{a b:Int}{v:Value}{t u:TypeId}(hx:ev env x=some (.int k a))(hy:ev env y=some (.int k b))(h:kY op k a b=some v):
  Ry P N w0 env L ⟨d, .binOp op t x y u,ty,ps,af,gd⟩ v:=fun a w ha _=>by
 simp only[execOp,ha.ev hx,ha.ev hy,Sem.run_bind,DF,Pu t h,Sem.run_pure,Result.andThen]
end
def vK:TypeDesc→Bool
 | .struct _| .array _ _=>true
 |_=>false
class gv(P:Program)(t:TypeId)(n:outParam Nat):Prop where
 row: ∃d,P.underlying t=some d∧vK d=true
 size:(P.info? t).map (·.size)=some n
class gQ(P:Program)(t:TypeId):Prop where
 one: ∃d,P.underlying t=some d∧vK d=false
 size:(P.info? t).map (·.size)=some 1
class dH(P:Program)(s:TypeId)(i:Nat)(off:outParam Nat):Prop where
 Pv: ∃fs f m,P.underlying s=some (.struct fs)∧fs[i]? =some f∧f.offset=off∧(P.info? f.type).map (·.size)=some (m+1)
class tZ(P:Program)(t:TypeId)(n m:outParam Nat):Prop where
 arr: ∃e,P.underlying t=some (.array n e)∧(P.info? e).map (·.size)=some m
class eW(P:Program)(t:TypeId)(e:outParam TypeId)(m:outParam Nat):Prop where
 et:P.underlying t=some (.slice e)
 size:(P.info? e).map (·.size)=some m
class lI(P:Program)(t:TypeId)(k:outParam IntKind):Prop where
 et:P.underlying t=some (.int k)
class fh(P:Program)(t:TypeId)(v:outParam Value):Prop where
 zero:(P.info? t).map (·.zero)=some (some v)
class aR(P:Program)(f:FuncId):Prop where
 fn: ∃fn,P.funcs[f]? =some fn∧fn.body.isNone=false∧(fn.name== "runtime.NumGoroutine")=false
class Has(L:List aj)(b:Nat)(cs:outParam (Array Value))(T:outParam TypeId)(i:outParam Nat):Prop where
 h:L[i]? =some (ar b cs T)
instance (priority:=high) Has.here {L:List aj}{b:Nat}{cs:Array Value}{T:TypeId}:Has (ar b cs T::L) b cs T 0:=⟨rfl⟩
instance Has.there{L:List aj}{e:aj}{b:Nat}{cs:Array Value}{T:TypeId}{i:Nat}[q:Has L b cs T i]:Has (e::L) b cs T (i+1):=⟨by simpa using q.h⟩
class fw(L:List aj)(i:Nat)(e:aj)(L':outParam (List aj)):Prop where
 h:L.set i e=L'
instance fw.here{L:List aj}{x e:aj}:fw (x::L) 0 e (e::L):=⟨rfl⟩
instance fw.there{L L':List aj}{x e:aj}{i:Nat}[q:fw L i e L']:fw (x::L) (i+1) e (x::L'):=⟨by simp[q.h]⟩
class cn(cs:Array Value)(o:Nat)(v:outParam Value):Prop where
 h:cs[o]? =some v
class nQ(cs:Array Value)(o n:Nat)(sub:outParam (Array Value)):Prop where
 size:sub.size=n
 h: ∀j,j<n→cs[o+j]? =sub[j]?
class fZ(cs:Array Value)(n:outParam Nat):Prop where
 h:cs.size=n
 one:cs.all (·.oneCell')=true
class oE(P:Program)(f:FuncId)(vs:List Value)(v:outParam Value):Prop where
 h: ∀w,Calls P f vs.toArray w fun e w'=>e= .returned v∧Mem w [] w'
class vL(P:Program)(t:TypeId)(x y:Value)(r:outParam Bool):Prop where
 h: ∀w,(Op.equalIn 10000 t x y).run P w= .ok r w
 plain:P.eqGuardType P.depth t=false
 agg: ∃xs ys,x= .agg xs∧y= .agg ys
section
variable {P:Program} (w:World)
theorem H2{t:TypeId}{i:TypeInfo}(h:P.info? t=some i):(typeInfo t).run P w= .ok i w:=by
 simp[typeInfo,h]
theorem kF{t:TypeId}{n:Nat}(h:(P.info? t).map (·.size)=some n):(sizeOf t).run P w= .ok n w:=by
 cases hi:P.info? t with
 |none=>simp[hi]at h
 |some i=>simp[hi]at h;simp[sizeOf,H2 w hi,h]
theorem Aq{t:TypeId}{v:Value}(h:fh P t v):(zeroValue t).run P w= .ok v w:=by
 have h:=h.zero
 cases hi:P.info? t with
 |none=>simp[hi]at h
 |some i=>simp[hi]at h;simp[zeroValue,H2 w hi,h]
theorem Ar{t:TypeId}{d:TypeDesc}(h:P.underlying t=some d):(isAgg t).run P w= .ok (vK d) w:=by
 cases d<;>simp[isAgg,run_underlying h,vK]
theorem Pw{t:TypeId}(h:gQ P t){a:Addr}{v:Value}(hc:w.cell? a=some v):(loadVar t a).run P w= .ok v w:=by
 obtain⟨d,hu,hd⟩:=h.one
 simp[loadVar,Ar w hu,hd,hc]
theorem DG{t:TypeId}{n:Nat}(h:gv P t n){a:Addr}{cs:Array Value}(hn:cs.size=n)(hc: ∀j,j<n→w.cell? (a.add j)=cs[j]?):(loadVar t a).run P w= .ok (.agg cs) w:=by
 obtain⟨d,hu,hd⟩:=h.row
 have hl:(loadCells a n).run P w= .ok cs w:=by
  have:=run_loadCells_list (P:=P) w a cs.toList (fun j v hv=>by
   have hj:j<n:=by
    have:=(List.getElem?_eq_some_iff.1 hv).1
    simpa[hn]using this
   rw[hc j hj];simpa using hv)
  simpa[hn]using this
 simp[loadVar,Ar w hu,hd,kF w h.size,hl]
end
section
variable {P:Program} {N:cB} {w0:World} {env:Env} {L:List aj} {d:Option Tmp} {ty:TypeId} {ps:String} {af:Array Edge} {gd:Option (Nat×Bool)}
theorem Addr.gw(b o j:Nat):(⟨b,o,none⟩:Addr).add j=⟨b,o+j,none⟩:=by
 unfold Addr.add;split<;>simp_all
theorem vM{t:TypeId}{x:Operand}{p:Addr}{v:Value}(ht:gQ P t)(hx:ev env x=some (.pointer (some p)))(hc: ∀w,Mem w0 L w→w.cell? p=some v):
  Ry P N w0 env L ⟨d, .load t x,ty,ps,af,gd⟩ v:=fun a w ha hw=>by
 simp only[execOp,ha.ev hx,Instr.loadAt,Instr.sureAddr,Sem.run_bind,Sem.run_pure,Result.andThen,Pw w ht (hc w hw)]
theorem yc{t:TypeId}{x:Operand}{p:Addr}{n:Nat}{cs:Array Value}(ht:gv P t n)(hx:ev env x=some (.pointer (some p)))(hn:cs.size=n)(hc: ∀w,Mem w0 L w→ ∀j,j<n→w.cell? (p.add j)=cs[j]?):
  Ry P N w0 env L ⟨d, .load t x,ty,ps,af,gd⟩ (.agg cs):=fun a w ha hw=>by
 simp only[execOp,ha.ev hx,Instr.loadAt,Instr.sureAddr,Sem.run_bind,Sem.run_pure,Result.andThen,DG w ht hn (hc w hw)]
theorem H3{t:TypeId}{x:Operand}{i b o:Nat}{cs:Array Value}{T:TypeId}{v:Value}(hx:ev env x=some (.pointer (some ⟨b,o,none⟩)))[ht:gQ P t][hi:Has L b cs T i](hc:cs[o]? =some v):
  Ry P N w0 env L ⟨d, .load t x,ty,ps,af,gd⟩ v:=vM ht hx fun w hw=>by rw[hw.cell hi.h];exact hc
theorem bI{t:TypeId}{x:Operand}{i b o:Nat}{cs:Array Value}{T:TypeId}{v:Value}(hx:ev env x=some (.pointer (some ⟨b,o,none⟩)))[ht:gQ P t][hi:Has L b cs T i][hc:cn cs o v]:
  Ry P N w0 env L ⟨d, .load t x,ty,ps,af,gd⟩ v:=H3 hx hc.h
theorem fN{t:TypeId}{x:Operand}{i b n:Nat}{cs:Array Value}{T:TypeId}(hx:ev env x=some (.pointer (some ⟨b,0,none⟩)))[ht:gv P t n][hi:Has L b cs T i][hn:fZ cs n]:
  Ry P N w0 env L ⟨d, .load t x,ty,ps,af,gd⟩ (.agg cs):=yc ht hx hn.h fun w hw j _=>by rw[Addr.gw,hw.cell hi.h,Nat.zero_add]
theorem jj{t:TypeId}{x:Operand}{i b o n:Nat}{cs sub:Array Value}{T:TypeId}(hx:ev env x=some (.pointer (some ⟨b,o,none⟩)))[ht:gv P t n][hi:Has L b cs T i][hs:nQ cs o n sub]:
  Ry P N w0 env L ⟨d, .load t x,ty,ps,af,gd⟩ (.agg sub):=yc ht hx hs.size fun w hw j hj=>by rw[Addr.gw,hw.cell hi.h];exact hs.h j hj
theorem aH{s:TypeId}{x:Operand}{fi off b o o':Nat}[hf:dH P s fi off](hx:ev env x=some (.pointer (some ⟨b,o,none⟩)))(ho:Nat.add o off=o'):
  Ry P N w0 env L ⟨d, .fieldAddr s x fi,ty,ps,af,gd⟩ (.pointer (some ⟨b,o',none⟩)):=fun a w ha _=>by
 obtain⟨fs,f,m,hu,ji,oD,fv⟩:=hf.Pv
 subst ho oD
 simp only[execOp,ha.ev hx,Instr.fieldAt,Sem.run_bind,run_underlying hu,Result.andThen,ji,Instr.sureAddr,Sem.run_pure,fieldPlace,kF w fv,Nat.succ_ne_zero,if_false,Addr.gw,Nat.add_eq]
theorem Px{t:TypeId}{x ix:Operand}{n m b o:Nat}{k:IntKind}{j:Int}[ht:tZ P t n m](hx:ev env x=some (.pointer (some ⟨b,o,none⟩)))(hj:ev env ix=some (.int k j))(h0:0≤j)(h1:j<n):
  Ry P N w0 env L ⟨d, .indexAddr t x ix,ty,ps,af,gd⟩ (.pointer (some ⟨b,o+j.toNat*m,none⟩)):=fun a w ha _=>by
 obtain⟨e,hu,fv⟩:=ht.arr
 simp only[execOp,ha.ev hx,ha.ev hj,Instr.indexAt,asIntOf,Sem.run_bind,run_underlying hu,Result.andThen,Instr.sureAddr,Sem.run_pure,kF w fv,h0,h1,and_self,if_true,Addr.gw]
theorem ru{t:TypeId}{x ix:Operand}{n b:Nat}{k:IntKind}{j:Int}[ht:tZ P t n 1](hx:ev env x=some (.pointer (some ⟨b,0,none⟩)))(hj:ev env ix=some (.int k j))(h0:0≤j)(h1:j<n):
  Ry P N w0 env L ⟨d, .indexAddr t x ix,ty,ps,af,gd⟩ (.pointer (some ⟨b,j.toNat,none⟩)):=by
 have:=Px (P:=P) (t:=t) (N:=N) (w0:=w0) (L:=L) (d:=d) (ty:=ty) (ps:=ps) (af:=af) (gd:=gd) hx hj h0 h1
 simpa using this
theorem H4{t e:TypeId}{x ix:Operand}{m b o len cap:Nat}{k:IntKind}{j:Int}[ht:eW P t e m](hx:ev env x=some (.slice (some ⟨b,o,none⟩) len cap))(hj:ev env ix=some (.int k j))(h0:0≤j)(h1:j<len):
  Ry P N w0 env L ⟨d, .indexAddr t x ix,ty,ps,af,gd⟩ (.pointer (some ⟨b,o+j.toNat*m,none⟩)):=fun a w ha _=>by
 simp only[execOp,ha.ev hx,ha.ev hj,Instr.indexAt,asIntOf,Sem.run_bind,run_underlying ht.et,Result.andThen,Sem.run_pure,kF w ht.size,h0,h1,and_self,if_true,Addr.gw]
theorem rv{s t:TypeId}{x:Operand}{k k':IntKind}{n m:Int}[hs:lI P s k'][ht:lI P t k](hx:ev env x=some (.int k' n))(hm:k.wrap n=m):
  Ry P N w0 env L ⟨d, .convert s t x,ty,ps,af,gd⟩ (.int k m):=fun a w ha _=>by
 subst hm
 simp only[execOp,ha.ev hx,convert,Sem.run_bind,run_underlying hs.et,run_underlying ht.et,Result.andThen,Conv.intToInt,Sem.run_pure]
theorem ua{t e:TypeId}{x:Operand}{m len cap:Nat}{p:Option Addr}[ht:eW P t e m](hx:ev env x=some (.slice p len cap)):
  Ry P N w0 env L ⟨d, .call {callee:= .builtin .len,args:= #[x],argTypes:= #[t]},ty,ps,af,gd⟩ (.int .i64 len):=fun a w ha _=>by
 simp[execOp,ha.ev hx,resolve,invoke,builtin,Builtin.len_,run_underlying ht.et,goInt,Result.andThen]
theorem As{f:FuncId}(hf:aR P f){ρ:Operand→Value}{xs:List Operand}{ts:Array TypeId}(w:World)(Py:ρ (.func f)= .func (.func f) #[] #[]):
  (execOp ρ ⟨d, .call {callee:= .value (.func f),args:=xs.toArray,argTypes:=ts},ty,ps,af,gd⟩).run P w= .ok (.enter f (xs.map ρ).toArray) w:=by
 obtain⟨fn,h1,h2,h3⟩:=hf.fn
 have DH: ¬fn.body=none:=fun e=>by simp[e]at h2
 have vN: ¬fn.name= "runtime.NumGoroutine" :=by simpa using h3
 simp[execOp,resolve,Py,Deferred.ofValue,invoke,callFunc,h1,DH,vN,Result.andThen]
theorem Au{f:FuncId}{xs:List Operand}{ts:Array TypeId}{vs:List Value}{v:Value}[hf:aR P f](hx:g6 env xs=some vs)
  (hc: ∀w,Mem w0 L w→Calls P f vs.toArray w fun e w'=>e= .returned v∧Mem w [] w'):
  Yl P N w0 env L ⟨d, .call {callee:= .value (.func f),args:=xs.toArray,argTypes:=ts},ty,ps,af,gd⟩ v:=fun a ha w hw=>by
 unfold Oper.quietAt
 rw[As hf w rfl,ha.g6 hx]
 exact⟨rfl,hc w hw⟩
theorem vO{f:FuncId}{xs:List Operand}{ts:Array TypeId}{vs:List Value}{v:Value}[hf:aR P f](hx:g6 env xs=some vs)[hc:oE P f vs v]:
  Yl P N w0 env L ⟨d, .call {callee:= .value (.func f),args:=xs.toArray,argTypes:=ts},ty,ps,af,gd⟩ v:=Au hx fun w _=>hc.h w
theorem H5{op:BinOp}{t:TypeId}(hm:P.eqGuardType P.depth t=false)(x y:Operand)(xs ys:Array Value)(w:World):(eqGuard op t x y (.agg xs) (.agg ys)).run P w= .ok () w:=run_eqGuard_agg w op t x y xs ys hm
theorem H6{x y:Operand}{t u:TypeId}{vx vy:Value}{r:Bool}(hx:ev env x=some vx)(hy:ev env y=some vy)[h:vL P t vx vy r]:
  Ry P N w0 env L ⟨d, .binOp .eql t x y u,ty,ps,af,gd⟩ (.bool r):=fun a w ha _=>by
 obtain⟨xs,ys,e1,e2⟩:=h.agg
 subst e1 e2
 simp only[execOp,ha.ev hx,ha.ev hy,Sem.run_bind,H5 h.plain,Result.andThen,run_eql_struct,h.h,Sem.run_pure]
theorem H7{x y:Operand}{t u:TypeId}{vx vy:Value}{r:Bool}(hx:ev env x=some vx)(hy:ev env y=some vy)[h:vL P t vx vy r]:
  Ry P N w0 env L ⟨d, .binOp .neq t x y u,ty,ps,af,gd⟩ (.bool (!r)):=fun a w ha _=>by
 obtain⟨xs,ys,e1,e2⟩:=h.agg
 subst e1 e2
 simp only[execOp,ha.ev hx,ha.ev hy,Sem.run_bind,H5 h.plain,Result.andThen,run_neq_struct,h.h,Sem.run_pure]
theorem Pz{x y:Operand}{t u:TypeId}{a b:Bool}(hx:ev env x=some (.bool a))(hy:ev env y=some (.bool b))(ht:P.underlying t=some .bool):
  Ry P N w0 env L ⟨d, .binOp .eql t x y u,ty,ps,af,gd⟩ (.bool (a==b)):=fun aa w ha _=>by
 have h1:(Op.equal t (.bool a) (.bool b)).run P w= .ok (a==b) w:=run_equalIn_bool' w 9999 t a b ht
 have h2:(eqGuard BinOp.eql t x y (.bool a) (.bool b)).run P w= .ok () w:=rfl
 simp only[execOp,ha.ev hx,ha.ev hy,Sem.run_bind,h2,Result.andThen_ok,binOp,h1,Sem.run_pure]
theorem PA{x y:Operand}{t u:TypeId}{a b:Bool}(hx:ev env x=some (.bool a))(hy:ev env y=some (.bool b))(ht:P.underlying t=some .bool):
  Ry P N w0 env L ⟨d, .binOp .neq t x y u,ty,ps,af,gd⟩ (.bool (!(a==b))):=fun aa w ha _=>by
 have h1:(Op.equal t (.bool a) (.bool b)).run P w= .ok (a==b) w:=run_equalIn_bool' w 9999 t a b ht
 have h2:(eqGuard BinOp.neq t x y (.bool a) (.bool b)).run P w= .ok () w:=rfl
 simp only[execOp,ha.ev hx,ha.ev hy,Sem.run_bind,h2,Result.andThen_ok,binOp,h1,Sem.run_pure]
theorem wrap64_in{n:Int}(h: -9223372036854775808≤n∧n≤9223372036854775807):IntKind.i64.wrap n=n:=IntWalk.i64_in n h
theorem pE{x y:Operand}{a b:Int}{t u:TypeId}(hx:ev env x=some (.int .i64 a))(hy:ev env y=some (.int .i64 b))(h: -9223372036854775808≤a+b∧a+b≤9223372036854775807):
  Ry P N w0 env L ⟨d, .binOp .add t x y u,ty,ps,af,gd⟩ (.int .i64 (a+b)):=cz hx hy (by rw[kY,wrap64_in h])
theorem yd{x y:Operand}{a b:Int}{t u:TypeId}(hx:ev env x=some (.int .i64 a))(hy:ev env y=some (.int .i64 b))(h: -9223372036854775808≤a -b∧a -b≤9223372036854775807):
  Ry P N w0 env L ⟨d, .binOp .sub t x y u,ty,ps,af,gd⟩ (.int .i64 (a -b)):=cz hx hy (by rw[kY,wrap64_in h])
theorem ub{x y:Operand}{a b:Int}{t u:TypeId}(hx:ev env x=some (.int .i64 a))(hy:ev env y=some (.int .i64 b))(h: -9223372036854775808≤a*b∧a*b≤9223372036854775807):
  Ry P N w0 env L ⟨d, .binOp .mul t x y u,ty,ps,af,gd⟩ (.int .i64 (a*b)):=cz hx hy (by rw[kY,wrap64_in h])
theorem nR{x y:Operand}{a b:Int}{t u:TypeId}(hx:ev env x=some (.int .i64 a))(hy:ev env y=some (.int .i64 b))(h:0≤a∧a≤9223372036854775807)(hb:0<b):
  Ry P N w0 env L ⟨d, .binOp .quo t x y u,ty,ps,af,gd⟩ (.int .i64 (a/b)):=cz hx hy (by
 have h2:a/b≤a:=Int.ediv_le_self _ h.1
 have h3:0≤a/b:=Int.ediv_nonneg h.1 (by omega)
 rw[kY,if_neg (by omega),Int.tdiv_eq_ediv_of_nonneg h.1,wrap64_in (by omega)])
theorem ye{x y:Operand}{a b:Int}{k:IntKind}{t u:TypeId}(hx:ev env x=some (.int k a))(hy:ev env y=some (.int k b))(h:0≤a)(hb:0<b):
  Ry P N w0 env L ⟨d, .binOp .rem t x y u,ty,ps,af,gd⟩ (.int k (a%b)):=cz hx hy (by
 rw[kY,if_neg (by omega),Int.tmod_eq_emod_of_nonneg h])
def kG(env:Env):List (Nat×Operand)→Option (List (Nat×Value))
 |[]=>some []
 |(i,x)::r=>match ev env x,kG env r with
  |some v,some vs=>some ((i,v)::vs)
  |_,_=>none
theorem H8:kG env []=some []:=rfl
theorem yf{i:Nat}{x:Operand}{r:List (Nat×Operand)}{v:Value}{vs:List (Nat×Value)}(h:ev env x=some v)(h':kG env r=some vs):kG env ((i,x)::r)=some ((i,v)::vs):=by
 simp[kG,h,h']
theorem da.kG{a:Act}(h:da N env a): ∀{xs:List (Nat×Operand)} {vs:List (Nat×Value)},kG env xs=some vs→(xs.map fun p=>(p.1,a.eval p.2))=vs
 |[],vs,e=>by simp[ay.kG]at e;simp[e]
 |(i,x)::r,vs,e=>by
  unfold ay.kG at e
  split at e
  ·
   rename_i v Pt hv vJ
   simp only[Option.some.injEq]at e
   subst e
   simp[h.ev hv,h.kG vJ]
  ·
   simp at e
class yg(P:Program)(t:TypeId)(vs:List (Nat×Value))(v:outParam Value):Prop where
 h: ∀w,(Instr.build t vs.toArray).run P w= .ok v w
theorem cU{t:TypeId}{xs:List (Nat×Operand)}{vs:List (Nat×Value)}{v:Value}(hx:kG env xs=some vs)(hb: ∀w,(Instr.build t vs.toArray).run P w= .ok v w):
  Ry P N w0 env L ⟨d, .build t xs.toArray,ty,ps,af,gd⟩ v:=fun a w ha _=>by
 have e:(xs.toArray.map fun(p:Nat×Operand)=>match p with|(i,x)=>(i,a.eval x))=vs.toArray:=by
  rw[←ha.kG hx];simp
 simp only[execOp,e,Sem.run_bind,hb w,Result.andThen,Sem.run_pure]
theorem sA{t:TypeId}{xs:List (Nat×Operand)}{vs:List (Nat×Value)}{v:Value}(hx:kG env xs=some vs)[hb:yg P t vs v]:
  Ry P N w0 env L ⟨d, .build t xs.toArray,ty,ps,af,gd⟩ v:=cU hx hb.h
theorem H9{k:IntKind}{i:Int}{y:Nat}(h0:0≤i)(h1:i≤y)(c:BoundsCode)(w:World):(Instr.sliceBound (.int k i) y c).run P w= .ok i.toNat w:=by
 simp[Instr.sliceBound,asIntOf,h0,h1]
theorem Ia{t:TypeId}{x hi:Operand}{n m b o:Nat}{k:IntKind}{h:Int}[ht:tZ P t n m](hx:ev env x=some (.pointer (some ⟨b,o,none⟩)))(hh:ev env hi=some (.int k h))(h0:0≤h)(h1:h≤n):
  Ry P N w0 env L ⟨d, .slice t x none (some hi) none,ty,ps,af,gd⟩ (.slice (some ⟨b,o,none⟩) h.toNat n):=fun a w ha _=>by
 obtain⟨e,hu,fv⟩:=ht.arr
 have e0:(⟨b,o,none⟩:Addr).add 0=⟨b,o,none⟩:=rfl
 simp[execOp,ha.ev hx,ha.ev hh,Instr.sliceAt,run_underlying hu,Instr.sureAddr,Instr.sliceBounds,H9 h0 h1,kF w fv,Result.andThen,e0]
theorem uc{t:TypeId}{x:Operand}{n m b o:Nat}[ht:tZ P t n m](hx:ev env x=some (.pointer (some ⟨b,o,none⟩))):
  Ry P N w0 env L ⟨d, .slice t x none none none,ty,ps,af,gd⟩ (.slice (some ⟨b,o,none⟩) n n):=fun a w ha _=>by
 obtain⟨e,hu,fv⟩:=ht.arr
 have e0:(⟨b,o,none⟩:Addr).add 0=⟨b,o,none⟩:=rfl
 simp[execOp,ha.ev hx,Instr.sliceAt,run_underlying hu,Instr.sureAddr,Instr.sliceBounds,kF w fv,Result.andThen,e0]
theorem Ib{t:TypeId}{x lo:Operand}{n m b o:Nat}{k:IntKind}{l:Int}[ht:tZ P t n m](hx:ev env x=some (.pointer (some ⟨b,o,none⟩)))(hl:ev env lo=some (.int k l))(h0:0≤l)(h1:l<n):
  Ry P N w0 env L ⟨d, .slice t x (some lo) none none,ty,ps,af,gd⟩ (.slice (some ⟨b,o+l.toNat*m,none⟩) (n -l.toNat) (n -l.toNat)):=fun a w ha _=>by
 obtain⟨e,hu,fv⟩:=ht.arr
 have e0:(if n=l.toNat then(⟨b,o,none⟩:Addr)else(⟨b,o,none⟩:Addr).add (l.toNat*m))=⟨b,o+l.toNat*m,none⟩:=by rw[if_neg (by omega),Addr.gw]
 simp[execOp,ha.ev hx,ha.ev hl,Instr.sliceAt,run_underlying hu,Instr.sureAddr,Instr.sliceBounds,H9 h0 (Int.le_of_lt h1),kF w fv,Result.andThen,e0]
def nb:IntKind→Nat
 | .i8=>7| .i16=>15| .i32=>31| .i64=>63| .u8=>8| .u16=>16| .u32=>32| .u64=>64
theorem PB(k:IntKind):nb k≤k.bits:=by cases k<;>decide
theorem oF{k:IntKind}{n:Nat}(h:n<2^nb k):k.wrap (n:Int)=n:=by
 cases k<;>simp[IntKind.wrap,IntKind.bits,IntKind.signed,nb]at* <;>omega
theorem vP(b n:Nat):BitVec.ofInt b (n:Int)=BitVec.ofNat b n:=by
 apply BitVec.eq_of_toNat_eq;simp
theorem oG{k:IntKind}{n:Nat}(h:n<2^nb k):n<2^k.bits:=Nat.lt_of_lt_of_le h (Nat.pow_le_pow_right (by decide) (PB k))
variable {x y:Operand} {k k':IntKind} {p q:Nat} {t u:TypeId}
theorem PC{a b:Int}(hx:ev env x=some (.int k a))(hy:ev env y=some (.int k b))(ea:a=p)(eb:b=q)(hp:p<2^nb k)(hq:q<2^nb k):
  Ry P N w0 env L ⟨d, .binOp .and t x y u,ty,ps,af,gd⟩ (.int k ((p&&&q:Nat):Int)):=cz hx hy (by
 subst ea eb
 simp only[kY,vP,BitVec.toNat_and,BitVec.toNat_ofNat,Nat.mod_eq_of_lt (oG hp),Nat.mod_eq_of_lt (oG hq)]
 rw[oF (Nat.and_lt_two_pow _ hq)])
theorem Av{a b:Int}(hx:ev env x=some (.int k a))(hy:ev env y=some (.int k b))(ea:a=p)(eb:b=q)(hp:p<2^nb k)(hq:q<2^nb k):
  Ry P N w0 env L ⟨d, .binOp .or t x y u,ty,ps,af,gd⟩ (.int k ((p|||q:Nat):Int)):=cz hx hy (by
 subst ea eb
 simp only[kY,vP,BitVec.toNat_or,BitVec.toNat_ofNat,Nat.mod_eq_of_lt (oG hp),Nat.mod_eq_of_lt (oG hq)]
 rw[oF (Nat.or_lt_two_pow hp hq)])
theorem Ic{a b:Int}(hx:ev env x=some (.int k a))(hy:ev env y=some (.int k b))(ea:a=p)(eb:b=q)(hp:p<2^nb k)(hq:q<2^nb k):
  Ry P N w0 env L ⟨d, .binOp .xor t x y u,ty,ps,af,gd⟩ (.int k ((p^^^q:Nat):Int)):=cz hx hy (by
 subst ea eb
 simp only[kY,vP,BitVec.toNat_xor,BitVec.toNat_ofNat,Nat.mod_eq_of_lt (oG hp),Nat.mod_eq_of_lt (oG hq)]
 rw[oF (Nat.xor_lt_two_pow hp hq)])
theorem PD(hp:p<2^nb k)(hq:q<2^nb k):kY .andNot k p q=some (.int k ((p&&&(2^k.bits -1 -q):Nat):Int)):=by
 simp only[kY,vP,BitVec.toNat_and,BitVec.toNat_not,BitVec.toNat_ofNat,Nat.mod_eq_of_lt (oG hp),Nat.mod_eq_of_lt (oG hq)]
 rw[oF (Nat.lt_of_le_of_lt Nat.and_le_left hp)]
theorem PE{a b:Int}(h:0≤b)(w:World):(binOp .shr t (.int k a) (.int k' b)).run P w= .ok (.int k (a.fdiv (2^min b.toNat k.bits))) w:=by
 simp[binOp,Op.shift,show ¬b<0 by omega]
theorem PF{a b:Int}(h:0≤b)(w:World):(binOp .shl t (.int k a) (.int k' b)).run P w= .ok (.int k (k.wrap (a*2^min b.toNat k.bits))) w:=by
 simp[binOp,Op.shift,show ¬b<0 by omega]
theorem yh{a b:Int}(hx:ev env x=some (.int k a))(hy:ev env y=some (.int k b))(ea:a=p)(eb:b=q)(h:p+q<2^nb k):
  Ry P N w0 env L ⟨d, .binOp .add t x y u,ty,ps,af,gd⟩ (.int k ((p+q:Nat):Int)):=cz hx hy (by
 subst ea eb
 rw[kY,←Int.natCast_add,oF h])
theorem DI{a b:Int}{ts:Array TypeId}(hx:ev env x=some (.int k a))(hy:ev env y=some (.int k b)):
  Ry P N w0 env L ⟨d, .call {callee:= .builtin .min,args:= #[x,y],argTypes:=ts},ty,ps,af,gd⟩ (.int k (min a b)):=fun aa w ha _=>by
 have e:(if b<a then b else a)=min a b:=by rw[Int.min_def];split<;>split<;>omega
 simp[execOp,ha.ev hx,ha.ev hy,resolve,invoke,builtin,Builtin.min_,Builtin.min2,e]
theorem ud{a b:Int}{ts:Array TypeId}(hx:ev env x=some (.int k a))(hy:ev env y=some (.int k b)):
  Ry P N w0 env L ⟨d, .call {callee:= .builtin .max,args:= #[x,y],argTypes:=ts},ty,ps,af,gd⟩ (.int k (max a b)):=fun aa w ha _=>by
 have e:(if a<b then b else a)=max a b:=by rw[Int.max_def];split<;>split<;>omega
 simp[execOp,ha.ev hx,ha.ev hy,resolve,invoke,builtin,Builtin.max_,Builtin.max2,e]
theorem pF{s:TypeId}{n:Nat}[hs:lI P s k'][ht:lI P t k](hx:ev env x=some (.int k' n))(hn:n<2^nb k):
  Ry P N w0 env L ⟨d, .convert s t x,ty,ps,af,gd⟩ (.int k n):=rv hx (oF hn)
theorem PG{s:TypeId}{n:Int}[hs:lI P s k'][ht:lI P t k](hx:ev env x=some (.int k' n))(h0:0≤n)(hn:n.toNat<2^nb k):
  Ry P N w0 env L ⟨d, .convert s t x,ty,ps,af,gd⟩ (.int k n):=rv hx (by
 have:=oF hn;rwa [Int.toNat_of_nonneg h0]at this)
theorem ue{b:Int}(hx:ev env x=some (.int k p))(hy:ev env y=some (.int k' b))(hp:p<2^nb k)(hb:0≤b):
  Ry P N w0 env L ⟨d, .binOp .shr t x y u,ty,ps,af,gd⟩ (.int k ((p/2^b.toNat:Nat):Int)):=fun a w ha _=>by
 have e:((p:Int).fdiv (2^min b.toNat k.bits))=((p/2^b.toNat:Nat):Int):=by
  rw[Int.fdiv_eq_ediv_of_nonneg _ (Int.pow_nonneg (by decide)),show((2:Int)^min b.toNat k.bits)=((2^min b.toNat k.bits:Nat):Int) by simp,←Int.natCast_ediv]
  congr 1
  by_cases h:b.toNat≤k.bits
  ·
   rw[Nat.min_eq_left h]
  ·
   rw[Nat.min_eq_right (by omega),Nat.div_eq_of_lt (oG hp),Nat.div_eq_of_lt (Nat.lt_of_lt_of_le (oG hp) (Nat.pow_le_pow_right (by decide) (by omega)))]
 simp only[execOp,ha.ev hx,ha.ev hy,Sem.run_bind,DF,PE hb,e,Sem.run_pure,Result.andThen]
theorem Ie{a b:Int}(hx:ev env x=some (.int k a))(hy:ev env y=some (.int k' b))(hb:0≤b):
  Ry P N w0 env L ⟨d, .binOp .shl t x y u,ty,ps,af,gd⟩ (.int k (k.wrap (a*2^min b.toNat k.bits))):=fun aa w ha _=>by
 simp only[execOp,ha.ev hx,ha.ev hy,Sem.run_bind,DF,PF hb,Sem.run_pure,Result.andThen]
end
section
variable {P:Program} {N:cB} {w0:World} {env:Env} {L:List aj} {l:List Oper} {Q:Exit→Act→World→Prop} {F:Act→Prop} {fs:List Nat} {k:Nat} {rest:List Oper}
def Ex(N:cB)(w0:World)(Q:Exit→Act→World→Prop)(e:Exit)(env:Env)(L:List aj):Prop:= ∀a w,da N env a→Mem w0 L w→Q e a w
def Sq(P:Program)(N:cB)(w0:World)(l:List Oper)(Q:Exit→Act→World→Prop)(rest:List Oper)(env:Env)(L:List aj):Prop:=
 ∀a w,da N env a→Mem w0 L w→wpList P l.toArray Q rest a w
def Qt(P:Program)(N:cB)(w0:World)(l:List Oper)(fs:List Nat)(F:Act→Prop)(k:Nat)(rest:List Oper)(env:Env)(L:List aj):Prop:=
 ∀a,da N env a→lH P l.toArray fs (Mem w0 L) F k rest a
theorem aY(h:Ex N w0 Q .normal env L):Sq P N w0 l Q [] env L:=h
theorem vQ(h:Ex N w0 Q .normal env L):Qt P N w0 l fs (fun a'=> ∀w',Mem w0 L w'→Q .normal a' w') k [] env L:=fun a ha w' gH=>h a w' ha gH
def Fr(P:Program)(N:cB)(w0:World)(Lq:List aj)(l:List Oper)(n:Nat)(Q:Exit→Act→World→Prop)(fs:List Nat)(env:Env)(L:List aj):Prop:=
 (∀w,Mem w0 L w→Mem w0 Lq w)→ ∀a,da N env a→rp P l n Q w0 Lq fs a L
theorem sB{n:Nat}{gs:List Nat}{L':List aj}(h:Fr P N w0 L l n Q gs env L')(hq: ∀w,Mem w0 L' w→Mem w0 L w:=by exact fun _ h=>h):Qt P N w0 l fs (fun a'=>rp P l n Q w0 L gs a' L') k [] env L:=fun a ha=>h hq a ha
theorem sC{n:Nat}{Lq:List aj}(h:Sq P N w0 l Q (l.drop n) env L):Fr P N w0 Lq l n Q [] env L:=fun _ a ha w hw=>h a w ha hw
theorem PH{o:Oper}(hk:Qt P N w0 l fs F (k+1) rest env L)(hf:fs.contains k=true:=by rfl):Qt P N w0 l fs F k (o::rest) env L:=fun a ha=>by
 unfold lH;rw[if_pos hf];exact hk a ha
theorem pG{o:Oper}{y:Nat→Option Bool}(h:o.guard=none):Region.wanted o y=true:=by simp[Region.wanted,h]
theorem uf{o:Oper}{a:Act}{j t:Nat}{b g:Bool}(ha:da N env a)(h:o.guard=some (j,b))(hj:(l[j]?).bind (·.dst)=some t)(hv:look env t=some (.bool g)):
  Region.wanted o (yielded l.toArray a.tmps)=(g==b):=by
 have:=ha.get _ _ hv
 simp[Region.wanted,h,yielded,hj,this]
theorem DJ{o:Oper}{a:Act}{j t:Nat}{b c g:Bool}(ha:da N env a)(h:o.guard=some (j,b))(hj:(l[j]?).bind (·.dst)=some t)(hv:look env t=some (if c=true then .bool g else undef)):
  Region.wanted o (yielded l.toArray a.tmps)=(c&&(g==b)):=by
 have:=ha.get _ _ hv
 cases c
 ·
  simp only[Bool.false_eq_true,if_false]at this
  simp[Region.wanted,h,yielded,hj,this,undef]
 ·
  simp only[if_true]at this
  simp[Region.wanted,h,yielded,hj,this]
theorem vR{o:Oper}{a:Act}{w:World}{v:Value}{K:Act→World→Prop}(ha:da N env a)(hw:Mem w0 L w)(h:Yl P N w0 env L o v)(hk: ∀w',Mem w0 L w'→K (a.put o.dst v) w'):o.wp P a w K Q:=by
 have h1:=h a ha w hw
 unfold Oper.quietAt at h1
 unfold Oper.wp
 generalize(execOp a.eval o).run P w=r at h1
 unfold Oper.quietUpon at h1
 split at h1
 ·
  obtain⟨rfl,rfl⟩:=h1;exact hk _ hw
 ·
  obtain⟨rfl,rfl⟩:=h1;exact hk _ hw
 ·
  obtain⟨rfl,hc⟩:=h1
  exact hc.mono fun e nM ⟨he,hm⟩=>by subst he;exact hk _ (by simpa using hw.call hm)
 ·
  exact h1.elim
theorem fE{o:Oper}{v:Value}(h:Yl P N w0 env L o v)(hk:Sq P N w0 l Q rest (cw env o.dst v) L)(hg:o.guard=none:=by rfl)(hd:dj N o.dst=true:=by rfl):Sq P N w0 l Q (o::rest) env L:=fun a w ha hw=>by
 unfold wpList
 rw[if_pos (pG hg)]
 exact .inl (vR ha hw h fun w' gH=>hk _ _ (ha.put hd v) gH)
theorem ah{o:Oper}{v:Value}(h:Ry P N w0 env L o v)(hk:Sq P N w0 l Q rest (cw env o.dst v) L)(hg:o.guard=none:=by rfl)(hd:dj N o.dst=true:=by rfl):Sq P N w0 l Q (o::rest) env L:=fE h.yl hk hg hd
theorem ug{o:Oper}{v:Value}(h:Yl P N w0 env L o v)(hk:Qt P N w0 l fs F (k+1) rest (cw env o.dst v) L)(hg:o.guard=none:=by rfl)(hd:dj N o.dst=true:=by rfl)(hf:fs.contains k=false:=by rfl):Qt P N w0 l fs F k (o::rest) env L:=fun a ha=>by
 unfold lH
 rw[if_neg (by rw[hf];exact Bool.false_ne_true)]
 rw[if_pos (pG hg)]
 exact⟨v,h a ha,hk _ (ha.put hd v)⟩
theorem bm{o:Oper}{v:Value}(h:Ry P N w0 env L o v)(hk:Qt P N w0 l fs F (k+1) rest (cw env o.dst v) L)(hg:o.guard=none:=by rfl)(hd:dj N o.dst=true:=by rfl)(hf:fs.contains k=false:=by rfl):Qt P N w0 l fs F k (o::rest) env L:=ug h.yl hk hg hd hf
theorem look_eq{t:Nat}{u v:Value}(h:look env t=some u)(e:u=v):look env t=some v:=by rw[h,e]
theorem fU{o:Oper}{v:Value}{j t:Nat}{g:Bool}(hg:o.guard=some (j,true))(hj:(l[j]?).bind (·.dst)=some t)(hv:look env t=some (.bool g))(h:g=true→Yl P N w0 env L o v)
  (hk:Sq P N w0 l Q rest (cw env o.dst (if g=true then v else undef)) L) (hd:dj N o.dst=true:=by rfl):Sq P N w0 l Q (o::rest) env L:=fun a w ha hw=>by
 unfold wpList
 rw[uf ha hg hj hv]
 cases g
 ·
  exact hk _ _ (ha.put hd undef) hw
 ·
  exact .inl (vR ha hw (h rfl) fun w' gH=>hk _ _ (ha.put hd v) gH)
theorem fF{o:Oper}{v:Value}{j t:Nat}{g:Bool}(hg:o.guard=some (j,true))(hj:(l[j]?).bind (·.dst)=some t)(hv:look env t=some (.bool g))(h:g=true→Yl P N w0 env L o v)
  (hk:Qt P N w0 l fs F (k+1) rest (cw env o.dst (if g=true then v else undef)) L) (hd:dj N o.dst=true:=by rfl) (hf:fs.contains k=false:=by rfl):Qt P N w0 l fs F k (o::rest) env L:=fun a ha=>by
 unfold lH
 rw[if_neg (by rw[hf];exact Bool.false_ne_true)]
 rw[uf ha hg hj hv]
 cases g
 ·
  exact hk _ (ha.put hd undef)
 ·
  exact⟨v,h rfl a ha,hk _ (ha.put hd v)⟩
theorem ca{o:Oper}{v:Value}{j t:Nat}{g:Bool}(hg:o.guard=some (j,false))(hj:(l[j]?).bind (·.dst)=some t)(hv:look env t=some (.bool g))(h:(!g)=true→Yl P N w0 env L o v)
  (hk:Sq P N w0 l Q rest (cw env o.dst (if(!g)=true then v else undef)) L) (hd:dj N o.dst=true:=by rfl):Sq P N w0 l Q (o::rest) env L:=fun a w ha hw=>by
 unfold wpList
 rw[uf ha hg hj hv]
 cases g
 ·
  exact .inl (vR ha hw (h rfl) fun w' gH=>hk _ _ (ha.put hd v) gH)
 ·
  exact hk _ _ (ha.put hd undef) hw
theorem iE{o:Oper}{v:Value}{j t:Nat}{g:Bool}(hg:o.guard=some (j,false))(hj:(l[j]?).bind (·.dst)=some t)(hv:look env t=some (.bool g))(h:(!g)=true→Yl P N w0 env L o v)
  (hk:Qt P N w0 l fs F (k+1) rest (cw env o.dst (if(!g)=true then v else undef)) L) (hd:dj N o.dst=true:=by rfl) (hf:fs.contains k=false:=by rfl):Qt P N w0 l fs F k (o::rest) env L:=fun a ha=>by
 unfold lH
 rw[if_neg (by rw[hf];exact Bool.false_ne_true)]
 rw[uf ha hg hj hv]
 cases g
 ·
  exact⟨v,h rfl a ha,hk _ (ha.put hd v)⟩
 ·
  exact hk _ (ha.put hd undef)
theorem ry{o:Oper}{v:Value}{j t:Nat}{c g:Bool}(hg:o.guard=some (j,true))(hj:(l[j]?).bind (·.dst)=some t)(hv:look env t=some (if c=true then .bool g else undef))(h:(c&&g)=true→Yl P N w0 env L o v)
  (hk:Sq P N w0 l Q rest (cw env o.dst (if(c&&g)=true then v else undef)) L) (hd:dj N o.dst=true:=by rfl):Sq P N w0 l Q (o::rest) env L:=fun a w ha hw=>by
 unfold wpList
 rw[DJ ha hg hj hv]
 cases c<;>cases g
 ·
  exact hk _ _ (ha.put hd undef) hw
 ·
  exact hk _ _ (ha.put hd undef) hw
 ·
  exact hk _ _ (ha.put hd undef) hw
 ·
  exact .inl (vR ha hw (h rfl) fun w' gH=>hk _ _ (ha.put hd v) gH)
theorem rz{o:Oper}{v:Value}{j t:Nat}{c g:Bool}(hg:o.guard=some (j,false))(hj:(l[j]?).bind (·.dst)=some t)(hv:look env t=some (if c=true then .bool g else undef))(h:(c&& !g)=true→Yl P N w0 env L o v)
  (hk:Sq P N w0 l Q rest (cw env o.dst (if(c&& !g)=true then v else undef)) L) (hd:dj N o.dst=true:=by rfl):Sq P N w0 l Q (o::rest) env L:=fun a w ha hw=>by
 unfold wpList
 rw[DJ ha hg hj hv]
 cases c<;>cases g
 ·
  exact hk _ _ (ha.put hd undef) hw
 ·
  exact hk _ _ (ha.put hd undef) hw
 ·
  exact .inl (vR ha hw (h rfl) fun w' gH=>hk _ _ (ha.put hd v) gH)
 ·
  exact hk _ _ (ha.put hd undef) hw
theorem DK{o:Oper}{v:Value}{j t:Nat}{c g:Bool}(hg:o.guard=some (j,false))(hj:(l[j]?).bind (·.dst)=some t)(hv:look env t=some (if c=true then .bool g else undef))(h:(c&& !g)=true→Yl P N w0 env L o v)
  (hk:Qt P N w0 l fs F (k+1) rest (cw env o.dst (if(c&& !g)=true then v else undef)) L) (hd:dj N o.dst=true:=by rfl) (hf:fs.contains k=false:=by rfl):Qt P N w0 l fs F k (o::rest) env L:=fun a ha=>by
 unfold lH
 rw[if_neg (by rw[hf];exact Bool.false_ne_true)]
 rw[DJ ha hg hj hv]
 cases c<;>cases g
 ·
  exact hk _ (ha.put hd undef)
 ·
  exact hk _ (ha.put hd undef)
 ·
  exact⟨v,h rfl a ha,hk _ (ha.put hd v)⟩
 ·
  exact hk _ (ha.put hd undef)
theorem yi{x:Operand}{c g:Bool}{v u:Value}(hc:c=true)(h:ev env x=some (if(c&&g)=true then v else u)):ev env x=some (if g=true then v else u):=by subst hc;simpa using h
theorem aI{x:Operand}{g:Bool}{v u:Value}(hg:g=true)(h:ev env x=some (if g=true then v else u)):ev env x=some v:=by rw[h,if_pos hg]
variable {d:Option Tmp} {ty:TypeId} {ps:String} {af:Array Edge}
theorem mg{o:Oper}(hg:o.guard=none)(hd:dj N o.dst=true)
  (h: ∀a w,da N env a→Mem w0 L w→ ∃v w' L',(execOp a.eval o).run P w= .ok (.value v) w'∧Mem w0 L' w'∧Sq P N w0 l Q rest (cw env o.dst v) L'):Sq P N w0 l Q (o::rest) env L:=fun a w ha hw=>by
 unfold wpList
 rw[if_pos (pG hg)]
 obtain⟨v,w',L',h1,h2,h3⟩:=h a w ha hw
 refine .inl ?_
 unfold Oper.wp
 rw[h1]
 exact h3 _ _ (ha.put hd v) h2
theorem Aw{o:Oper}(hg:o.guard=none)(hd:o.dst=none)
  (h: ∀a w,da N env a→Mem w0 L w→ ∃w' L',(execOp a.eval o).run P w= .ok .skip w'∧Mem w0 L' w'∧Sq P N w0 l Q rest env L'):Sq P N w0 l Q (o::rest) env L:=fun a w ha hw=>by
 unfold wpList
 rw[if_pos (pG hg)]
 obtain⟨w',L',h1,h2,h3⟩:=h a w ha hw
 refine .inl ?_
 unfold Oper.wp
 rw[h1]
 show wpList P l.toArray Q rest (a.put o.dst undef) w'
 rw[hd]
 exact h3 _ _ ha h2
theorem DL{t:TypeId}{x:Operand}{v:Value}(hx:ev env x=some v)(hk: ∀b,Sq P N w0 l Q rest (cw env d (.pointer (some ⟨b,0,none⟩))) (ar b v.cells t::L))(hd:dj N d=true:=by rfl):
  Sq P N w0 l Q (⟨d, .box t x,ty,ps,af,none⟩::rest) env L:=
 mg rfl hd fun a w ha hw=>⟨_,_,_,by simp only[execOp,ha.ev hx,Instr.box,newVar,newRow,Sem.run_bind,newObj,Sem.run,Result.andThen,Sem.run_pure];rfl,hw.alloc v.cells t,hk _⟩
theorem Ig{t:TypeId}{z:Value}[hz:fh P t z](hk: ∀b,Sq P N w0 l Q rest (cw env d (.pointer (some ⟨b,0,none⟩))) (ar b z.cells t::L))(hd:dj N d=true:=by rfl):
  Sq P N w0 l Q (⟨d, .alloc t,ty,ps,af,none⟩::rest) env L:=
 mg rfl hd fun a w ha hw=>⟨_,_,_,by simp only[execOp,Instr.alloc,newVar,newRow,Sem.run_bind,Aq w hz,newObj,Sem.run,Result.andThen,Sem.run_pure];rfl,hw.alloc z.cells t,hk _⟩
theorem cq{t:TypeId}{x:Operand}{cs:Array Value}(hx:ev env x=some (.agg cs))(hk: ∀b,Sq P N w0 l Q rest (cw env d (.pointer (some ⟨b,0,none⟩))) (ar b cs t::L))(hd:dj N d=true:=by rfl):
  Sq P N w0 l Q (⟨d, .box t x,ty,ps,af,none⟩::rest) env L:=DL hx hk hd
theorem bN{t:TypeId}{cs:Array Value}[hz:fh P t (.agg cs)](hk: ∀b,Sq P N w0 l Q rest (cw env d (.pointer (some ⟨b,0,none⟩))) (ar b cs t::L))(hd:dj N d=true:=by rfl):
  Sq P N w0 l Q (⟨d, .alloc t,ty,ps,af,none⟩::rest) env L:=Ig (z:= .agg cs) hk hd
theorem PI{cs:Array Value}(h:cs.all (·.oneCell')=true)(a b:Nat):(cs.extract a b).all (·.oneCell')=true:=by
 rw[Array.all_eq_true_iff_forall_mem]at h⊢
 intro v hv
 have:v∈(cs.extract a b).toList:=Array.mem_toList_iff.2 hv
 rw[Array.toList_extract]at this
 simp only[List.extract]at this
 exact h v (by simpa using List.mem_of_mem_drop (List.mem_of_mem_take this))
theorem eO{t:TypeId}{x y:Operand}{i b o:Nat}{cs:Array Value}{T:TypeId}{v:Value}(hx:ev env x=some (.pointer (some ⟨b,o,none⟩)))(hy:ev env y=some v)[ht:gQ P t][hh:Has L b cs T i](ho:o<cs.size)(hv:v.oneCell'=true){cs':Array Value}{L':List aj}(gK:cs.setIfInBounds o v=cs')[hu:fw L i (ar b cs' T) L'](hk:Sq P N w0 l Q rest env L'):
  Sq P N w0 l Q (⟨none, .store t x y,ty,ps,af,none⟩::rest) env L:=
 Aw rfl rfl fun a w ha hw=>by
  have hi:=hh.h
  have hb:=hw.block hi
  have hc:w.cell? ⟨b,o,none⟩=some cs[o]:=by rw[hw.cell hi];simp[ho]
  have hf:w.frozen? ⟨b,o,none⟩=false:=frozen_of_row w b o cs T hb
  subst gK
  refine⟨w.setCell ⟨b,o,none⟩ v,_,?_,?_,hk⟩
  ·
   have h1:(storeCells ⟨b,o,none⟩ [v]).run P w= .ok () (w.setCell ⟨b,o,none⟩ v):=by
    have:=run_storeCells_at (P:=P) b o T [v] 0 cs w hb (by simp;omega) (by simpa using hv)
    rw[this,setCell_eq_setRow w b o cs T (0,0) v hb]
    congr 2
    apply Array.ext'
    simp[List.set_eq_take_append_cons_drop,ho]
   have gK:v.cells= #[v]:=by cases v<;>simp_all[Value.oneCell',Value.cells]
   simp only[execOp,ha.ev hx,ha.ev hy,Instr.storeAt,Instr.sureAddr,storeVar,Sem.run_bind,Sem.run_pure,Result.andThen,kF w ht.size,gK]
   simp[h1]
  ·
   rw[setCell_eq_setRow w b o cs T (0,0) v hb]
   rw[←hu.h]
   exact hw.setRow hi _
def cQ(cs:Array Value)(o:Nat)(vs:Array Value):Array Value:=(cs.toList.take o++vs.toList++cs.toList.drop (o+vs.size)).toArray
theorem vS{t:TypeId}{x y:Operand}{i b o n:Nat}{cs vs:Array Value}{T:TypeId}(hx:ev env x=some (.pointer (some ⟨b,o,none⟩)))(hy:ev env y=some (.agg vs))[ht:gv P t n][hh:Has L b cs T i][hs:fZ vs n](ho:o+n≤cs.size){cs':Array Value}{L':List aj}(gK:cQ cs o vs=cs')[hu:fw L i (ar b cs' T) L'](hk:Sq P N w0 l Q rest env L'):
  Sq P N w0 l Q (⟨none, .store t x y,ty,ps,af,none⟩::rest) env L:=
 Aw rfl rfl fun a w ha hw=>by
  have hi:=hh.h
  have hn:=hs.h
  have hv:=hs.one
  have hb:=hw.block hi
  subst gK
  refine⟨_,_,?_,by rw[←hu.h];exact hw.setRow hi _,hk⟩
  have h1:=run_storeCells_at (P:=P) b o T vs.toList 0 cs w hb (by simp;omega) (fun v kH=>(Array.all_eq_true_iff_forall_mem.1 hv) v (by simpa using kH))
  simp only[execOp,ha.ev hx,ha.ev hy,Instr.storeAt,Instr.sureAddr,storeVar,Value.cells,Sem.run_bind,Sem.run_pure,Result.andThen,kF w ht.size,hn]
  simp[h1,cQ]
theorem qt{t:TypeId}{x y:Operand}{i b n:Nat}{cs vs:Array Value}{T:TypeId}(hx:ev env x=some (.pointer (some ⟨b,0,none⟩)))(hy:ev env y=some (.agg vs))[ht:gv P t n][hh:Has L b cs T i][hs:fZ vs n][hc:fZ cs n]{L':List aj}[hu:fw L i (ar b vs T) L'](hk:Sq P N w0 l Q rest env L'):
  Sq P N w0 l Q (⟨none, .store t x y,ty,ps,af,none⟩::rest) env L:=by
 have hn:=hs.h
 have PJ:=hc.h
 refine vS hx hy (by omega) (?_:cQ cs 0 vs=vs) hk
 apply Array.ext'
 simp[cQ];omega
theorem DM{x y:Operand}{tx fV e:TypeId}{i b o dl dc sl sc:Nat}{a:Addr}{cs vs:Array Value}{T:TypeId}(hx:ev env x=some (.slice (some ⟨b,o,none⟩) dl dc))(hy:ev env y=some (.slice (some a) sl sc))
  [ht:eW P tx e 1] [hh:Has L b cs T i] (hn:vs.size=Nat.min sl dl) (lq: ∀w,Mem w0 L w→ ∀j,j<vs.size→w.cell? (a.add j)=vs[j]?) (hv:vs.all (·.oneCell')=true) (ho:o+vs.size≤cs.size)
  {cs':Array Value} {L':List aj} (gK:cQ cs o vs=cs') [hu:fw L i (ar b cs' T) L'] (hk:Sq P N w0 l Q rest (cw env d (.int .i64 vs.size)) L') (hd:dj N d=true:=by rfl):
  Sq P N w0 l Q (⟨d, .call {callee:= .builtin .copy,args:= #[x,y],argTypes:= #[tx,fV]},ty,ps,af,none⟩::rest) env L:=
 mg rfl hd fun aa w ha hw=>by
  have hi:=hh.h
  have hb:=hw.block hi
  subst gK
  have fT:=run_copy_row (P:=P) w tx fV ty e b o dl dc a sl sc cs T vs.toList ht.et ht.size hb (by simpa using hn)
   (fun j v kH=>by
    have hj:j<vs.size:=by simpa using(List.getElem?_eq_some_iff.1 kH).1
    rw[lq w hw j hj];simpa using kH) (by simpa using ho) (fun v kH=>(Array.all_eq_true_iff_forall_mem.1 hv) v (by simpa using kH))
  refine⟨_,w.setRow b (cQ cs o vs),_,?_,by rw[←hu.h];exact hw.setRow hi _,hk⟩
  simp[execOp,ha.ev hx,ha.ev hy,resolve,invoke,builtin,fT,Result.andThen,goInt,cQ]
end
section
variable {P:Program} {N:cB} {w0:World} {env:Env} {L Lq:List aj} {l:List Oper} {n j:Nat} {js:List Nat} {Q:Exit→Act→World→Prop} {d:Option Tmp} {ty:TypeId} {ps:String} {af:Array Edge}
theorem PK{X:Type}{val:X→Value}{L':X→List aj}{pr:X→Prop}{f:FuncId}{xs:List Operand}{ts:Array TypeId}{vs:List Value}(hj:l[j]? =some ⟨d, .call {callee:= .value (.func f),args:=xs.toArray,argTypes:=ts},ty,ps,af,none⟩)[hf:aR P f](hx:g6 env xs=some vs)
  (hc: ∀w,Mem w0 L w→Calls P f vs.toArray w fun e w'=> ∃x,e= .returned (val x)∧pr x∧Mem w0 (L' x) w') (hL: ∀x w,Mem w0 (L' x) w→Mem w0 Lq w) (hk: ∀x,pr x→Fr P N w0 Lq l n Q js (cw env d (val x)) (L' x)) (hd:dj N d=true:=by rfl):
  Fr P N w0 Lq l n Q (j::js) env L:=fun _ a ha=>
 ⟨_,hj,rfl,fun w hw=>by
  rw[As hf w rfl,ha.g6 hx]
  exact⟨rfl,(hc w hw).mono fun e w' ⟨x,he,hp,hm⟩=>⟨val x,L' x,he,hm,hL x,hk x hp (hL x) _ (ha.put hd _)⟩⟩⟩
end
section
variable {P:Program} {N:cB} {w0:World} {env:Env} {L:List aj} {Q:Exit→Act→World→Prop}
def Cw(P:Program)(N:cB)(w0:World)(Q:Exit→Act→World→Prop)(c:Code)(env:Env)(L:List aj):Prop:= ∀a w,da N env a→Mem w0 L w→c.wpIn (kX N.ro) 0 P Q a w
theorem aP{x y:Code}(h:Cw P N w0 (Exit.then (y.wpIn (kX N.ro) 0 P Q) Q) x env L):Cw P N w0 Q (.seq x y) env L:=fun a w ha hw=>wpIn_seq (h a w ha hw)
theorem aZ{id:Nat}{l:List Oper}[jU Q](h:Sq P N w0 l Q l env L)(cy:nL l=true:=by kernel_rfl):Cw P N w0 Q (.region id l.toArray false) env L:=fun a w ha hw=>Pc cy (h a w ha hw)
theorem DN{ops:Array Oper}{C:World→Prop}{F:Act→Prop}(hC: ∀w w',C w→Mem w [] w'→C w'): ∀(rest:List Oper) (k:Nat) (a:Act),lH P ops [] C F k rest a→wpQuiet P ops C F rest a
 |[],_,_,h=>h
 |o::rest,k,a,h=>by
  unfold lH at h
  rw[if_neg (by simp)]at h
  unfold wpQuiet
  split
  ·
   rename_i hw
   rw[if_pos hw]at h
   obtain⟨v,h1,h2⟩:=h
   refine⟨v,fun w Ax=> ?_,DN hC rest (k+1) _ h2⟩
   have h3:=h1 w Ax
   unfold Oper.quietAt at h3⊢
   generalize(execOp a.eval o).run P w=r at h3
   unfold Oper.quietUpon at h3⊢
   split at h3
   ·
    exact h3
   ·
    exact h3
   ·
    exact⟨h3.1,by obtain⟨rfl,rr⟩:=h3;exact rr.mono fun e nM ⟨he,hm⟩=>⟨he,hC _ _ Ax hm⟩⟩
   ·
    exact h3.elim
  ·
   rename_i hw
   rw[if_neg hw]at h
   exact DN hC rest (k+1) _ h
theorem iF{id:Nat}{l:List Oper}[jU Q](hm:P.follows .mixedOrders=true)(hB:Region.lexB .any l.toArray=true)(h:Qt P N w0 l [] (fun a'=> ∀w',Mem w0 L w'→Q .normal a' w') 0 l env L)(cy:nL l=true:=by kernel_rfl):Cw P N w0 Q (.region id l.toArray true) env L:=fun a _ ha hw=>
 Pd cy (C:=Mem w0 L) hm hB hw.Ab (by simpa using DN (fun w w' Ax gH=>by simpa using Ax.call gH) l 0 a (h a ha))
theorem Ih{id:Nat}{l:List Oper}[jU Q](n:Nat)(fs:List Nat)(Lq:List aj)(hq: ∀w,Mem w0 L w→Mem w0 Lq w)(hm:P.follows .mixedOrders=true)(hB:Ao l fs n=true)(h:Qt P N w0 l fs (fun a'=>rp P l n Q w0 Lq fs a' L) 0 (l.take n) env Lq)(cy:nL l=true:=by kernel_rfl):Cw P N w0 Q (.region id l.toArray true) env L:=fun a _ ha hw=>
 Pr n cy hm hB hw.Ab hq (h a ha)
theorem uh{id:Nat}{l:List Oper}[jU Q](n:Nat)(fs:List Nat)(hm:P.follows .mixedOrders=true)(hB:Ao l fs n=true)(h:Qt P N w0 l fs (fun a'=>rp P l n Q w0 L fs a' L) 0 (l.take n) env L)(cy:nL l=true:=by kernel_rfl):Cw P N w0 Q (.region id l.toArray true) env L:=
 Ih n fs L (fun _ h=>h) hm hB h cy
theorem av{c:Operand}{x y:Code}{g:Bool}(hc:ev env c=some (.bool g))(hx:g=true→Cw P N w0 Q x env L)(hy:g=false→Cw P N w0 Q y env L):Cw P N w0 Q (.cond c x y) env L:=fun a w ha hw=>
 wpIn_cond_split (ha.ev hc) (fun h=>hx h a w ha hw) (fun h=>hy h a w ha hw)
theorem lr{id:Nat}{c:Code}(h:Cw P N w0 (Exit.inBlock id Q) c env L):Cw P N w0 Q (.block id c) env L:=fun a w ha hw=>wpIn_block (h a w ha hw)
theorem fW(h:Ex N w0 Q .normal env L):Cw P N w0 Q .skip env L:=fun a w ha hw=>wpIn_skip (h a w ha hw)
theorem rA{id:Nat}(h:Ex N w0 Q (.exit id) env L):Cw P N w0 Q (.exit id) env L:=fun a w ha hw=>wpIn_exit (h a w ha hw)
theorem eu(h:Ex N w0 Q .ret env L):Cw P N w0 Q .ret env L:=fun a w ha hw=>wpIn_ret (h a w ha hw)
theorem cg{c:Code}{X:Type}(ui:X→Env)(LI:X→List aj)(inv:X→Prop)(m:X→Nat)(x0:X)(h0:inv x0)(hs:Sub (ui x0) env)(hL: ∀w,Mem w0 L w→Mem w0 (LI x0) w)
  (round: ∀x,inv x→Cw P N w0 (Exit.then (fun a w=> ∃x',inv x'∧m x'<m x∧da N (ui x') a∧Mem w0 (LI x') w) Q) c (ui x) (LI x)):Cw P N w0 Q (.loop c) env L:=by
 intro a0 w1 PL lJ b k cs oH hb hr
 have key: ∀n x,m x=n→inv x→ ∀a w,da N (ui x) a→Mem w0 (LI x) w→
   ∃e a' w',Q e a' w'∧ArrivesIn (Machine.fenced P (kX N.ro)) P (lone (b.atR a (.code c:: .inLoop c::k)) cs w) b k cs e a' w':=by
  intro n
  induction n using Nat.strongRecOn with
  |_ n ih=>
   intro x hm hI a w ha hw
   obtain⟨e,vT,vU,hq,sD⟩:=round x hI a w ha hw b (.inLoop c::k) cs oH hb hr
   cases e with
   |normal=>
    obtain⟨x',PM,bt,PN,gH⟩:=hq
    obtain⟨PO,PQ,PR,PS,PT⟩:=ih (m x') (hm▸bt) x' rfl PM vT vU PN gH
    exact⟨PO,PQ,PR,PS, .of_steps (StepsIn.trans sD (.one (fenced_calm hb hr rfl) stepR_inLoop)) PT⟩
   |exit id=>exact⟨_,vT,vU,hq, .pass (x:= .inLoop c) rfl (fun _ _=> .inl (by simp)) sD⟩
   |goto l=>exact⟨_,vT,vU,hq, .pass (x:= .inLoop c) rfl (fun _ _=> .inl (by simp)) sD⟩
   |ret=>exact⟨_,vT,vU,hq, .pass (x:= .inLoop c) rfl (fun _ _=> .inl (by simp)) sD⟩
   |panic ch=>exact⟨_,vT,vU,hq, .pass (x:= .inLoop c) rfl (fun _ _=> .inl (by simp)) sD⟩
   |outgrown=>exact⟨_,vT,vU,hq, .pass (x:= .inLoop c) rfl (fun _ _=> .inl (by simp)) sD⟩
 obtain⟨e,a',w',hq,sD⟩:=key _ x0 rfl h0 a0 w1 (PL.sub hs) (hL w1 lJ)
 exact⟨e,a',w',hq, .of_steps (.one (fenced_calm hb hr rfl) stepR_loop) sD⟩
theorem yj{x y:Code}{X:Type}(yk:X→Env)(LJ:X→List aj)(J:X→Prop)
  (h:Cw P N w0 (Exit.then (fun a w=> ∃s,J s∧da N (yk s) a∧Mem w0 (LJ s) w) Q) x env L) (hy: ∀s,J s→Cw P N w0 Q y (yk s) (LJ s)):Cw P N w0 Q (.seq x y) env L:=fun a w ha hw=>
 wpIn_seq (wpIn_mono (h a w ha hw) fun e a' w' hq=>by
  cases e with
  |normal=>obtain⟨s,hs,hr,hm⟩:=hq;exact hy s hs a' w' hr hm
  |exit id=>exact hq
  |goto l=>exact hq
  |ret=>exact hq
  |panic ch=>exact hq
  |outgrown=>exact hq)
theorem aO{y:Code}{Q':Exit→Act→World→Prop}(h:Cw P N w0 Q y env L):Ex N w0 (Exit.then (y.wpIn (kX N.ro) 0 P Q) Q') .normal env L:=h
theorem qu{X:Type}{yk:X→Env}{LJ:X→List aj}{J:X→Prop}(s:X)(hJ:J s)(hs:Sub (yk s) env)(hL: ∀w,Mem w0 L w→Mem w0 (LJ s) w):
  Ex N w0 (Exit.then (fun a w=> ∃s,J s∧da N (yk s) a∧Mem w0 (LJ s) w) Q) .normal env L:=fun _ w ha hw=>⟨s,hJ,ha.sub hs,hL w hw⟩
theorem bD{X:Type}{ui:X→Env}{LI:X→List aj}{inv:X→Prop}{m:X→Nat}{x:X}(x':X)(hI:inv x')(hm:m x'<m x)(hs:Sub (ui x') env)(hL: ∀w,Mem w0 L w→Mem w0 (LI x') w):
  Ex N w0 (Exit.then (fun a w=> ∃x',inv x'∧m x'<m x∧da N (ui x') a∧Mem w0 (LI x') w) Q) .normal env L:=fun _ w ha hw=>⟨x',hI,hm,ha.sub hs,hL w hw⟩
theorem lK{K:Act→World→Prop}{id:Nat}(h:Ex N w0 Q (.exit id) env L):Ex N w0 (Exit.then K Q) (.exit id) env L:=h
theorem fj{K:Act→World→Prop}(h:Ex N w0 Q .ret env L):Ex N w0 (Exit.then K Q) .ret env L:=h
theorem oI{id:Nat}(h:Ex N w0 Q .normal env L):Ex N w0 (Exit.inBlock id Q) .normal env L:=h
theorem rB{id:Nat}(h:Ex N w0 Q .normal env L):Ex N w0 (Exit.inBlock id Q) (.exit id) env L:=fun a w ha hw=>by
 simp only[Exit.inBlock,if_true];exact h a w ha hw
theorem PU{id Ay:Nat}(cF:Nat.beq Ay id=false)(h:Ex N w0 Q (.exit Ay) env L):Ex N w0 (Exit.inBlock id Q) (.exit Ay) env L:=fun a w ha hw=>by
 have: ¬Ay=id:=fun e=>by subst e;simp at cF
 simp only[Exit.inBlock,this,if_false];exact h a w ha hw
theorem mh{id:Nat}(h:Ex N w0 Q .ret env L):Ex N w0 (Exit.inBlock id Q) .ret env L:=h
variable {fn:Func} {R:Ending→World→Prop}
theorem au{n:Nat}{e:Exit}(he:e= .ret∨e= .normal){v:Value}(hr: ∀a w,da ⟨n,[],none⟩ env a→Mem w0 L w→(results fn a.tmps).run P w= .ok v w)(h: ∀w,Mem w0 L w→R (.returned v) w):Ex ⟨n,[],none⟩ w0 (xR P fn R) e env L:=fun a w ha hw=>by
 have key:LeavesInM (kX none) 0 P fn a.tmps R a.defers .returning w:=by
  rw[ha.defers];exact⟨v,hr a w ha hw,h w hw⟩
 rcases he with rfl|rfl
 ·
  exact⟨.inr rfl,key⟩
 ·
  exact⟨.inl rfl,key⟩
theorem kr{t:Nat}{v:Value}(hf:fn.results= #[.tmp t])(hv:look env t=some v): ∀a w,da N env a→Mem w0 L w→(results fn a.tmps).run P w= .ok v w:=fun a w ha _=>by
 have:=ha.get _ _ hv
 simp[results,hf,this]
theorem Az{t:Nat}{T T':TypeId}{b i n:Nat}{cs:Array Value}(hf:fn.results= #[.cell t T])(hv:look env t=some (.pointer (some ⟨b,0,none⟩)))[ht:gv P T n][hi:Has L b cs T' i][hn:fZ cs n]:
  ∀a w,da N env a→Mem w0 L w→(results fn a.tmps).run P w= .ok (.agg cs) w:=fun a w ha hw=>by
 have h1:=ha.get _ _ hv
 have h2:(loadVar T ⟨b,0,none⟩).run P w= .ok (.agg cs) w:=DG w ht hn.h fun j _=>by rw[Addr.gw,hw.cell hi.h,Nat.zero_add]
 simp[results,hf,h1,asAddr,h2]
theorem bf{N:Nat}{f:FuncId}{c:Code}{args:List Value}{w:World}(hf:P.funcs[f]? =some fn)(hb:fn.body=some c)(hN:fn.ntmps=N)(hle:Nat.ble args.length N=true)
  (h:Cw P ⟨N,[],none⟩ w (xR P fn R) c (args.zipIdx.map fun p=>(p.2,p.1)) []):Calls P f args.toArray w R:=
 HO hf hb (h _ _ (by rw[hN];exact da.enter args N (Nat.le_of_ble_eq_true hle)) (Mem.init w))
end
theorem Z0(a b:Bool):((a&&b)=true)=(a=true∧b=true):=Bool.and_eq_true a b
theorem Z1(a b:Bool):((a||b)=true)=(a=true∨b=true):=Bool.or_eq_true a b
theorem Z2{x y:Bool}:(x&&y)=false↔x=false∨y=false:=Bool.and_eq_false_iff
theorem Z3{x y:Bool}:(x||y)=false↔x=false∧y=false:=Bool.or_eq_false_iff
theorem Z4(b:Bool):((!b)=true)=(b=false):=Bool.not_eq_true' b
theorem Z5(b:Bool):((!b)=false)=(b=true):=Bool.not_eq_false' b
theorem Z6{p:Prop}[inst:Decidable p]:(decide p=true)=p:=decide_eq_true_eq
theorem Z7{p:Prop}{x:Decidable p}:decide p=false↔ ¬p:=decide_eq_false_iff_not
theorem Z8(b:Bool):(¬b=true)=(b=false):=Bool.not_eq_true b
theorem Z9(b:Bool):(¬b=false)=(b=true):=Bool.not_eq_false b
open Go.RowKit
structure Sv where
  nil:Bool
  b:Nat
  o:Nat
  len:Nat
  cap:Nat
  sp:Option Nat
def Sv.val(s:Sv):Value:=match s.nil with
  |true=> .slice none 0 0
  |false=> .slice (some ⟨s.b,s.o,s.sp⟩) s.len s.cap
structure Sv.Ok(s:Sv):Prop where
  nil:s.nil=true→s.len=0∧s.cap=0
  le:s.len≤s.cap
  bd:s.len≤140737488355328
  sp:0<s.cap→s.sp=none
theorem Sv.Ok.some{s:Sv}(h:s.Ok)(hl:0<s.len):s.nil=false:=by
  cases hn:s.nil with
  |false=>rfl
  |true=>have:=h.nil hn;omega
theorem Sv.g9{s:Sv}(h:s.nil=false):s.val= .slice (some ⟨s.b,s.o,s.sp⟩) s.len s.cap:=by simp[Sv.val,h]
theorem Sv.qv{s:Sv}(h:s.nil=true):s.val= .slice none 0 0:=by simp[Sv.val,h]
def Sv.none:Sv:=⟨true,0,0,0,0, .none⟩
theorem Sv.vV:Sv.none.Ok:=⟨fun _=>⟨rfl,rfl⟩,Nat.le_refl _,Nat.zero_le _,fun _=>rfl⟩
theorem Sv.one(s:Sv):s.val.oneCell'=true:=by unfold Sv.val;split<;>rfl
def mi(h:Nat→Option Obj)(b o:Nat):Option Value:=match h b with
  |some (.cells cs _ _)=>cs[o]?
  |_=>none
abbrev hp(w:World):Nat→Option Obj:=fun k=>w.heap[k]?
theorem qw(w:World)(b o:Nat):w.cell? ⟨b,o,none⟩=mi (hp w) b o:=by
  unfold World.cell? mi
  split<;>simp_all
class bx{α:Type}(enc:α→Array Value)(c:outParam Nat):Prop where
  size: ∀x,(enc x).size=c
  one: ∀x,(enc x).all (·.oneCell')=true
structure bV{α:Type}(enc:α→Array Value)(c:Nat)(h:Nat→Option Obj)(s:Sv)(xs:List α):Prop where
  ok:s.Ok
  len:s.len=xs.length
  row: ∀i x,xs[i]? =some x→ ∀j,j<c→mi h s.b (s.o+i*c+j)=(enc x)[j]?
theorem bV.some{α:Type}{enc:α→Array Value}{c:Nat}{h:Nat→Option Obj}{s:Sv}{xs:List α}(r:bV enc c h s xs){i:Nat}(hi:i<xs.length):s.nil=false:=r.ok.some (by rw[r.len];omega)
theorem bV.nil{α:Type}(enc:α→Array Value)(c:Nat)(h:Nat→Option Obj):bV enc c h Sv.none ([]:List α):=⟨Sv.vV,rfl,by simp⟩
theorem bV.bd{α:Type}{enc:α→Array Value}{c:Nat}{h:Nat→Option Obj}{s:Sv}{xs:List α}(r:bV enc c h s xs):xs.length≤140737488355328:=by have:=r.ok.bd;have:=r.len;omega
theorem bV.mono{α:Type}{enc:α→Array Value}{c:Nat}[he:bx enc c]{w w':World}{s:Sv}{xs:List α}(r:bV enc c (hp w) s xs)(hb:Below w.heap.size w w'):bV enc c (hp w') s xs:=
  ⟨r.ok,r.len,fun i x hi j hj=>by
    have h:=r.row i x hi j hj
    rw[←h]
    have Ii:((enc x)[j]?).isSome:=by rw[Array.getElem?_eq_getElem (by rw[he.size];exact hj)];rfl
    rw[←h]at Ii
    have bt:s.b<w.heap.size:=by
      rcases Nat.lt_or_ge s.b w.heap.size with h'|h'
      ·exact h'
      ·simp[mi,hp,Array.getElem?_eq_none h']at Ii
    have e:(hp w') s.b=(hp w) s.b:=hb.block s.b bt
    unfold mi
    rw[e]⟩
def DO(n:Nat)(fz:Nat×Nat):Prop:= ∀j,j<n→ ¬(fz.1≤j∧j<fz.2)
theorem DP(n:Nat):DO n (0,0):=fun j _ h=>by have:=h.2;simp at this
def own{α:Type}(enc:α→Array Value)(c:Nat)(s:Sv)(xs:List α):aj:=
  ⟨fun k=>s.nil=false∧k=s.b,fun h=>bV enc c h s xs∧(s.nil=false→s.sp= .none∧ ∃cs T fz,h s.b=some (.cells cs T fz)∧s.o+s.cap*c≤cs.size∧DO cs.size fz∧(1<c→fz=(0,0))),
   fun h h' e st=>by
    cases hn:s.nil with
    |true=>
     refine⟨⟨st.1.ok,st.1.len,fun i x hi=> ?_⟩,fun h=>by cases h⟩
     have:=st.1.some (List.getElem?_eq_some_iff.1 hi).1
     rw[hn]at this;cases this
    |false=>
     have e1:=e s.b ⟨hn,rfl⟩
     refine⟨⟨st.1.ok,st.1.len,fun i x hi j hj=> ?_⟩,fun _=> ?_⟩
     ·rw[←st.1.row i x hi j hj];unfold mi;rw[e1]
     ·rw[e1];exact st.2 hn⟩
section
variable {P:Program} {N:cB} {w0:World} {env:Env} {L:List aj} {d:Option Tmp} {ty:TypeId} {ps:String} {af:Array Edge} {gd:Option (Nat×Bool)}
variable {α:Type} {enc:α→Array Value} {c:Nat} {s:Sv} {xs:List α}
def oJ(w0:World)(L:List aj){α:Type}(enc:α→Array Value)(c:Nat)(s:Sv)(xs:List α):Prop:= ∀w,Mem w0 L w→bV enc c (hp w) s xs
theorem ym[bx enc c](r:bV enc c (hp w0) s xs):oJ w0 L enc c s xs:=fun _ hw=>r.mono hw.below
class At(L:List aj)(e:aj)(i:outParam Nat):Prop where
  h:L[i]? =some e
instance (priority:=high) At.here {L:List aj}{e:aj}:At (e::L) e 0:=⟨rfl⟩
instance At.there{L:List aj}{e x:aj}{i:Nat}[q:At L e i]:At (x::L) e (i+1):=⟨by simpa using q.h⟩
theorem sE{t e:TypeId}{x:Operand}{m n:Nat}[ht:eW P t e m](hx:ev env x=some s.val)(hs:s.Ok)(hn:s.len=n):
    Ry P N w0 env L ⟨d, .call {callee:= .builtin .len,args:= #[x],argTypes:= #[t]},ty,ps,af,gd⟩ (.int .i64 n):=by
  subst hn
  cases h:s.nil with
  |false=>rw[Sv.g9 h]at hx;exact ua hx
  |true=>
   rw[Sv.qv h]at hx
   rw[(hs.nil h).1]
   exact ua hx
theorem lu{t e:TypeId}{x ix:Operand}{m i:Nat}{k:IntKind}{j:Int}[ht:eW P t e m](hx:ev env x=some s.val)(hj:ev env ix=some (.int k j))(ej:j=(i:Int))(hs:s.Ok)(h1:i<s.len):
    Ry P N w0 env L ⟨d, .indexAddr t x ix,ty,ps,af,gd⟩ (.pointer (some ⟨s.b,s.o+i*m,none⟩)):=by
  subst ej
  rw[Sv.g9 (hs.some (by omega)),hs.sp (by have:=hs.le;omega)]at hx
  have:=H4 (P:=P) (N:=N) (w0:=w0) (L:=L) (d:=d) (ty:=ty) (ps:=ps) (af:=af) (gd:=gd) (t:=t) hx hj (by omega) (by omega)
  simpa using this
theorem AA{t:TypeId}{x:Operand}{i p:Nat}{a:α}[ht:gv P t c][he:bx enc c](hx:ev env x=some (.pointer (some ⟨s.b,p,none⟩)))(hR:oJ w0 L enc c s xs)(hi:xs[i]? =some a)(gR:p=s.o+i*c):
    Ry P N w0 env L ⟨d, .load t x,ty,ps,af,gd⟩ (.agg (enc a)):=yc ht hx (he.size a) fun w hw j hj=>by
  rw[Addr.gw,qw,gR,(hR w hw).row i a hi j hj]
theorem PW{t:TypeId}{x:Operand}{i p j:Nat}{a:α}{v:Value}[ht:gQ P t](hx:ev env x=some (.pointer (some ⟨s.b,p,none⟩)))(hR:oJ w0 L enc c s xs)(hi:xs[i]? =some a)(gR:p=s.o+i*c+j)(hj:j<c)(hv:(enc a)[j]? =some v):
    Ry P N w0 env L ⟨d, .load t x,ty,ps,af,gd⟩ v:=vM ht hx fun w hw=>by
  rw[qw,gR,(hR w hw).row i a hi j hj,hv]
theorem Ij{t:TypeId}{x:Operand}{i p j n:Nat}{a:α}{sub:Array Value}[ht:gv P t n](hx:ev env x=some (.pointer (some ⟨s.b,p,none⟩)))(hR:oJ w0 L enc c s xs)(hi:xs[i]? =some a)(gR:p=s.o+i*c+j)(hj:j+n≤c)[hs:nQ (enc a) j n sub]:
    Ry P N w0 env L ⟨d, .load t x,ty,ps,af,gd⟩ (.agg sub):=yc ht hx hs.size fun w hw k hk=>by
  rw[Addr.gw,qw,gR,Nat.add_assoc,(hR w hw).row i a hi (j+k) (by omega)];exact hs.h k hk
def Sv.sub(s:Sv)(c lo hi:Nat):Sv:=⟨s.nil,s.b,if s.cap=lo then s.o else s.o+lo*c,hi -lo,s.cap -lo,s.sp⟩
theorem Sv.Ok.sub{lo hi:Nat}(h:s.Ok)(h2:hi≤s.cap)(h3:hi≤s.len):(s.sub c lo hi).Ok:=
  ⟨fun hn=>by have:=h.nil hn;simp only[Sv.sub];omega,by simp only[Sv.sub];omega,by have:=h.bd;simp only[Sv.sub];omega,fun hc=>h.sp (by simp only[Sv.sub]at hc;omega)⟩
theorem bV.sub{h:Nat→Option Obj}(r:bV enc c h s xs){lo hi:Nat}(h1:lo≤hi)(h2:hi≤xs.length):bV enc c h (s.sub c lo hi) ((xs.drop lo).take (hi -lo)):=by
  have hl:=r.len
  have hc:=r.ok.le
  refine⟨r.ok.sub (by omega) (by omega),by simp[Sv.sub];omega,fun i x nc j hj=> ?_⟩
  have bt:i<hi -lo:=by
    have:=(List.getElem?_eq_some_iff.1 nc).1
    simp at this;omega
  rw[List.getElem?_take,if_pos bt,List.getElem?_drop]at nc
  have:=r.row (lo+i) x nc j hj
  rw[←this]
  have e:(s.sub c lo hi).o=s.o+lo*c:=by
    simp only[Sv.sub];rw[if_neg (by omega)]
  rw[e,show(s.sub c lo hi).b=s.b from rfl]
  congr 1
  rw[Nat.add_mul];omega
theorem oJ.sub(r:oJ w0 L enc c s xs){lo hi:Nat}(h1:lo≤hi)(h2:hi≤xs.length):oJ w0 L enc c (s.sub c lo hi) ((xs.drop lo).take (hi -lo)):=fun w hw=>(r w hw).sub h1 h2
theorem vW{t e:TypeId}(hu:P.underlying t=some (.slice e)):P.elem t=e:=by simp[Program.elem,hu]
theorem DQ{lo hi:Nat}(hs:s.Ok)(h2:lo≤hi)(h:hi≤s.cap): ∀a len cap,s.val= .slice a len cap→len=s.len∧cap=s.cap∧sliced a lo hi cap c=(s.sub c lo hi).val:=by
  intro a len cap e
  cases hn:s.nil with
  |true=>
   rw[Sv.qv hn]at e
   obtain⟨rfl,rfl,rfl⟩:=by simpa using e
   have:=hs.nil hn
   have e2:(s.sub c lo hi).nil=true:=hn
   rw[Sv.qv e2]
   have:lo=0:=by omega
   have:hi=0:=by omega
   subst lo hi
   exact⟨by omega,by omega,by simp[sliced]⟩
  |false=>
   rw[Sv.g9 hn]at e
   obtain⟨rfl,rfl,rfl⟩:=by simpa using e
   have e2:(s.sub c lo hi).nil=false:=hn
   rw[Sv.g9 e2]
   refine⟨rfl,rfl,?_⟩
   simp only[sliced,Sv.sub]
   by_cases hc:s.cap=lo
   ·simp[hc]
   ·have gx:=hs.sp (by omega)
    simp[hc,gx,Addr.gw]
theorem Sv.ex(s:Sv): ∃ad len cap,s.val= .slice ad len cap:=by unfold Sv.val;split<;>exact⟨_,_,_,rfl⟩
theorem AB{t e:TypeId}{x lo hi:Operand}{m l h:Nat}{k k':IntKind}{il ih:Int}[ht:eW P t e m](hx:ev env x=some s.val)(hl:ev env lo=some (.int k il))(hh:ev env hi=some (.int k' ih))(el:il=(l:Int))(eh:ih=(h:Int))(hs:s.Ok)(h1:l≤h)(h2:h≤s.cap):
    Ry P N w0 env L ⟨d, .slice t x (some lo) (some hi) none,ty,ps,af,gd⟩ (s.sub m l h).val:=fun a w ha _=>by
  subst el eh
  have ee:=vW ht.et
  have hu:P.underlying t=some (.slice (P.elem t)):=by rw[ee];exact ht.et
  obtain⟨ad,len,cap,mj⟩:=s.ex
  obtain⟨e1,e2,e3⟩:=DQ (c:=m) hs h1 h2 ad len cap mj
  have hr:=run_slice_lh (P:=P) (w:=w) t ad len cap hu k k' (l:Int) (h:Int) (by omega) (by omega) (by omega)
  rw[ee,kF w ht.size]at hr
  simp only[Result.andThen,Int.toNat_natCast,e3]at hr
  simp only[execOp,ha.ev hx,ha.ev hl,ha.ev hh,mj,Option.map_some,Option.map_none,run_sliceAt_slice (h:=hu),hr,Sem.run_bind,Result.andThen,Sem.run_pure]
theorem sF{t e:TypeId}{x hi:Operand}{m h:Nat}{k':IntKind}{ih:Int}[ht:eW P t e m](hx:ev env x=some s.val)(hh:ev env hi=some (.int k' ih))(eh:ih=(h:Int))(hs:s.Ok)(h2:h≤s.cap):
    Ry P N w0 env L ⟨d, .slice t x none (some hi) none,ty,ps,af,gd⟩ (s.sub m 0 h).val:=fun a w ha _=>by
  subst eh
  have ee:=vW ht.et
  have hu:P.underlying t=some (.slice (P.elem t)):=by rw[ee];exact ht.et
  obtain⟨ad,len,cap,mj⟩:=s.ex
  obtain⟨e1,e2,e3⟩:=DQ (c:=m) hs (Nat.zero_le h) h2 ad len cap mj
  have hr:=run_slice_h (P:=P) (w:=w) t ad len cap hu k' (h:Int) (by omega) (by omega)
  rw[ee,kF w ht.size]at hr
  simp only[Result.andThen,Int.toNat_natCast,e3]at hr
  simp only[execOp,ha.ev hx,ha.ev hh,mj,Option.map_some,Option.map_none,run_sliceAt_slice (h:=hu),hr,Sem.run_bind,Result.andThen,Sem.run_pure]
theorem qx{t e:TypeId}{x lo:Operand}{m l n:Nat}{k:IntKind}{il:Int}[ht:eW P t e m](hx:ev env x=some s.val)(hl:ev env lo=some (.int k il))(el:il=(l:Int))(hs:s.Ok)(hn:s.len=n)(h1:l≤n):
    Ry P N w0 env L ⟨d, .slice t x (some lo) none none,ty,ps,af,gd⟩ (s.sub m l n).val:=fun a w ha _=>by
  subst el hn
  have ee:=vW ht.et
  have hu:P.underlying t=some (.slice (P.elem t)):=by rw[ee];exact ht.et
  obtain⟨ad,len,cap,mj⟩:=s.ex
  obtain⟨e1,e2,e3⟩:=DQ (c:=m) hs h1 hs.le ad len cap mj
  have hle:=hs.le
  have hr:=run_slice_l (P:=P) (w:=w) t ad len cap hu k (l:Int) (by omega) (by omega)
  rw[ee,kF w ht.size]at hr
  simp only[Result.andThen,Int.toNat_natCast,e1]at hr
  rw[e1]at mj
  rw[e3]at hr
  simp only[execOp,ha.ev hx,ha.ev hl,mj,Option.map_some,Option.map_none,run_sliceAt_slice (h:=hu),hr,Sem.run_bind,Result.andThen,Sem.run_pure]
end
open Go.RowKit
theorem set_perm(x:aj): ∀(L:List aj) (i:Nat),i<L.length→(x::L.eraseIdx i).Perm (L.set i x)
  |[],_,h=>by simp at h
  |_::_,0,_=>by simp
  |a::L,i+1,h=>by
   simp only[List.eraseIdx_cons_succ,List.set_cons_succ]
   exact(List.Perm.swap a x _).trans ((set_perm x L i (by simpa using h)).cons a)
theorem Mem.swap{w0:World}{L:List aj}{w w':World}{E:aj}(h:Mem w0 L w){i:Nat}(hi:i<L.length)(h':Mem w [E] w'):Mem w0 (L.set i E) w':=
  ((h.call h').sub (L':=E::L.eraseIdx i) ((List.eraseIdx_sublist L i).cons_cons E)).perm (set_perm E L i hi)
theorem At.lt{L:List aj}{e:aj}{i:Nat}(h:L[i]? =some e):i<L.length:=(List.getElem?_eq_some_iff.1 h).1
class fk(P:Program)(t:TypeId)(e:outParam TypeId)(c:outParam Nat)(cG:outParam Nat):Prop where
  et:P.underlying t=some (.slice e)
  row:(P.info? e).map (fun i=>(i.zero.map (·.cells.size),i.size,i.bytes))=some (some c,c,cG)
theorem fk.info{P:Program}{t e:TypeId}{c cG:Nat}(h:fk P t e c cG): ∃i z,P.info? e=some i∧i.zero=some z∧i.size=c∧i.bytes=cG∧z.cells.size=c:=by
  have h:=h.row
  cases hi:P.info? e with
  |none=>simp[hi]at h
  |some i=>
   cases hz:i.zero with
   |none=>simp[hi,hz]at h
   |some z=>simp[hi,hz]at h;exact⟨i,z,rfl,hz,h.2.1,h.2.2,h.1⟩
theorem uj{cs vs:Array Value}{o j:Nat}(ho:o+vs.size≤cs.size):(cQ cs o vs)[j]? =if o≤j∧j<o+vs.size then vs[j -o]?else cs[j]? :=by
  unfold cQ
  simp only[List.getElem?_toArray]
  rw[List.append_assoc,List.getElem?_append]
  have e1:(List.take o cs.toList).length=o:=by simp;omega
  rw[e1]
  by_cases h1:j<o
  ·rw[if_pos h1,if_neg (by omega),List.getElem?_take,if_pos h1];simp
  ·rw[if_neg h1,List.getElem?_append]
   by_cases h2:j -o<vs.toList.length
   ·rw[if_pos h2,if_pos (by simp at h2;omega)];simp
   ·rw[if_neg h2,if_neg (by simp at h2;omega),List.getElem?_drop]
    simp at h2⊢
    congr 1;omega
theorem mn{cs vs:Array Value}{o:Nat}(ho:o+vs.size≤cs.size):(cQ cs o vs).size=cs.size:=by
  simp[cQ];omega
theorem yn{P:Program}(g o:Nat)(t:TypeId)(fz:Nat×Nat): ∀(vs:List Value) (i:Nat) (cur:Array Value) (w:World),w.heap[g]? =some (.cells cur t fz)→DO cur.size fz→o+i+vs.length≤cur.size→(∀v∈vs,v.oneCell'=true)→
    (storeCells ⟨g,o,none⟩ vs i).run P w= .ok () (w.setRow g (cur.toList.take (o+i)++vs++cur.toList.drop (o+i+vs.length)).toArray)
  |[],i,cur,w,hg,_,_,_=>by
   simp only[storeCells,List.append_nil,List.length_nil,Nat.add_zero,List.take_append_drop,Array.toArray_toList]
   rw[setRow_self w g cur t fz hg]
   rfl
  |v::rest,i,cur,w,hg,hf,hl,h1=>by
   have hi:o+i<cur.size:=by simp at hl;omega
   have PX:(⟨g,o,none⟩:Addr).add i=⟨g,o+i,none⟩:=by unfold Addr.add;split<;>simp_all
   have AD:w.cell? ⟨g,o+i,none⟩=some cur[o+i]:=by simp[World.cell?,hg,hi]
   have PY:w.frozen? ⟨g,o+i,none⟩=false:=by
      have:=hf (o+i) hi
      obtain⟨a,b⟩:=fz
      simp only[World.frozen?,hg]
      simp only[Bool.and_eq_false_iff,decide_eq_false_iff_not]
      omega
   have bG:(store ((⟨g,o,none⟩:Addr).add i) v).run P w= .ok () (w.setRow g (cur.setIfInBounds (o+i) v)):=by
      rw[PX,run_store P w _ v _ (h1 v (by simp)),AD]
      simp[PY,setCell_eq_setRow w g (o+i) cur t fz v hg]
   have ih:=yn (P:=P) g o t fz rest (i+1) (cur.setIfInBounds (o+i) v) (w.setRow g (cur.setIfInBounds (o+i) v)) (setRow_heap w g cur _ t _ hg) (by simpa using hf) (by simp at hl⊢;omega) (fun x hx=>h1 x (by simp[hx]))
   simp only[storeCells,Sem.run_bind,bG,Result.andThen_ok,ih,setRow_setRow]
   congr 3
   have e:=list_seg_step cur.toList (o+i) v rest (by simp at hl⊢;omega)
   simpa[Array.toList_setIfInBounds,Nat.add_assoc]using e
section
variable {α:Type} {enc:α→Array Value} {c:Nat}
def aK(enc:α→Array Value)(xs:List α):List Value:=xs.flatMap fun x=>(enc x).toList
theorem gS[he:bx enc c]: ∀xs:List α,(aK enc xs).length=xs.length*c
  |[]=>by simp[aK]
  |x::xs=>by
   have:=gS xs
   simp only[aK,List.flatMap_cons,List.length_append]at this⊢
   rw[this,Array.length_toList,he.size,List.length_cons,Nat.add_mul];omega
theorem mo[he:bx enc c]: ∀(xs:List α) (i:Nat) (x:α),xs[i]? =some x→ ∀j,j<c→(aK enc xs)[i*c+j]? =(enc x)[j]?
  |[],i,x,h,_,_=>by simp at h
  |y::xs,0,x,h,j,hj=>by
   obtain rfl:y=x:=by simpa using h
   simp only[aK,List.flatMap_cons,Nat.zero_mul,Nat.zero_add]
   rw[List.getElem?_append_left (by rw[Array.length_toList,he.size];exact hj)];simp
  |y::xs,i+1,x,h,j,hj=>by
   have:=mo xs i x (by simpa using h) j hj
   simp only[aK,List.flatMap_cons]at this⊢
   rw[List.getElem?_append_right (by rw[Array.length_toList,he.size,Nat.add_mul];omega),Array.length_toList,he.size]
   rw[←this];congr 1;rw[Nat.add_mul];omega
theorem AE(hc:0<c)[he:bx enc c]{xs:List α}{k:Nat}{v:Value}(h:(aK enc xs)[k]? =some v): ∃x,xs[k/c]? =some x∧(enc x)[k%c]? =some v:=by
  have hk:k<xs.length*c:=by
    have:=(List.getElem?_eq_some_iff.1 h).1
    rwa [gS]at this
  have hd:k/c<xs.length:=Nat.div_lt_of_lt_mul (by rwa [Nat.mul_comm])
  refine⟨xs[k/c],by simp[hd],?_⟩
  rw[←mo xs (k/c) xs[k/c] (by simp[hd]) (k%c) (Nat.mod_lt _ hc),←h]
  congr 1;rw[Nat.mul_comm];exact Nat.div_add_mod k c
theorem sG[he:bx enc c](xs:List α): ∀u∈aK enc xs,u.oneCell'=true:=fun u hu=>by
  obtain⟨x,_,hx⟩:=List.mem_flatMap.1 hu
  exact(Array.all_eq_true_iff_forall_mem.1 (he.one x)) u (by simpa using hx)
theorem sH{h:Nat→Option Obj}{s:Sv}{xs:List α}{cs:Array Value}{T:TypeId}{fz:Nat×Nat}(ok:s.Ok)(hl:s.len=xs.length)(hb:h s.b=some (.cells cs T fz))
    (hc: ∀i x,xs[i]? =some x→ ∀j,j<c→cs[s.o+i*c+j]? =(enc x)[j]?):bV enc c h s xs:=
  ⟨ok,hl,fun i x hi j hj=>by unfold mi;rw[hb];exact hc i x hi j hj⟩
theorem kI{P:Program}{tx e':TypeId}(hk:P.underlying tx=some (.slice e'))(hc:0<c)[he:bx enc c]{w:World}{s:Sv}{xs:List α}(r:bV enc c (hp w) s xs):Src P c tx s.val xs.length (aK enc xs) w:=by
  cases hn:s.nil with
  |true=>
   have:xs=[]:=by have:=(r.ok.nil hn).1;rw[r.len]at this;exact List.length_eq_zero_iff.1 this
   subst this
   rw[Sv.qv hn]
   exact Src.ofNil w hk 0
  |false=>
   rw[Sv.g9 hn,r.len]
   refine Src.ofSlice w hk _ _ _ _ (gS xs) (fun j u hu=> ?_) (sG xs)
   obtain⟨x,hx,DR⟩:=AE hc hu
   have gx:=r.ok.sp (by have h1:=Nat.lt_of_le_of_lt (Nat.zero_le _) (List.getElem?_eq_some_iff.1 hx).1;have:=r.len;have:=r.ok.le;omega)
   rw[gx,Addr.gw,qw,←DR,←r.row _ x hx (j%c) (Nat.mod_lt _ hc)]
   congr 1
   have:=Nat.div_add_mod j c
   rw[Nat.mul_comm]at this;omega
theorem DS{P:Program}{t tx ty e:TypeId}{cG:Nat}(ht:fk P t e c cG)(hc:0<c)[he:bx enc c]{w0 w:World}{L:List aj}{i:Nat}{s:Sv}{xs ys:List α}{x:Value}
    (hw:Mem w0 L w) (hi:L[i]? =some (own enc c s xs)) (hs:Src P c tx x ys.length (aK enc ys) w) (hb:(xs.length+ys.length)*cG≤140737488355328) (iO:xs.length+ys.length≤140737488355328):
    ∃s' w',(Builtin.append_ #[t,tx] ty #[s.val,x]).run P w= .ok (Sv.val s') w'∧s'.Ok∧s'.len=(xs++ys).length∧Mem w0 (L.set i (own enc c s' (xs++ys))) w':=by
  obtain⟨r,mq⟩:=hw.get hi
  obtain⟨i',z,bk,aG,bB,cV,lL⟩:=ht.info
  subst bB cV
  have hlen:=r.len
  have hle:=r.ok.le
  have grow:s.cap<s.len+ys.length→ ∀(base:Option Addr),s.val= .slice base s.len s.cap→(Builtin.firstCells i'.size s.len (.slice base s.len s.cap)).run P w.drew= .ok (aK enc xs).toArray w.drew→
      ∃s' w',(Builtin.append_ #[t,tx] ty #[s.val,x]).run P w= .ok (Sv.val s') w'∧s'.Ok∧s'.len=(xs++ys).length∧Mem w0 (L.set i (own enc i'.size s' (xs++ys))) w':=by
    intro hg base hv hold
    have uk:=nextslicecap_le hg
    have iG:Builtin.nextslicecap (s.len+ys.length) s.cap*i'.bytes≤281474976710656:=by
      have h2:Builtin.nextslicecap (s.len+ys.length) s.cap*i'.bytes≤2*(s.len+ys.length)*i'.bytes:=Nat.mul_le_mul_right _ uk
      rw[Nat.mul_assoc,hlen]at h2
      rw[hlen];omega
    have hr:=run_append_grow_src w t tx ty e i' z ht.et bk aG base s.len s.cap (aK enc xs) hold x ys.length (aK enc ys) hs hg (by omega) iG
    have qy:=grownCap_ge w (s.len+ys.length) s.cap e
    generalize grownCap w (s.len+ys.length) s.cap e=C at hr qy
    refine⟨⟨false,w.heap.size,0,s.len+ys.length,C,none⟩,_,by rw[hv,hr];rfl,⟨(fun h=>by cases h),qy,by simp only;omega,fun _=>rfl⟩,by simp[hlen],hw.swap (At.lt hi) ?_⟩
    have hm:=(Mem.init w).drew.alloc ((aK enc xs++aK enc ys).toArray++Builtin.zeroCells z.cells (C -(s.len+ys.length))) e
    refine⟨hm.below,fun q hq=> ?_,fun q hq k hk=> ?_,by simp⟩
    ·obtain rfl:=List.mem_singleton.1 hq
     have eP:hp (w.drew.alloc (.cells ((aK enc xs++aK enc ys).toArray++Builtin.zeroCells z.cells (C -(s.len+ys.length))) e)) w.heap.size=some (.cells ((aK enc xs++aK enc ys).toArray++Builtin.zeroCells z.cells (C -(s.len+ys.length))) e (0,0)):=Below.Ad w.drew _
     have ez:aK enc xs++aK enc ys=aK enc (xs++ys):=by simp[aK]
     rw[ez]at eP
     rw[ez]
     have fv:(aK enc (xs++ys)).length=(xs.length+ys.length)*i'.size:=by rw[gS];simp
     refine⟨sH (enc:=enc) (c:=i'.size) (xs:=xs++ys) ⟨(fun h=>by cases h),qy,by simp only;omega,fun _=>rfl⟩ (by simp[hlen]) eP fun k y hy j hj=> ?_,fun _=>⟨rfl,_,_,_,eP,?_,DP _,fun _=>rfl⟩⟩
     ·have um:=mo (enc:=enc) (xs++ys) k y hy j hj
      have bt:k*i'.size+j<(aK enc (xs++ys)).length:=by
          rw[fv]
          have h1:=(List.getElem?_eq_some_iff.1 hy).1
          rw[List.length_append]at h1
          calc k*i'.size+j<k*i'.size+i'.size:=by omega
            _=(k+1)*i'.size:=by rw[Nat.add_mul];omega
            _≤_:=Nat.mul_le_mul_right _ h1
      simp only[Nat.zero_add]
      rw[←um,Array.getElem?_append_left (by simpa using bt)];simp
     ·have h3:=size_zeroCells z.cells (C -(s.len+ys.length))
      rw[lL]at h3
      simp only[Array.size_append,List.size_toArray,h3,fv,Nat.zero_add]
      rw[←Nat.add_mul,hlen]
      refine Nat.mul_le_mul_right _ ?_
      omega
    ·obtain rfl:=List.mem_singleton.1 hq
     obtain rfl:k=w.heap.size:=hk.2
     simp
  cases hn:s.nil with
  |true=>
   have h0:=r.ok.nil hn
   have dQ:xs=[]:=by rw[hlen]at h0;exact List.length_eq_zero_iff.1 h0.1
   subst dQ
   by_cases hy:ys.length=0
   ·have uo:ys=[]:=List.length_eq_zero_iff.1 hy
    subst uo
    refine⟨s,w,?_,r.ok,by simpa using hlen,?_⟩
    ·rw[Sv.qv hn]
     have vX:=hs.cells
     simp only[List.length_nil]at vX
     rcases hs.kind with⟨e',hk⟩|hk<;>simp[Builtin.append_,run_underlying ht.et,run_underlying hk,sizeOf,typeInfo,bk,hs.len,vX]
    ·have:L.set i (own enc i'.size s ([]++[]))=L:=by
          rw[List.append_nil]
          refine List.ext_getElem? fun k=> ?_
          rw[List.getElem?_set]
          by_cases hk:i=k
          ·subst hk;rw[if_pos rfl,hi,if_pos (At.lt hi)]
          ·rw[if_neg hk]
     rw[this];exact hw
   ·refine grow (by omega) .none (by rw[Sv.qv hn,h0.1,h0.2]) ?_
    rw[h0.1,h0.2]
    exact run_firstCells_none w.drew _ _ _ _
  |false=>
   obtain⟨gx,cs,T,fz,eP,fv,ly,lM⟩:=mq hn
   by_cases ng:s.len+ys.length≤s.cap
   ·have hmul:(s.len+ys.length)*i'.size≤s.cap*i'.size:=Nat.mul_le_mul_right _ ng
    have ez:(aK enc ys).length=ys.length*i'.size:=gS ys
    have iG:s.o+s.len*i'.size+(aK enc ys).toArray.size≤cs.size:=by
        rw[List.size_toArray,ez];rw[Nat.add_mul]at hmul;omega
    have bG:=yn (P:=P) s.b (s.o+s.len*i'.size) T fz (aK enc ys) 0 cs w eP ly (by simpa using iG) hs.one
    have yo:(storeCells ⟨s.b,s.o+s.len*i'.size,none⟩ (aK enc ys)).run P w= .ok () (w.setRow s.b (cQ cs (s.o+s.len*i'.size) (aK enc ys).toArray)):=by
        simpa[cQ]using bG
    refine⟨{s with len:=s.len+ys.length},w.setRow s.b (cQ cs (s.o+s.len*i'.size) (aK enc ys).toArray),?_,⟨(fun h=>by rw[hn]at h;cases h),ng,by simp only;omega,r.ok.sp⟩,by simp[hlen],?_⟩
    ·have kH:({s with len:=s.len+ys.length}:Sv).val= .slice (some ⟨s.b,s.o,s.sp⟩) (s.len+ys.length) s.cap:=Sv.g9 (s:={s with len:=s.len+ys.length}) hn
     rw[Sv.g9 hn,kH,gx]
     rcases hs.kind with⟨e',hk⟩|hk<;>simp[Builtin.append_,run_underlying ht.et,run_underlying hk,sizeOf,typeInfo,bk,hs.len,ng,hs.cells,Addr.gw,yo]
    ·have mr:hp (w.setRow s.b (cQ cs (s.o+s.len*i'.size) (aK enc ys).toArray)) s.b=some (.cells (cQ cs (s.o+s.len*i'.size) (aK enc ys).toArray) T fz):=setRow_heap w s.b cs _ T fz eP
     refine hw.change hi (fun k hk=>hk) (fun k hk=> ?_) (by simp[World.setRow]) ⟨rfl,rfl,rfl⟩ ⟨sH ⟨(fun h=>by rw[hn]at h;cases h),ng,by simp only;omega,r.ok.sp⟩ (by simp[hlen]) mr fun k y hy j hj=> ?_,fun _=>⟨gx,_,_,_,mr,?_,by rw[mn iG];exact ly,lM⟩⟩
     ·exact setRow_other w s.b k _ (fun e=>hk ⟨hn,e⟩)
     ·rw[uj iG]
      by_cases hk:k<xs.length
      ·rw[if_neg,←r.row k y (by rw[List.getElem?_append_left hk]at hy;exact hy) j hj]
       ·unfold mi;rw[eP]
       ·have:(k+1)*i'.size≤s.len*i'.size:=Nat.mul_le_mul_right _ (by omega)
        rw[Nat.add_mul]at this
        intro h;have:=h.1;simp only at this;omega
      ·rw[List.getElem?_append_right (by omega)]at hy
       have um:=mo (enc:=enc) ys (k -xs.length) y hy j hj
       have nS:s.len*i'.size+(k -xs.length)*i'.size=k*i'.size:=by rw[←Nat.add_mul];congr 1;omega
       have bt:(k -xs.length+1)*i'.size≤ys.length*i'.size:=Nat.mul_le_mul_right _ (by have:=(List.getElem?_eq_some_iff.1 hy).1;omega)
       rw[Nat.add_mul]at bt
       rw[if_pos ⟨by simp only;omega,by rw[List.size_toArray,ez];simp only;omega⟩,←um]
       simp only[List.getElem?_toArray]
       congr 1;omega
     ·rw[mn iG];exact fv
   ·refine grow (by omega) _ (by rw[Sv.g9 hn,gx]) ?_
    refine run_firstCells_some w.drew _ _ _ _ _ _ (by rw[gS,hlen]) fun j u hu=> ?_
    obtain⟨y,hy,DR⟩:=AE hc hu
    have:=r.row _ y hy (j%i'.size) (Nat.mod_lt _ hc)
    rw[DR]at this
    rw[Addr.gw]
    show w.cell? _=_
    rw[qw,←this]
    congr 1
    have h9:=Nat.div_add_mod j i'.size
    rw[Nat.mul_comm]at h9;omega
theorem Ik(off:Nat): ∀(vs:List Value) (k:Nat) (cs:Array Value),off+k+vs.length≤cs.size→
    (vs.zipIdx k).foldl (fun cs (p:Value×Nat)=>cs.setIfInBounds (off+p.2) p.1) cs=(cs.toList.take (off+k)++vs++cs.toList.drop (off+k+vs.length)).toArray
  |[],k,cs,_=>by simp
  |v::vs,k,cs,h=>by
   simp only[List.zipIdx_cons,List.foldl_cons,List.length_cons]at h⊢
   rw[Ik off vs (k+1) _ (by simp;omega)]
   apply Array.ext'
   have e1:(cs.setIfInBounds (off+k) v).toList=cs.toList.set (off+k) v:=by simp
   rw[e1]
   have bt:off+k<cs.toList.length:=by simp;omega
   have e2:(cs.toList.set (off+k) v).take (off+(k+1))=cs.toList.take (off+k)++[v]:=by
      rw[←Nat.add_assoc,List.take_add_one,List.take_set_of_le (Nat.le_refl _),List.getElem?_set_self bt]
      rfl
   have e3:(cs.toList.set (off+k) v).drop (off+(k+1)+vs.length)=cs.toList.drop (off+k+(vs.length+1)):=by
      rw[List.drop_set_of_lt (by omega)];congr 1;omega
   rw[e2,e3];simp
def idx(vals:List Value)(i:Nat):List (Nat×Value):=(vals.zipIdx i).map fun p=>(p.2,p.1)
theorem Il[he:bx enc c]: ∀(xs:List α) (vals:List Value) (i:Nat) (cs:Array Value),vals.map Value.cells=xs.map enc→i*c+xs.length*c≤cs.size→
    Instr.fill (fun i=>some (i*c,c)) cs (idx vals i)=some (cs.toList.take (i*c)++aK enc xs++cs.toList.drop (i*c+xs.length*c)).toArray
  |[],[],i,cs,_,_=>by simp[idx,Instr.fill,aK]
  |[],_::_,_,_,h,_=>by simp at h
  |_::_,[],_,_,h,_=>by simp at h
  |x::xs,v::vals,i,cs,h,hs=>by
   simp only[List.map_cons,List.cons.injEq]at h
   obtain⟨h1,h2⟩:=h
   have fv:v.cells.size=c:=by rw[h1];exact he.size x
   rw[List.length_cons,Nat.add_mul,Nat.one_mul]at hs
   simp only[idx,List.zipIdx_cons,List.map_cons,Instr.fill,fv]
   rw[if_neg (by simp;omega)]
   have ef:v.cells.zipIdx.foldl (fun cs (p:Value×Nat)=>cs.setIfInBounds (i*c+p.2) p.1) cs=(cs.toList.take (i*c)++v.cells.toList++cs.toList.drop (i*c+c)).toArray:=by
      have:=Ik (i*c) v.cells.toList 0 cs (by simp;omega)
      simp only[Nat.add_zero]at this
      rw[←Array.foldl_toList,Array.toList_zipIdx,this]
      simp[fv]
   have PZ:(v.cells.zipIdx.foldl (fun cs (x:Value×Nat)=>match x with|(c',j)=>cs.setIfInBounds (i*c+j) c') cs)=(cs.toList.take (i*c)++v.cells.toList++cs.toList.drop (i*c+c)).toArray:=ef
   rw[PZ]
   have Im:(cs.toList.take (i*c)++v.cells.toList).length=(i+1)*c:=by simp[fv,Nat.add_mul];omega
   have:=Il xs vals (i+1) (cs.toList.take (i*c)++v.cells.toList++cs.toList.drop (i*c+c)).toArray h2 (by simp[fv,Nat.add_mul];omega)
   unfold idx at this
   rw[this]
   congr 1
   apply Array.ext'
   rw[List.take_left' Im,←List.drop_drop (j:=(i+1)*c) (i:=xs.length*c),List.drop_left' Im]
   simp only[aK,List.flatMap_cons,h1,List.append_assoc,List.append_cancel_left_eq]
   rw[List.drop_drop,List.length_cons,show i*c+c+xs.length*c=i*c+(xs.length+1)*c by rw[Nat.add_mul];omega]
end
section
variable {P:Program} {N:cB} {w0:World} {env:Env} {L:List aj} {l:List Oper} {Q:Exit→Act→World→Prop} {rest:List Oper} {d:Option Tmp} {ty:TypeId} {ps:String} {af:Array Edge}
variable {α:Type} {enc:α→Array Value} {c:Nat} {s:Sv} {xs ys:List α}
class fG(L:List aj)(s:Sv){α:outParam Type}(enc:outParam (α→Array Value))(c:outParam Nat)(xs:outParam (List α))(i:outParam Nat):Prop where
  h:L[i]? =some (own enc c s xs)
instance (priority:=high) fG.here {L:List aj}:fG (own enc c s xs::L) s enc c xs 0:=⟨rfl⟩
instance fG.there{L:List aj}{e:aj}{i:Nat}[q:fG L s enc c xs i]:fG (e::L) s enc c xs (i+1):=⟨by simpa using q.h⟩
theorem fG.holds{i:Nat}(q:fG L s enc c xs i):oJ w0 L enc c s xs:=fun _ hw=>(hw.get q.h).1
theorem Mem.dI{w:World}(enc:α→Array Value)(c:Nat)(h:Mem w0 L w):Mem w0 (own enc c Sv.none []::L) w:=
  h.call (E:=[own enc c Sv.none []]) ⟨Below.refl _ _,fun e he=>by
    obtain rfl:=List.mem_singleton.1 he
    exact⟨bV.nil enc c _,(fun h=>by cases h)⟩,fun e he k hk=>by
    obtain rfl:=List.mem_singleton.1 he
    exact absurd hk.1 (by simp[Sv.none]),by simp⟩
theorem lN{t tx e:TypeId}{x y:Operand}{yv:Value}{cG i:Nat}[ht:fk P t e c cG][he:bx enc c](hx:ev env x=some s.val)(hy:ev env y=some yv)[q:fG L s enc c xs i](hc:0<c)
    (hs: ∀w,Mem w0 L w→Src P c tx yv ys.length (aK enc ys) w) (hb:(xs.length+ys.length)*cG≤140737488355328) (iO:xs.length+ys.length≤140737488355328) {L':Sv→List aj} [hu: ∀s',fw L i (own enc c s' (xs++ys)) (L' s')]
    (hk: ∀s':Sv,s'.Ok→s'.len=(xs++ys).length→Sq P N w0 l Q rest (cw env d s'.val) (L' s')) (hd:dj N d=true:=by rfl):
    Sq P N w0 l Q (⟨d, .call {callee:= .builtin .append,args:= #[x,y],argTypes:= #[t,tx]},ty,ps,af,none⟩::rest) env L:=
  mg rfl hd fun a w ha hw=>by
    obtain⟨s',w',h1,h2,h3,h4⟩:=DS (ty:=ty) ht hc hw q.h (hs w hw) hb iO
    refine⟨s'.val,w',L' s',?_,by rw[←(hu s').h];exact h4,hk s' h2 h3⟩
    simp[execOp,ha.ev hx,ha.ev hy,resolve,invoke,builtin,h1,Result.andThen]
theorem vY{w:World}{b:Nat}{cs:Array Value}{e:TypeId}(hb:b=w.heap.size)(n cap:Nat)(hn:n=xs.length)(hle:n≤cap)(iO:n≤140737488355328)(fv:cap*c≤cs.size)(hc: ∀i x,xs[i]? =some x→ ∀j,j<c→cs[i*c+j]? =(enc x)[j]?):
    Mem w [own enc c ⟨false,b,0,n,cap,none⟩ xs] (w.alloc (.cells cs e)):=by
  subst hb
  have hm:=(Mem.init w).alloc cs e
  have eP:hp (w.alloc (.cells cs e)) w.heap.size=some (.cells cs e (0,0)):=Below.Ad w _
  refine⟨hm.below,fun q hq=> ?_,fun q hq k hk=> ?_,by simp⟩
  ·obtain rfl:=List.mem_singleton.1 hq
   exact⟨sH ⟨(fun h=>by cases h),hle,iO,fun _=>rfl⟩ hn eP (by simpa using hc),fun _=>⟨rfl,_,_,_,eP,by simpa using fv,DP _,fun _=>rfl⟩⟩
  ·obtain rfl:=List.mem_singleton.1 hq
   obtain rfl:k=w.heap.size:=hk.2
   simp
theorem DT{n c:Nat}(h0:0<n*c)(h:n*c≤16777216):n≤140737488355328:=by
  have:n*1≤n*c:=Nat.mul_le_mul_left _ (by rcases Nat.eq_zero_or_pos c with rfl|h';·simp at h0
                                          ·exact h')
  omega
theorem DU{t e:TypeId}{cG:Nat}(ht:fk P t e c cG)[he:bx enc c]{vals:List Value}(hv:vals.map Value.cells=xs.map enc)(hc:0<xs.length*c)(rC:xs.length*c≤16777216)(w:World):
    (Instr.buildSlice t xs.length (idx vals 0).toArray).run P w= .ok (.slice (some ⟨w.heap.size,0,none⟩) xs.length xs.length) (w.alloc (.cells (aK enc xs).toArray e)):=by
  obtain⟨i',z,bk,aG,bB,cV,lL⟩:=ht.info
  subst bB
  have hf:=Il (enc:=enc) (c:=i'.size) xs vals 0 ((Array.range (xs.length*i'.size)).map (z.cells[· %z.cells.size]!)) hv (by simp)
  have P0:((Array.range (xs.length*i'.size)).map (z.cells[· %z.cells.size]!)).toList.drop (0*i'.size+xs.length*i'.size)=[]:=by simp
  rw[P0]at hf
  simp only[Nat.zero_mul,List.take_zero,List.nil_append,List.append_nil]at hf
  have n1: ¬xs.length*i'.size>2^24:=by omega
  have n2: ¬xs.length*i'.size=0:=by omega
  simp[Instr.buildSlice,run_underlying ht.et,sizeOf,typeInfo,zeroValue,bk,aG,n1,n2,hf,newRow,newObj,Sem.run,Result.andThen]
theorem oK{t e:TypeId}{cG n:Nat}[ht:fk P t e c cG][he:bx enc c]{ops:List (Nat×Operand)}{vals:List Value}(xs:List α)(hx:kG env ops=some (idx vals 0))(hv:vals.map Value.cells=xs.map enc)(hn:xs.length=n)(hc:0<n*c)(rC:n*c≤16777216)
    (hk: ∀b,Sq P N w0 l Q rest (cw env d (Sv.val ⟨false,b,0,n,n,none⟩)) (own enc c ⟨false,b,0,n,n,none⟩ xs::L)) (hd:dj N d=true:=by rfl):
    Sq P N w0 l Q (⟨d, .buildSlice t n ops.toArray,ty,ps,af,none⟩::rest) env L:=
  mg rfl hd fun a w ha hw=>by
    subst hn
    have e1:(ops.toArray.map fun(p:Nat×Operand)=>match p with|(i,x)=>(i,a.eval x))=(idx vals 0).toArray:=by
      rw[←ha.kG hx];simp
    refine⟨_,_,_,?_,hw.call (vY (enc:=enc) (c:=c) (xs:=xs) (cs:=(aK enc xs).toArray) (e:=e) rfl xs.length xs.length rfl (Nat.le_refl _) (DT hc rC) (by simp[gS]) fun i x hx j hj=>by rw[←mo (enc:=enc) xs i x hx j hj];simp),hk _⟩
    simp only[execOp,e1,Sem.run_bind,DU ht hv hc rC w,Result.andThen,Sem.run_pure];rfl
theorem P1{zc:Array Value}(m n:Nat)(h:zc.size=c)(i j:Nat)(hi:i<n)(hj:j<c)(hm:n*c≤m):(madeCells zc m)[i*c+j]? =zc[j]? :=by
  have bt:i*c+j<m:=by
    have:(i+1)*c≤n*c:=Nat.mul_le_mul_right _ hi
    rw[Nat.add_mul]at this;omega
  have e1:(i*c+j)%zc.size=j:=by rw[h,Nat.mul_comm,Nat.mul_add_mod];exact Nat.mod_eq_of_lt hj
  have hz:j<zc.size:=by omega
  simp[madeCells,bt,e1,hz]
theorem DV{t e:TypeId}{cG n cap:Nat}{z:Value}(ht:fk P t e c cG)(hz:fh P e z){k k':IntKind}(x0:α)(h0:enc x0=z.cells)(hle:n≤cap)(hb:cG*cap≤281474976710656)(iO:cap≤140737488355328)(w:World):
    ∃w',(Instr.makeSlice t (.int k n) (.int k' cap)).run P w= .ok (Sv.val ⟨false,w.heap.size,0,n,cap,none⟩) w'∧Mem w [own enc c ⟨false,w.heap.size,0,n,cap,none⟩ (List.replicate n x0)] w':=by
  obtain⟨i',z',bk,aG,bB,cV,lL⟩:=ht.info
  obtain rfl:z'=z:=by
    have:=hz.zero
    rw[bk,Option.map_some,aG]at this;exact Option.some.inj (Option.some.inj this)
  subst bB cV
  have mr:(i'.bytes:Int)*(cap:Int)≤281474976710656:=by
    have h:((i'.bytes*cap:Nat):Int)≤281474976710656:=by omega
    rwa [Int.natCast_mul]at h
  have hr:=run_make (P:=P) w t e i' _ ht.et bk aG k k' n cap (by omega) (by omega) mr (by omega)
  simp only[Int.toNat_natCast]at hr
  refine⟨_,hr,vY rfl n cap (by simp) hle (by omega) (by simp[size_madeCells]) fun i x hx j hj=> ?_⟩
  have hi:i<n:=by
    have:=(List.getElem?_eq_some_iff.1 hx).1
    simpa using this
  obtain rfl:x0=x:=by rw[List.getElem?_replicate,if_pos hi]at hx;exact Option.some.inj hx
  rw[h0]
  exact P1 _ n lL i j hi hj (Nat.mul_le_mul_right _ hle)
theorem sI{t e:TypeId}{cG n cap:Nat}{z:Value}{x y:Operand}{k k':IntKind}{ix iy:Int}[ht:fk P t e c cG][hz:fh P e z](x0:α)(h0:enc x0=z.cells)(hx:ev env x=some (.int k ix))(hy:ev env y=some (.int k' iy))(ex:ix=(n:Int))(ey:iy=(cap:Int))(hle:n≤cap)(hb:cG*cap≤281474976710656)(iO:cap≤140737488355328)
    (hk: ∀b,Sq P N w0 l Q rest (cw env d (Sv.val ⟨false,b,0,n,cap,none⟩)) (own enc c ⟨false,b,0,n,cap,none⟩ (List.replicate n x0)::L)) (hd:dj N d=true:=by rfl):
    Sq P N w0 l Q (⟨d, .makeSlice t x y,ty,ps,af,none⟩::rest) env L:=
  mg rfl hd fun a w ha hw=>by
    subst ex ey
    obtain⟨w',h1,h2⟩:=DV ht hz (k:=k) (k':=k') (n:=n) x0 h0 hle hb iO w
    exact⟨_,w',_,by simp only[execOp,ha.ev hx,ha.ev hy,Sem.run_bind,h1,Result.andThen,Sem.run_pure],hw.call h2,hk _⟩
theorem Io{w:World}{L':List aj}{i k j:Nat}{a a':α}{vs:Array Value}[he:bx enc c](hw:Mem w0 L w)(q:fG L s enc c xs i)(ha:xs[k]? =some a)(hv:vs.all (·.oneCell')=true)(hj:j+vs.size≤c)(pH:cQ (enc a) j vs=enc a')(hu:fw L i (own enc c s (xs.set k a')) L'):
    ∃w',(storeCells ⟨s.b,s.o+k*c+j,none⟩ vs.toList).run P w= .ok () w'∧Mem w0 L' w':=by
  obtain⟨r,mq⟩:=hw.get q.h
  have hk:k<xs.length:=(List.getElem?_eq_some_iff.1 ha).1
  have hn:=r.some hk
  have hle:=r.ok.le
  have hlen:=r.len
  obtain⟨gx,cs,T,fz,eP,fv,ly,lM⟩:=mq hn
  have hmul:(k+1)*c≤s.cap*c:=Nat.mul_le_mul_right _ (by omega)
  have abz:=hmul
  rw[Nat.add_mul]at hmul
  have iG:s.o+k*c+j+vs.size≤cs.size:=by omega
  have bG:=yn (P:=P) s.b (s.o+k*c+j) T fz vs.toList 0 cs w eP ly (by simpa using iG) (fun v kH=>(Array.all_eq_true_iff_forall_mem.1 hv) v (by simpa using kH))
  refine⟨w.setRow s.b (cQ cs (s.o+k*c+j) vs),by simpa[cQ]using bG,?_⟩
  have mr:hp (w.setRow s.b (cQ cs (s.o+k*c+j) vs)) s.b=some (.cells (cQ cs (s.o+k*c+j) vs) T fz):=setRow_heap w s.b cs _ T fz eP
  rw[←hu.h]
  refine hw.change q.h (fun k hk=>hk) (fun x hx=>setRow_other w s.b x _ (fun e=>hx ⟨hn,e⟩)) (by simp[World.setRow]) ⟨rfl,rfl,rfl⟩ ⟨sH r.ok (by simpa using hlen) mr fun x y hy p gR=> ?_,fun _=>⟨gx,_,_,_,mr,by rw[mn iG];exact fv,by rw[mn iG];exact ly,lM⟩⟩
  rw[uj iG]
  by_cases Ip:x=k
  ·subst Ip
   obtain rfl:a'=y:=by rw[List.getElem?_set_self hk]at hy;exact Option.some.inj hy
   rw[←pH,uj (by rw[he.size];exact hj)]
   by_cases h1:j≤p∧p<j+vs.size
   ·rw[if_pos h1,if_pos (by omega)];congr 1;omega
   ·rw[if_neg h1,if_neg (by omega),←r.row x a ha p gR]
    unfold mi;rw[eP]
  ·rw[List.getElem?_set_ne (by omega)]at hy
   rw[if_neg,←r.row x y hy p gR]
   ·unfold mi;rw[eP]
   ·intro h
    rcases Nat.lt_or_gt_of_ne Ip with h'|h'
    ·have:(x+1)*c≤k*c:=Nat.mul_le_mul_right _ h'
     rw[Nat.add_mul]at this;omega
    ·have:(k+1)*c≤x*c:=Nat.mul_le_mul_right _ h'
     rw[Nat.add_mul]at this;omega
theorem kJ{t:TypeId}{x y:Operand}{i k j n p:Nat}{a a':α}{v:Value}(sz:(P.info? t).map (·.size)=some n)[he:bx enc c](hx:ev env x=some (.pointer (some ⟨s.b,p,none⟩)))(hy:ev env y=some v)[q:fG L s enc c xs i](gR:p=s.o+k*c+j)
    (ha:xs[k]? =some a) (hv:v.cells.all (·.oneCell')=true) (hn:v.cells.size=n) (hj:j+n≤c) (pH:cQ (enc a) j v.cells=enc a') {L':List aj} [hu:fw L i (own enc c s (xs.set k a')) L'] (hk:Sq P N w0 l Q rest env L'):
    Sq P N w0 l Q (⟨none, .store t x y,ty,ps,af,none⟩::rest) env L:=
  Aw rfl rfl fun aa w yp hw=>by
    subst gR hn
    obtain⟨w',h1,h2⟩:=Io (P:=P) hw q ha hv hj pH hu
    refine⟨w',_,?_,h2,hk⟩
    simp only[execOp,yp.ev hx,yp.ev hy,Instr.storeAt,Instr.sureAddr,storeVar,Sem.run_bind,Sem.run_pure,Result.andThen,kF w sz]
    simp[h1]
theorem P2{X:Type}{val:X→Value}{L':X→List aj}{pr:X→Prop}{f:FuncId}{xs:List Operand}{ts:Array TypeId}{vs:List Value}[hf:aR P f](hx:g6 env xs=some vs)
    (hc: ∀w,Mem w0 L w→Calls P f vs.toArray w fun e w'=> ∃x,e= .returned (val x)∧pr x∧Mem w0 (L' x) w') (hk: ∀x,pr x→Sq P N w0 l Q rest (cw env d (val x)) (L' x)) (hd:dj N d=true:=by rfl):
    Sq P N w0 l Q (⟨d, .call {callee:= .value (.func f),args:=xs.toArray,argTypes:=ts},ty,ps,af,none⟩::rest) env L:=fun a w ha hw=>by
  unfold wpList
  rw[if_pos (pG rfl)]
  refine .inl ?_
  unfold Oper.wp
  rw[As hf w rfl,ha.g6 hx]
  exact(hc w hw).mono fun e w' ⟨x,he,hp,hm⟩=>by subst he;exact hk x hp _ _ (ha.put hd _) hm
theorem kt{N:Nat}{fn:Func}{R:Ending→World→Prop}{f:FuncId}{c:Code}{args:List Value}{w:World}(hf:P.funcs[f]? =some fn)(hb:fn.body=some c)(hN:fn.ntmps=N)(hle:Nat.ble args.length N=true)(hw:Mem w0 L w)
    (h:Cw P ⟨N,[],none⟩ w0 (xR P fn R) c (args.zipIdx.map fun p=>(p.2,p.1)) L):Calls P f args.toArray w R:=
  HO hf hb (h _ _ (by rw[hN];exact da.enter args N (Nat.le_of_ble_eq_true hle)) hw)
theorem AF{b n i:Nat}{cs:Array Value}{T:TypeId}[hi:Has L b cs T i][he:bx enc c](gK:cs=(aK enc xs).toArray)(hn:xs.length=n)(iO:n≤140737488355328:=by decide):oJ w0 L enc c ⟨false,b,0,n,n,none⟩ xs:=fun w hw=>by
  have hb:=hw.block hi.h
  exact sH ⟨(fun h=>by cases h),Nat.le_refl _,iO,fun _=>rfl⟩ hn.symm hb fun k x hx j hj=>by
    rw[←mo (enc:=enc) xs k x hx j hj,gK];simp
def vZ(tmps:Array Value)(r:ResultVar):Sem Value:=match r with
  | .tmp t=>pure (tmps.getD t undef)
  | .cell c t=>do loadVar t (←asAddr (tmps.getD c undef))
theorem DW(fn:Func)(tmps:Array Value):results fn tmps=(do let vs←fn.results.mapM (vZ tmps);pure (if h:vs.size=1 then vs[0]else .tuple vs)):=by
  have:(fun r=>vZ tmps r)=(fun| .tmp t=>pure (tmps.getD t undef)| .cell a t=>do loadVar t (←asAddr (tmps.getD a undef)):ResultVar→Sem Value):=by
    funext r;cases r<;>rfl
  show _=(do let vs←fn.results.mapM (fun r=>vZ tmps r);pure (if h:vs.size=1 then vs[0]else .tuple vs))
  rw[this];rfl
def RV(P:Program)(N:cB)(w0:World)(env:Env)(L:List aj)(r:ResultVar)(v:Value):Prop:= ∀a w,da N env a→Mem w0 L w→(vZ a.tmps r).run P w= .ok v w
theorem aq{t:Nat}{v:Value}(hv:look env t=some v):RV P N w0 env L (.tmp t) v:=fun a w ha _=>by
  have:=ha.get _ _ hv
  simp[vZ,this]
theorem cj{t b i n:Nat}{T T':TypeId}{cs:Array Value}(hv:look env t=some (.pointer (some ⟨b,0,none⟩)))[ht:gv P T n][hi:Has L b cs T' i][hn:fZ cs n]:RV P N w0 env L (.cell t T) (.agg cs):=fun a w ha hw=>by
  have h1:=ha.get _ _ hv
  have h2:(loadVar T ⟨b,0,none⟩).run P w= .ok (.agg cs) w:=DG w ht hn.h fun j _=>by rw[Addr.gw,hw.cell hi.h,Nat.zero_add]
  simp[vZ,h1,asAddr,h2]
variable {fn:Func} {r1 r2 r3:ResultVar} {v1 v2 v3:Value}
theorem P3{A B:Type}(f:A→Sem B)(x y:A):(#[x,y]:Array A).mapM f=(do let a←f x;let b←f y;pure #[a,b]):=by simp
theorem P4{A B:Type}(f:A→Sem B)(x y z:A):(#[x,y,z]:Array A).mapM f=(do let a←f x;let b←f y;let c←f z;pure #[a,b,c]):=by simp
theorem aM(hf:fn.results= #[r1])(h1:RV P N w0 env L r1 v1): ∀a w,da N env a→Mem w0 L w→(results fn a.tmps).run P w= .ok v1 w:=fun a w ha hw=>by
  have e1:=h1 a w ha hw
  rw[DW,hf]
  simp[e1]
theorem bo(hf:fn.results= #[r1,r2])(h1:RV P N w0 env L r1 v1)(h2:RV P N w0 env L r2 v2): ∀a w,da N env a→Mem w0 L w→(results fn a.tmps).run P w= .ok (.tuple #[v1,v2]) w:=fun a w ha hw=>by
  have e1:=h1 a w ha hw
  have e2:=h2 a w ha hw
  rw[DW,hf,P3]
  simp[e1,e2]
theorem sJ(hf:fn.results= #[r1,r2,r3])(h1:RV P N w0 env L r1 v1)(h2:RV P N w0 env L r2 v2)(h3:RV P N w0 env L r3 v3): ∀a w,da N env a→Mem w0 L w→(results fn a.tmps).run P w= .ok (.tuple #[v1,v2,v3]) w:=fun a w ha hw=>by
  have e1:=h1 a w ha hw
  have e2:=h2 a w ha hw
  have e3:=h3 a w ha hw
  rw[DW,hf,P4]
  simp[e1,e2,e3]
end
def aN(b:UInt8):Array Value:= #[.int .u8 b.toNat]
instance:bx aN 1:=⟨fun _=>rfl,fun _=>by simp[aN,Value.oneCell']⟩
instance (b:UInt8):cn (aN b) 0 (.int .u8 b.toNat):=⟨rfl⟩
def qz(s:Sv):Array Value:= #[s.val]
instance:bx qz 1:=⟨fun _=>rfl,fun s=>by simp[qz,Sv.one]⟩
def b8(n:Nat):UInt8:=UInt8.ofNat n
theorem pI(n:Nat):(b8 n).toNat=n%256:=by simp[b8]
theorem Iq(n:Nat):b8 (n%256)=b8 n:=by
 apply UInt8.toNat_inj.1;simp[pI]
theorem P5(n:Nat):IntKind.u8.wrap (n:Int)=((b8 n).toNat:Int):=by
 rw[pI];simp[IntKind.wrap,IntKind.bits,IntKind.signed]
def be(n:Nat):Nat→List UInt8
 |0=>[]
 |k+1=>b8 (n/256^k)::be n k
theorem hG(n:Nat): ∀k,(be n k).length=k
 |0=>rfl
 |k+1=>by simp[be,hG n k]
def de(l:List UInt8):Nat:=l.foldl (fun a b=>a*256+b.toNat) 0
theorem Ir{xs:List UInt8}{i:Nat}{b:UInt8}(h:xs[i]? =some b):de (xs.take (i+1))=de (xs.take i)*256+b.toNat:=by
 rw[List.take_add_one,h];simp[de]
theorem DX(xs:List UInt8): ∀i,i≤xs.length→de (xs.take i)<256^i
 |0,_=>by simp[de]
 |i+1,h=>by
  have:=DX xs i (by omega)
  rw[Ir (b:=xs[i]) (by simp),Nat.pow_succ]
  have:=xs[i].toNat_lt;omega
section
variable {P:Program} {N:cB} {w0:World} {env:Env} {L:List aj} {d:Option Tmp} {ty:TypeId} {ps:String} {af:Array Edge} {gd:Option (Nat×Bool)}
variable {x y:Operand} {k k':IntKind} {p q:Nat} {t u s:TypeId}
theorem P6{a b:Int}(hx:ev env x=some (.int k a))(hy:ev env y=some (.int k b))(ea:a=p)(eb:b=q)(hp:p<2^nb k)(hq:0<q):
  Ry P N w0 env L ⟨d, .binOp .quo t x y u,ty,ps,af,gd⟩ (.int k ((p/q:Nat):Int)):=cz hx hy (by
 subst ea eb
 rw[kY,if_neg (by omega),←Int.ofNat_tdiv,oF (Nat.lt_of_le_of_lt (Nat.div_le_self _ _) hp)])
theorem yq{a b:Int}(hx:ev env x=some (.int k a))(hy:ev env y=some (.int k b))(ea:a=p)(eb:b=q)(hq:0<q):
  Ry P N w0 env L ⟨d, .binOp .rem t x y u,ty,ps,af,gd⟩ (.int k ((p%q:Nat):Int)):=cz hx hy (by
 subst ea eb
 rw[kY,if_neg (by omega),←Int.ofNat_tmod])
theorem P7{a b:Int}(hx:ev env x=some (.int k a))(hy:ev env y=some (.int k b))(ea:a=p)(eb:b=q)(h:p*q<2^nb k):
  Ry P N w0 env L ⟨d, .binOp .mul t x y u,ty,ps,af,gd⟩ (.int k ((p*q:Nat):Int)):=cz hx hy (by
 subst ea eb
 rw[kY,←Int.natCast_mul,oF h])
theorem v7{n:Nat}{a:Int}[hs:lI P s k'][ht:lI P t .u8](hx:ev env x=some (.int k' a))(ea:a=n):
  Ry P N w0 env L ⟨d, .convert s t x,ty,ps,af,gd⟩ (.int .u8 (b8 n).toNat):=rv hx (by subst ea;exact P5 n)
theorem P8{e:TypeId}{sv:Sv}{xs:List UInt8}(hs:P.underlying s=some (.slice e))(he:P.underlying e=some (.int .u8))(hd:P.underlying t=some .string)(hx:ev env x=some sv.val)(hR:oJ w0 L aN 1 sv xs):
  Ry P N w0 env L ⟨d, .convert s t x,ty,ps,af,gd⟩ (.string ⟨xs.toArray⟩):=fun a w ha hw=>by
 have r:=hR w hw
 have hr:(convert s t sv.val).run P w= .ok (.string ⟨xs.toArray⟩) w:=by
  cases hn:sv.nil with
  |true=>
   have:xs=[]:=by have:=(r.ok.nil hn).1;rw[r.len]at this;exact List.length_eq_zero_iff.1 this
   subst this
   rw[Sv.qv hn,run_convert_bytes_string w s t e none 0 0 hs he hd]
   rfl
  |false=>
   rw[Sv.g9 hn,r.len]
   refine run_convert_bytes_back w s t e _ _ xs hs he hd fun j hj=> ?_
   rw[r.ok.sp (by have:=r.len;have:=r.ok.le;omega)]
   rw[Addr.gw,qw]
   have:=r.row j xs[j] (by simp) 0 (by decide)
   simp only[Nat.mul_one,Nat.add_zero]at this
   rw[this];rfl
 simp only[execOp,ha.ev hx,Sem.run_bind,hr,Result.andThen,Sem.run_pure]
theorem P9{a b:ByteArray}(hx:ev env x=some (.string a))(hy:ev env y=some (.string b)):
  Ry P N w0 env L ⟨d, .binOp .eql t x y u,ty,ps,af,gd⟩ (.bool (a.toList==b.toList)):=fun aa w ha _=>by
 have h2:(eqGuard BinOp.eql t x y (.string a) (.string b)).run P w= .ok () w:=rfl
 simp only[execOp,ha.ev hx,ha.ev hy,Sem.run_bind,h2,Result.andThen_ok,binOp_string_eql,Sem.run_pure]
theorem Qa{a b:ByteArray}(hx:ev env x=some (.string a))(hy:ev env y=some (.string b)):
  Ry P N w0 env L ⟨d, .binOp .neq t x y u,ty,ps,af,gd⟩ (.bool (!(a.toList==b.toList))):=fun aa w ha _=>by
 have h2:(eqGuard BinOp.neq t x y (.string a) (.string b)).run P w= .ok () w:=rfl
 simp only[execOp,ha.ev hx,ha.ev hy,Sem.run_bind,h2,Result.andThen_ok,binOp_string_neq,Sem.run_pure]
end
section
variable {P:Program} {N:cB} {w0:World} {env:Env} {L:List aj} {l:List Oper} {Q:Exit→Act→World→Prop} {rest:List Oper} {d:Option Tmp} {ty:TypeId} {ps:String} {af:Array Edge}
end
def qA(b c:UInt8):UInt16:=UInt16.ofNat (b.toNat*256+c.toNat)
theorem DY(b c:UInt8):(qA b c).toNat=b.toNat*256+c.toNat:=by
 have:=b.toNat_lt;have:=c.toNat_lt
 simp[qA];omega
theorem Is(p q:Nat)(h:q<256):(p*256)|||q=p*256+q:=by
 have:=Nat.two_pow_add_eq_or_of_lt (i:=8) (b:=q) (by simpa using h) p
 rw[show(2^8*p)=p*256 by rw[Nat.mul_comm]]at this
 exact this.symm
section
variable {P:Program} {N:cB} {w0:World} {env:Env} {L:List aj} {d:Option Tmp} {ty:TypeId} {ps:String} {af:Array Edge} {gd:Option (Nat×Bool)} {x y:Operand} {k:IntKind} {t u:TypeId}
theorem Iu{b:UInt8}{k':IntKind}(hx:ev env x=some (.int k b.toNat))(hy:ev env y=some (.int k' 8))(hk:k= .u16∨k= .i64:=by decide):
  Ry P N w0 env L ⟨d, .binOp .shl t x y u,ty,ps,af,gd⟩ (.int k ((b.toNat*256:Nat):Int)):=by
 have h:=Ie (P:=P) (N:=N) (w0:=w0) (L:=L) (d:=d) (ty:=ty) (ps:=ps) (af:=af) (gd:=gd) (t:=t) (u:=u) hx hy (by decide)
 have hb:=b.toNat_lt
 have e:k.wrap ((b.toNat:Int)*2^min (Int.toNat 8) k.bits)=((b.toNat*256:Nat):Int):=by
  rcases hk with rfl|rfl<;>simp[IntKind.wrap,IntKind.bits,IntKind.signed]<;>omega
 rw[e]at h;exact h
theorem Iv{b c:UInt8}(hx:ev env x=some (.int k ((b.toNat*256:Nat):Int)))(hy:ev env y=some (.int k c.toNat))(hk:k= .u16∨k= .i64:=by decide):
  Ry P N w0 env L ⟨d, .binOp .or t x y u,ty,ps,af,gd⟩ (.int k ((qA b c).toNat:Nat)):=by
 have hb:=b.toNat_lt;have hc:=c.toNat_lt
 rw[DY,←Is _ _ hc]
 rcases hk with rfl|rfl
 ·
  exact Av hx hy rfl rfl (by simp only[nb];omega) (by simp only[nb];omega)
 ·
  exact Av hx hy rfl rfl (by simp only[nb];omega) (by simp only[nb];omega)
end
open Go.RowKit
def aj.emp:aj:=⟨fun _=>False,fun _=>True,fun _ _ _ s=>s⟩
def aj.two(a b:aj):aj:=⟨fun k=>a.fp k∨b.fp k,fun h=>a.sat h∧b.sat h∧ ∀k,a.fp k→ ¬b.fp k,
  fun h h' e s=>⟨a.loc h h' (fun k hk=>e k (.inl hk)) s.1,b.loc h h' (fun k hk=>e k (.inr hk)) s.2.1,s.2.2⟩⟩
def aj.all:List aj→aj
  |[]=> .emp
  |e::r=> .two e (.all r)
theorem Mem.yr{w0 w:World}{L:List aj}:Mem w0 (.emp::L) w↔Mem w0 L w:=
  ⟨fun h=>h.sub (List.sublist_cons_self _ _),fun h=>⟨h.below,fun e he=>by
    rcases List.mem_cons.1 he with rfl|he
    ·exact trivial
    ·exact h.sat e he,fun e he k hk=>by
    rcases List.mem_cons.1 he with rfl|he
    ·exact hk.elim
    ·exact h.je e he k hk,List.pairwise_cons.2 ⟨fun _ _ _ hk=>hk.elim,h.na⟩⟩⟩
theorem Mem.v8{w0 w:World}{a b:aj}{L:List aj}:Mem w0 (.two a b::L) w↔Mem w0 (a::b::L) w:=by
  constructor
  ·intro h
   have hs:(a.sat fun k=>w.heap[k]?)∧(b.sat fun k=>w.heap[k]?)∧ ∀k,a.fp k→ ¬b.fp k:=h.sat (.two a b) (by simp)
   have hd:=List.pairwise_cons.1 h.na
   refine⟨h.below,fun e he=> ?_,fun e he k hk=> ?_,?_⟩
   ·rcases List.mem_cons.1 he with rfl|he
    ·exact hs.1
    ·rcases List.mem_cons.1 he with rfl|he
     ·exact hs.2.1
     ·exact h.sat e (by simp[he])
   ·rcases List.mem_cons.1 he with rfl|he
    ·exact h.je (.two e b) (by simp) k (.inl hk)
    ·rcases List.mem_cons.1 he with rfl|he
     ·exact h.je (.two a e) (by simp) k (.inr hk)
     ·exact h.je e (by simp[he]) k hk
   ·refine List.pairwise_cons.2 ⟨fun x hx k hk=> ?_,List.pairwise_cons.2 ⟨fun x hx k hk=>hd.1 x hx k (.inr hk),hd.2⟩⟩
    rcases List.mem_cons.1 hx with rfl|hx
    ·exact hs.2.2 k hk
    ·exact hd.1 x hx k (.inl hk)
  ·intro h
   have hd:=List.pairwise_cons.1 h.na
   have v9:=List.pairwise_cons.1 hd.2
   refine⟨h.below,fun e he=> ?_,fun e he k hk=> ?_,List.pairwise_cons.2 ⟨fun x hx k hk=> ?_,v9.2⟩⟩
   ·rcases List.mem_cons.1 he with rfl|he
    ·exact⟨h.sat a (by simp),h.sat b (by simp),fun k hk=>hd.1 b (by simp) k hk⟩
    ·exact h.sat e (by simp[he])
   ·rcases List.mem_cons.1 he with rfl|he
    ·rcases hk with hk|hk
     ·exact h.je a (by simp) k hk
     ·exact h.je b (by simp) k hk
    ·exact h.je e (by simp[he]) k hk
   ·rcases hk with hk|hk
    ·exact hd.1 x (by simp[hx]) k hk
    ·exact v9.1 x hx k hk
theorem Mem.yt{w0 w:World}: ∀(es:List aj) {L:List aj},Mem w0 (.all es::L) w↔Mem w0 (es++L) w
  |[],_=>Mem.yr
  |e::r,L=>by
   show Mem w0 (.two e (.all r)::L) w↔_
   rw[Mem.v8]
   have sw: ∀(a b:aj) (K:List aj),Mem w0 (a::b::K) w↔Mem w0 (b::a::K) w:=fun a b K=>⟨fun h=>h.perm (List.Perm.swap _ _ _),fun h=>h.perm (List.Perm.swap _ _ _)⟩
   rw[sw,Mem.yt r]
   exact⟨fun h=>h.perm (List.perm_middle),fun h=>h.perm (List.perm_middle).symm⟩
class Deep(τ:Type) where
  c:Nat
  cells:τ→Array Value
  size: ∀x,(cells x).size=c
  one: ∀x,(cells x).all (·.oneCell')=true
  bh:(Nat→Option Obj)→τ→Prop
  ck:τ→aj
  iP: ∀h x,(ck x).sat h→bh h x
  mono: ∀(w w':World) x,bh (hp w) x→Below w.heap.size w w'→bh (hp w') x
instance Deep.enc{τ:Type}[Deep τ]:bx (Deep.cells (τ:=τ)) (Deep.c τ):=⟨Deep.size,Deep.one⟩
@[reducible] def Deep.flat {τ:Type}(enc:τ→Array Value)(c:Nat)[he:bx enc c]:Deep τ:=⟨c,enc,he.size,he.one,fun _ _=>True,fun _=> .emp,fun _ _ _=>trivial,fun _ _ _ _ _=>trivial⟩
structure Sl(τ:Type) where
  sv:Sv
  xs:List τ
theorem aj.yu{h:Nat→Option Obj}: ∀{es:List aj},(aj.all es).sat h→ ∀e∈es,e.sat h
  |[],_,_,he=>by cases he
  |_::_,hs,e,he=>by
   rcases List.mem_cons.1 he with rfl|he
   ·exact hs.1
   ·exact aj.yu hs.2.1 e he
instance Deep.slice{τ:Type}[d:Deep τ]:Deep (Sl τ) where
  c:=1
  cells a:=qz a.sv
  size _:=rfl
  one a:=bx.one (enc:=qz) (c:=1) a.sv
  bh h a:=bV (Deep.cells (τ:=τ)) (Deep.c τ) h a.sv a.xs∧ ∀x∈a.xs,d.bh h x
  ck a:= .two (own (Deep.cells (τ:=τ)) (Deep.c τ) a.sv a.xs) (.all (a.xs.map d.ck))
  iP h _ hs:=⟨hs.1.1,fun x hx=>d.iP h x (aj.yu hs.2.1 _ (List.mem_map_of_mem hx))⟩
  mono w w' _ hg hb:=⟨hg.1.mono hb,fun x hx=>d.mono w w' x (hg.2 x hx) hb⟩
theorem Mem.sK{τ:Type}[d:Deep τ]{w0 w:World}{L:List aj}{a:Sl τ}:Mem w0 (Deep.ck a::L) w↔Mem w0 (own (Deep.cells (τ:=τ)) (Deep.c τ) a.sv a.xs::a.xs.map d.ck++L) w:=by
  show Mem w0 (.two _ (.all _)::L) w↔_
  rw[Mem.v8]
  have sw: ∀(a b:aj) (K:List aj),Mem w0 (a::b::K) w↔Mem w0 (b::a::K) w:=fun a b K=>⟨fun h=>h.perm (List.Perm.swap _ _ _),fun h=>h.perm (List.Perm.swap _ _ _)⟩
  rw[sw,Mem.yt]
  exact⟨fun h=>h.perm (List.perm_middle),fun h=>h.perm (List.perm_middle).symm⟩
section
variable {w0:World} {L:List aj} {τ:Type}
class Hd(w0:World)(L:List aj)(s:Sv){α:outParam Type}(enc:outParam (α→Array Value))(c:outParam Nat)(xs:outParam (List α)):Prop where
  h:oJ w0 L enc c s xs
class Gv(w0:World)(s:Sv){α:outParam Type}(enc:outParam (α→Array Value))(c:outParam Nat)(xs:outParam (List α)):Prop where
  h:bV enc c (hp w0) s xs
instance (priority:=high) Hd.owned {s:Sv}{α:Type}{enc:α→Array Value}{c:Nat}{xs:List α}{i:Nat}[q:fG L s enc c xs i]:Hd w0 L s enc c xs:=⟨q.holds⟩
instance Hd.given{s:Sv}{α:Type}{enc:α→Array Value}{c:Nat}{xs:List α}[q:Gv w0 s enc c xs][bx enc c]:Hd w0 L s enc c xs:=⟨ym q.h⟩
class Rg(lo hi n:Nat):Prop where
  h:lo≤hi∧hi≤n
instance Hd.sub{s:Sv}{α:Type}{enc:α→Array Value}{c:Nat}{xs:List α}{lo hi:Nat}[q:Hd w0 L s enc c xs][r:Rg lo hi xs.length]:Hd w0 L (s.sub c lo hi) enc c ((xs.drop lo).take (hi -lo)):=⟨q.h.sub r.h.1 r.h.2⟩
class c6(w0:World)(L:List aj){α:Type}(enc:α→Array Value)(c:Nat)(s:Sv)(xs:outParam (List α)):Prop where
  h:oJ w0 L enc c s xs
instance (priority:=high) c6.of {s:Sv}{α:Type}{enc:α→Array Value}{c:Nat}{xs:List α}[q:Hd w0 L s enc c xs]:c6 w0 L enc c s xs:=⟨q.h⟩
instance c6.none{α:Type}{enc:α→Array Value}{c:Nat}:c6 w0 L enc c Sv.none []:=⟨fun _ _=>bV.nil enc c _⟩
class aW(w0:World)(L:List aj){τ:Type}[Deep τ](a:τ):Prop where
  h: ∀w,Mem w0 L w→Deep.bh (hp w) a
class cC(w0:World){τ:Type}[Deep τ](a:τ):Prop where
  h:Deep.bh (hp w0) a
class Mb{τ:Type}(x:τ)(a:outParam (Sl τ)):Prop where
  h:x∈a.xs
instance aW.given[Deep τ]{a:τ}[q:cC w0 a]:aW w0 L a:=⟨fun _ hw=>Deep.mono w0 _ a q.h hw.below⟩
instance (priority:=high) aW.owned [Deep τ]{a:τ}{i:Nat}[q:At L (Deep.ck a) i]:aW w0 L a:=⟨fun _ hw=>Deep.iP _ a (hw.get q.h)⟩
instance (priority:=low) aW.elem [Deep τ]{a:Sl τ}{x:τ}[q:aW w0 L a][m:Mb x a]:aW w0 L x:=⟨fun w hw=>(q.h w hw).2 x m.h⟩
class fO(τ:Type)[Deep τ](enc:outParam (τ→Array Value))(c:outParam Nat):Prop where
  hc:Deep.c τ=c
  h: ∀x:τ,Deep.cells x=enc x
instance (priority:=low) Hd.deep [d:Deep τ]{enc:τ→Array Value}{c:Nat}[f:fO τ enc c]{a:Sl τ}[q:aW w0 L a]:Hd w0 L a.sv enc c a.xs:=⟨fun w hw=>by
  have h:=(q.h w hw).1
  have e:Deep.cells (τ:=τ)=enc:=funext f.h
  rw[←e,←f.hc];exact h⟩
end
section
variable {P:Program} {N:cB} {w0:World} {env:Env} {L:List aj} {d:Option Tmp} {ty:TypeId} {ps:String} {af:Array Edge} {gd:Option (Nat×Bool)}
variable {α:Type} {enc:α→Array Value} {c:Nat} {s:Sv} {xs:List α}
theorem kZ{t e:TypeId}{x:Operand}{m:Nat}[ht:eW P t e m](hx:ev env x=some s.val)[q:Hd w0 L s enc c xs]:
    Ry P N w0 env L ⟨d, .call {callee:= .builtin .len,args:= #[x],argTypes:= #[t]},ty,ps,af,gd⟩ (.int .i64 (xs.length:Nat)):=fun a w ha hw=>
  sE (P:=P) (N:=N) (w0:=w0) (L:=L) (d:=d) (ty:=ty) (ps:=ps) (af:=af) (gd:=gd) hx (q.h w hw).ok (q.h w hw).len a w ha hw
theorem bl{t e:TypeId}{x ix:Operand}{m:Nat}{k:IntKind}{j:Int}[ht:eW P t e m](hx:ev env x=some s.val)(hj:ev env ix=some (.int k j))[q:Hd w0 L s enc c xs](i:Nat)(ej:j=(i:Int))(h1:i<xs.length):
    Ry P N w0 env L ⟨d, .indexAddr t x ix,ty,ps,af,gd⟩ (.pointer (some ⟨s.b,s.o+i*m,none⟩)):=fun a w ha hw=>
  lu (P:=P) (N:=N) (w0:=w0) (L:=L) (d:=d) (ty:=ty) (ps:=ps) (af:=af) (gd:=gd) hx hj ej (q.h w hw).ok (by rw[(q.h w hw).len];exact h1) a w ha hw
theorem hH{t:TypeId}{x:Operand}{p:Nat}{a:α}[ht:gv P t c][he:bx enc c][q:Hd w0 L s enc c xs](hx:ev env x=some (.pointer (some ⟨s.b,p,none⟩)))(i:Nat)(hi:xs[i]? =some a)(gR:p=s.o+i*c):
    Ry P N w0 env L ⟨d, .load t x,ty,ps,af,gd⟩ (.agg (enc a)):=AA hx q.h hi gR
theorem bO{t:TypeId}{x:Operand}{p j:Nat}{a:α}{v:Value}[ht:gQ P t][q:Hd w0 L s enc c xs](hx:ev env x=some (.pointer (some ⟨s.b,p,none⟩)))(i:Nat)(hi:xs[i]? =some a)(gR:p=s.o+i*c+j)(hj:j<c)[hv:cn (enc a) j v]:
    Ry P N w0 env L ⟨d, .load t x,ty,ps,af,gd⟩ v:=PW hx q.h hi gR hj hv.h
theorem Iw{t:TypeId}{x:Operand}{p j n:Nat}{a:α}{sub:Array Value}[ht:gv P t n][q:Hd w0 L s enc c xs](hx:ev env x=some (.pointer (some ⟨s.b,p,none⟩)))(i:Nat)(hi:xs[i]? =some a)(gR:p=s.o+i*c+j)(hj:j+n≤c)[hs:nQ (enc a) j n sub]:
    Ry P N w0 env L ⟨d, .load t x,ty,ps,af,gd⟩ (.agg sub):=Ij hx q.h hi gR hj
theorem AG{t e:TypeId}{x lo hi:Operand}{k k':IntKind}{il ih:Int}[ht:eW P t e c](hx:ev env x=some s.val)(hl:ev env lo=some (.int k il))(hh:ev env hi=some (.int k' ih))[q:Hd w0 L s enc c xs](l h:Nat)(el:il=(l:Int))(eh:ih=(h:Int))(h1:l≤h)(h2:h≤xs.length):
    Ry P N w0 env L ⟨d, .slice t x (some lo) (some hi) none,ty,ps,af,gd⟩ (s.sub c l h).val:=fun a w ha hw=>
  AB (P:=P) (N:=N) (w0:=w0) (L:=L) (d:=d) (ty:=ty) (ps:=ps) (af:=af) (gd:=gd) hx hl hh el eh (q.h w hw).ok h1 (by have:=(q.h w hw).len;have:=(q.h w hw).ok.le;omega) a w ha hw
theorem Ix{t e:TypeId}{x hi:Operand}{k':IntKind}{ih:Int}[ht:eW P t e c](hx:ev env x=some s.val)(hh:ev env hi=some (.int k' ih))[q:Hd w0 L s enc c xs](h:Nat)(eh:ih=(h:Int))(h2:h≤xs.length):
    Ry P N w0 env L ⟨d, .slice t x none (some hi) none,ty,ps,af,gd⟩ (s.sub c 0 h).val:=fun a w ha hw=>
  sF (P:=P) (N:=N) (w0:=w0) (L:=L) (d:=d) (ty:=ty) (ps:=ps) (af:=af) (gd:=gd) hx hh eh (q.h w hw).ok (by have:=(q.h w hw).len;have:=(q.h w hw).ok.le;omega) a w ha hw
theorem AH{t e:TypeId}{x lo:Operand}{k:IntKind}{il:Int}[ht:eW P t e c](hx:ev env x=some s.val)(hl:ev env lo=some (.int k il))[q:Hd w0 L s enc c xs](l:Nat)(el:il=(l:Int))(h1:l≤xs.length):
    Ry P N w0 env L ⟨d, .slice t x (some lo) none none,ty,ps,af,gd⟩ (s.sub c l xs.length).val:=fun a w ha hw=>
  qx (P:=P) (N:=N) (w0:=w0) (L:=L) (d:=d) (ty:=ty) (ps:=ps) (af:=af) (gd:=gd) hx hl el (q.h w hw).ok (q.h w hw).len h1 a w ha hw
theorem AI{t e tb:TypeId}{x:Operand}{xs:List UInt8}(hs:P.underlying tb=some (.slice e))(he:P.underlying e=some (.int .u8))(hd:P.underlying t=some .string)(hx:ev env x=some s.val)[q:Hd w0 L s aN 1 xs]:
    Ry P N w0 env L ⟨d, .convert tb t x,ty,ps,af,gd⟩ (.string ⟨xs.toArray⟩):=P8 hs he hd hx q.h
theorem uq{s t:TypeId}{x:Operand}{k:IntKind}{b:UInt8}[hs:lI P s .u8][ht:lI P t k](hx:ev env x=some (.int .u8 b.toNat))(hk:8≤nb k:=by decide):
    Ry P N w0 env L ⟨d, .convert s t x,ty,ps,af,gd⟩ (.int k b.toNat):=pF hx (Nat.lt_of_lt_of_le b.toNat_lt (Nat.pow_le_pow_right (by decide) hk))
end
section
variable {P:Program} {N:cB} {w0:World} {env:Env} {L:List aj} {l:List Oper} {Q:Exit→Act→World→Prop} {rest:List Oper} {d:Option Tmp} {ty:TypeId} {ps:String} {af:Array Edge} {gd:Option (Nat×Bool)}
class cL(P:Program)(f:FuncId)(w0:World)(L:List aj)(vs:List Value)(v:outParam Value)(pre:outParam Prop):Prop where
  h:pre→ ∀w,Mem w0 L w→Calls P f vs.toArray w fun e w'=>e= .returned v∧Mem w [] w'
class cr(P:Program)(f:FuncId)(w0:World)(L:List aj)(vs:List Value)(X:outParam Type)(val:outParam (X→Value))(L':outParam (X→List aj))(pr:outParam (X→Prop))(pre:outParam Prop):Prop where
  h:pre→ ∀w,Mem w0 L w→Calls P f vs.toArray w fun e w'=> ∃x,e= .returned (val x)∧pr x∧Mem w0 (L' x) w'
instance (priority:=high) cL.pure {f:FuncId}{vs:List Value}{v:Value}[h:oE P f vs v]:cL P f w0 L vs v True:=⟨fun _ w _=>h.h w⟩
theorem cM{f:FuncId}{xs:List Operand}{ts:Array TypeId}{vs:List Value}{v:Value}{pre:Prop}[hf:aR P f](hx:g6 env xs=some vs)[hc:cL P f w0 L vs v pre](hp:pre):
    Yl P N w0 env L ⟨d, .call {callee:= .value (.func f),args:=xs.toArray,argTypes:=ts},ty,ps,af,gd⟩ v:=Au hx fun w hw=>hc.h hp w hw
theorem br{X:Type}{val:X→Value}{L':X→List aj}{pr:X→Prop}{pre:Prop}{f:FuncId}{xs:List Operand}{ts:Array TypeId}{vs:List Value}[hf:aR P f](hx:g6 env xs=some vs)
    [hc:cr P f w0 L vs X val L' pr pre] (hp:pre) (hk: ∀x,pr x→Sq P N w0 l Q rest (cw env d (val x)) (L' x)) (hd:dj N d=true:=by rfl):
    Sq P N w0 l Q (⟨d, .call {callee:= .value (.func f),args:=xs.toArray,argTypes:=ts},ty,ps,af,none⟩::rest) env L:=P2 hx (fun w hw=>hc.h hp w hw) hk hd
theorem Qb{Lq:List aj}{n j:Nat}{js:List Nat}{X:Type}{val:X→Value}{L':X→List aj}{pr:X→Prop}{pre:Prop}{f:FuncId}{xs:List Operand}{ts:Array TypeId}{vs:List Value}(hj:l[j]? =some ⟨d, .call {callee:= .value (.func f),args:=xs.toArray,argTypes:=ts},ty,ps,af,none⟩)[hf:aR P f](hx:g6 env xs=some vs)
    [hc:cr P f w0 L vs X val L' pr pre] (hp:pre) (hL: ∀x w,Mem w0 (L' x) w→Mem w0 Lq w) (hk: ∀x,pr x→Fr P N w0 Lq l n Q js (cw env d (val x)) (L' x)) (hd:dj N d=true:=by rfl):
    Fr P N w0 Lq l n Q (j::js) env L:=PK hj hx (fun w hw=>hc.h hp w hw) hL hk hd
end
class dr(L:List aj)(i:Nat)(R:outParam (List aj)):Prop where
  h:L.eraseIdx i=R
instance dr.here{e:aj}{L:List aj}:dr (e::L) 0 L:=⟨rfl⟩
instance dr.there{e:aj}{L R:List aj}{i:Nat}[q:dr L i R]:dr (e::L) (i+1) (e::R):=⟨by simp[q.h]⟩
class ai(L L':List aj):Prop where
  h: ∃R,L.Perm (L'++R)
instance (priority:=high) ai.nil {L:List aj}:ai L []:=⟨⟨L, .refl _⟩⟩
instance (priority:=high) ai.same {L:List aj}:ai L L:=⟨⟨[],by simp⟩⟩
theorem nh{e:aj}: ∀{L:List aj} {i:Nat},L[i]? =some e→L.Perm (e::L.eraseIdx i)
  |[],i,h=>by simp at h
  |x::L,0,h=>by obtain rfl:x=e:=by simpa using h
                simp
  |x::L,i+1,h=>by
   have:=nh (L:=L) (i:=i) (by simpa using h)
   rw[List.eraseIdx_cons_succ]
   exact(this.cons x).trans (.swap _ _ _)
instance ai.cons{L L' R:List aj}{e:aj}{i:Nat}[a:At L e i][b:dr L i R][k:ai R L']:ai L (e::L'):=⟨by
  obtain⟨S,hS⟩:=k.h
  exact⟨S,(nh a.h).trans (by rw[b.h];exact hS.cons e)⟩⟩
theorem ai.mem{L L':List aj}[k:ai L L']{w0 w:World}(h:Mem w0 L w):Mem w0 L' w:=by
  obtain⟨R,hR⟩:=k.h
  exact(h.perm hR).sub (List.sublist_append_left _ _)
theorem qB{P:Program}{N:cB}{w0:World}{env:Env}{L:List aj}{Q:Exit→Act→World→Prop}{c:Code}(L':List aj)(h: ∀w,Mem w0 L w→Mem w0 L' w)(hk:Cw P N w0 Q c env L'):Cw P N w0 Q c env L:=fun a w ha hw=>hk a w ha (h w hw)
theorem Qc{P:Program}{N:cB}{w0:World}{env:Env}{L:List aj}{Q:Exit→Act→World→Prop}{c:Code}(s:Sv){α:Type}{enc:α→Array Value}{n:Nat}{xs:List α}[q:Hd w0 L s enc n xs](hk:xs.length≤140737488355328→Cw P N w0 Q c env L):Cw P N w0 Q c env L:=
  fun a w ha hw=>hk (q.h w hw).bd a w ha hw
theorem nT{α:Type}{xs:List α}{i:Nat}{d:α}(h:i<xs.length):xs[i]? =some (xs.getD i d):=by
  simp[List.getD,h]
section
variable {P:Program} {N:cB} {w0:World} {env:Env} {L:List aj} {l:List Oper} {Q:Exit→Act→World→Prop} {rest:List Oper} {d:Option Tmp} {ty:TypeId} {ps:String} {af:Array Edge} {gd:Option (Nat×Bool)}
variable {α:Type} {enc:α→Array Value} {c:Nat} {s:Sv} {xs:List α}
theorem Qd{x y:Operand}{t u:TypeId}{a b:List UInt8}(hx:ev env x=some (.string ⟨a.toArray⟩))(hy:ev env y=some (.string ⟨b.toArray⟩)):
    Ry P N w0 env L ⟨d, .binOp .eql t x y u,ty,ps,af,gd⟩ (.bool (decide (a=b))):=by
  have e:((⟨a.toArray⟩:ByteArray).toList==(⟨b.toArray⟩:ByteArray).toList)=decide (a=b):=by
    rw[ByteArray.toList_mk,ByteArray.toList_mk,Bool.eq_iff_iff];simp
  rw[←e];exact P9 hx hy
theorem Qe{x y:Operand}{t u:TypeId}{a b:List UInt8}(hx:ev env x=some (.string ⟨a.toArray⟩))(hy:ev env y=some (.string ⟨b.toArray⟩)):
    Ry P N w0 env L ⟨d, .binOp .neq t x y u,ty,ps,af,gd⟩ (.bool (!decide (a=b))):=by
  have e:((⟨a.toArray⟩:ByteArray).toList==(⟨b.toArray⟩:ByteArray).toList)=decide (a=b):=by
    rw[ByteArray.toList_mk,ByteArray.toList_mk,Bool.eq_iff_iff];simp
  rw[←e];exact Qa hx hy
theorem rD{t e:TypeId}{x:Operand}{u:TypeId}(ht:P.underlying t=some (.slice e))(hx:ev env x=some s.val):
    Ry P N w0 env L ⟨d, .binOp .eql t x (.const (.slice none 0 0)) u,ty,ps,af,gd⟩ (.bool s.nil):=fun a w ha _=>by
  have h1:(eqGuard BinOp.eql t x (.const (.slice none 0 0)) s.val (.slice none 0 0)).run P w= .ok () w:=by
    unfold Sv.val;split<;>rfl
  have h3:(Op.equal t s.val (.slice none 0 0)).run P w= .ok s.nil w:=by
    unfold Sv.val
    split<;>rename_i hn<;>rw[run_equal_slice_nil w t e _ _ _ ht,hn]<;>rfl
  have h2:(binOp .eql t s.val (.slice none 0 0)).run P w= .ok (.bool s.nil) w:=by
    have:binOp .eql t s.val (.slice none 0 0)=(do pure (.bool (←Op.equal t s.val (.slice none 0 0)))):=by unfold Sv.val;split<;>rfl
    rw[this,Sem.run_bind,h3];rfl
  simp only[execOp,ha.ev hx,show a.eval (.const (.slice none 0 0))= .slice none 0 0 from rfl,Sem.run_bind,h1,Result.andThen_ok,h2,Sem.run_pure]
theorem Qf{t e:TypeId}{cG:Nat}(ht:fk P t e c cG)(w:World):(Instr.buildSlice t 0 #[]).run P w= .ok (.slice (some ⟨w.heap.size,0,none⟩) 0 0) (w.alloc (.cells #[] e)):=by
  obtain⟨i',z,bk,aG,bB,cV,lL⟩:=ht.info
  have:(Array.range 0:Array Nat)= #[]:=by simp
  simp[Instr.buildSlice,run_underlying ht.et,sizeOf,typeInfo,bk,Instr.fill,newRow,newObj,Sem.run,Result.andThen,this]
theorem sL{t e:TypeId}{cG:Nat}(enc:α→Array Value)[ht:fk P t e c cG][he:bx enc c](hk: ∀b,Sq P N w0 l Q rest (cw env d (Sv.val ⟨false,b,0,0,0,none⟩)) (own enc c ⟨false,b,0,0,0,none⟩ []::L))(hd:dj N d=true:=by rfl):
    Sq P N w0 l Q (⟨d, .buildSlice t 0 #[],ty,ps,af,none⟩::rest) env L:=
  mg rfl hd fun a w _ hw=>by
    refine⟨_,_,_,?_,hw.call (vY (enc:=enc) (c:=c) (xs:=[]) (cs:= #[]) (e:=e) rfl 0 0 rfl (Nat.le_refl _) (Nat.zero_le _) (by simp) (by simp)),hk _⟩
    simp only[execOp,Sem.run_bind,List.map_toArray,List.map_nil,Qf ht w,Result.andThen,Sem.run_pure];rfl
end
instance:Deep UInt8:=Deep.flat aN 1
instance:fO UInt8 aN 1:=⟨rfl,fun _=>rfl⟩
def cc{τ:Type}(a:Sl τ):Array Value:= #[a.sv.val]
instance {τ:Type}:bx (cc (τ:=τ)) 1:=⟨fun _=>rfl,fun a=>bx.one (enc:=qz) (c:=1) a.sv⟩
instance {τ:Type}[Deep τ]:fO (Sl τ) cc 1:=⟨rfl,fun _=>rfl⟩
instance {τ:Type}(a:Sl τ):cn (cc a) 0 a.sv.val:=⟨rfl⟩
def lx{τ:Type}(a:Sl (Sl τ)):List (List τ):=a.xs.map (·.xs)
theorem ur{τ:Type}(a:Sl (Sl τ)):(lx a).length=a.xs.length:=by simp[lx]
section
variable {L L' L1 L2 R R1 R2:List aj} {τ:Type}
def Tr(L L':List aj):Prop:= ∀(K:List aj) (w0 w:World),Mem w0 (L++K) w→Mem w0 (L'++K) w
theorem Tr.mem(h:Tr L L'){w0 w:World}(hw:Mem w0 L w):Mem w0 L' w:=by
  have:=h [] w0 w (by simpa using hw);simpa using this
theorem Tr.refl:Tr L L:=fun _ _ _ h=>h
theorem Tr.trans(h:Tr L L1)(h':Tr L1 L2):Tr L L2:=fun K w0 w hw=>h' K w0 w (h K w0 w hw)
theorem Tr.perm(h:L.Perm L'):Tr L L':=fun K _ _ hw=>Mem.perm hw (h.append_right K)
theorem Tr.left(h:Tr L L')(X:List aj):Tr (X++L) (X++L'):=fun K w0 w hw=>by
  have p: ∀Y:List aj,(X++Y++K).Perm (Y++(X++K)):=fun Y=>by
    rw[List.append_assoc,←List.append_assoc Y]
    refine(List.perm_append_comm_assoc X Y K).trans ?_
    rw[List.append_assoc]
  exact(h (X++K) w0 w (hw.perm (p L))).perm (p L').symm
theorem Tr.right(h:Tr L L')(X:List aj):Tr (L++X) (L'++X):=fun K w0 w hw=>by
  rw[List.append_assoc]at hw⊢;exact h (X++K) w0 w hw
theorem Tr.cons(h:Tr L L')(x:aj):Tr (x::L) (x::L'):=h.left [x]
theorem Tr.front{e:aj}{i:Nat}(hi:L[i]? =some e):Tr L (e::L.eraseIdx i):= .perm (nh hi)
theorem Tr.emp:Tr (.emp::L) L:=fun _ _ _ hw=>Mem.yr.1 hw
theorem Tr.Qg:Tr L (.emp::L):=fun _ _ _ hw=>Mem.yr.2 hw
theorem Tr.sK[d:Deep τ]{a:Sl τ}:Tr (Deep.ck a::L) (own (Deep.cells (τ:=τ)) (Deep.c τ) a.sv a.xs::a.xs.map d.ck++L):=fun K w0 w hw=>by
  have:=Mem.sK.1 hw
  simpa using this
theorem Tr.Qh[d:Deep τ]{a:Sl τ}:Tr (own (Deep.cells (τ:=τ)) (Deep.c τ) a.sv a.xs::a.xs.map d.ck++L) (Deep.ck a::L):=fun K w0 w hw=>by
  refine Mem.sK.2 ?_
  simpa using hw
class Plain(τ:Type)[Deep τ]:Prop where
  h: ∀x:τ,Deep.ck x= .emp
theorem Tr.plain[Deep τ][p:Plain τ]: ∀{xs:List τ},Tr (xs.map Deep.ck++L) L
  |[]=> .refl
  |x::xs=>by
   rw[List.map_cons,p.h]
   exact Tr.emp.trans Tr.plain
theorem Tr.Iy[Deep τ][p:Plain τ]: ∀{xs:List τ},Tr L (xs.map Deep.ck++L)
  |[]=> .refl
  |x::xs=>by
   rw[List.map_cons,p.h]
   exact(Tr.Iy (xs:=xs)).trans Tr.Qg
theorem Iz[Deep τ]{enc:τ→Array Value}{c:Nat}[f:fO τ enc c](s:Sv)(xs:List τ):own (Deep.cells (τ:=τ)) (Deep.c τ) s xs=own enc c s xs:=by
  have e:Deep.cells (τ:=τ)=enc:=funext f.h
  rw[e,f.hc]
theorem Tr.DZ[d:Deep τ]{enc:τ→Array Value}{c:Nat}[f:fO τ enc c]{a:Sl τ}:Tr (Deep.ck a::L) (own enc c a.sv a.xs::(a.xs.map d.ck++L)):=by
  rw[←Iz];exact Tr.sK
theorem Tr.yw[d:Deep τ]{enc:τ→Array Value}{c:Nat}[f:fO τ enc c]{a:Sl τ}:Tr (own enc c a.sv a.xs::(a.xs.map d.ck++L)) (Deep.ck a::L):=by
  rw[←Iz];exact Tr.Qh
theorem Tr.Qi[d:Deep τ]{enc:τ→Array Value}{c:Nat}[f:fO τ enc c][Plain τ]{a:Sl τ}:Tr (Deep.ck a::L) (own enc c a.sv a.xs::L):=Tr.DZ.trans (Tr.plain.cons _)
theorem Tr.D0[d:Deep τ]{enc:τ→Array Value}{c:Nat}[f:fO τ enc c][Plain τ]{a:Sl τ}:Tr (own enc c a.sv a.xs::L) (Deep.ck a::L):=(Tr.Iy.cons _).trans Tr.yw
theorem IA{α β:Type}(f:α→β){xs:List α}{i:Nat}{x:α}(hx:xs[i]? =some x):(xs.map f).Perm (f x::(xs.eraseIdx i).map f):=by
  have h1:=(IB hx).map f
  exact h1
where IB {α:Type}: ∀{L:List α} {i:Nat} {e:α},L[i]? =some e→L.Perm (e::L.eraseIdx i)
  |[],i,e,h=>by simp at h
  |x::L,0,e,h=>by obtain rfl:x=e:=by simpa using h
                  simp
  |x::L,i+1,e,h=>by
   have:=IB (L:=L) (i:=i) (e:=e) (by simpa using h)
   rw[List.eraseIdx_cons_succ]
   exact(this.cons x).trans (.swap _ _ _)
theorem Tr.pick[d:Deep τ]{enc:τ→Array Value}{c:Nat}[f:fO τ enc c]{a:Sl τ}{i:Nat}{x:τ}(hx:a.xs[i]? =some x):
    Tr (Deep.ck a::L) (own enc c a.sv a.xs::Deep.ck x::((a.xs.eraseIdx i).map d.ck++L)):=
  Tr.DZ.trans (Tr.cons (Tr.right (Tr.perm (IA d.ck hx)) L) _)
theorem IC{α:Type}: ∀(xs:List α) (i:Nat) (y:α),(xs.set i y).eraseIdx i=xs.eraseIdx i
  |[],_,_=>by simp
  |_::_,0,_=>by simp
  |_::xs,i+1,y=>by simp[IC xs i y]
theorem Tr.lay[d:Deep τ]{enc:τ→Array Value}{c:Nat}[f:fO τ enc c]{s:Sv}{xs:List τ}{i:Nat}{y:τ}(hi:i<xs.length):
    Tr (own enc c s (xs.set i y)::Deep.ck y::((xs.eraseIdx i).map d.ck++L)) (Deep.ck (⟨s,xs.set i y⟩:Sl τ)::L):=by
  have hy:(xs.set i y)[i]? =some y:=by simp[hi]
  have:=(IA d.ck hy).symm
  rw[IC]at this
  exact(Tr.cons (Tr.right (Tr.perm this) L) _).trans (Tr.yw (a:=⟨s,xs.set i y⟩))
class Take(L:List aj){τ:Type}[Deep τ](x:τ)(R:outParam (List aj)):Prop where
  h:Tr L (Deep.ck x::R)
class wa(L:List aj){τ:Type}[Deep τ](xs:List τ)(R:outParam (List aj)):Prop where
  h:Tr L (xs.map Deep.ck++R)
instance (priority:=high) Take.at [Deep τ]{x:τ}{i:Nat}[a:At L (Deep.ck x) i][d:dr L i R]:Take L x R:=⟨by
  have:=Tr.front a.h;rwa [d.h]at this⟩
instance Take.own[Deep τ][p:Plain τ]{enc:τ→Array Value}{c:Nat}[f:fO τ enc c]{s:Sv}{xs:List τ}{i:Nat}[a:At L (own enc c s xs) i][d:dr L i R]:Take L (⟨s,xs⟩:Sl τ) R:=⟨by
  have:=Tr.front a.h;rw[d.h]at this
  exact this.trans (Tr.D0 (a:=⟨s,xs⟩))⟩
instance wa.nil[Deep τ]:wa L ([]:List τ) L:=⟨.refl⟩
instance wa.cons[Deep τ]{x:τ}{xs:List τ}[a:Take L x R1][b:wa R1 xs R2]:wa L (x::xs) R2:=⟨a.h.trans (b.h.cons _)⟩
instance:Plain UInt8:=⟨fun _=>rfl⟩
end
section
variable {P:Program} {N:cB} {w0:World} {env:Env} {L R R1 R2:List aj} {l:List Oper} {Q:Exit→Act→World→Prop} {rest:List Oper} {d:Option Tmp} {ty:TypeId} {ps:String} {af:Array Edge}
variable {τ:Type} [dp:Deep τ] {enc:τ→Array Value} {c:Nat}
theorem Qj{α:Type}{enc:α→Array Value}{c:Nat}{s:Sv}{xs ys:List α}{t tx e:TypeId}{x y:Operand}{yv:Value}{cG:Nat}[ht:fk P t e c cG][he:bx enc c](R:List aj)(hx:ev env x=some s.val)(hy:ev env y=some yv)
    (ho: ∀w,Mem w0 L w→Mem w0 (own enc c s xs::R) w) (hc:0<c) (hs: ∀w,Mem w0 L w→Src P c tx yv ys.length (aK enc ys) w) (hb:(xs.length+ys.length)*cG≤140737488355328) (iO:xs.length+ys.length≤140737488355328)
    (hk: ∀s':Sv,Sq P N w0 l Q rest (cw env d s'.val) (own enc c s' (xs++ys)::R)) (hd:dj N d=true:=by rfl):
    Sq P N w0 l Q (⟨d, .call {callee:= .builtin .append,args:= #[x,y],argTypes:= #[t,tx]},ty,ps,af,none⟩::rest) env L:=
  mg rfl hd fun a w ha hw=>by
    obtain⟨s',w',h1,h2,h3,h4⟩:=DS (i:=0) (ty:=ty) ht hc (ho w hw) rfl (hs w hw) hb iO
    refine⟨s'.val,w',_,?_,by simpa using h4,hk s'⟩
    simp[execOp,ha.ev hx,ha.ev hy,resolve,invoke,builtin,h1,Result.andThen]
theorem Qk{s:Sv}{t tx e e':TypeId}{x y:Operand}{cG m:Nat}[f:fO τ enc c][ht:fk P t e c cG][Ql:eW P tx e' m][he:bx enc c](a:Sl τ)(ys:List τ)(hx:ev env x=some a.sv.val)(hy:ev env y=some s.val)[q:Hd w0 L s enc c ys]
    [k1:Take L a R1] [k2:wa R1 ys R2] (hc:0<c) (hb:(a.xs.length+ys.length)*cG≤140737488355328) (iO:a.xs.length+ys.length≤140737488355328)
    (hk: ∀a':Sl τ,a'.xs=a.xs++ys→Sq P N w0 l Q rest (cw env d a'.sv.val) (Deep.ck a'::R2)) (hd:dj N d=true:=by rfl):
    Sq P N w0 l Q (⟨d, .call {callee:= .builtin .append,args:= #[x,y],argTypes:= #[t,tx]},ty,ps,af,none⟩::rest) env L:=
  Qj (enc:=enc) (c:=c) (xs:=a.xs) (ys:=ys) (a.xs.map dp.ck++(ys.map dp.ck++R2)) hx hy (fun w hw=>((k1.h.trans (k2.h.cons _)).trans Tr.DZ).mem hw) hc (fun w hw=>kI Ql.et hc (q.h w hw)) hb iO
    (fun s' aa w ha hw=>hk ⟨s',a.xs++ys⟩ rfl aa w ha (by
      have t1:Tr (own enc c s' (a.xs++ys)::(a.xs.map dp.ck++(ys.map dp.ck++R2))) (Deep.ck (⟨s',a.xs++ys⟩:Sl τ)::R2):=by
        have:=Tr.yw (enc:=enc) (c:=c) (a:=(⟨s',a.xs++ys⟩:Sl τ)) (L:=R2)
        simpa using this
      exact t1.mem hw)) hd
theorem Mem.AJ{w:World}[f:fO τ enc c](h:Mem w0 L w):Mem w0 (Deep.ck (⟨Sv.none,[]⟩:Sl τ)::L) w:=
  (Tr.yw (enc:=enc) (c:=c) (a:=(⟨Sv.none,[]⟩:Sl τ)) (L:=L)).mem (by simpa using h.dI enc c)
def pJ{τ:Type}(s:Sl (Sl τ))(i:Nat):Sl τ:=s.xs.getD i ⟨Sv.none,[]⟩
theorem AK{τ:Type}{s:Sl (Sl τ)}{i:Nat}{x:Sl τ}(h:s.xs[i]? =some x):pJ s i=x:=by simp[pJ,h]
theorem AL{τ:Type}{s:Sl (Sl τ)}{i:Nat}(h:s.xs.length≤i):pJ s i=⟨Sv.none,[]⟩:=by simp[pJ,h]
theorem yx{τ:Type}(s:Sl (Sl τ))(i:Nat):(pJ s i).xs=(lx s).getD i []:=by
  rcases Nat.lt_or_ge i s.xs.length with h|h
  ·have:s.xs[i]? =some s.xs[i]:=by simp[h]
   simp[AK this,lx,h]
  ·rw[AL h];simp[lx,h]
theorem uu{h:Nat→Option Obj}:Deep.bh h (⟨Sv.none,[]⟩:Sl τ):=⟨bV.nil _ _ _,fun _ hx=>by cases hx⟩
instance aW.pJ{s:Sl (Sl τ)}{i:Nat}[q:aW w0 L s]:aW w0 L (pJ s i):=⟨fun w hw=>by
  rcases Nat.lt_or_ge i s.xs.length with h|h
  ·have hx:s.xs[i]? =some s.xs[i]:=by simp[h]
   rw[AK hx];exact(q.h w hw).2 _ (List.mem_of_getElem? hx)
  ·rw[AL h];exact uu⟩
theorem Tr.ID{L:List aj}[f:fO τ enc c]: ∀n,Tr L ((List.replicate n (⟨Sv.none,[]⟩:Sl τ)).map Deep.ck++L)
  |0=> .refl
  |n+1=>by
   rw[List.replicate_succ,List.map_cons]
   exact(Tr.ID n).trans fun K w0 w hw=>Mem.AJ (enc:=enc) (c:=c) hw
theorem Qm{t e:TypeId}{cG n cap:Nat}{x y:Operand}{k k':IntKind}{ix iy:Int}[f:fO τ enc c][ht:fk P t e 1 cG][hz:fh P e (.slice none 0 0)](hx:ev env x=some (.int k ix))(hy:ev env y=some (.int k' iy))(ex:ix=(n:Int))(ey:iy=(cap:Int))(hle:n≤cap)(hb:cG*cap≤281474976710656)(iO:cap≤140737488355328)
    (hk: ∀a:Sl (Sl τ),a.xs=List.replicate n ⟨Sv.none,[]⟩→Sq P N w0 l Q rest (cw env d a.sv.val) (Deep.ck a::L)) (hd:dj N d=true:=by rfl):
    Sq P N w0 l Q (⟨d, .makeSlice t x y,ty,ps,af,none⟩::rest) env L:=
  sI (enc:=cc (τ:=τ)) (n:=n) (cap:=cap) (⟨Sv.none,[]⟩:Sl τ) rfl hx hy ex ey hle hb iO (fun b a w ha hw=>hk ⟨⟨false,b,0,n,cap,none⟩,List.replicate n ⟨Sv.none,[]⟩⟩ rfl a w ha
    (((Tr.ID (enc:=enc) (c:=c) n).cons _|>.trans (Tr.yw (enc:=cc) (c:=1) (a:=(⟨⟨false,b,0,n,cap,none⟩,List.replicate n ⟨Sv.none,[]⟩⟩:Sl (Sl τ))))).mem hw)) hd
end
section
variable {P:Program} {N:cB} {w0:World} {env:Env} {L:List aj} {l:List Oper} {Q:Exit→Act→World→Prop} {rest:List Oper} {d:Option Tmp} {ty:TypeId} {ps:String} {af:Array Edge}
end
theorem Sv.iQ(s:Sv):s.val.cells= #[s.val]:=by unfold Sv.val;split<;>rfl
theorem Tr.Qn{τ:Type}[Deep τ][Plain τ]{enc:τ→Array Value}{c:Nat}[fO τ enc c]{a:Sl (Sl τ)}{x:Sl τ}{i:Nat}{B:List aj}(hx:a.xs[i]? =some x):
    Tr (B++[Deep.ck a]) (own cc 1 a.sv a.xs::own enc c x.sv x.xs::(B++(a.xs.eraseIdx i).map Deep.ck)):=by
  refine(Tr.perm (List.perm_append_comm (l₁:=B) (l₂:=[Deep.ck a]))).trans ?_
  refine(Tr.pick (L:=B) hx).trans (Tr.cons (Tr.Qi.trans (Tr.cons (Tr.perm List.perm_append_comm) _)) _)
theorem Tr.Qo{τ:Type}[Deep τ][Plain τ]{enc:τ→Array Value}{c:Nat}[fO τ enc c]{s y:Sv}{xs:List (Sl τ)}{ys:List τ}{i:Nat}{B:List aj}(hi:i<xs.length):
    Tr (own cc 1 s (xs.set i ⟨y,ys⟩)::own enc c y ys::(B++(xs.eraseIdx i).map Deep.ck)) (Deep.ck (⟨s,xs.set i ⟨y,ys⟩⟩:Sl (Sl τ))::B):=by
  refine Tr.trans ?_ (Tr.lay (L:=B) hi)
  exact Tr.cons ((Tr.D0 (a:=(⟨y,ys⟩:Sl τ))).trans (Tr.cons (Tr.perm List.perm_append_comm) _)) _
theorem AM{P:Program}{N:cB}{w0:World}{env:Env}{L:List aj}{l:List Oper}{Q:Exit→Act→World→Prop}{rest:List Oper}{ty:TypeId}{ps:String}{af:Array Edge}{τ:Type}{t:TypeId}{x y:Operand}{i k p:Nat}{s:Sv}{xs:List (Sl τ)}{a:Sl τ}(a':Sl τ)
    (sz:(P.info? t).map (·.size)=some 1) (hx:ev env x=some (.pointer (some ⟨s.b,p,none⟩))) (hy:ev env y=some a'.sv.val) [q:fG L s (cc (τ:=τ)) 1 xs i] (gR:p=s.o+k*1) (ha:xs[k]? =some a) {L':List aj} [hu:fw L i (own cc 1 s (xs.set k a')) L'] (hk:Sq P N w0 l Q rest env L'):
    Sq P N w0 l Q (⟨none, .store t x y,ty,ps,af,none⟩::rest) env L:=
  kJ (j:=0) (a':=a') sz hx hy (q:=q) gR ha (by rw[Sv.iQ];simp[Sv.one]) (by rw[Sv.iQ];rfl) (by decide) (by rw[Sv.iQ];rfl) hk
section
variable {P:Program} {N:cB} {w0:World} {env:Env} {L:List aj} {l:List Oper} {Q:Exit→Act→World→Prop} {rest:List Oper} {d:Option Tmp} {ty:TypeId} {ps:String} {af:Array Edge} {gd:Option (Nat×Bool)}
variable {fs:List Nat} {F:Act→Prop} {k:Nat}
theorem kK{o:Oper}{v:Value}{j t:Nat}{b g:Bool}(hg:o.guard=some (j,b))(hj:(l[j]?).bind (·.dst)=some t)(hv:look env t=some (.bool g))(ht:g=b)(h:Yl P N w0 env L o v)
    (hk:Sq P N w0 l Q rest (cw env o.dst v) L) (hd:dj N o.dst=true:=by rfl):Sq P N w0 l Q (o::rest) env L:=fun a w ha hw=>by
  unfold wpList
  rw[uf ha hg hj hv,ht,beq_self_eq_true,if_pos rfl]
  exact .inl (vR ha hw h fun w' gH=>hk _ _ (ha.put hd v) gH)
end
theorem sM{P:Program}{N:cB}{w0:World}{env:Env}{L:List aj}{d:Option Tmp}{ty:TypeId}{ps:String}{af:Array Edge}{gd:Option (Nat×Bool)}{c x y:Operand}{g:Bool}{v:Value}(hc:ev env c=some (.bool g))(ht:g=true)(hx:ev env x=some v)(hy:ev env y=some (.bool false)):
    Ry P N w0 env L ⟨d, .pick c x y,ty,ps,af,gd⟩ v:=by
  subst ht
  have h:=DE (P:=P) (N:=N) (w0:=w0) (L:=L) (d:=d) (ty:=ty) (ps:=ps) (af:=af) (gd:=gd) hc hx hy
  simpa using h
end Go.ay
namespace Go.Kb
abbrev Key:=BitVec 128
def cH(k:Key)(i:Nat):Nat:=k.toNat/2^(8*(15 -i))%2^8
theorem nU(k:Key)(i:Nat):cH k i<256:=Nat.mod_lt _ (by decide)
theorem Qp(k:Key)(i j:Nat)(hj:j<8):(cH k i).testBit j=k.toNat.testBit (8*(15 -i)+j):=by
 unfold cH
 rw[Nat.testBit_mod_two_pow,Nat.testBit_div_two_pow]
 simp[hj,Nat.add_comm]
theorem Qq(k:Key)(n:Nat)(h:n<128):k.getMsbD n=k.toNat.testBit (127 -n):=by
 simp only[BitVec.getMsbD,BitVec.getLsbD,h,decide_true,Bool.true_and]
theorem AN(k:Key)(n:Nat)(h:n<128):k.getMsbD n=(cH k (n/8)).testBit (7 -n%8):=by
 rw[Qq k n h,Qp k (n/8) (7 -n%8) (by omega)]
 congr 1;omega
theorem IE(k:Key)(n:Nat)(h:128≤n):k.getMsbD n=false:=by
 simp only[BitVec.getMsbD];simp;omega
theorem IF{a b:Key}(h: ∀n,n<128→a.getMsbD n=b.getMsbD n):a=b:=BitVec.eq_of_getMsbD_eq fun i hi=>h i hi
theorem Qr{x y:Nat}(hx:x<256)(hy:y<256)(h: ∀j,j<8→x.testBit j=y.testBit j):x=y:=by
 refine Nat.eq_of_testBit_eq fun j=> ?_
 rcases Nat.lt_or_ge j 8 with hj|hj
 ·
  exact h j hj
 ·
  have hp:2^8≤2^j:=Nat.pow_le_pow_right (by decide) hj
  rw[Nat.testBit_lt_two_pow (Nat.lt_of_lt_of_le hx hp),Nat.testBit_lt_two_pow (Nat.lt_of_lt_of_le hy hp)]
theorem yy{a b:Key}(h: ∀i,i<16→cH a i=cH b i):a=b:=
 IF fun n hn=>by rw[AN a n hn,AN b n hn,h (n/8) (by omega)]
theorem Qs{k:Key}{i x:Nat}(hi:i<16)(hx:x<256)(h: ∀m,m<8→k.getMsbD (8*i+m)=x.testBit (7 -m)):cH k i=x:=
 Qr (nU k i) hx fun j hj=>by
  have:=h (7 -j) (by omega)
  rw[AN k _ (by omega),show(8*i+(7 -j))/8=i by omega,show 7 -(8*i+(7 -j))%8=j by omega,show 7 -(7 -j)=j by omega]at this
  exact this
def nV(f:Nat→Nat):Key:=BitVec.ofNat 128 ((List.range 16).foldl (fun a i=>a*2^8+f i%2^8) 0)
theorem AO(f:Nat→Nat): ∀n,(List.range n).foldl (fun a i=>a*2^8+f i%2^8) 0<2^(8*n)
 |0=>by simp
 |n+1=>by
  rw[List.range_succ,List.foldl_append]
  have:=AO f n
  have h2:f n%2^8<2^8:=Nat.mod_lt _ (by decide)
  simp only[List.foldl_cons,List.foldl_nil]
  rw[Nat.mul_add,Nat.mul_one,Nat.pow_add]
  omega
theorem IG(f:Nat→Nat): ∀n i,i<n→(List.range n).foldl (fun a i=>a*2^8+f i%2^8) 0/2^(8*(n -1 -i))%2^8=f i%2^8
 |0,i,h=>by omega
 |n+1,i,h=>by
  rw[List.range_succ,List.foldl_append]
  simp only[List.foldl_cons,List.foldl_nil]
  generalize hF:(List.range n).foldl (fun a i=>a*2^8+f i%2^8) 0=F
  by_cases hi:i=n
  ·
   subst hi
   rw[show i+1 -1 -i=0 by omega]
   simp
  ·
   have ih:=IG f n i (by omega)
   rw[hF]at ih
   rw[show 8*(n+1 -1 -i)=8+8*(n -1 -i) by omega,Nat.pow_add,←Nat.div_div_eq_div_mul]
   have:(F*2^8+f n%2^8)/2^8=F:=by
    have h2:f n%2^8<2^8:=Nat.mod_lt _ (by decide)
    omega
   rw[this];exact ih
theorem yz(f:Nat→Nat)(i:Nat)(h:i<16):cH (nV f) i=f i%2^8:=by
 unfold cH nV
 have e:((List.range 16).foldl (fun a i=>a*2^8+f i%2^8) 0)%2^128=(List.range 16).foldl (fun a i=>a*2^8+f i%2^8) 0:=Nat.mod_eq_of_lt (AO f 16)
 rw[BitVec.toNat_ofNat,e]
 exact IG f 16 i h
def yA(k:Key)(i x:Nat):Key:=nV fun j=>if j=i then x else cH k j
theorem IH(k:Key)(i x j:Nat)(hj:j<16)(hx:x<256):cH (yA k i x) j=if j=i then x else cH k j:=by
 unfold yA
 rw[yz _ j hj]
 split
 ·
  omega
 ·
  have:=nU k j;omega
def cW(k:Key):Array Value:=((List.range 16).map fun i=>Value.int .u8 (cH k i)).toArray
theorem gL(k:Key):(cW k).size=16:=by unfold cW;simp
theorem lz(k:Key)(i:Nat)(h:i<16):(cW k)[i]? =some (.int .u8 (cH k i)):=by unfold cW;simp[h]
theorem II(k:Key)(i:Nat)(h:16≤i):(cW k)[i]? =none:=by unfold cW;simp;omega
theorem IJ{A:Array Value}{k:Key}(hs:A.size=16)(h: ∀i,i<16→A[i]? =some (.int .u8 (cH k i))):A=cW k:=by
 apply Array.ext_getElem?
 intro i
 rcases Nat.lt_or_ge i 16 with hi|hi
 ·
  rw[h i hi,lz k i hi]
 ·
  rw[II k i hi];simp;omega
theorem Qu(k:Key)(i x:Nat)(hi:i<16)(hx:x<256):(cW k).setIfInBounds i (.int .u8 x)=cW (yA k i x):=by
 refine IJ (by simp[gL]) fun j hj=> ?_
 rw[Array.getElem?_setIfInBounds,IH k i x j hj hx]
 by_cases h:i=j
 ·
  subst h;simp[gL,hi]
 ·
  rw[if_neg h,if_neg (fun e=>h e.symm),lz k j hj]
theorem IK{a b:Key}(h:cW a=cW b):a=b:=yy fun i hi=>by
 have h1:=lz a i hi
 rw[h,lz b i hi]at h1
 simp at h1;omega
def hK(k:Key)(n:Int):Key:=if n<1 then 0#128 else(k>>>(128 -n.toNat))<<<(128 -n.toNat)
theorem IL(k:Key)(n:Int)(i:Nat):(hK k n).getMsbD i=(decide ((i:Int)<n)&&k.getMsbD i):=by
 unfold hK
 split
 ·
  have: ¬((i:Int)<n):=by omega
  simp[this]
 ·
  rcases Nat.lt_or_ge i 128 with hi|hi
  ·
   rw[BitVec.getMsbD_shiftLeft,BitVec.getMsbD_ushiftRight]
   by_cases hn:(i:Int)<n
   ·
    have h1:i+(128 -n.toNat)<128:=by omega
    have h2:i+(128 -n.toNat) -(128 -n.toNat)=i:=by omega
    simp[hn,h1,h2]
   ·
    have h1: ¬i+(128 -n.toNat)<128:=by omega
    simp[hn,h1]
  ·
   rw[IE _ _ hi,IE _ _ hi];simp
theorem Qv(k:Key)(n:Int)(h:128≤n):hK k n=k:=IF fun i hi=>by
 rw[IL];have:(i:Int)<n:=by omega
 simp[this]
theorem Qw(k:Key)(n:Int)(h:n<1):hK k n=0#128:=by unfold hK;rw[if_pos h]
theorem D1(k:Key)(n:Nat)(i:Nat)(hi:i<16):cH (hK k n) i=if 8*i+8≤n then cH k i else if 8*i≤n then cH k i/2^(8 -(n -8*i))*2^(8 -(n -8*i))else 0:=by
 have hb:=nU k i
 have bt:(if 8*i+8≤n then cH k i else if 8*i≤n then cH k i/2^(8 -(n -8*i))*2^(8 -(n -8*i))else 0)<256:=by
  split
  ·
   exact hb
  ·
   split
   ·
    exact Nat.lt_of_le_of_lt (Nat.div_mul_le_self _ _) hb
   ·
    omega
 refine Qs hi bt fun m hm=> ?_
 rw[IL,AN k _ (by omega),show(8*i+m)/8=i by omega,show 7 -(8*i+m)%8=7 -m by omega]
 split
 ·
  have:((8*i+m:Nat):Int)<(n:Int):=by omega
  simp only[this,decide_true,Bool.true_and]
 ·
  split
  ·
   generalize ht:8 -(n -8*i)=t
   rw[Nat.testBit_mul_two_pow,Nat.testBit_div_two_pow]
   by_cases bt:((8*i+m:Nat):Int)<(n:Int)
   ·
    have h1:t≤7 -m:=by omega
    simp only[bt,h1,decide_true,Bool.true_and]
    rw[show 7 -m -t+t=7 -m by omega]
   ·
    have h1: ¬t≤7 -m:=by omega
    simp only[bt,h1,decide_false,Bool.false_and]
  ·
   have: ¬((8*i+m:Nat):Int)<(n:Int):=by omega
   simp only[this,decide_false,Bool.false_and,Nat.zero_testBit]
structure cR where
 bits:Int
 len:Int
 key:Key
 deriving DecidableEq
def cY(p:cR):Bool:=decide (p.bits=32∨p.bits=128)&&decide (0≤p.len)&&decide (p.len≤p.bits)&&decide (hK p.key p.len=p.key)
theorem AP(p:cR):cY p=true↔(p.bits=32∨p.bits=128)∧0≤p.len∧p.len≤p.bits∧hK p.key p.len=p.key:=by
 unfold cY;simp[and_assoc]
def Qx(p:cR)(k:Key):Bool:=cY p&&decide (hK k p.bits=k)&&decide (hK k p.len=p.key)
def Qy(p q:cR):Bool:=cY p&&cY q&&decide (p.bits=q.bits)&&decide (p.len≤q.len)&&decide (hK q.key p.len=p.key)
def dJ(p q:cR):Bool:=cY p&&cY q&&(if p.bits≠q.bits then decide (p.bits=32)else if p.key≠q.key then decide (p.key.toNat<q.key.toNat)else decide (p.len<q.len))
def c5(p:cR):Array Value:= #[.int .i64 p.bits, .int .i64 p.len]++cW p.key
theorem nW(p:cR):(c5 p).size=18:=by unfold c5;rw[Array.size_append,gL];rfl
theorem uv(p:cR):(c5 p)[0]? =some (.int .i64 p.bits):=by unfold c5;rw[Array.getElem?_append];rfl
theorem uw(p:cR):(c5 p)[1]? =some (.int .i64 p.len):=by unfold c5;rw[Array.getElem?_append];rfl
theorem pK(p:cR)(j:Nat):(c5 p)[2+j]? =(cW p.key)[j]? :=by
 unfold c5;rw[Array.getElem?_append,if_neg (by simp)];congr 1;simp
theorem IM{a b:cR}(h:c5 a=c5 b):a=b:=by
 have h0:=uv a;rw[h,uv]at h0
 have h1:=uw a;rw[h,uw]at h1
 have h2:a.key=b.key:=IK (Array.ext_getElem? fun i=>by rw[←pK,←pK,h])
 cases a;cases b
 simp at h0 h1 h2⊢
 exact⟨h0.symm,h1.symm,h2⟩
theorem IN(k:Key):nV (cH k)=k:=yy fun i hi=>by
 rw[yz _ i hi];have:=nU k i;omega
theorem IP{a b:Key}{i:Nat}(hi:i<16)(hs: ∀j,j<i→cH a j=cH b j)(hd:cH a i<cH b i):a.toNat<b.toNat:=by
 have key: ∀n,n≤16→i<n→(List.range n).foldl (fun x j=>x*2^8+cH a j%2^8) 0<(List.range n).foldl (fun x j=>x*2^8+cH b j%2^8) 0:=by
  intro n
  induction n with
  |zero=>intro _ h;omega
  |succ n ih=>
   intro hn gO
   rw[List.range_succ,List.foldl_append,List.foldl_append]
   simp only[List.foldl_cons,List.foldl_nil]
   have ha:=nU a n
   have hb:=nU b n
   by_cases h:i=n
   ·
    subst h
    have e:(List.range i).foldl (fun x j=>x*2^8+cH a j%2^8) 0=(List.range i).foldl (fun x j=>x*2^8+cH b j%2^8) 0:=by
     have aux: ∀(l:List Nat) (z:Nat),(∀j∈l,cH a j=cH b j)→l.foldl (fun x j=>x*2^8+cH a j%2^8) z=l.foldl (fun x j=>x*2^8+cH b j%2^8) z:=by
      intro l
      induction l with
      |nil=>intro z _;rfl
      |cons x l ih=>intro z hl;simp only[List.foldl_cons];rw[hl x (by simp)];exact ih _ fun j hj=>hl j (by simp[hj])
     exact aux _ _ fun j hj=>hs j (List.mem_range.1 hj)
    rw[e];omega
   ·
    have:=ih (by omega) (by omega);omega
 have Qz:=key 16 (Nat.le_refl _) hi
 have ea:a.toNat=(List.range 16).foldl (fun x j=>x*2^8+cH a j%2^8) 0:=by
  conv=>lhs;rw[←IN a]
  unfold nV;rw[BitVec.toNat_ofNat];exact Nat.mod_eq_of_lt (AO (cH a) 16)
 have eb:b.toNat=(List.range 16).foldl (fun x j=>x*2^8+cH b j%2^8) 0:=by
  conv=>lhs;rw[←IN b]
  unfold nV;rw[BitVec.toNat_ofNat];exact Nat.mod_eq_of_lt (AO (cH b) 16)
 rw[ea,eb];exact Qz
def oL(a b:Key):Int:=if a.toNat<b.toNat then -1 else if b.toNat<a.toNat then 1 else 0
theorem IQ(a b:Key):oL a b=0↔a=b:=by
 unfold oL
 constructor
 ·
  intro h
  split at h
  ·
   omega
  ·
   split at h
   ·
    omega
   ·
    exact BitVec.eq_of_toNat_eq (by omega)
 ·
  rintro rfl;simp
theorem QA(a b:Key):oL a b<0↔a.toNat<b.toNat:=by
 unfold oL;split
 ·
  simp[*]
 ·
  split<;>simp[*]
theorem lA{p q:cR}(hp:cY p=true)(hq:cY q=true):dJ p q=true↔p.bits<q.bits∨(p.bits=q.bits∧(p.key.toNat<q.key.toNat∨(p.key.toNat=q.key.toNat∧p.len<q.len))):=by
 obtain⟨p1,_⟩:=(AP p).1 hp
 obtain⟨q1,_⟩:=(AP q).1 hq
 have ek:p.key=q.key↔p.key.toNat=q.key.toNat:=⟨fun h=>by rw[h],BitVec.eq_of_toNat_eq⟩
 unfold dJ
 rw[hp,hq,Bool.true_and,Bool.true_and]
 by_cases hb:p.bits=q.bits
 ·
  rw[if_neg (by simpa using hb)]
  by_cases hk:p.key=q.key
  ·
   rw[if_neg (by simpa using hk)];rw[ek]at hk;simp;omega
  ·
   rw[if_pos hk];rw[ek]at hk;simp;omega
 ·
  rw[if_pos hb];simp;omega
theorem QB{p q:cR}:p=q↔p.bits=q.bits∧p.key.toNat=q.key.toNat∧p.len=q.len:=by
 constructor
 ·
  rintro rfl;exact⟨rfl,rfl,rfl⟩
 ·
  rintro⟨h1,h2,h3⟩
  have:=BitVec.eq_of_toNat_eq h2
  cases p;cases q;simp_all
structure Rt where
 p:cR
 dG:UInt16
 deriving DecidableEq
def jk:Rt:=⟨⟨0,0,0#128⟩,0⟩
def ax(r:Rt):Array Value:=c5 r.p++ #[.int .u16 r.dG.toNat]
theorem ku(r:Rt):(ax r).size=19:=by unfold ax;rw[Array.size_append,nW];rfl
theorem nX(r:Rt)(j:Nat)(h:j<18):(ax r)[j]? =(c5 r.p)[j]? :=by
 unfold ax;rw[Array.getElem?_append_left (by rw[nW];exact h)]
theorem wb(r:Rt):(ax r)[18]? =some (.int .u16 r.dG.toNat):=by
 unfold ax;rw[Array.getElem?_append_right (by rw[nW];omega),nW];rfl
def pL(xs:List Rt)(i:Nat):Bool:=match xs[i]?with
 |none=>true
 |some r=>cY r.p&&match i with
  |0=>true
  |j+1=>match xs[j]?with
   |none=>true
   |some q=>dJ q.p r.p
def pM(xs:List Rt)(n:Nat):Bool:=(List.range n).all (pL xs)
def dt(xs:List Rt):Bool:=decide (xs.length≤256)&&pM xs xs.length
theorem IS(xs:List Rt):pM xs 0=true:=rfl
theorem D2(xs:List Rt)(n:Nat):pM xs (n+1)=(pM xs n&&pL xs n):=by
 simp[pM,List.range_succ]
theorem IT{xs:List Rt}(h:256<xs.length):dt xs=false:=by
 simp[dt];omega
theorem AQ{xs:List Rt}{i:Nat}(hi:i<xs.length)(h:pL xs i=false):dt xs=false:=by
 have:pM xs xs.length=false:=by
  rw[pM,List.all_eq_false]
  exact⟨i,List.mem_range.2 hi,by simp[h]⟩
 simp[dt,this]
theorem IU{xs:List Rt}(h:xs.length≤256)(ho:pM xs xs.length=true):dt xs=true:=by simp[dt,h,ho]
theorem IV{xs:List Rt}{i:Nat}{r:Rt}(hi:xs[i]? =some r)(h:cY r.p=false):pL xs i=false:=by simp[pL,hi,h]
theorem D3{xs:List Rt}{r:Rt}(hi:xs[0]? =some r):pL xs 0=cY r.p:=by simp[pL,hi]
theorem AR{xs:List Rt}{i:Nat}{q r:Rt}(hi:xs[i+1]? =some r)(hq:xs[i]? =some q):pL xs (i+1)=(cY r.p&&dJ q.p r.p):=by simp[pL,hi,hq]
theorem QC{xs:List Rt}{i:Nat}{q r:Rt}(h0:0<i)(hi:xs[i]? =some r)(hq:xs[i -1]? =some q):pL xs i=(cY r.p&&dJ q.p r.p):=by
 obtain⟨j,rfl⟩: ∃j,i=j+1:=⟨i -1,by omega⟩
 exact AR hi (by simpa using hq)
theorem IW{xs:List Rt}{i:Nat}{q r:Rt}(hi:xs[i]? =some r)(hq:xs[i -1]? =some q):pL xs i=(cY r.p&& !(decide (0<(i:Int))&& !dJ q.p r.p)):=by
 rcases Nat.eq_zero_or_pos i with h|h
 ·
  subst h;rw[D3 hi];simp
 ·
  rw[QC h hi hq];simp[h]
theorem get_some{α:Type}{xs:List α}{i:Nat}(h:i<xs.length): ∃r,xs[i]? =some r:=⟨xs[i],by simp[h]⟩
theorem QD{a b:Rt}(h:ax a=ax b):a=b:=by
 have hp:c5 a.p=c5 b.p:=Array.ext_getElem? fun j=>by
  rcases Nat.lt_or_ge j 18 with hj|hj
  ·
   rw[←nX a j hj,←nX b j hj,h]
  ·
   rw[Array.getElem?_eq_none (by rw[nW];exact hj),Array.getElem?_eq_none (by rw[nW];exact hj)]
 have hh:=wb a
 rw[h,wb b]at hh
 have e1:b.dG=a.dG:=by
  apply UInt16.toNat_inj.1
  simp only[Option.some.injEq,Value.int.injEq,true_and]at hh
  omega
 obtain⟨p,q⟩:=a
 obtain⟨p',q'⟩:=b
 simp only at e1 hp
 rw[IM hp,e1]
theorem QE{α:Type}{xs ys:List α}{i:Nat}{a b:α}(ha:xs[i]? =some a)(hb:ys[i]? =some b)(h: ¬a=b): ¬xs=ys:=fun e=>by
 rw[e,hb]at ha;exact h (Option.some.inj ha).symm
theorem QF{α:Type}{xs ys:List α}(hl:xs.length=ys.length)(h: ∀j,j<xs.length→xs[j]? =ys[j]?):xs=ys:=List.ext_getElem? fun j=>by
 rcases Nat.lt_or_ge j xs.length with hj|hj
 ·
  exact h j hj
 ·
  rw[List.getElem?_eq_none hj,List.getElem?_eq_none (by omega)]
open Go.ay
structure It where
 id:Int
 body:Sl UInt8
def ni(x:It):Array Value:= #[.int .i64 x.id,x.body.sv.val]
instance:bx ni 2:=⟨fun _=>rfl,fun x=>by
 have h1:(Value.int .i64 x.id).oneCell'=true:=rfl
 simp only[ni,List.all_toArray,List.all_cons,List.all_nil,Sv.one,h1,Bool.and_self]⟩
instance (x:It):cn (ni x) 0 (.int .i64 x.id):=⟨rfl⟩
instance (x:It):cn (ni x) 1 x.body.sv.val:=⟨rfl⟩
instance:Deep It where
 c:=2
 cells:=ni
 size:=bx.size
 one:=bx.one
 bh h x:=Deep.bh h x.body
 ck x:=Deep.ck x.body
 iP h x hs:=Deep.iP h x.body hs
 mono w w' x:=Deep.mono w w' x.body
instance:fO It ni 2:=⟨rfl,fun _=>rfl⟩
instance {w0:World}{L:List aj}{x:It}[q:aW w0 L x]:aW w0 L x.body:=⟨q.h⟩
instance {L R:List aj}{i:Int}{b:Sl UInt8}[k:Take L b R]:Take L (It.mk i b) R:=⟨k.h⟩
def ux(a:Sl It):List (Int×List UInt8):=a.xs.map fun x=>(x.id,x.body.xs)
end Go.Kb

/- Laws and walks by which the law LabRight is proved, each with its own conditions. -/
import Derived.WalkKit
import Derived.Deep.Quiet
import Derived.RangeFuncRecord
import Derived.RangeFuncCalls
import Derived.OrdersIn
import Derived.StillTail
import Derived.Deep.MidRow
import Derived.Deep.AppendSrc
import Derived.Laws.Cover3
import Derived.Lib.ItoaNum
import Derived.Laws.DeepStrings4
import Derived.Lib.Strings
import Derived.Lib.SplitLaws
set_option maxRecDepth 20000
set_option linter.unusedSimpArgs false
set_option linter.unusedVariables false
theorem zz:type_of% @List.getElem?_eq_some_iff:=List.getElem?_eq_some_iff
theorem adr:type_of% @List.length_append:=List.length_append
theorem ad2:type_of% @List.length_cons:=List.length_cons
theorem af0:type_of% @List.length_nil:=List.length_nil
theorem alM:type_of% @Bool.and_eq_true:=Bool.and_eq_true
theorem amm:type_of% @List.mem_of_getElem?:=List.mem_of_getElem?
theorem amn:type_of% @Option.some.inj:=Option.some.inj
theorem amo:type_of% @List.length_take:=List.length_take
theorem amq:type_of% @List.take_add_one:=List.take_add_one
theorem amr:type_of% @List.take_of_length_le:=List.take_of_length_le
theorem ams:type_of% @List.append_assoc:=List.append_assoc
theorem amt:type_of% @List.all_eq_true:=List.all_eq_true
theorem amu:type_of% @List.length_drop:=List.length_drop
theorem amv:type_of% @Nat.lt_or_ge:=Nat.lt_or_ge
theorem amw:type_of% @List.getElem?_append_right:=List.getElem?_append_right
theorem amx:type_of% @List.getElem?_map:=List.getElem?_map
theorem amy:type_of% @Nat.mul_le_mul_right:=Nat.mul_le_mul_right
theorem amz:type_of% @Nat.le_refl:=Nat.le_refl
theorem amA:type_of% @List.mem_cons:=List.mem_cons
theorem amB:type_of% @List.length_eq_zero_iff:=List.length_eq_zero_iff
theorem amC:type_of% @List.getElem?_append_left:=List.getElem?_append_left
theorem amD:type_of% @List.getElem?_eq_none:=List.getElem?_eq_none
theorem amE:type_of% @Array.getElem?_eq_none:=Array.getElem?_eq_none
theorem amF:type_of% @List.length_map:=List.length_map
theorem amG:type_of% @List.getElem?_eq_getElem:=List.getElem?_eq_getElem
theorem amH:type_of% @Option.isSome_iff_exists:=Option.isSome_iff_exists
theorem amI:type_of% @Nat.add_mul:=Nat.add_mul
theorem amJ:type_of% @List.nil_sublist:=List.nil_sublist
theorem amK:type_of% @Nat.zero_le:=Nat.zero_le
theorem amL:type_of% @List.take_zero:=List.take_zero
theorem amM:type_of% @List.mem_append:=List.mem_append
theorem amN:type_of% @List.take_length:=List.take_length
theorem amO:type_of% @List.take_append_drop:=List.take_append_drop
theorem amP:type_of% @List.getElem?_set_self:=List.getElem?_set_self
theorem amQ:type_of% @Array.getElem?_setIfInBounds:=Array.getElem?_setIfInBounds
theorem amR:type_of% @List.map_cons:=List.map_cons
theorem amS:type_of% @List.mem_singleton:=List.mem_singleton
theorem amT:type_of% @Array.size_append:=Array.size_append
theorem amU:type_of% @Array.all_eq_true_iff_forall_mem:=Array.all_eq_true_iff_forall_mem
theorem amV:type_of% @Nat.add_sub_cancel_left:=Nat.add_sub_cancel_left
theorem amW:type_of% @Array.getElem?_append_left:=Array.getElem?_append_left
theorem amX:type_of% @Nat.zero_add:=Nat.zero_add
theorem amY:type_of% @Nat.mod_eq_of_lt:=Nat.mod_eq_of_lt
theorem amZ:type_of% @List.length_replicate:=List.length_replicate
theorem am0:type_of% @List.map_append:=List.map_append
theorem am1:type_of% @Int.toNat_natCast:=Int.toNat_natCast
theorem am2:type_of% @List.size_toArray:=List.size_toArray
theorem am3:type_of% @Option.map_some:=Option.map_some
theorem am4:type_of% @List.append_nil:=List.append_nil
theorem am5:type_of% @List.mem_map_of_mem:=List.mem_map_of_mem
theorem am6:type_of% @List.nil_append:=List.nil_append
theorem am7:type_of% @Array.ext_getElem?:=Array.ext_getElem?
theorem am8:type_of% @List.mem_append_left:=List.mem_append_left
theorem am9:type_of% @List.getElem?_of_mem:=List.getElem?_of_mem
theorem ana:type_of% @Bool.false_ne_true:=Bool.false_ne_true
theorem anb:type_of% @List.length_set:=List.length_set
theorem anc:type_of% @List.mem_range:=List.mem_range
theorem ane:type_of% @List.take_succ_cons:=List.take_succ_cons
theorem anf:type_of% @List.length_pos_iff:=List.length_pos_iff
theorem ang:type_of% @List.getElem?_drop:=List.getElem?_drop
theorem anh:type_of% @List.drop_zero:=List.drop_zero
theorem ani:type_of% @List.mem_or_eq_of_mem_set:=List.mem_or_eq_of_mem_set
theorem anj:type_of% @List.cons_append:=List.cons_append
theorem ank:type_of% @Nat.pow_le_pow_right:=Nat.pow_le_pow_right
theorem anl:type_of% @List.map_nil:=List.map_nil
theorem anm:type_of% @List.pairwise_cons:=List.pairwise_cons
theorem ann:type_of% @Int.le_refl:=Int.le_refl
theorem ano:type_of% @Nat.lt_trans:=Nat.lt_trans
theorem anp:type_of% @Bool.or_eq_true:=Bool.or_eq_true
theorem anq:type_of% @List.ext_getElem?:=List.ext_getElem?
theorem anr:type_of% @List.flatten_cons:=List.flatten_cons
theorem ans:type_of% @List.mem_cons_of_mem:=List.mem_cons_of_mem
theorem ant:type_of% @Nat.lt_of_lt_of_le:=Nat.lt_of_lt_of_le
theorem anu:type_of% @List.getElem?_toArray:=List.getElem?_toArray
theorem anv:type_of% @Nat.mul_comm:=Nat.mul_comm
theorem anw:type_of% @Bool.false_eq_true:=Bool.false_eq_true
theorem anx:type_of% @List.sublist_cons_self:=List.sublist_cons_self
theorem anz:type_of% @Nat.add_assoc:=Nat.add_assoc
theorem anA:type_of% @Nat.add_zero:=Nat.add_zero
theorem anB:type_of% @List.mem_map:=List.mem_map
theorem anC:type_of% @Option.some.injEq:=Option.some.injEq
theorem anD:type_of% @List.getElem?_set:=List.getElem?_set
theorem anE:type_of% @Array.getElem?_eq_some_iff:=Array.getElem?_eq_some_iff
theorem anF:type_of% @BitVec.toNat_ofNat:=BitVec.toNat_ofNat
theorem anG:type_of% @Bool.true_eq_false:=Bool.true_eq_false
theorem anH:type_of% @Option.map_eq_some_iff:=Option.map_eq_some_iff
theorem anI:type_of% @List.all_toArray:=List.all_toArray
theorem anJ:type_of% @List.drop_eq_getElem_cons:=List.drop_eq_getElem_cons
theorem anK:type_of% @List.drop_succ_cons:=List.drop_succ_cons
theorem anL:type_of% @List.nodup_append:=List.nodup_append
theorem anM:type_of% @List.set_append_right:=List.set_append_right
theorem anN:type_of% @UInt16.toNat_lt:=UInt16.toNat_lt
theorem anO:type_of% @List.getElem?_take:=List.getElem?_take
theorem anP:type_of% @List.set_cons_zero:=List.set_cons_zero
theorem anQ:type_of% @List.all_cons:=List.all_cons
theorem anR:type_of% @Bool.and_self:=Bool.and_self
theorem anS:type_of% @Bool.not_eq_true':=Bool.not_eq_true'
theorem anT:type_of% @List.foldl_append:=List.foldl_append
theorem anU:type_of% @Array.length_toList:=Array.length_toList
theorem anV:type_of% @List.mem_filter:=List.mem_filter
theorem anW:type_of% @Nat.eq_zero_or_pos:=Nat.eq_zero_or_pos
theorem anX:type_of% @List.perm_middle:=List.perm_middle
theorem anY:type_of% @List.all_nil:=List.all_nil
theorem anZ:type_of% @Nat.sub_self:=Nat.sub_self
theorem an0:type_of% @Nat.mul_one:=Nat.mul_one
theorem an1:type_of% @Nat.mod_lt:=Nat.mod_lt
theorem an2:type_of% @Bool.and_false:=Bool.and_false
theorem an3:type_of% @List.nodup_cons:=List.nodup_cons
theorem an4:type_of% @Array.getElem?_append_right:=Array.getElem?_append_right
theorem an5:type_of% @UInt8.toNat_inj:=UInt8.toNat_inj
theorem an6:type_of% @List.getElem_of_mem:=List.getElem_of_mem
theorem an7:type_of% @List.getElem?_range:=List.getElem?_range
theorem an8:type_of% @Int.toNat_of_nonneg:=Int.toNat_of_nonneg
theorem an9:type_of% @Bool.true_and:=Bool.true_and
theorem aoa:type_of% @List.filter_cons:=List.filter_cons
theorem aob:type_of% @List.drop_length:=List.drop_length
theorem aoc:type_of% @Nat.lt_of_le_of_lt:=Nat.lt_of_le_of_lt
theorem aod:type_of% @UInt8.toNat_lt:=UInt8.toNat_lt
theorem aoe:type_of% @List.append_of_mem:=List.append_of_mem
theorem aof:type_of% @List.range_succ:=List.range_succ
theorem aog:type_of% @List.getElem?_set_ne:=List.getElem?_set_ne
theorem aoh:type_of% @List.map_set:=List.map_set
theorem aoi:type_of% @List.getElem?_replicate:=List.getElem?_replicate
theorem aoj:type_of% @List.take_set_of_le:=List.take_set_of_le
theorem aok:type_of% @Option.getD_some:=Option.getD_some
theorem aol:type_of% @Array.ext':=Array.ext'
theorem aom:type_of% @List.filter_append:=List.filter_append
theorem aon:type_of% @Nat.min_eq_left:=Nat.min_eq_left
theorem aoo:type_of% @Option.map_none:=Option.map_none
theorem aop:type_of% @Nat.div_add_mod:=Nat.div_add_mod
theorem aoq:type_of% @List.foldl_cons:=List.foldl_cons
theorem aor:type_of% @List.cons.injEq:=List.cons.injEq
theorem aos:type_of% @List.length_filter_le:=List.length_filter_le
theorem aot:type_of% @List.getD_eq_getElem?_getD:=List.getD_eq_getElem?_getD
theorem aou:type_of% @List.pairwise_iff_getElem:=List.pairwise_iff_getElem
theorem aov:type_of% @List.mem_of_mem_take:=List.mem_of_mem_take
theorem aow:type_of% @List.contains_eq_mem:=List.contains_eq_mem
theorem aox:type_of% @List.drop_drop:=List.drop_drop
theorem aoy:type_of% @Nat.add_comm:=Nat.add_comm
theorem aoz:type_of% @Array.all_append:=Array.all_append
theorem aoA:type_of% @List.replicate_succ:=List.replicate_succ
theorem aoB:type_of% @List.map_congr_left:=List.map_congr_left
theorem aoC:type_of% @Array.toList_append:=Array.toList_append
theorem aoD:type_of% @List.eraseIdx_cons_succ:=List.eraseIdx_cons_succ
theorem aoE:type_of% @List.filter_nil:=List.filter_nil
theorem aoF:type_of% @Int.ediv_nonneg:=Int.ediv_nonneg
theorem aoG:type_of% @Nat.xor_lt_two_pow:=Nat.xor_lt_two_pow
theorem aoH:type_of% @Option.toList_some:=Option.toList_some
theorem aoI:type_of% @List.drop_eq_nil_of_le:=List.drop_eq_nil_of_le
theorem aoJ:type_of% @List.flatMap_cons:=List.flatMap_cons
theorem aoK:type_of% @Bool.false_and:=Bool.false_and
theorem aoL:type_of% @Int.mul_le_mul:=Int.mul_le_mul
theorem aoM:type_of% @Int.mul_nonneg:=Int.mul_nonneg
theorem aoN:type_of% @List.getElem_mem:=List.getElem_mem
theorem aoO:type_of% @List.mem_reverse:=List.mem_reverse
theorem aoP:type_of% @List.not_mem_nil:=List.not_mem_nil
theorem aoQ:type_of% @List.flatten_nil:=List.flatten_nil
theorem aoR:type_of% @Prod.mk.injEq:=Prod.mk.injEq
namespace Go.ay
open Go.RowKit
structure ah where
 fp:Nat->Prop
 sat:(Nat->Option Obj)->Prop
 loc: ∀h h':Nat->Option Obj,(∀k,fp k->h' k=h k)->sat h->sat h'
def al(b:Nat)(cs:Array Value)(T:TypeId):ah:=⟨fun k=>k=b,fun h=>h b=some (.cells cs T (0,0)),fun _ _ e s=>by rw[e b rfl];exact s⟩
structure Mem(w0:World)(L:List ah)(w:World):Prop where
 below:Below w0.heap.size w0 w
 sat: ∀e∈L,e.sat fun k=>w.heap[k]?
 iO: ∀e∈L,∀k,e.fp k->w0.heap.size<=k/\k<w.heap.size
 ny:L.Pairwise fun a b=> ∀k,a.fp k-> ¬b.fp k
theorem Mem.init(w:World):Mem w [] w:=⟨Below.refl _ _,by simp,by simp,by simp⟩
theorem Mem.za{w w':World}(h:Below w.heap.size w w'):Mem w [] w':=⟨h,by simp,by simp,by simp⟩
variable {w0:World}{L:List ah}
theorem Mem.le{w:World}(h:Mem w0 L w):w0.heap.size<=w.heap.size:=h.below.size
theorem Mem.call{w0:World}{L E:List ah}{w w':World}(h:Mem w0 L w)(h':Mem w E w'):Mem w0 (E++L) w':=by
 refine⟨h.below.trans (h'.below.mono h.le),fun e he=>?_,fun e he k hk=>?_,?_⟩
 ·
  rcases amM.1 he with he|he
  ·
   exact h'.sat e he
  exact e.loc _ _ (fun k hk=>h'.below.block k (h.iO e he k hk).2) (h.sat e he)
 ·
  rcases amM.1 he with he|he
  ·
   have:=h'.iO e he k hk;have:=h.le;omega
  have:=h.iO e he k hk;have:=h'.below.size;omega
 refine List.pairwise_append.2 ⟨h'.ny,h.ny,fun a ha b hb k hk jf=>?_⟩;have:=h'.iO a ha k hk;have:=h.iO b hb k jf;omega
theorem Mem.step{w w':World}(h:Mem w0 L w)(h':Below w.heap.size w w'):Mem w0 L w':=h.call (E:=[]) (.za h')
theorem Mem.drew{w:World}(h:Mem w0 L w):Mem w0 L w.drew:=h.step ((Below.refl _ _).drew)
theorem Mem.BC{w:World}(h:Mem w0 L w):Mem w0 L {w with drawn:=w.drawn+1}:=h.step ((Below.refl _ _).drew)
theorem Mem.sub{w0:World}{L L':List ah}{w:World}(h:Mem w0 L w)(s:L'.Sublist L):Mem w0 L' w:=
 ⟨h.below,fun e he=>h.sat e (s.subset he),fun e he=>h.iO e (s.subset he),h.ny.sublist s⟩
theorem Mem.perm{w0:World}{L L':List ah}{w:World}(h:Mem w0 L w)(s:L.Perm L'):Mem w0 L' w:=
 ⟨h.below,fun e he=>h.sat e (s.mem_iff.2 he),fun e he=>h.iO e (s.mem_iff.2 he),s.pairwise h.ny (fun mw k hk jf=>mw k jf hk)⟩
theorem Mem.get{w:World}(h:Mem w0 L w){i:Nat}{e:ah}(hi:L[i]? =some e):e.sat fun k=>w.heap[k]? :=h.sat e (amm hi)
theorem Below.zb(w:World)(o:Obj):(w.alloc o).heap[w.heap.size]? =some o:=by
 show(w.heap.push o)[w.heap.size]? =some o;simp
theorem Mem.alloc{w:World}(h:Mem w0 L w)(cs:Array Value)(T:TypeId):Mem w0 (al w.heap.size cs T::L) (w.alloc (.cells cs T)):=by
 refine h.call (E:=[al w.heap.size cs T]) ⟨(Below.refl _ _).alloc (amz _) _,fun e he=>?_,fun e he k hk=>?_,by simp⟩
 ·
  simp at he;subst he;exact Below.zb w _
 simp at he;subst he;have:k=w.heap.size:=hk;subst this;simp
theorem Mem.change{w w':World}(h:Mem w0 L w){i:Nat}{e e':ah}(hi:L[i]? =some e)(su: ∀k,e'.fp k->e.fp k)
  (hB: ∀k,¬e.fp k->w'.heap[k]? =w.heap[k]?) (hs:w'.heap.size=w.heap.size) (ho:w'.os=w.os/\w'.tape=w.tape/\w'.output=w.output)
  (Ei:e'.sat fun k=>w'.heap[k]?):Mem w0 (L.set i e') w':=by
 have BD:i<L.length:=by
  rcases amv i L.length with h'|h'
  ·
   exact h'
  ·
   simp[amD h']at hi
 have BE:L[i]=e:=by simpa[amG BD]using hi
 have Jh:e∈L:=BE▸aoN BD;refine⟨⟨ho.1.trans h.below.os,ho.2.1.trans h.below.tape,ho.2.2.trans h.below.output,hs▸h.below.size,fun k hk=>?_⟩,fun x hx=>?_,fun x hx k hk=>?_,?_⟩
 ·
  rw[hB k (fun hf=>by have:=h.iO e Jh k hf;omega)];exact h.below.block k hk
 ·
  obtain⟨j,hj,pa⟩:=an6 hx;rw[List.getElem_set]at pa;split at pa
  ·
   subst pa;exact Ei
  ·
   rename_i cE;have jT:j<L.length:=by simpa using hj
   subst pa;have hd:=h.ny;rw[aou]at hd;refine(L[j]).loc _ _ (fun k hk=>hB k (fun hf=>?_)) (h.sat _ (aoN jT));rw[←BE]at hf;rcases Nat.lt_or_gt_of_ne cE with bx|bx
   ·
    exact hd i j BD jT bx k hf hk
   ·
    exact hd j i jT BD bx k hk hf
 ·
  rw[hs];obtain⟨j,hj,pa⟩:=an6 hx;rw[List.getElem_set]at pa;split at pa
  ·
   subst pa;exact h.iO e Jh k (su k hk)
  ·
   subst pa;exact h.iO _ (aoN _) k hk
 ·
  rw[aou];intro p q hp hq w4 k hk jf;have hd:=h.ny;rw[aou]at hd;rw[List.getElem_set]at hk jf;have gA:p<L.length:=by simpa using hp
  have vh:q<L.length:=by simpa using hq
  have:=hd p q gA vh w4 k;split at hk<;>split at jf
  ·
   omega
  ·
   rename_i h1 h2;subst h1;exact this (by rw[BE];exact su k hk) jf
  ·
   rename_i h1 h2;subst h2;exact this hk (by rw[BE];exact su k jf)
  ·
   exact this hk jf
theorem Mem.cell{w:World}(h:Mem w0 L w){i b:Nat}{cs:Array Value}{T:TypeId}(hi:L[i]? =some (al b cs T))(o:Nat):w.cell? ⟨b,o,none⟩=cs[o]? :=by
 have:w.heap[b]? =some (.cells cs T (0,0)):=h.get hi;simp[World.cell?,this]
theorem Mem.block{w:World}(h:Mem w0 L w){i b:Nat}{cs:Array Value}{T:TypeId}(hi:L[i]? =some (al b cs T)):w.heap[b]? =some (.cells cs T (0,0)):=h.get hi
theorem Mem.setRow{w:World}(h:Mem w0 L w){i b:Nat}{cs:Array Value}{T:TypeId}(hi:L[i]? =some (al b cs T))(cs':Array Value):Mem w0 (L.set i (al b cs' T)) (w.setRow b cs'):=by
 have hb:=h.block hi;refine h.change hi (fun k hk=>hk) (fun k hk=>?_) (by simp[World.setRow]) ⟨rfl,rfl,rfl⟩ ?_
 ·
  exact setRow_other w b k cs' (fun e=>hk e)
 exact setRow_heap w b cs cs' T (0,0) hb
def kH(ro:Option Nat):Fence:={fn:=fun _=>True,depth:=none,alive:=false,round:=ro}
def n9(l:List Oper):Bool:=l.all fun o=>match o.op with
 | .defer _=>false
 |_=>true
theorem Ji{l:List Oper}(h:n9 l=true){i:Nat}{o:Oper}(hi:l.toArray[i]? =some o): ∀c,o.op≠ .defer c:=fun c e=>by
 have hm:o∈l:=by simpa using Array.mem_of_getElem? hi
 have:=amt.1 h o hm;rw[e]at this;cases this
class jz(Q:Exit->Act->World->Prop):Prop where
 h: ∀a w,¬Q .outgrown a w
instance jz.then{K:Act->World->Prop}{Q:Exit->Act->World->Prop}[q:jz Q]:jz (Exit.then K Q):=⟨fun a w h=>q.h a w h⟩
instance jz.block{id:Nat}{Q:Exit->Act->World->Prop}[q:jz Q]:jz (Exit.inBlock id Q):=⟨fun a w h=>q.h a w h⟩
variable {P:Program} {ro:Option Nat}
theorem QO{f:FuncId}{args:Array Value}{w:World}{R:Ending->World->Prop}(h:Calls P f args w R):CallsIn (kH ro) 0 P f args w R:=by
 have h':CallsIn Fence.wide 0 P f args w R:=callsIn_wide.2 h
 cases ro with
 |none=>exact h'
 |some l=>exact h'.inRound l
theorem QP{row:String}{args:Array Value}{w:World}{R:Value->World->Prop}(h:Rows P row args w R):RowsIn (kH ro) 0 P row args w R:=fun c cs _=>by
 obtain⟨v,w',hR,hs⟩:=h c cs;refine⟨v,w',hR,?_⟩;have h':StepsIn (Machine.fenced P Fence.wide) P _ _:=stepsIn_wide.2 hs;exact h'
theorem QQ{o:Oper}{a:Act}{w:World}{K:Act->World->Prop}{Q:Exit->Act->World->Prop}(cn: ∀c,o.op≠ .defer c)(h:o.wp P a w K Q):o.wpIn (kH ro) 0 P a w K Q:=by
 refine⟨fun _ _=>trivial,?_⟩;rw[Oper.semAt_eq _ _ _ cn];unfold Oper.wp at h;generalize(execOp a.eval o).run P w=r at h⊢;unfold Oper.upon at h;unfold Oper.uponIn;split at h
 ·
  exact h
 ·
  exact h
 ·
  exact h
 ·
  exact⟨fun e=>(by cases e),QO h⟩
 ·
  exact⟨fun e=>(by cases e),QP h⟩
 ·
  exact h
 exact h.elim
theorem zd{ops:Array Oper}{Q:Exit->Act->World->Prop}[q:jz Q](cn: ∀(i:Nat) (o:Oper),ops[i]? =some o-> ∀c,o.op≠ .defer c): ∀(l:List Nat) (a:Act) (w:World),wpOps P ops Q l a w->wpOpsIn (kH ro) 0 P ops Q l a w
 |[],_,_,h=>h
 |i::rest,a,w,h=>by
  unfold wpOps at h;unfold wpOpsIn;split at h
  ·
   rename_i ho;simp only[ho];exact zd cn rest a w h
  rename_i o ho;simp only[ho];split at h
  ·
   rename_i hw;rw[if_pos hw];rcases h with h|⟨_,a',w',h⟩
   ·
    exact Oper.wpIn_mono (fun a w h=>zd cn rest a w h) (QQ (cn i o ho) h)
   exact absurd h (q.h a' w')
  rename_i hw;rw[if_neg hw];exact⟨fun _ _=>trivial,zd cn rest _ w h⟩
theorem QR{id:Nat}{l:List Oper}{Q:Exit->Act->World->Prop}{a:Act}{w:World}[jz Q](cn:n9 l=true)(h:wpList P l.toArray Q l a w):(Code.region id l.toArray false).wpIn (kH ro) 0 P Q a w:=
 wpIn_region (zd (fun _ _ hi=>Ji cn hi) _ a w (by rw[List.range_eq_range',←anU,wpOps_eq_wpList l.toArray.toList 0 (by simp)];exact h))
theorem Ej{id:Nat}{l:List Oper}{Q:Exit->Act->World->Prop}{a:Act}{w:World}[jz Q](cn:n9 l=true)(hm:P.follows .mixedOrders=true)
  (h:wpAny P .any l.toArray Q l.toArray.size (Array.replicate l.toArray.size false) a {w with drawn:=w.drawn+1}):(Code.region id l.toArray true).wpIn (kH ro) 0 P Q a w:=
 wpIn_region_draw fun t=>zd (fun _ _ hi=>Ji cn hi) _ a _ (by
  simp only[Region.schedule,hm,Bool.true_or,if_true];exact wpAny_sound l.toArray.size t _ a _ h)
theorem QS{id:Nat}{l:List Oper}{C:World->Prop}{Q:Exit->Act->World->Prop}{a:Act}{w:World}[jz Q](cn:n9 l=true)(hm:P.follows .mixedOrders=true)(hB:Region.lexB .any l.toArray=true)(hC:C {w with drawn:=w.drawn+1})
  (h:wpQuiet P l.toArray C (fun a'=> ∀w',C w'->Q .normal a' w') l a):(Code.region id l.toArray true).wpIn (kH ro) 0 P Q a w:=by
 simp only[Region.lexB,alM]at hB;refine Ej cn hm (wpAny_of_quiet (Q:=fun a'=> ∀w',C w'->Q .normal a' w') (fun _ w' fF h=>h w' fF) _ _ _ _ hC ?_);have:=wpAnyQ_lex (C:=C) (md:= .any) hB.1 l 0 (Array.replicate l.toArray.size false) a (by simp) (by simpa using hB.2) h;simpa using this
def mark(D:Nat):Deferred:={target:= .collected D,args:= #[]}
def pT(P:Program)(fn:Func)(R:Ending->World->Prop):Exit->Act->World->Prop:=fun e a w=>(e= .normal\/e= .ret)/\bodyPostM (kH none) 0 P fn R e a w
instance jz.end{fn:Func}{R:Ending->World->Prop}:jz (pT P fn R):=⟨fun a w h=>by rcases h.1 with h|h<;>cases h⟩
theorem Jj{f:FuncId}{fn:Func}{c:Code}{args:Array Value}{w:World}{R:Ending->World->Prop}(hf:P.funcs[f]? =some fn)(hb:fn.body=some c)
  (h:c.wpIn (kH none) 0 P (pT P fn R) {tmps:=args++Array.replicate (fn.ntmps -args.size) undef,defers:=[]} w):Calls P f args w R:=
 callsIn_wide.1 (callsIn_of_wp_marks (F:=kH none) (n:=0) hf hb trivial (wpIn_mono h fun _ _ _ h=>h.2))
section
variable {P:Program} {l:List Oper} {C:World->Prop} {Q:Exit->Act->World->Prop} {n:Nat} {fs:List Nat}
def fr(l:List Oper)(fs:List Nat)(v:Nat->Value)(a0:Act):Nat->Act
 |0=>a0
 |k+1=>if fs.contains k=true then fr l fs v a0 k else match l[k]?with
  |some o=>(fr l fs v a0 k).put o.dst (v k)
  |none=>fr l fs v a0 k
def dj(l:List Oper)(j:Nat):Option Tmp:=(l[j]?).bind (·.dst)
theorem iP(a:Act)(d:Option Tmp)(v:Value)(t:Nat)(h:d≠some t):(a.put d v).tmps[t]? =a.tmps[t]? :=by
 cases d with
 |none=>rfl
 |some d=>
  have:d≠t:=fun e=>h (by rw[e]);simp[Act.put,this]
theorem qQ(a:Act)(d:Option Tmp)(v:Value):(a.put d v).tmps.size=a.tmps.size:=by cases d<;>simp[Act.put]
theorem qR(a:Act)(d:Option Tmp)(v:Value):(a.put d v).defers=a.defers:=by cases d<;>rfl
theorem Jk(a b:Act)(d:Nat)(v:Value)(h:a.tmps.size=b.tmps.size):(a.put (some d) v).tmps[d]? =(b.put (some d) v).tmps[d]? :=by
 simp[Act.put,amQ,h]
theorem vi{v:Nat->Value}{a0:Act}{k:Nat}{o:Oper}(hf:fs.contains k=false)(h:l[k]? =some o):fr l fs v a0 (k+1)=(fr l fs v a0 k).put o.dst (v k):=by
 show(if fs.contains k=true then _ else match l[k]?with|some o=>(fr l fs v a0 k).put o.dst (v k)|none=>fr l fs v a0 k)=_;rw[hf,h];rfl
theorem w5{v:Nat->Value}{a0:Act}{k:Nat}(hf:fs.contains k=true):fr l fs v a0 (k+1)=fr l fs v a0 k:=by
 show(if fs.contains k=true then _ else match l[k]?with|some o=>(fr l fs v a0 k).put o.dst (v k)|none=>fr l fs v a0 k)=_;rw[hf];rfl
theorem ze{v:Nat->Value}{a0:Act}{k:Nat}(h:l[k]? =none):fr l fs v a0 (k+1)=fr l fs v a0 k:=by
 show(if fs.contains k=true then _ else match l[k]?with|some o=>(fr l fs v a0 k).put o.dst (v k)|none=>fr l fs v a0 k)=_;rw[h];split<;>rfl
theorem zf(v:Nat->Value)(a0:Act): ∀k,(fr l fs v a0 k).tmps.size=a0.tmps.size
 |0=>rfl
 |k+1=>by
  cases hf:fs.contains k with
  |true=>rw[w5 hf];exact zf v a0 k
  |false=>
   cases ho:l[k]?with
   |none=>rw[ze ho];exact zf v a0 k
   |some o=>rw[vi hf ho,qQ];exact zf v a0 k
theorem BF(v:Nat->Value)(a0:Act): ∀k,(fr l fs v a0 k).defers=a0.defers
 |0=>rfl
 |k+1=>by
  cases hf:fs.contains k with
  |true=>rw[w5 hf];exact BF v a0 k
  |false=>
   cases ho:l[k]?with
   |none=>rw[ze ho];exact BF v a0 k
   |some o=>rw[vi hf ho,qR];exact BF v a0 k
theorem vj(v:Nat->Value)(a0:Act)(t k:Nat): ∀m,k<=m->(∀j,k<=j->j<m->fs.contains j=false->dj l j≠some t)->(fr l fs v a0 m).tmps[t]? =(fr l fs v a0 k).tmps[t]?
 |0,h,_=>by obtain rfl:k=0:=by omega
            rfl
 |m+1,h,hn=>by
  by_cases e:k=m+1
  ·
   subst e;rfl
  have ih:=vj v a0 t k m (by omega) fun j h1 h2=>hn j h1 (by omega);rw[←ih]
  cases hf:fs.contains m with
  |true=>rw[w5 hf]
  |false=>
   cases ho:l[m]?with
   |none=>rw[ze ho]
   |some o=>
    rw[vi hf ho];exact iP _ _ _ _ (by simpa[dj,ho]using hn m (by omega) (by omega) hf)
def zg(l:List Oper)(fs:List Nat)(n:Nat):Bool:=
 (List.range n).all fun k=>match l[k]?with
  |none=>false
  |some o=>
   (match o.op with| .select .. =>false|_=>true)&&
   (o.after.all fun e=> !Region.binds .any e||decide (e.on<k))&&
   (List.range n).all fun j=>match dj l j with
    |none=>true
    |some d=>(!(o.looksAt l.toArray).contains d||(decide (j<k)&&(!fs.contains j||fs.contains k)&&o.after.any fun e=>Region.binds .any e&&e.on==j))&&(j==k||o.dst !=some d)
structure zh(l:List Oper)(fs:List Nat)(n k:Nat)(o:Oper):Prop where
 tV: ∀cs b,o.op≠ .select cs b
 back: ∀e∈o.after,Region.binds .any e=true->e.on<k
 reads: ∀j d,j<n->dj l j=some d->d∈o.looksAt l.toArray->j<k/\(fs.contains j=true->fs.contains k=true)/\ ∃e∈o.after,Region.binds .any e=true/\e.on=j
 one: ∀j d,j<n->dj l j=some d->j≠k->o.dst≠some d
theorem BG(h:zg l fs n=true)(k:Nat)(hk:k<n): ∃o,l[k]? =some o/\zh l fs n k o:=by
 have:=amt.1 h k (anc.2 hk)
 cases ho:l[k]?with
 |none=>simp[ho]at this
 |some o=>
  rw[ho]at this;simp only[alM]at this;obtain⟨⟨h1,h2⟩,h3⟩:=this;refine⟨o,rfl,⟨fun cs b e=>by rw[e]at h1;simp at h1,fun e he hb=>?_,fun j d hj hd hl=>?_,fun j d hj hd cE=>?_⟩⟩
  ·
   have:=(amU.1 h2) e he;simpa[hb]using this
  ·
   have:=amt.1 h3 j (anc.2 hj);rw[hd]at this;simp only[alM,anp,anS,decide_eq_true_eq]at this;rcases this.1 with h4|h4
   ·
    exact absurd hl (by simpa using h4)
   obtain⟨⟨h5,h6⟩,h7⟩:=h4;obtain⟨e,he,hb⟩:=Array.any_eq_true'.1 h7;simp only[alM,beq_iff_eq]at hb;exact⟨h5,fun jU=>h6.elim (fun h=>by rw[h]at jU;cases jU) id,e,he,hb.1,hb.2⟩
  have:=amt.1 h3 j (anc.2 hj);rw[hd]at this;simp only[alM,anp,beq_iff_eq]at this;rcases this.2 with h4|h4
  ·
   exact absurd h4 cE
  simpa using h4
def sA(P:Program)(o:Oper)(a:Act)(C:World->Prop)(v:Value):Prop:= ∀w,C w->o.quietAt P a (Mem w []) w v
def Ek(P:Program)(l:List Oper)(fs:List Nat)(C:World->Prop)(v:Nat->Value)(a0:Act)(k:Nat):Prop:=
 ∀o,l[k]? =some o->(Region.wanted o (yielded l.toArray (fr l fs v a0 k).tmps)=true->sA P o (fr l fs v a0 k) C (v k))/\
  (Region.wanted o (yielded l.toArray (fr l fs v a0 k).tmps)=false->v k=undef)
def lK(P:Program)(ops:Array Oper)(fs:List Nat)(C:World->Prop)(F:Act->Prop):Nat->List Oper->Act->Prop
 |_,[],a=>F a
 |k,o::rest,a=>if fs.contains k=true then lK P ops fs C F (k+1) rest a
  else if Region.wanted o (yielded ops a.tmps)=true then∃v,sA P o a C v/\lK P ops fs C F (k+1) rest (a.put o.dst v)else lK P ops fs C F (k+1) rest (a.put o.dst undef)
theorem El{F:Act->Prop}: ∀(m k:Nat) (a0:Act) (v0:Nat->Value),k+m<=l.length->lK P l.toArray fs C F k ((l.drop k).take m) (fr l fs v0 a0 k)->
  ∃v,(∀j,j<k->v j=v0 j)/\(∀j,k<=j->j<k+m->fs.contains j=false->Ek P l fs C v a0 j)/\F (fr l fs v a0 (k+m))
 |0,k,a0,v0,_,h=>⟨v0,fun _ _=>rfl,fun j h1 h2=>by omega,by simpa[lK]using h⟩
 |m+1,k,a0,v0,hle,h=>by
  have hk:k<l.length:=by omega
  have ed:l.drop k=l[k]::l.drop (k+1):=anJ hk;rw[ed,ane]at h;have Jl:l[k]? =some l[k]:=amG hk;have agree: ∀v v':Nat->Value,∀j,(∀i,i<j->v i=v' i)->fr l fs v a0 j=fr l fs v' a0 j:=by
   intro v v' j
   induction j with
   |zero=>intro _;rfl
   |succ j ih=>
    intro hh;have e:=ih fun i hi=>hh i (by omega)
    cases hf:fs.contains j with
    |true=>rw[w5 hf,w5 hf,e]
    |false=>
     cases ho:l[j]?with
     |none=>rw[ze ho,ze ho,e]
     |some o=>rw[vi hf ho,vi hf ho,e,hh j (by omega)]
  unfold lK at h
  cases vk:fs.contains k with
  |true=>
   rw[if_pos vk]at h;obtain⟨v,g1,g2,g3⟩:=El m (k+1) a0 v0 (by omega) (by rw[w5 vk];exact h);refine⟨v,fun j hj=>g1 j (by omega),fun j h3 h4 h5=>?_,by rw[show k+(m+1)=k+1+m by omega];exact g3⟩
   by_cases hj:j=k
   ·
    subst hj;rw[vk]at h5;cases h5
   ·
    exact g2 j (by omega) (by omega) h5
  |false=>
   rw[if_neg (by rw[vk];exact ana)]at h;have step: ∀u:Value,lK P l.toArray fs C F (k+1) ((l.drop (k+1)).take m) ((fr l fs v0 a0 k).put l[k].dst u)->
     ((Region.wanted l[k] (yielded l.toArray (fr l fs v0 a0 k).tmps)=true->sA P l[k] (fr l fs v0 a0 k) C u)/\(Region.wanted l[k] (yielded l.toArray (fr l fs v0 a0 k).tmps)=false->u=undef))->
     ∃v,(∀j,j<k->v j=v0 j)/\(∀j,k<=j->j<k+(m+1)->fs.contains j=false->Ek P l fs C v a0 j)/\F (fr l fs v a0 (k+(m+1))):=by
    intro u h2 hu
    let v1:Nat->Value:=fun j=>if j=k then u else v0 j
    have e1:fr l fs v1 a0 k=fr l fs v0 a0 k:=agree _ _ k fun i hi=>by simp[v1,show i≠k by omega]
    have e2:fr l fs v1 a0 (k+1)=(fr l fs v0 a0 k).put l[k].dst u:=by
     rw[vi vk Jl,e1];simp[v1]
    obtain⟨v,g1,g2,g3⟩:=El m (k+1) a0 v1 (by omega) (by rw[e2];exact h2);have e3:fr l fs v a0 k=fr l fs v0 a0 k:=agree _ _ k fun i hi=>by rw[g1 i (by omega)];simp[v1,show i≠k by omega]
    have e4:v k=u:=by rw[g1 k (by omega)];simp[v1]
    refine⟨v,fun j hj=>by rw[g1 j (by omega)];simp[v1,show j≠k by omega],fun j h3 h4 h5=>?_,by rw[show k+(m+1)=k+1+m by omega];exact g3⟩
    by_cases hj:j=k
    ·
     subst hj;intro o ho;rw[Jl]at ho;cases ho;rw[e3,e4];exact hu
    ·
     exact g2 j (by omega) (by omega) h5
   split at h
   ·
    rename_i hw;obtain⟨u,h1,h2⟩:=h;exact step u h2 ⟨fun _=>h1,fun hf=>by rw[hw]at hf;cases hf⟩
   ·
    rename_i hw;exact step undef h ⟨fun ht=>absurd ht hw,fun _=>rfl⟩
def Jm(P:Program)(w:World)(R:Value->World->List ah->Prop):Result Next->Prop
 | .ok (.value v) w'=> ∃E,R v w' E
 | .ok (.enter f args) w'=>w'=w/\Calls P f args w fun e ob=> ∃v E,e= .returned v/\R v ob E
 |_=>False
def sB(P:Program)(l:List Oper)(n:Nat)(Q:Exit->Act->World->Prop)(w0:World)(Lq:List ah):List Nat->Act->List ah->Prop
 |[],af,L=> ∀w,Mem w0 L w->wpList P l.toArray Q (l.drop n) af w
 |j::js,af,L=> ∃o,l[j]? =some o/\o.guard=none/\ ∀w,Mem w0 L w->Jm P w (fun v w' L'=>Mem w0 L' w'/\(∀w,Mem w0 L' w->Mem w0 Lq w)/\sB P l n Q w0 Lq js (af.put o.dst v) L') ((execOp af.eval o).run P w)
def qS(l:List Oper):List Nat->Bool
 |j::k::r=>(match l[k]?with|some o=>o.after.any fun e=>Region.binds .any e&&e.on==j|none=>false)&&qS l (k::r)
 |_=>true
theorem Jn: ∀(rs:List Nat) (j0:Nat),qS l (j0::rs)=true-> ∀i∈rs,∃p∈j0::rs,∃o,l[i]? =some o/\ ∃e∈o.after,Region.binds .any e=true/\e.on=p
 |[],_,_,i,hi=>by cases hi
 |k::r,j0,h,i,hi=>by
  simp only[qS,alM]at h;rcases amA.1 hi with rfl|hi
  ·
   cases ho:l[i]?with
   |none=>rw[ho]at h;simp at h
   |some o=>
    rw[ho]at h;obtain⟨e,he,hb⟩:=Array.any_eq_true'.1 h.1;simp only[alM,beq_iff_eq]at hb;exact⟨j0,by simp,o,rfl,e,he,hb.1,hb.2⟩
  obtain⟨p,hp,o,ho,e,he,hb⟩:=Jn r k h.2 i hi;exact⟨p,ans _ hp,o,ho,e,he,hb⟩
structure tW(P:Program)(l:List Oper)(fs:List Nat)(Q:Exit->Act->World->Prop)(w0:World)(L0:List ah)(n:Nat)(v:Nat->Value)(a0:Act)(rs:List Nat)(af:Act)(listed:Array Bool)(a:Act)(w:World):Prop where
 inv:HeadInv .any l.toArray n listed
 mem: ∃L,Mem w0 L w/\(∀w,Mem w0 L w->Mem w0 L0 w)/\sB P l n Q w0 L0 rs af L
 size:a.tmps.size=a0.tmps.size
 pb:af.tmps.size=a0.tmps.size
 defers:a.defers=a0.defers
 qT:af.defers=a0.defers
 gf: ∃ds,fs=ds++rs
 todo: ∀j,j<n->fs.contains j=true->(listed.getD j true=false↔j∈rs)
 done: ∀j d,j<n->listed.getD j true=true->dj l j=some d->a.tmps[d]? =af.tmps[d]?
 rest: ∀d,(∀j,j<n->listed.getD j true=true->dj l j≠some d)->a.tmps[d]? =a0.tmps[d]?
 full: ∀d,(∀j,j<n->fs.contains j=true->listed.getD j true=true->dj l j≠some d)->af.tmps[d]? =(fr l fs v a0 n).tmps[d]?
variable {w0:World} {L0:List ah}
theorem Em{listed:Array Bool}{i:Nat}(h:listed.getD i true=false):i<listed.size:=by
 rcases amv i listed.size with h'|h'
 ·
  exact h'
 simp[amE h']at h
theorem Jo{v:Nat->Value}{a0 a af:Act}{rs:List Nat}{listed:Array Bool}{w:World}(H:tW P l fs Q w0 L0 n v a0 rs af listed a w){k:Nat}{o:Oper}(ho:zh l fs n k o)
  (pc: ∀e∈o.after,Region.binds .any e=true->listed.getD e.on false=true) (t:Nat) (ht:t∈o.looksAt l.toArray):a.tmps[t]? =af.tmps[t]? :=by
 by_cases hw: ∃j,j<n/\dj l j=some t
 ·
  obtain⟨j,hj,hd⟩:=hw;obtain⟨_,_,e,he,hb,kf⟩:=ho.reads j t hj hd ht;have hl:=pc e he hb;rw[kf]at hl;have QT:listed.getD j true=true:=by
   have zj:j<listed.size:=by
    rcases amv j listed.size with h|h
    ·
     exact h
    ·
     simp[amE h]at hl
   simp[zj]at hl⊢;exact hl
  exact H.done j t hj QT hd
 ·
  have h1: ∀j,j<n->dj l j≠some t:=fun j hj hd=>hw ⟨j,hj,hd⟩;rw[H.rest t fun j hj _=>h1 j hj,H.full t fun j hj _ _=>h1 j hj];exact(vj v a0 t 0 n (by omega) fun j _ h2 _=>h1 j h2).symm
theorem QU{v:Nat->Value}{a0 a af:Act}{rs:List Nat}{listed:Array Bool}{w:World}(H:tW P l fs Q w0 L0 n v a0 rs af listed a w){k:Nat}{o:Oper}(hk:k<n)(vk:fs.contains k=false)(ho:zh l fs n k o)(hB:zg l fs n=true)
  (pc: ∀e∈o.after,Region.binds .any e=true->listed.getD e.on false=true) (t:Nat) (ht:t∈o.looksAt l.toArray):a.tmps[t]? =(fr l fs v a0 k).tmps[t]? :=by
 rw[Jo H ho pc t ht]
 by_cases hw: ∃j,j<n/\dj l j=some t
 ·
  obtain⟨j,hj,hd⟩:=hw;obtain⟨hjk,QV,_⟩:=ho.reads j t hj hd ht;have uniq: ∀i,i<n->i≠j->dj l i≠some t:=fun i hi tX he=>by
   obtain⟨oi,tY,pd⟩:=BG hB i hi;exact pd.one j t hj hd (Ne.symm tX) (by simpa[dj,tY]using he)
  rw[H.full t fun i hi hf _ he=>?_]
  ·
   exact vj v a0 t k n (by omega) fun i h1 h2 _=>uniq i h2 (by omega)
  ·
   by_cases tX:i=j
   ·
    subst tX;have:=QV hf;rw[vk]at this;cases this
   ·
    exact uniq i hi tX he
 ·
  have h1: ∀j,j<n->dj l j≠some t:=fun j hj hd=>hw ⟨j,hj,hd⟩;rw[H.full t fun j hj _ _=>h1 j hj,vj v a0 t 0 n (by omega) fun j _ h2 _=>h1 j h2];exact(vj v a0 t 0 k (by omega) fun j _ h2 _=>h1 j (by omega)).symm
theorem En{a b:Act}{o:Oper}{ops:Array Oper}(h: ∀t∈o.looksAt ops,a.tmps[t]? =b.tmps[t]?): ∀x∈o.op.operands,a.eval x=b.eval x:=by
 intro x hx
 cases x with
 |tmp t=>
  have:t∈o.looksAt ops:=by
   unfold Oper.looksAt;refine am8 _ (List.mem_filterMap.2 ⟨.tmp t,by simpa using hx,rfl⟩)
  simp[Act.eval,h t this]
 |_=>rfl
theorem Jp{a b:Act}{o:Oper}{ops:Array Oper}(h: ∀t∈o.looksAt ops,a.tmps[t]? =b.tmps[t]?):Region.wanted o (yielded ops a.tmps)=Region.wanted o (yielded ops b.tmps):=by
 unfold Region.wanted
 cases hg:o.guard with
 |none=>rfl
 |some p=>
  obtain⟨j,b'⟩:=p;have:yielded ops a.tmps j=yielded ops b.tmps j:=by
   unfold yielded
   cases hd:(ops[j]?).bind (·.dst)with
   |none=>rfl
   |some d=>
    have hm:d∈o.looksAt ops:=by unfold Oper.looksAt;rw[hg];simp[hd]
    simp[h d hm]
  simp[this]
def w6(size n:Nat):Array Bool:=((List.range size).map fun i=>decide (i<n)).toArray
theorem QW{v:Nat->Value}{a0 a af:Act}{rs:List Nat}{listed:Array Bool}{w w':World}(H:tW P l fs Q w0 L0 n v a0 rs af listed a w){i:Nat}{o:Oper}(hi:i<n)(iQ:fs.contains i=false)(vl:l[i]? =some o)(ho:zh l fs n i o)(hB:zg l fs n=true)
  (hr:i∈Region.ready .any l.toArray listed) (fF:Mem w [] w'):tW P l fs Q w0 L0 n v a0 rs af (listed.setIfInBounds i true) (a.put o.dst (v i)) w':=by
 have gN:=(mem_ready.1 hr).1;have jV:dj l i=o.dst:=by simp[dj,vl]
 have bx:=Em gN;have gg: ∀j,j≠i->(listed.setIfInBounds i true).getD j true=listed.getD j true:=fun j cq=>getD_set_ne true (Ne.symm cq);have oc:(listed.setIfInBounds i true).getD i true=true:=by simp[bx]
 obtain⟨L,hL,my,hF⟩:=H.mem;have uniq: ∀d,dj l i=some d-> ∀j,j<n->j≠i->dj l j≠some d:=fun d hd j hj cq he=>by
  obtain⟨oj,QX,jU⟩:=BG hB j hj;exact jU.one i d hi hd (Ne.symm cq) (by simpa[dj,QX]using he)
 refine⟨H.inv.set hr hi,⟨L,by simpa using hL.call fF,my,hF⟩,by rw[qQ];exact H.size,H.pb,by rw[qR];exact H.defers,H.qT,H.gf,fun j hj hf=>?_,fun j d hj hl hd=>?_,fun d hd=>?_,fun d hd=>?_⟩
 ·
  rw[gg j (fun e=>by subst e;rw[iQ]at hf;cases hf)];exact H.todo j hj hf
 ·
  by_cases cq:j=i
  ·
   subst cq;have BH:=hd;rw[jV]at hd;rw[hd,H.full d fun j' jU pU _=>uniq d BH j' jU (fun e=>by subst e;rw[iQ]at pU;cases pU)];have e1:(fr l fs v a0 n).tmps[d]? =(fr l fs v a0 (j+1)).tmps[d]? :=vj v a0 d (j+1) n (by omega) fun i' h1 h2 _=>uniq d BH i' h2 (by omega);rw[e1,vi iQ vl,hd];exact Jk _ _ _ _ (by rw[H.size,zf])
  ·
   rw[gg j cq]at hl;rw[iP _ _ _ _ (ho.one j d hj hd cq)];exact H.done j d hj hl hd
 ·
  have h1:o.dst≠some d:=by
   have:=hd i hi oc;rwa [jV]at this
  rw[iP _ _ _ _ h1];refine H.rest d fun j hj hl=>?_
  by_cases cq:j=i
  ·
   subst cq;rw[jV];exact h1
  ·
   exact hd j hj (by rw[gg j cq];exact hl)
 ·
  refine H.full d fun j hj hf hl=>?_;exact hd j hj hf (by rw[gg j (fun e=>by subst e;rw[iQ]at hf;cases hf)];exact hl)
theorem QY{v:Nat->Value}{a0 a af:Act}{i:Nat}{rs:List Nat}{listed:Array Bool}{w w':World}(H:tW P l fs Q w0 L0 n v a0 (i::rs) af listed a w){o:Oper}(hi:i<n)(iQ:fs.contains i=true)(cn:fs.Nodup)(vl:l[i]? =some o)(ho:zh l fs n i o)
  (hr:i∈Region.ready .any l.toArray listed) {u:Value} {L':List ah} (fF:Mem w0 L' w') (my: ∀w,Mem w0 L' w->Mem w0 L0 w) (hF:sB P l n Q w0 L0 rs (af.put o.dst u) L'):
  tW P l fs Q w0 L0 n v a0 rs (af.put o.dst u) (listed.setIfInBounds i true) (a.put o.dst u) w':=by
 have gN:=(mem_ready.1 hr).1;have jV:dj l i=o.dst:=by simp[dj,vl]
 have bx:=Em gN;have gg: ∀j,j≠i->(listed.setIfInBounds i true).getD j true=listed.getD j true:=fun j cq=>getD_set_ne true (Ne.symm cq);have oc:(listed.setIfInBounds i true).getD i true=true:=by simp[bx]
 obtain⟨ds,vm⟩:=H.gf;have BI:i∉rs:=fun h=>by
  rw[vm]at cn;have:=(anL.1 cn).2.1;exact(an3.1 this).1 h
 refine⟨H.inv.set hr hi,⟨L',fF,my,hF⟩,by rw[qQ];exact H.size,by rw[qQ];exact H.pb,by rw[qR];exact H.defers,by rw[qR];exact H.qT,⟨ds++[i],by rw[vm];simp⟩,fun j hj hf=>?_,fun j d hj hl hd=>?_,fun d hd=>?_,fun d hd=>?_⟩
 ·
  by_cases cq:j=i
  ·
   subst cq;rw[oc];simp[BI]
  ·
   rw[gg j cq,H.todo j hj hf];simp[cq]
 ·
  by_cases cq:j=i
  ·
   subst cq;rw[jV]at hd;rw[hd];exact Jk _ _ _ _ (by rw[H.size,H.pb])
  ·
   rw[gg j cq]at hl;rw[iP _ _ _ _ (ho.one j d hj hd cq),iP _ _ _ _ (ho.one j d hj hd cq)];exact H.done j d hj hl hd
 ·
  have h1:o.dst≠some d:=by
   have:=hd i hi oc;rwa [jV]at this
  rw[iP _ _ _ _ h1];refine H.rest d fun j hj hl=>?_
  by_cases cq:j=i
  ·
   subst cq;rw[jV];exact h1
  ·
   exact hd j hj (by rw[gg j cq];exact hl)
 ·
  have h1:o.dst≠some d:=by
   have:=hd i hi iQ oc;rwa [jV]at this
  rw[iP _ _ _ _ h1];refine H.full d fun j hj hf hl=>?_
  by_cases cq:j=i
  ·
   subst cq;rw[jV];exact h1
  ·
   exact hd j hj hf (by rw[gg j cq];exact hl)
theorem QZ{v:Nat->Value}{a0 a af:Act}{rs:List Nat}{listed:Array Bool}{w:World}(H:tW P l fs Q w0 L0 n v a0 rs af listed a w)(mz: ∀j,j<n->listed.getD j true=true):a=af:=by
 have:a.tmps=af.tmps:=by
  apply am7;intro d
  by_cases hw: ∃j,j<n/\dj l j=some d
  ·
   obtain⟨j,hj,hd⟩:=hw;exact H.done j d hj (mz j hj) hd
  have h1: ∀j,j<n->dj l j≠some d:=fun j hj hd=>hw ⟨j,hj,hd⟩;rw[H.rest d fun j hj _=>h1 j hj,H.full d fun j hj _ _=>h1 j hj];exact(vj v a0 d 0 n (by omega) fun j _ h2 _=>h1 j h2).symm
 have h2:a.defers=af.defers:=by rw[H.defers,H.qT]
 cases a;cases af
 simp_all
def left(n:Nat)(listed:Array Bool):Nat:=((List.range n).filter fun i=> !listed.getD i true).length
theorem Jq{listed:Array Bool}{i:Nat}(hi:i<n)(gN:listed.getD i true=false):left n listed=left n (listed.setIfInBounds i true)+1:=by
 have bx:=Em gN;have key: ∀m,i<m->((List.range m).filter fun j=> !listed.getD j true).length=((List.range m).filter fun j=> !(listed.setIfInBounds i true).getD j true).length+1:=by
  intro m
  induction m with
  |zero=>intro h;omega
  |succ m ih=>
   intro h;rw[aof,aom,aom,adr,adr]
   by_cases e:i=m
   ·
    subst e;have h1:((List.range i).filter fun j=> !listed.getD j true)=((List.range i).filter fun j=> !(listed.setIfInBounds i true).getD j true):=by
     apply List.filter_congr;intro j hj;rw[getD_set_ne true (by have:=anc.1 hj;omega)]
    rw[h1];simp only[aoa,gN,Bool.not_false,if_true,aoE,ad2,af0];simp[bx]
   have:=ih (by omega);have h2:(listed.setIfInBounds i true).getD m true=listed.getD m true:=getD_set_ne true e;simp only[aoa,h2,aoE];omega
 exact key n hi
theorem Eo{v:Nat->Value}{a0:Act}(hB:zg l fs n=true)(hn:n<l.length)(hs:Region.sinkB .any l.toArray n=true)(hc:Region.chainB .any l.toArray n=true)
  (Ep:Region.seqB .any l.toArray (l.length -n) n (w6 l.length n)=true) (cn:fs.Nodup) (bx: ∀j∈fs,j<n) (mA:qS l fs=true) (hq: ∀k,k<n->fs.contains k=false->Ek P l fs (Mem w0 L0) v a0 k):
  ∀(m:Nat) (rs:List Nat) (af:Act) (listed:Array Bool) (a:Act) (w:World),left n listed=m->tW P l fs Q w0 L0 n v a0 rs af listed a w->wpAny P .any l.toArray Q (m+(l.length -n)) listed a w
 |0,rs,af,listed,a,w,hm,H=>by
  have mz: ∀j,j<n->listed.getD j true=true:=fun j hj=>by
   cases h:listed.getD j true with
   |true=>rfl
   |false=>
    have:j∈(List.range n).filter fun i=> !listed.getD i true:=anV.2 ⟨List.mem_range.2 hj,by rw[h];rfl⟩;rw[amB.1 hm]at this
    cases this
  have e1:=QZ H mz;have e2:listed=w6 l.length n:=by
   apply am7;intro j;have dU:listed.size=l.length:=by simpa using H.inv.size
   by_cases hj:j<l.length
   ·
    have zj:j<listed.size:=by omega
    simp only[w6,anu,amx,an7 hj,am3,Array.getElem?_eq_getElem zj]
    by_cases zk:j<n
    ·
     have:=mz j zk;simp[zj]at this;simp[this,zk]
    ·
     have:=H.inv.tail j (by omega) (by simpa using hj);simp[zj]at this;simp[this,zk]
   ·
    simp[w6,show ¬j<l.length from hj];omega
  have e3:rs=[]:=by
   cases rs with
   |nil=>rfl
   |cons r vn=>
    obtain⟨ds,vm⟩:=H.gf;have hr:r∈fs:=by rw[vm];simp
    have:=(H.todo r (bx r hr) (by simpa using hr)).2 (by simp);rw[mz r (bx r hr)]at this;cases this
  subst e1 e2 e3;obtain⟨L,hL,_,hF⟩:=H.mem;have:=wpAny_of_seq (P:=P) (md:= .any) (Q':=Q) (l.drop n) n (w6 l.length n) a w (fun j=>by simp[ang]) (by rw[amu];exact Ep) (hF w hL);rw[amu]at this;rw[amX];exact this
 |m+1,rs,af,listed,a,w,hm,H=>by
  rw[show m+1+(l.length -n)=(m+(l.length -n))+1 by omega];obtain⟨i0,w7,BJ,zl⟩: ∃i,i<n/\listed.getD i true=false/\ ∀j,j<i->listed.getD j true=true:=by
   have cE: ∃i,i<n/\listed.getD i true=false:=by
    cases hf:(List.range n).filter fun i=> !listed.getD i true with
    |nil=>rw[left,hf]at hm;cases hm
    |cons i r=>
     have:i∈(List.range n).filter fun i=> !listed.getD i true:=by rw[hf];simp
     obtain⟨h1,h2⟩:=anV.1 this;exact⟨i,anc.1 h1,by simpa using h2⟩
   obtain⟨i,h1,h2⟩:=cE
   induction i using Nat.strongRecOn with
   |_ i ih=>
    by_cases h: ∃j,j<i/\listed.getD j true=false
    ·
     obtain⟨j,hj,dk⟩:=h;exact ih j hj (by omega) dk
    ·
     refine⟨i,h1,h2,fun j hj=>?_⟩
     cases hh:listed.getD j true with
     |true=>rfl
     |false=>exact absurd ⟨j,hj,hh⟩ h
  have dU:listed.size=l.length:=by simpa using H.inv.size
  have zm:i0∈Region.ready .any l.toArray listed:=by
   obtain⟨o,ho,cd⟩:=BG hB i0 w7;refine mem_ready.2 ⟨BJ,o,by simpa using ho,fun e he hb=>?_⟩;have h1:=cd.back e he hb;have h2:=zl e.on h1;have h3:e.on<listed.size:=by omega
   simp[h3]at h2⊢;exact h2
  refine⟨fun h=>(by rw[h]at zm;cases zm),fun i hi=>?_⟩;have jA:i<n:=by
   rcases amv i n with h|h
   ·
    exact h
   ·
    exact absurd hi (tail_waits hs hc (by simpa using hn) H.inv _ i0 rfl w7 BJ i h)
  obtain⟨o,ho,cd⟩:=BG hB i jA;obtain⟨gN,o',nz,pc⟩:=mem_ready.1 hi;have:o'=o:=by simpa[ho]using nz.symm
  subst this;have qU:left n (listed.setIfInBounds i true)=m:=by have:=Jq jA gN;omega
  obtain⟨L,hL,my,hF⟩:=H.mem
  cases iQ:fs.contains i with
  |false=>
   have BK:=QU H jA iQ cd hB pc;have ew:=Jp (ops:=l.toArray) BK;have ee:execOp a.eval o'=execOp (fr l fs v a0 i).eval o':=execOp_congr o' cd.tV (En BK);obtain⟨Jr,Q0⟩:=hq i jA iQ o' ho;have next: ∀w',Mem w [] w'->wpAny P .any l.toArray Q (m+(l.length -n)) (listed.setIfInBounds i true) (a.put o'.dst (v i)) w':=fun w' fF=>
    Eo hB hn hs hc Ep cn bx mA hq m rs af _ _ w' qU (QW H jA iQ ho cd hB hi fF)
   unfold wpOp;simp only[nz];rw[ew];split
   ·
    rename_i pf;have h1:=Jr pf w (my w hL);refine .inl ?_;unfold Oper.wp;rw[ee];unfold Oper.quietAt at h1;generalize(execOp (fr l fs v a0 i).eval o').run P w=r at h1;unfold Oper.quietUpon at h1;split at h1
    ·
     obtain⟨rfl,rfl⟩:=h1;exact next _ (Mem.init _)
    ·
     obtain⟨rfl,e⟩:=h1;rw[e]at next;exact next _ (Mem.init _)
    ·
     obtain⟨rfl,sC⟩:=h1;exact sC.mono fun e ob ⟨he,hm⟩=>by subst he;exact next _ hm
    ·
     exact h1.elim
   ·
    rename_i pf;have:=Q0 (by simpa using pf);rw[this]at next;exact next w (Mem.init _)
  |true=>
   have BI:i∈rs:=(H.todo i jA iQ).1 gN
   cases rs with
   |nil=>cases BI
   |cons r vn=>
    have zn:i=r:=by
     rcases amA.1 BI with h|h
     ·
      exact h
     ·
      exfalso;obtain⟨ds,vm⟩:=H.gf;have Q1:qS l (r::vn)=true:=by
       rw[vm]at mA;have key: ∀ds:List Nat,qS l (ds++r::vn)=true->qS l (r::vn)=true:=by
        intro ds
        induction ds with
        |nil=>exact id
        |cons d ds ih=>
         intro hh
         cases ds with
         |nil=>simp only[anj,am6,qS,alM]at hh;exact hh.2
         |cons d' ds'=>simp only[anj,qS,alM]at hh;exact ih hh.2
       exact key ds mA
      obtain⟨p,hp,op,eC,e,he,hb,kf⟩:=Jn vn r Q1 i h;have:op=o':=by rw[ho]at eC;exact(amn eC).symm
      subst this;have hl:=pc e he hb;rw[kf]at hl;have Js:p∈fs:=by rw[vm];exact List.mem_append_right _ hp
      have h1:=(H.todo p (bx p Js) (by simpa using Js)).2 hp;rw[getD_both h1]at hl
      cases hl
    subst zn;obtain⟨of,pg,hg,fq⟩:=hF;have:of=o':=by rw[ho]at pg;exact(amn pg).symm
    subst this;have BK:=Jo H cd pc;have ee:execOp a.eval of=execOp af.eval of:=execOp_congr of cd.tV (En BK);have h1:=fq w hL;have next: ∀u w' E,(Mem w0 E w'/\(∀w,Mem w0 E w->Mem w0 L0 w)/\sB P l n Q w0 L0 vn (af.put of.dst u) E)->wpAny P .any l.toArray Q (m+(l.length -n)) (listed.setIfInBounds i true) (a.put of.dst u) w':=fun u w' E ⟨fF,Q2,Q3⟩=>
     Eo hB hn hs hc Ep cn bx mA hq m vn (af.put of.dst u) _ _ w' qU (QY H jA iQ cn ho cd hi fF Q2 Q3)
    unfold wpOp;simp only[nz];rw[if_pos (by simp[Region.wanted,hg])];refine .inl ?_;unfold Oper.wp;rw[ee];generalize(execOp af.eval of).run P w=r at h1;unfold Jm at h1;split at h1
    ·
     obtain⟨E,hR⟩:=h1;exact next _ _ E hR
    ·
     obtain⟨rfl,sC⟩:=h1;exact sC.mono fun e ob ⟨u,E,he,hR⟩=>by subst he;exact next u _ E hR
    ·
     exact h1.elim
def BL(l:List Oper)(fs:List Nat)(n:Nat):Bool:=
 zg l fs n&&decide (n<l.length)&&Region.sinkB .any l.toArray n&&Region.chainB .any l.toArray n&&Region.seqB .any l.toArray (l.length -n) n (w6 l.length n)&&
  decide fs.Nodup&&(fs.all fun j=>decide (j<n))&&qS l fs
theorem Q4{id:Nat}{ro:Option Nat}[jz Q]{a:Act}{w:World}(n:Nat)(cn:n9 l=true)(hm:P.follows .mixedOrders=true)(hB:BL l fs n=true){L:List ah}(hC:Mem w0 L {w with drawn:=w.drawn+1})(my: ∀w,Mem w0 L w->Mem w0 L0 w)
  (h:lK P l.toArray fs (Mem w0 L0) (fun a'=>sB P l n Q w0 L0 fs a' L) 0 (l.take n) a):(Code.region id l.toArray true).wpIn (kH ro) 0 P Q a w:=by
 simp only[BL,alM,decide_eq_true_eq]at hB;obtain⟨⟨⟨⟨⟨⟨⟨h1,h2⟩,h3⟩,h4⟩,h5⟩,h6⟩,h7⟩,h8⟩:=hB;have Q5: ∀j∈fs,j<n:=fun j hj=>by have:=amt.1 h7 j hj;simpa using this
 obtain⟨v,_,g2,g3⟩:=El (P:=P) (C:=Mem w0 L0) (l:=l) (fs:=fs) n 0 a (fun _=>undef) (by omega) (by simpa[fr]using h);refine Ej cn hm ?_;have Es:HeadInv .any l.toArray n (Array.replicate l.toArray.size false):=
  ⟨by simp,fun j oj _ hl=>(by rw[getD_replicate_false]at hl;cases hl),fun t _ ht=>getD_in (by simpa using ht) (getD_replicate_false _ _)⟩
 have qU:left n (Array.replicate l.toArray.size false)=n:=by
  unfold left;rw[List.filter_eq_self.2 (fun j hj=>?_),List.length_range];have jU:=anc.1 hj;simp[show j<l.length by omega]
 rw[amX]at g3;have:=Eo (P:=P) (Q:=Q) (w0:=w0) (L0:=L0) (v:=v) (a0:=a) h1 h2 h3 h4 h5 h6 Q5 h8 (fun k hk hf=>g2 k (by omega) (by omega) hf) n fs (fr l fs v a n) (Array.replicate l.toArray.size false) a _ qU
  ⟨Es,⟨L,hC,my,g3⟩,rfl,zf v a n,rfl,BF v a n,⟨[],rfl⟩,fun j hj hf=>?_,fun j d hj hl=>?_,fun _ _=>rfl,fun _ _=>rfl⟩
 ·
  rw[show n+(l.length -n)=l.toArray.size by simp;omega]at this;exact this
 ·
  have:j∈fs:=by simpa using hf
  simp[show j<l.length by omega,this]
 ·
  simp[show j<l.length by omega]at hl
end
abbrev Env:=List (Nat×Value)
theorem Et{a b:Nat}(h: ¬a=b):Nat.beq a b=false:=by
 cases hb:Nat.beq a b with
 |false=>rfl
 |true=>exact absurd (Nat.eq_of_beq_eq_true hb) h
def look:Env->Nat->Option Value
 |[],_=>none
 |(k,v)::r,d=>match Nat.beq k d with
  |true=>some v
  |false=>look r d
structure cc where
 n:Nat
 ds:List Nat
 ro:Option Nat
structure cM(N:cc)(env:Env)(a:Act):Prop where
 size:a.tmps.size=N.n
 get: ∀d v,look env d=some v->a.tmps[d]? =some v
 defers:a.defers=N.ds.map mark
def ev(env:Env):Operand->Option Value
 | .tmp t=>look env t
 | .const v=>some v
 | .global g=>some (.pointer (some ⟨g,0,none⟩))
 | .func f=>some (.func (.func f) #[] #[])
theorem cM.ev{N:cc}{env:Env}{a:Act}(h:cM N env a){x:Operand}{v:Value}(e:ev env x=some v):a.eval x=v:=by
 match x,e with
 | .tmp t,e=>
  have:=h.get t v e;simp[Act.eval,this]
 | .const u,e=>simpa[ay.ev,Act.eval]using e
 | .global g,e=>simpa[ay.ev,Act.eval]using e
 | .func f,e=>simpa[ay.ev,Act.eval]using e
def gh(env:Env):List Operand->Option (List Value)
 |[]=>some []
 |x::r=>match ev env x,gh env r with
  |some v,some vs=>some (v::vs)
  |_,_=>none
theorem cM.gh{N:cc}{env:Env}{a:Act}(h:cM N env a): ∀{xs:List Operand} {vs:List Value},gh env xs=some vs->xs.map a.eval=vs
 |[],vs,e=>by simp[ay.gh]at e;simp[e]
 |x::r,vs,e=>by
  unfold ay.gh at e;split at e
  ·
   rename_i v Q6 hv w8;simp only[anC]at e;subst e;simp[h.ev hv,h.gh w8]
  simp at e
theorem gk{env:Env}:gh env []=some []:=rfl
theorem dB{env:Env}{x:Operand}{r:List Operand}{v:Value}{vs:List Value}(h:ev env x=some v)(h':gh env r=some vs):gh env (x::r)=some (v::vs):=by
 simp[gh,h,h']
def bZ(env:Env):Option Tmp->Value->Env
 |some d,v=>(d,v)::env
 |none,_=>env
def cN(N:cc):Option Tmp->Bool
 |some d=>Nat.ble (d+1) N.n
 |none=>true
theorem cM.put{N:cc}{env:Env}{a:Act}(h:cM N env a){dst:Option Tmp}(hd:cN N dst=true)(v:Value):cM N (bZ env dst v) (a.put dst v):=by
 cases dst with
 |none=>exact h
 |some d=>
  have bx:d<N.n:=Nat.le_of_ble_eq_true hd;refine⟨by simp[Act.put,h.size],fun d' v' hv=>?_,h.defers⟩;simp only[bZ,look]at hv;simp only[Act.put,amQ]
  by_cases he:d=d'
  ·
   subst he;simp at hv;simp[hv,h.size,bx]
  have:Nat.beq d d'=false:=Et he;rw[this]at hv;rw[if_neg he];exact h.get d' v' hv
def Sub(BM env:Env):Prop:= ∀d v,look BM d=some v->look env d=some v
theorem Sub.refl(env:Env):Sub env env:=fun _ _ h=>h
theorem Sub.nil(env:Env):Sub [] env:=fun _ _ h=>by simp[look]at h
theorem Sub.cons{r env:Env}{d:Nat}{v:Value}(hv:look env d=some v)(h:Sub r env):Sub ((d,v)::r) env:=fun d' v' h'=>by
 simp only[look]at h'
 by_cases he:d=d'
 ·
  subst he;simp at h';rw[←h'];exact hv
 have:Nat.beq d d'=false:=Et he;rw[this]at h';exact h d' v' h'
theorem cM.sub{N:cc}{env BM:Env}{a:Act}(h:cM N env a)(s:Sub BM env):cM N BM a:=⟨h.size,fun d v e=>h.get d v (s d v e),h.defers⟩
theorem cM.enter(args:List Value)(N:Nat)(h:args.length<=N):cM ⟨N,[],none⟩ (args.zipIdx.map fun p=>(p.2,p.1)) {tmps:=args.toArray++Array.replicate (N -args.toArray.size) undef,defers:=[]}:=by
 refine⟨by simp;omega,fun d v e=>?_,rfl⟩;have key: ∀(l:List Value) (k:Nat),look ((l.zipIdx k).map fun p=>(p.2,p.1)) d=some v->k<=d/\l[d -k]? =some v:=by
  intro l
  induction l with
  |nil=>intro k h;simp[look]at h
  |cons x r ih=>
   intro k h;simp only[List.zipIdx_cons,amR,look]at h
   by_cases he:k=d
   ·
    subst he;simp at h;simp[h]
   have:Nat.beq k d=false:=Et he;rw[this]at h;obtain⟨h1,h2⟩:=ih (k+1) h;refine⟨by omega,?_⟩;rw[show d -k=(d -(k+1))+1 by omega,List.getElem?_cons_succ];exact h2
 have hh:=(key args 0 e).2;rw[Nat.sub_zero]at hh;have bx:d<args.length:=by
  rcases amv d args.length with h'|h'
  ·
   exact h'
  simp[amD h']at hh
 rw[amW (by simpa using bx)];simpa using hh
section
variable {P:Program} {N:cc} {w0:World} {env:Env} {L:List ah} {d:Option Tmp} {ty:TypeId} {ps:String} {af:Array Edge} {gd:Option (Nat×Bool)}
def Ry(P:Program)(N:cc)(w0:World)(env:Env)(L:List ah)(o:Oper)(v:Value):Prop:=
 ∀a w,cM N env a->Mem w0 L w->(execOp a.eval o).run P w= .ok (.value v) w
def Yl(P:Program)(N:cc)(w0:World)(env:Env)(L:List ah)(o:Oper)(v:Value):Prop:=
 ∀a,cM N env a->sA P o a (Mem w0 L) v
theorem Ry.yl{o:Oper}{v:Value}(h:Ry P N w0 env L o v):Yl P N w0 env L o v:=fun a ha w hw=>by
 unfold Oper.quietAt;rw[h a w ha hw];exact⟨rfl,rfl⟩
theorem ba{x:Operand}{v:Value}(hx:ev env x=some v):Ry P N w0 env L ⟨d, .move x,ty,ps,af,gd⟩ v:=fun a w ha _=>by
 simp only[execOp,ha.ev hx,Sem.run_pure]
theorem fG{x:Operand}{v:Value}(hx:ev env x=some v):Ry P N w0 env L ⟨d, .assign x,ty,ps,af,gd⟩ v:=fun a w ha _=>by
 simp only[execOp,ha.ev hx,Sem.run_pure]
theorem Eu{c x y:Operand}{g:Bool}{vx vy:Value}(hc:ev env c=some (.bool g))(hx:ev env x=some vx)(hy:ev env y=some vy):
  Ry P N w0 env L ⟨d, .pick c x y,ty,ps,af,gd⟩ (if g=true then vx else vy):=fun a w ha _=>by
 simp only[execOp,ha.ev hx,ha.ev hc,ha.ev hy,Sem.run_bind,Sem.run_pure,asBool,Result.andThen]
theorem sD{c x y:Operand}{g b:Bool}(hc:ev env c=some (.bool g))(hx:ev env x=some (if g=true then .bool b else undef))(hy:ev env y=some (.bool false)):
  Ry P N w0 env L ⟨d, .pick c x y,ty,ps,af,gd⟩ (.bool (g&&b)):=by
 have h:=Eu (P:=P) (N:=N) (w0:=w0) (L:=L) (d:=d) (ty:=ty) (ps:=ps) (af:=af) (gd:=gd) hc hx hy
 cases g<;>simpa using h
theorem w9{c x y:Operand}{g b:Bool}(hc:ev env c=some (.bool g))(hx:ev env x=some (.bool true))(hy:ev env y=some (if(!g)=true then .bool b else undef)):
  Ry P N w0 env L ⟨d, .pick c x y,ty,ps,af,gd⟩ (.bool (g||b)):=by
 have h:=Eu (P:=P) (N:=N) (w0:=w0) (L:=L) (d:=d) (ty:=ty) (ps:=ps) (af:=af) (gd:=gd) hc hx hy
 cases g<;>simpa using h
theorem kg{x:Operand}{g:Bool}{t:TypeId}(hx:ev env x=some (.bool g)):Ry P N w0 env L ⟨d, .unOp .not t x,ty,ps,af,gd⟩ (.bool (!g)):=fun a w ha _=>by
 simp only[execOp,ha.ev hx,Op.unary,Sem.run_bind,Sem.run_pure,Result.andThen]
theorem ax{x:Operand}{vs:Array Value}{i:Nat}{v:Value}(hx:ev env x=some (.tuple vs))(hv:vs[i]? =some v):Ry P N w0 env L ⟨d, .extract x i,ty,ps,af,gd⟩ v:=fun a w ha _=>by
 simp only[execOp,ha.ev hx,Instr.extract,hv,Sem.run_bind,Sem.run_pure,Result.andThen]
def kI(op:BinOp)(k:IntKind)(a b:Int):Option Value:=
 match op with
 | .add=>some (.int k (k.wrap (a+b)))
 | .sub=>some (.int k (k.wrap (a -b)))
 | .mul=>some (.int k (k.wrap (a*b)))
 | .quo=>if b=0 then none else some (.int k (k.wrap (a.tdiv b)))
 | .rem=>if b=0 then none else some (.int k (a.tmod b))
 | .and=>some (.int k (k.wrap (BitVec.ofInt k.bits a&&&BitVec.ofInt k.bits b).toNat))
 | .or=>some (.int k (k.wrap (BitVec.ofInt k.bits a|||BitVec.ofInt k.bits b).toNat))
 | .xor=>some (.int k (k.wrap (BitVec.ofInt k.bits a^^^BitVec.ofInt k.bits b).toNat))
 | .andNot=>some (.int k (k.wrap (BitVec.ofInt k.bits a&&& ~~~BitVec.ofInt k.bits b).toNat))
 | .eql=>some (.bool (decide (a=b)))
 | .neq=>some (.bool (!decide (a=b)))
 | .lss=>some (.bool (decide (a<b)))
 | .leq=>some (.bool (decide (a<=b)))
 | .gtr=>some (.bool (decide (b<a)))
 | .geq=>some (.bool (decide (b<=a)))
 |_=>none
theorem Ev(op:BinOp)(t:TypeId)(x y:Operand)(k k':IntKind)(a b:Int)(w:World):(eqGuard op t x y (.int k a) (.int k' b)).run P w= .ok () w:=by
 cases op<;>rfl
theorem Q7{op:BinOp}{k:IntKind}{a b:Int}{v:Value}(t:TypeId)(h:kI op k a b=some v)(w:World):(binOp op t (.int k a) (.int k b)).run P w= .ok v w:=by
 cases op<;>simp only[kI,anC,reduceCtorEq]at h<;>(try split at h)<;>(try simp only[anC,reduceCtorEq]at h)<;>(try subst h)<;>
  simp_all[binOp,Op.intArith,Op.intDiv,Op.intBits,Op.intCmp]<;>rfl
theorem da{op:BinOp}{k:IntKind}{x y:Operand}{a b:Int}{v:Value}{t u:TypeId}(hx:ev env x=some (.int k a))(hy:ev env y=some (.int k b))(h:kI op k a b=some v):
  Ry P N w0 env L ⟨d, .binOp op t x y u,ty,ps,af,gd⟩ v:=fun a w ha _=>by
 simp only[execOp,ha.ev hx,ha.ev hy,Sem.run_bind,Ev,Q7 t h,Sem.run_pure,Result.andThen]
end
def tZ:TypeDesc->Bool
 | .struct _| .array _ _=>true
 |_=>false
class eX(P:Program)(t:TypeId)(n:outParam Nat):Prop where
 row: ∃d,P.underlying t=some d/\tZ d=true
 size:(P.info? t).map (·.size)=some n
class ft(P:Program)(t:TypeId):Prop where
 one: ∃d,P.underlying t=some d/\tZ d=false
 size:(P.info? t).map (·.size)=some 1
class cH(P:Program)(s:TypeId)(i:Nat)(off:outParam Nat):Prop where
 Q8: ∃fs f m,P.underlying s=some (.struct fs)/\fs[i]? =some f/\f.offset=off/\(P.info? f.type).map (·.size)=some (m+1)
class ua(P:Program)(t:TypeId)(n m:outParam Nat):Prop where
 arr: ∃e,P.underlying t=some (.array n e)/\(P.info? e).map (·.size)=some m
class ei(P:Program)(t:TypeId)(e:outParam TypeId)(m:outParam Nat):Prop where
 dK:P.underlying t=some (.slice e)
 size:(P.info? e).map (·.size)=some m
class kh(P:Program)(t:TypeId)(k:outParam IntKind):Prop where
 dK:P.underlying t=some (.int k)
class dH(P:Program)(t:TypeId)(v:outParam Value):Prop where
 zero:(P.info? t).map (·.zero)=some (some v)
class aC(P:Program)(f:FuncId):Prop where
 fn: ∃fn,P.funcs[f]? =some fn∧fn.body.isNone=false∧(fn.name== "runtime.NumGoroutine")=false
class Has(L:List ah)(b:Nat)(cs:outParam (Array Value))(T:outParam TypeId)(i:outParam Nat):Prop where
 h:L[i]? =some (al b cs T)
instance (priority:=high) Has.here {L:List ah}{b:Nat}{cs:Array Value}{T:TypeId}:Has (al b cs T::L) b cs T 0:=⟨rfl⟩
instance Has.there{L:List ah}{e:ah}{b:Nat}{cs:Array Value}{T:TypeId}{i:Nat}[q:Has L b cs T i]:Has (e::L) b cs T (i+1):=⟨by simpa using q.h⟩
class eK(L:List ah)(i:Nat)(e:ah)(L':outParam (List ah)):Prop where
 h:L.set i e=L'
instance eK.here{L:List ah}{x e:ah}:eK (x::L) 0 e (e::L):=⟨rfl⟩
instance eK.there{L L':List ah}{x e:ah}{i:Nat}[q:eK L i e L']:eK (x::L) (i+1) e (x::L'):=⟨by simp[q.h]⟩
class bH(cs:Array Value)(o:Nat)(v:outParam Value):Prop where
 h:cs[o]? =some v
class kJ(cs:Array Value)(o n:Nat)(sub:outParam (Array Value)):Prop where
 size:sub.size=n
 h: ∀j,j<n->cs[o+j]? =sub[j]?
class eY(cs:Array Value)(n:outParam Nat):Prop where
 h:cs.size=n
 one:cs.all (·.oneCell')=true
class kK(P:Program)(f:FuncId)(vs:List Value)(v:outParam Value):Prop where
 h: ∀w,Calls P f vs.toArray w fun e w'=>e= .returned v/\Mem w [] w'
class vo(P:Program)(t:TypeId)(x y:Value)(r:outParam Bool):Prop where
 h: ∀w,(Op.equalIn 10000 t x y).run P w= .ok r w
 plain:P.eqGuardType P.depth t=false
 agg: ∃xs ys,x= .agg xs/\y= .agg ys
section
variable {P:Program} (w:World)
theorem Jt{t:TypeId}{i:TypeInfo}(h:P.info? t=some i):(typeInfo t).run P w= .ok i w:=by
 simp[typeInfo,h]
theorem jW{t:TypeId}{n:Nat}(h:(P.info? t).map (·.size)=some n):(sizeOf t).run P w= .ok n w:=by
 cases hi:P.info? t with
 |none=>simp[hi]at h
 |some i=>simp[hi]at h;simp[sizeOf,Jt w hi,h]
theorem BN{t:TypeId}{v:Value}(h:dH P t v):(zeroValue t).run P w= .ok v w:=by
 have h:=h.zero
 cases hi:P.info? t with
 |none=>simp[hi]at h
 |some i=>simp[hi]at h;simp[zeroValue,Jt w hi,h]
theorem zo{t:TypeId}{d:TypeDesc}(h:P.underlying t=some d):(isAgg t).run P w= .ok (tZ d) w:=by
 cases d<;>simp[isAgg,run_underlying h,tZ]
theorem Q9{t:TypeId}(h:ft P t){a:Addr}{v:Value}(hc:w.cell? a=some v):(loadVar t a).run P w= .ok v w:=by
 obtain⟨d,hu,hd⟩:=h.one;simp[loadVar,zo w hu,hd,hc]
theorem Ew{t:TypeId}{n:Nat}(h:eX P t n){a:Addr}{cs:Array Value}(hn:cs.size=n)(hc: ∀j,j<n->w.cell? (a.add j)=cs[j]?):(loadVar t a).run P w= .ok (.agg cs) w:=by
 obtain⟨d,hu,hd⟩:=h.row;have hl:(loadCells a n).run P w= .ok cs w:=by
  have:=run_loadCells_list (P:=P) w a cs.toList (fun j v hv=>by
   have hj:j<n:=by
    have:=(zz.1 hv).1;simpa[hn]using this
   rw[hc j hj];simpa using hv)
  simpa[hn]using this
 simp[loadVar,zo w hu,hd,jW w h.size,hl]
end
section
variable {P:Program} {N:cc} {w0:World} {env:Env} {L:List ah} {d:Option Tmp} {ty:TypeId} {ps:String} {af:Array Edge} {gd:Option (Nat×Bool)}
theorem Addr.gl(b o j:Nat):(⟨b,o,none⟩:Addr).add j=⟨b,o+j,none⟩:=by
 unfold Addr.add;split<;>simp_all
theorem xd{t:TypeId}{x:Operand}{p:Addr}{v:Value}(ht:ft P t)(hx:ev env x=some (.pointer (some p)))(hc: ∀w,Mem w0 L w->w.cell? p=some v):
  Ry P N w0 env L ⟨d, .load t x,ty,ps,af,gd⟩ v:=fun a w ha hw=>by
 simp only[execOp,ha.ev hx,Instr.loadAt,Instr.sureAddr,Sem.run_bind,Sem.run_pure,Result.andThen,Q9 w ht (hc w hw)]
theorem zp{t:TypeId}{x:Operand}{p:Addr}{n:Nat}{cs:Array Value}(ht:eX P t n)(hx:ev env x=some (.pointer (some p)))(hn:cs.size=n)(hc: ∀w,Mem w0 L w-> ∀j,j<n->w.cell? (p.add j)=cs[j]?):
  Ry P N w0 env L ⟨d, .load t x,ty,ps,af,gd⟩ (.agg cs):=fun a w ha hw=>by
 simp only[execOp,ha.ev hx,Instr.loadAt,Instr.sureAddr,Sem.run_bind,Sem.run_pure,Result.andThen,Ew w ht hn (hc w hw)]
theorem pV{t:TypeId}{x:Operand}{i b o:Nat}{cs:Array Value}{T:TypeId}{v:Value}(hx:ev env x=some (.pointer (some ⟨b,o,none⟩)))[ht:ft P t][hi:Has L b cs T i](hc:cs[o]? =some v):
  Ry P N w0 env L ⟨d, .load t x,ty,ps,af,gd⟩ v:=xd ht hx fun w hw=>by rw[hw.cell hi.h];exact hc
theorem bA{t:TypeId}{x:Operand}{i b o:Nat}{cs:Array Value}{T:TypeId}{v:Value}(hx:ev env x=some (.pointer (some ⟨b,o,none⟩)))[ht:ft P t][hi:Has L b cs T i][hc:bH cs o v]:
  Ry P N w0 env L ⟨d, .load t x,ty,ps,af,gd⟩ v:=pV hx hc.h
theorem fu{t:TypeId}{x:Operand}{i b n:Nat}{cs:Array Value}{T:TypeId}(hx:ev env x=some (.pointer (some ⟨b,0,none⟩)))[ht:eX P t n][hi:Has L b cs T i][hn:eY cs n]:
  Ry P N w0 env L ⟨d, .load t x,ty,ps,af,gd⟩ (.agg cs):=zp ht hx hn.h fun w hw j _=>by rw[Addr.gl,hw.cell hi.h,amX]
theorem dy{t:TypeId}{x:Operand}{i b o n:Nat}{cs sub:Array Value}{T:TypeId}(hx:ev env x=some (.pointer (some ⟨b,o,none⟩)))[ht:eX P t n][hi:Has L b cs T i][hs:kJ cs o n sub]:
  Ry P N w0 env L ⟨d, .load t x,ty,ps,af,gd⟩ (.agg sub):=zp ht hx hs.size fun w hw j hj=>by rw[Addr.gl,hw.cell hi.h];exact hs.h j hj
theorem aK{s:TypeId}{x:Operand}{fi off b o o':Nat}[hf:cH P s fi off](hx:ev env x=some (.pointer (some ⟨b,o,none⟩)))(ho:Nat.add o off=o'):
  Ry P N w0 env L ⟨d, .fieldAddr s x fi,ty,ps,af,gd⟩ (.pointer (some ⟨b,o',none⟩)):=fun a w ha _=>by
 obtain⟨fs,f,m,hu,iQ,pg,dU⟩:=hf.Q8;subst ho pg;simp only[execOp,ha.ev hx,Instr.fieldAt,Sem.run_bind,run_underlying hu,Result.andThen,iQ,Instr.sureAddr,Sem.run_pure,fieldPlace,jW w dU,Nat.succ_ne_zero,if_false,Addr.gl,Nat.add_eq]
theorem Ra{t:TypeId}{x ix:Operand}{n m b o:Nat}{k:IntKind}{j:Int}[ht:ua P t n m](hx:ev env x=some (.pointer (some ⟨b,o,none⟩)))(hj:ev env ix=some (.int k j))(h0:0<=j)(h1:j<n):
  Ry P N w0 env L ⟨d, .indexAddr t x ix,ty,ps,af,gd⟩ (.pointer (some ⟨b,o+j.toNat*m,none⟩)):=fun a w ha _=>by
 obtain⟨e,hu,dU⟩:=ht.arr;simp only[execOp,ha.ev hx,ha.ev hj,Instr.indexAt,asIntOf,Sem.run_bind,run_underlying hu,Result.andThen,Instr.sureAddr,Sem.run_pure,jW w dU,h0,h1,and_self,if_true,Addr.gl]
theorem iR{t:TypeId}{x ix:Operand}{n b:Nat}{k:IntKind}{j:Int}[ht:ua P t n 1](hx:ev env x=some (.pointer (some ⟨b,0,none⟩)))(hj:ev env ix=some (.int k j))(h0:0<=j)(h1:j<n):
  Ry P N w0 env L ⟨d, .indexAddr t x ix,ty,ps,af,gd⟩ (.pointer (some ⟨b,j.toNat,none⟩)):=by
 have:=Ra (P:=P) (t:=t) (N:=N) (w0:=w0) (L:=L) (d:=d) (ty:=ty) (ps:=ps) (af:=af) (gd:=gd) hx hj h0 h1;simpa using this
theorem Ju{t e:TypeId}{x ix:Operand}{m b o len cap:Nat}{k:IntKind}{j:Int}[ht:ei P t e m](hx:ev env x=some (.slice (some ⟨b,o,none⟩) len cap))(hj:ev env ix=some (.int k j))(h0:0<=j)(h1:j<len):
  Ry P N w0 env L ⟨d, .indexAddr t x ix,ty,ps,af,gd⟩ (.pointer (some ⟨b,o+j.toNat*m,none⟩)):=fun a w ha _=>by
 simp only[execOp,ha.ev hx,ha.ev hj,Instr.indexAt,asIntOf,Sem.run_bind,run_underlying ht.dK,Result.andThen,Sem.run_pure,jW w ht.size,h0,h1,and_self,if_true,Addr.gl]
theorem sE{s t:TypeId}{x:Operand}{k k':IntKind}{n m:Int}[hs:kh P s k'][ht:kh P t k](hx:ev env x=some (.int k' n))(hm:k.wrap n=m):
  Ry P N w0 env L ⟨d, .convert s t x,ty,ps,af,gd⟩ (.int k m):=fun a w ha _=>by
 subst hm;simp only[execOp,ha.ev hx,convert,Sem.run_bind,run_underlying hs.dK,run_underlying ht.dK,Result.andThen,Conv.intToInt,Sem.run_pure]
theorem vp{t e:TypeId}{x:Operand}{m len cap:Nat}{p:Option Addr}[ht:ei P t e m](hx:ev env x=some (.slice p len cap)):
  Ry P N w0 env L ⟨d, .call {callee:= .builtin .len,args:= #[x],argTypes:= #[t]},ty,ps,af,gd⟩ (.int .i64 len):=fun a w ha _=>by
 simp[execOp,ha.ev hx,resolve,invoke,builtin,Builtin.len_,run_underlying ht.dK,goInt,Result.andThen]
theorem BO{f:FuncId}(hf:aC P f){ρ:Operand->Value}{xs:List Operand}{ts:Array TypeId}(w:World)(Rb:ρ (.func f)= .func (.func f) #[] #[]):
  (execOp ρ ⟨d, .call {callee:= .value (.func f),args:=xs.toArray,argTypes:=ts},ty,ps,af,gd⟩).run P w= .ok (.enter f (xs.map ρ).toArray) w:=by
 obtain⟨fn,h1,h2,h3⟩:=hf.fn;have Ey: ¬fn.body=none:=fun e=>by simp[e]at h2
 have xe: ¬fn.name= "runtime.NumGoroutine" :=by simpa using h3
 simp[execOp,resolve,Rb,Deferred.ofValue,invoke,callFunc,h1,Ey,xe,Result.andThen]
theorem zq{f:FuncId}{xs:List Operand}{ts:Array TypeId}{vs:List Value}{v:Value}[hf:aC P f](hx:gh env xs=some vs)
  (hc: ∀w,Mem w0 L w->Calls P f vs.toArray w fun e w'=>e= .returned v/\Mem w [] w'):
  Yl P N w0 env L ⟨d, .call {callee:= .value (.func f),args:=xs.toArray,argTypes:=ts},ty,ps,af,gd⟩ v:=fun a ha w hw=>by
 unfold Oper.quietAt;rw[BO hf w rfl,ha.gh hx];exact⟨rfl,hc w hw⟩
theorem pW{f:FuncId}{xs:List Operand}{ts:Array TypeId}{vs:List Value}{v:Value}[hf:aC P f](hx:gh env xs=some vs)[hc:kK P f vs v]:
  Yl P N w0 env L ⟨d, .call {callee:= .value (.func f),args:=xs.toArray,argTypes:=ts},ty,ps,af,gd⟩ v:=zq hx fun w _=>hc.h w
theorem Jv{op:BinOp}{t:TypeId}(hm:P.eqGuardType P.depth t=false)(x y:Operand)(xs ys:Array Value)(w:World):(eqGuard op t x y (.agg xs) (.agg ys)).run P w= .ok () w:=run_eqGuard_agg w op t x y xs ys hm
theorem Ez{x y:Operand}{t u:TypeId}{vx vy:Value}{r:Bool}(hx:ev env x=some vx)(hy:ev env y=some vy)[h:vo P t vx vy r]:
  Ry P N w0 env L ⟨d, .binOp .eql t x y u,ty,ps,af,gd⟩ (.bool r):=fun a w ha _=>by
 obtain⟨xs,ys,e1,e2⟩:=h.agg;subst e1 e2;simp only[execOp,ha.ev hx,ha.ev hy,Sem.run_bind,Jv h.plain,Result.andThen,run_eql_struct,h.h,Sem.run_pure]
theorem sF{x y:Operand}{t u:TypeId}{vx vy:Value}{r:Bool}(hx:ev env x=some vx)(hy:ev env y=some vy)[h:vo P t vx vy r]:
  Ry P N w0 env L ⟨d, .binOp .neq t x y u,ty,ps,af,gd⟩ (.bool (!r)):=fun a w ha _=>by
 obtain⟨xs,ys,e1,e2⟩:=h.agg;subst e1 e2;simp only[execOp,ha.ev hx,ha.ev hy,Sem.run_bind,Jv h.plain,Result.andThen,run_neq_struct,h.h,Sem.run_pure]
theorem Rc{x y:Operand}{t u:TypeId}{a b:Bool}(hx:ev env x=some (.bool a))(hy:ev env y=some (.bool b))(ht:P.underlying t=some .bool):
  Ry P N w0 env L ⟨d, .binOp .eql t x y u,ty,ps,af,gd⟩ (.bool (a==b)):=fun aa w ha _=>by
 have h1:(Op.equal t (.bool a) (.bool b)).run P w= .ok (a==b) w:=run_equalIn_bool' w 9999 t a b ht;have h2:(eqGuard BinOp.eql t x y (.bool a) (.bool b)).run P w= .ok () w:=rfl;simp only[execOp,ha.ev hx,ha.ev hy,Sem.run_bind,h2,Result.andThen_ok,binOp,h1,Sem.run_pure]
theorem wrap64_in{n:Int}(h: -9223372036854775808<=n/\n<=9223372036854775807):IntKind.i64.wrap n=n:=IntWalk.i64_in n h
theorem zr{x y:Operand}{a b:Int}{t u:TypeId}(hx:ev env x=some (.int .i64 a))(hy:ev env y=some (.int .i64 b))(h: -9223372036854775808<=a+b/\a+b<=9223372036854775807):
  Ry P N w0 env L ⟨d, .binOp .add t x y u,ty,ps,af,gd⟩ (.int .i64 (a+b)):=da hx hy (by rw[kI,wrap64_in h])
theorem vr{x y:Operand}{a b:Int}{t u:TypeId}(hx:ev env x=some (.int .i64 a))(hy:ev env y=some (.int .i64 b))(h: -9223372036854775808<=a -b/\a -b<=9223372036854775807):
  Ry P N w0 env L ⟨d, .binOp .sub t x y u,ty,ps,af,gd⟩ (.int .i64 (a -b)):=da hx hy (by rw[kI,wrap64_in h])
theorem jX{x y:Operand}{a b:Int}{t u:TypeId}(hx:ev env x=some (.int .i64 a))(hy:ev env y=some (.int .i64 b))(h: -9223372036854775808<=a*b/\a*b<=9223372036854775807):
  Ry P N w0 env L ⟨d, .binOp .mul t x y u,ty,ps,af,gd⟩ (.int .i64 (a*b)):=da hx hy (by rw[kI,wrap64_in h])
theorem kL{x y:Operand}{a b:Int}{t u:TypeId}(hx:ev env x=some (.int .i64 a))(hy:ev env y=some (.int .i64 b))(h:0<=a/\a<=9223372036854775807)(hb:0<b):
  Ry P N w0 env L ⟨d, .binOp .quo t x y u,ty,ps,af,gd⟩ (.int .i64 (a/b)):=da hx hy (by
 have h2:a/b<=a:=Int.ediv_le_self _ h.1;have h3:0<=a/b:=aoF h.1 (by omega);rw[kI,if_neg (by omega),Int.tdiv_eq_ediv_of_nonneg h.1,wrap64_in (by omega)])
theorem vt{x y:Operand}{a b:Int}{k:IntKind}{t u:TypeId}(hx:ev env x=some (.int k a))(hy:ev env y=some (.int k b))(h:0<=a)(hb:0<b):
  Ry P N w0 env L ⟨d, .binOp .rem t x y u,ty,ps,af,gd⟩ (.int k (a%b)):=da hx hy (by
 rw[kI,if_neg (by omega),Int.tmod_eq_emod_of_nonneg h])
def jB(env:Env):List (Nat×Operand)->Option (List (Nat×Value))
 |[]=>some []
 |(i,x)::r=>match ev env x,jB env r with
  |some v,some vs=>some ((i,v)::vs)
  |_,_=>none
theorem Jw:jB env []=some []:=rfl
theorem zt{i:Nat}{x:Operand}{r:List (Nat×Operand)}{v:Value}{vs:List (Nat×Value)}(h:ev env x=some v)(h':jB env r=some vs):jB env ((i,x)::r)=some ((i,v)::vs):=by
 simp[jB,h,h']
theorem cM.jB{a:Act}(h:cM N env a): ∀{xs:List (Nat×Operand)} {vs:List (Nat×Value)},jB env xs=some vs->(xs.map fun p=>(p.1,a.eval p.2))=vs
 |[],vs,e=>by simp[ay.jB]at e;simp[e]
 |(i,x)::r,vs,e=>by
  unfold ay.jB at e;split at e
  ·
   rename_i v Q6 hv w8;simp only[anC]at e;subst e;simp[h.ev hv,h.jB w8]
  simp at e
class pX(P:Program)(t:TypeId)(vs:List (Nat×Value))(v:outParam Value):Prop where
 h: ∀w,(Instr.build t vs.toArray).run P w= .ok v w
theorem cr{t:TypeId}{xs:List (Nat×Operand)}{vs:List (Nat×Value)}{v:Value}(hx:jB env xs=some vs)(hb: ∀w,(Instr.build t vs.toArray).run P w= .ok v w):
  Ry P N w0 env L ⟨d, .build t xs.toArray,ty,ps,af,gd⟩ v:=fun a w ha _=>by
 have e:(xs.toArray.map fun(p:Nat×Operand)=>match p with|(i,x)=>(i,a.eval x))=vs.toArray:=by
  rw[←ha.jB hx];simp
 simp only[execOp,e,Sem.run_bind,hb w,Result.andThen,Sem.run_pure]
theorem cX{t:TypeId}{xs:List (Nat×Operand)}{vs:List (Nat×Value)}{v:Value}(hx:jB env xs=some vs)[hb:pX P t vs v]:
  Ry P N w0 env L ⟨d, .build t xs.toArray,ty,ps,af,gd⟩ v:=cr hx hb.h
theorem Jx{k:IntKind}{i:Int}{y:Nat}(h0:0<=i)(h1:i<=y)(c:BoundsCode)(w:World):(Instr.sliceBound (.int k i) y c).run P w= .ok i.toNat w:=by
 simp[Instr.sliceBound,asIntOf,h0,h1]
theorem EA{t:TypeId}{x hi:Operand}{n m b o:Nat}{k:IntKind}{h:Int}[ht:ua P t n m](hx:ev env x=some (.pointer (some ⟨b,o,none⟩)))(hh:ev env hi=some (.int k h))(h0:0<=h)(h1:h<=n):
  Ry P N w0 env L ⟨d, .slice t x none (some hi) none,ty,ps,af,gd⟩ (.slice (some ⟨b,o,none⟩) h.toNat n):=fun a w ha _=>by
 obtain⟨e,hu,dU⟩:=ht.arr;have e0:(⟨b,o,none⟩:Addr).add 0=⟨b,o,none⟩:=rfl;simp[execOp,ha.ev hx,ha.ev hh,Instr.sliceAt,run_underlying hu,Instr.sureAddr,Instr.sliceBounds,Jx h0 h1,jW w dU,Result.andThen,e0]
theorem vu{t:TypeId}{x:Operand}{n m b o:Nat}[ht:ua P t n m](hx:ev env x=some (.pointer (some ⟨b,o,none⟩))):
  Ry P N w0 env L ⟨d, .slice t x none none none,ty,ps,af,gd⟩ (.slice (some ⟨b,o,none⟩) n n):=fun a w ha _=>by
 obtain⟨e,hu,dU⟩:=ht.arr;have e0:(⟨b,o,none⟩:Addr).add 0=⟨b,o,none⟩:=rfl;simp[execOp,ha.ev hx,Instr.sliceAt,run_underlying hu,Instr.sureAddr,Instr.sliceBounds,jW w dU,Result.andThen,e0]
theorem Jy{t:TypeId}{x lo:Operand}{n m b o:Nat}{k:IntKind}{l:Int}[ht:ua P t n m](hx:ev env x=some (.pointer (some ⟨b,o,none⟩)))(hl:ev env lo=some (.int k l))(h0:0<=l)(h1:l<n):
  Ry P N w0 env L ⟨d, .slice t x (some lo) none none,ty,ps,af,gd⟩ (.slice (some ⟨b,o+l.toNat*m,none⟩) (n -l.toNat) (n -l.toNat)):=fun a w ha _=>by
 obtain⟨e,hu,dU⟩:=ht.arr;have e0:(if n=l.toNat then(⟨b,o,none⟩:Addr)else(⟨b,o,none⟩:Addr).add (l.toNat*m))=⟨b,o+l.toNat*m,none⟩:=by rw[if_neg (by omega),Addr.gl]
 simp[execOp,ha.ev hx,ha.ev hl,Instr.sliceAt,run_underlying hu,Instr.sureAddr,Instr.sliceBounds,Jx h0 (Int.le_of_lt h1),jW w dU,Result.andThen,e0]
def nb:IntKind->Nat
 | .i8=>7| .i16=>15| .i32=>31| .i64=>63| .u8=>8| .u16=>16| .u32=>32| .u64=>64
theorem Rd(k:IntKind):nb k<=k.bits:=by cases k<;>decide
theorem od{k:IntKind}{n:Nat}(h:n<2^nb k):k.wrap (n:Int)=n:=by
 cases k<;>simp[IntKind.wrap,IntKind.bits,IntKind.signed,nb]at* <;>omega
theorem xh(b n:Nat):BitVec.ofInt b (n:Int)=BitVec.ofNat b n:=by
 apply BitVec.eq_of_toNat_eq;simp
theorem ph{k:IntKind}{n:Nat}(h:n<2^nb k):n<2^k.bits:=ant h (ank (by decide) (Rd k))
variable {x y:Operand} {k k':IntKind} {p q:Nat} {t u:TypeId}
theorem Jz{a b:Int}(hx:ev env x=some (.int k a))(hy:ev env y=some (.int k b))(ea:a=p)(eb:b=q)(hp:p<2^nb k)(hq:q<2^nb k):
  Ry P N w0 env L ⟨d, .binOp .and t x y u,ty,ps,af,gd⟩ (.int k ((p&&&q:Nat):Int)):=da hx hy (by
 subst ea eb;simp only[kI,xh,BitVec.toNat_and,anF,amY (ph hp),amY (ph hq)];rw[od (Nat.and_lt_two_pow _ hq)])
theorem zu{a b:Int}(hx:ev env x=some (.int k a))(hy:ev env y=some (.int k b))(ea:a=p)(eb:b=q)(hp:p<2^nb k)(hq:q<2^nb k):
  Ry P N w0 env L ⟨d, .binOp .or t x y u,ty,ps,af,gd⟩ (.int k ((p|||q:Nat):Int)):=da hx hy (by
 subst ea eb;simp only[kI,xh,BitVec.toNat_or,anF,amY (ph hp),amY (ph hq)];rw[od (Nat.or_lt_two_pow hp hq)])
theorem JA{a b:Int}(hx:ev env x=some (.int k a))(hy:ev env y=some (.int k b))(ea:a=p)(eb:b=q)(hp:p<2^nb k)(hq:q<2^nb k):
  Ry P N w0 env L ⟨d, .binOp .xor t x y u,ty,ps,af,gd⟩ (.int k ((p^^^q:Nat):Int)):=da hx hy (by
 subst ea eb;simp only[kI,xh,BitVec.toNat_xor,anF,amY (ph hp),amY (ph hq)];rw[od (aoG hp hq)])
theorem Re(hp:p<2^nb k)(hq:q<2^nb k):kI .andNot k p q=some (.int k ((p&&&(2^k.bits -1 -q):Nat):Int)):=by
 simp only[kI,xh,BitVec.toNat_and,BitVec.toNat_not,anF,amY (ph hp),amY (ph hq)];rw[od (aoc Nat.and_le_left hp)]
theorem Rf{a b:Int}(h:0<=b)(w:World):(binOp .shr t (.int k a) (.int k' b)).run P w= .ok (.int k (a.fdiv (2^min b.toNat k.bits))) w:=by
 simp[binOp,Op.shift,show ¬b<0 by omega]
theorem Rh{a b:Int}(h:0<=b)(w:World):(binOp .shl t (.int k a) (.int k' b)).run P w= .ok (.int k (k.wrap (a*2^min b.toNat k.bits))) w:=by
 simp[binOp,Op.shift,show ¬b<0 by omega]
theorem zv{a b:Int}(hx:ev env x=some (.int k a))(hy:ev env y=some (.int k b))(ea:a=p)(eb:b=q)(h:p+q<2^nb k):
  Ry P N w0 env L ⟨d, .binOp .add t x y u,ty,ps,af,gd⟩ (.int k ((p+q:Nat):Int)):=da hx hy (by
 subst ea eb;rw[kI,←Int.natCast_add,od h])
theorem EB{a b:Int}{ts:Array TypeId}(hx:ev env x=some (.int k a))(hy:ev env y=some (.int k b)):
  Ry P N w0 env L ⟨d, .call {callee:= .builtin .min,args:= #[x,y],argTypes:=ts},ty,ps,af,gd⟩ (.int k (min a b)):=fun aa w ha _=>by
 have e:(if b<a then b else a)=min a b:=by rw[Int.min_def];split<;>split<;>omega
 simp[execOp,ha.ev hx,ha.ev hy,resolve,invoke,builtin,Builtin.min_,Builtin.min2,e]
theorem vw{a b:Int}{ts:Array TypeId}(hx:ev env x=some (.int k a))(hy:ev env y=some (.int k b)):
  Ry P N w0 env L ⟨d, .call {callee:= .builtin .max,args:= #[x,y],argTypes:=ts},ty,ps,af,gd⟩ (.int k (max a b)):=fun aa w ha _=>by
 have e:(if a<b then b else a)=max a b:=by rw[Int.max_def];split<;>split<;>omega
 simp[execOp,ha.ev hx,ha.ev hy,resolve,invoke,builtin,Builtin.max_,Builtin.max2,e]
theorem BP{ix:Operand}{s:ByteArray}{j:Int}{v:Nat}(hu:P.underlying t=some .string)(hx:ev env x=some (.string s))(hj:ev env ix=some (.int k j))(h0:0<=j)(hv:(s[j.toNat]?).map (·.toNat)=some v):
  Ry P N w0 env L ⟨d, .index t x ix,ty,ps,af,gd⟩ (.int .u8 v):=fun a w ha _=>by
 cases hs:s[j.toNat]?with
 |none=>simp[hs]at hv
 |some b=>
  simp[hs]at hv;simp[execOp,ha.ev hx,ha.ev hj,Instr.index,asIntOf,run_underlying hu,h0,hs,hv,Result.andThen]
theorem iS{s:TypeId}{n:Nat}[hs:kh P s k'][ht:kh P t k](hx:ev env x=some (.int k' n))(hn:n<2^nb k):
  Ry P N w0 env L ⟨d, .convert s t x,ty,ps,af,gd⟩ (.int k n):=sE hx (od hn)
theorem xi{s:TypeId}{n:Int}[hs:kh P s k'][ht:kh P t k](hx:ev env x=some (.int k' n))(h0:0<=n)(hn:n.toNat<2^nb k):
  Ry P N w0 env L ⟨d, .convert s t x,ty,ps,af,gd⟩ (.int k n):=sE hx (by
 have:=od hn;rwa [an8 h0]at this)
theorem ub{b:Int}(hx:ev env x=some (.int k p))(hy:ev env y=some (.int k' b))(hp:p<2^nb k)(hb:0<=b):
  Ry P N w0 env L ⟨d, .binOp .shr t x y u,ty,ps,af,gd⟩ (.int k ((p/2^b.toNat:Nat):Int)):=fun a w ha _=>by
 have e:((p:Int).fdiv (2^min b.toNat k.bits))=((p/2^b.toNat:Nat):Int):=by
  rw[Int.fdiv_eq_ediv_of_nonneg _ (Int.pow_nonneg (by decide)),show((2:Int)^min b.toNat k.bits)=((2^min b.toNat k.bits:Nat):Int) by simp,←Int.natCast_ediv];congr 1
  by_cases h:b.toNat<=k.bits
  ·
   rw[aon h]
  ·
   rw[Nat.min_eq_right (by omega),Nat.div_eq_of_lt (ph hp),Nat.div_eq_of_lt (ant (ph hp) (ank (by decide) (by omega)))]
 simp only[execOp,ha.ev hx,ha.ev hy,Sem.run_bind,Ev,Rf hb,e,Sem.run_pure,Result.andThen]
theorem EC{a b:Int}(hx:ev env x=some (.int k a))(hy:ev env y=some (.int k' b))(hb:0<=b):
  Ry P N w0 env L ⟨d, .binOp .shl t x y u,ty,ps,af,gd⟩ (.int k (k.wrap (a*2^min b.toNat k.bits))):=fun aa w ha _=>by
 simp only[execOp,ha.ev hx,ha.ev hy,Sem.run_bind,Ev,Rh hb,Sem.run_pure,Result.andThen]
end
section
variable {P:Program} {N:cc} {w0:World} {env:Env} {L:List ah} {l:List Oper} {Q:Exit->Act->World->Prop} {F:Act->Prop} {fs:List Nat} {k:Nat} {rest:List Oper}
def Ex(N:cc)(w0:World)(Q:Exit->Act->World->Prop)(e:Exit)(env:Env)(L:List ah):Prop:= ∀a w,cM N env a->Mem w0 L w->Q e a w
def Sq(P:Program)(N:cc)(w0:World)(l:List Oper)(Q:Exit->Act->World->Prop)(rest:List Oper)(env:Env)(L:List ah):Prop:=
 ∀a w,cM N env a->Mem w0 L w->wpList P l.toArray Q rest a w
def Qt(P:Program)(N:cc)(w0:World)(l:List Oper)(fs:List Nat)(F:Act->Prop)(k:Nat)(rest:List Oper)(env:Env)(L:List ah):Prop:=
 ∀a,cM N env a->lK P l.toArray fs (Mem w0 L) F k rest a
theorem BQ(h:Ex N w0 Q .normal env L):Sq P N w0 l Q [] env L:=h
theorem JB(h:Ex N w0 Q .normal env L):Qt P N w0 l fs (fun a'=> ∀w',Mem w0 L w'->Q .normal a' w') k [] env L:=fun a ha w' fF=>h a w' ha fF
def Fr(P:Program)(N:cc)(w0:World)(Lq:List ah)(l:List Oper)(n:Nat)(Q:Exit->Act->World->Prop)(fs:List Nat)(env:Env)(L:List ah):Prop:=
 (∀w,Mem w0 L w->Mem w0 Lq w)-> ∀a,cM N env a->sB P l n Q w0 Lq fs a L
theorem sG{n:Nat}{gs:List Nat}{L':List ah}(h:Fr P N w0 L l n Q gs env L')(hq: ∀w,Mem w0 L' w->Mem w0 L w:=by exact fun _ h=>h):Qt P N w0 l fs (fun a'=>sB P l n Q w0 L gs a' L') k [] env L:=fun a ha=>h hq a ha
theorem sH{n:Nat}{Lq:List ah}(h:Sq P N w0 l Q (l.drop n) env L):Fr P N w0 Lq l n Q [] env L:=fun _ a ha w hw=>h a w ha hw
theorem JC{o:Oper}(hk:Qt P N w0 l fs F (k+1) rest env L)(hf:fs.contains k=true:=by rfl):Qt P N w0 l fs F k (o::rest) env L:=fun a ha=>by
 unfold lK;rw[if_pos hf];exact hk a ha
theorem pY{o:Oper}{y:Nat->Option Bool}(h:o.guard=none):Region.wanted o y=true:=by simp[Region.wanted,h]
theorem vz{o:Oper}{a:Act}{j t:Nat}{b g:Bool}(ha:cM N env a)(h:o.guard=some (j,b))(hj:(l[j]?).bind (·.dst)=some t)(hv:look env t=some (.bool g)):
  Region.wanted o (yielded l.toArray a.tmps)=(g==b):=by
 have:=ha.get _ _ hv;simp[Region.wanted,h,yielded,hj,this]
theorem ED{o:Oper}{a:Act}{j t:Nat}{b c g:Bool}(ha:cM N env a)(h:o.guard=some (j,b))(hj:(l[j]?).bind (·.dst)=some t)(hv:look env t=some (if c=true then .bool g else undef)):
  Region.wanted o (yielded l.toArray a.tmps)=(c&&(g==b)):=by
 have:=ha.get _ _ hv
 cases c
 ·
  simp only[anw,if_false]at this;simp[Region.wanted,h,yielded,hj,this,undef]
 ·
  simp only[if_true]at this;simp[Region.wanted,h,yielded,hj,this]
theorem xj{o:Oper}{a:Act}{w:World}{v:Value}{K:Act->World->Prop}(ha:cM N env a)(hw:Mem w0 L w)(h:Yl P N w0 env L o v)(hk: ∀w',Mem w0 L w'->K (a.put o.dst v) w'):o.wp P a w K Q:=by
 have h1:=h a ha w hw;unfold Oper.quietAt at h1;unfold Oper.wp;generalize(execOp a.eval o).run P w=r at h1;unfold Oper.quietUpon at h1;split at h1
 ·
  obtain⟨rfl,rfl⟩:=h1;exact hk _ hw
 ·
  obtain⟨rfl,rfl⟩:=h1;exact hk _ hw
 ·
  obtain⟨rfl,hc⟩:=h1;exact hc.mono fun e ob ⟨he,hm⟩=>by subst he;exact hk _ (by simpa using hw.call hm)
 exact h1.elim
theorem ck{o:Oper}{v:Value}(h:Yl P N w0 env L o v)(hk:Sq P N w0 l Q rest (bZ env o.dst v) L)(hg:o.guard=none:=by rfl)(hd:cN N o.dst=true:=by rfl):Sq P N w0 l Q (o::rest) env L:=fun a w ha hw=>by
 unfold wpList;rw[if_pos (pY hg)];exact .inl (xj ha hw h fun w' fF=>hk _ _ (ha.put hd v) fF)
theorem ae{o:Oper}{v:Value}(h:Ry P N w0 env L o v)(hk:Sq P N w0 l Q rest (bZ env o.dst v) L)(hg:o.guard=none:=by rfl)(hd:cN N o.dst=true:=by rfl):Sq P N w0 l Q (o::rest) env L:=ck h.yl hk hg hd
theorem kM{o:Oper}{v:Value}(h:Yl P N w0 env L o v)(hk:Qt P N w0 l fs F (k+1) rest (bZ env o.dst v) L)(hg:o.guard=none:=by rfl)(hd:cN N o.dst=true:=by rfl)(hf:fs.contains k=false:=by rfl):Qt P N w0 l fs F k (o::rest) env L:=fun a ha=>by
 unfold lK;rw[if_neg (by rw[hf];exact ana)];rw[if_pos (pY hg)];exact⟨v,h a ha,hk _ (ha.put hd v)⟩
theorem bm{o:Oper}{v:Value}(h:Ry P N w0 env L o v)(hk:Qt P N w0 l fs F (k+1) rest (bZ env o.dst v) L)(hg:o.guard=none:=by rfl)(hd:cN N o.dst=true:=by rfl)(hf:fs.contains k=false:=by rfl):Qt P N w0 l fs F k (o::rest) env L:=kM h.yl hk hg hd hf
theorem look_eq{t:Nat}{u v:Value}(h:look env t=some u)(e:u=v):look env t=some v:=by rw[h,e]
theorem gm{o:Oper}{v:Value}{j t:Nat}{g:Bool}(hg:o.guard=some (j,true))(hj:(l[j]?).bind (·.dst)=some t)(hv:look env t=some (.bool g))(h:g=true->Yl P N w0 env L o v)
  (hk:Sq P N w0 l Q rest (bZ env o.dst (if g=true then v else undef)) L) (hd:cN N o.dst=true:=by rfl):Sq P N w0 l Q (o::rest) env L:=fun a w ha hw=>by
 unfold wpList;rw[vz ha hg hj hv]
 cases g
 ·
  exact hk _ _ (ha.put hd undef) hw
 ·
  exact .inl (xj ha hw (h rfl) fun w' fF=>hk _ _ (ha.put hd v) fF)
theorem eZ{o:Oper}{v:Value}{j t:Nat}{g:Bool}(hg:o.guard=some (j,true))(hj:(l[j]?).bind (·.dst)=some t)(hv:look env t=some (.bool g))(h:g=true->Yl P N w0 env L o v)
  (hk:Qt P N w0 l fs F (k+1) rest (bZ env o.dst (if g=true then v else undef)) L) (hd:cN N o.dst=true:=by rfl) (hf:fs.contains k=false:=by rfl):Qt P N w0 l fs F k (o::rest) env L:=fun a ha=>by
 unfold lK;rw[if_neg (by rw[hf];exact ana)];rw[vz ha hg hj hv]
 cases g
 ·
  exact hk _ (ha.put hd undef)
 ·
  exact⟨v,h rfl a ha,hk _ (ha.put hd v)⟩
theorem aV{o:Oper}{v:Value}{j t:Nat}{g:Bool}(hg:o.guard=some (j,false))(hj:(l[j]?).bind (·.dst)=some t)(hv:look env t=some (.bool g))(h:(!g)=true->Yl P N w0 env L o v)
  (hk:Sq P N w0 l Q rest (bZ env o.dst (if(!g)=true then v else undef)) L) (hd:cN N o.dst=true:=by rfl):Sq P N w0 l Q (o::rest) env L:=fun a w ha hw=>by
 unfold wpList;rw[vz ha hg hj hv]
 cases g
 ·
  exact .inl (xj ha hw (h rfl) fun w' fF=>hk _ _ (ha.put hd v) fF)
 ·
  exact hk _ _ (ha.put hd undef) hw
theorem ie{o:Oper}{v:Value}{j t:Nat}{g:Bool}(hg:o.guard=some (j,false))(hj:(l[j]?).bind (·.dst)=some t)(hv:look env t=some (.bool g))(h:(!g)=true->Yl P N w0 env L o v)
  (hk:Qt P N w0 l fs F (k+1) rest (bZ env o.dst (if(!g)=true then v else undef)) L) (hd:cN N o.dst=true:=by rfl) (hf:fs.contains k=false:=by rfl):Qt P N w0 l fs F k (o::rest) env L:=fun a ha=>by
 unfold lK;rw[if_neg (by rw[hf];exact ana)];rw[vz ha hg hj hv]
 cases g
 ·
  exact⟨v,h rfl a ha,hk _ (ha.put hd v)⟩
 ·
  exact hk _ (ha.put hd undef)
theorem iB{o:Oper}{v:Value}{j t:Nat}{c g:Bool}(hg:o.guard=some (j,true))(hj:(l[j]?).bind (·.dst)=some t)(hv:look env t=some (if c=true then .bool g else undef))(h:(c&&g)=true->Yl P N w0 env L o v)
  (hk:Sq P N w0 l Q rest (bZ env o.dst (if(c&&g)=true then v else undef)) L) (hd:cN N o.dst=true:=by rfl):Sq P N w0 l Q (o::rest) env L:=fun a w ha hw=>by
 unfold wpList;rw[ED ha hg hj hv]
 cases c<;>cases g
 ·
  exact hk _ _ (ha.put hd undef) hw
 ·
  exact hk _ _ (ha.put hd undef) hw
 ·
  exact hk _ _ (ha.put hd undef) hw
 ·
  exact .inl (xj ha hw (h rfl) fun w' fF=>hk _ _ (ha.put hd v) fF)
theorem sI{o:Oper}{v:Value}{j t:Nat}{c g:Bool}(hg:o.guard=some (j,false))(hj:(l[j]?).bind (·.dst)=some t)(hv:look env t=some (if c=true then .bool g else undef))(h:(c&& !g)=true->Yl P N w0 env L o v)
  (hk:Sq P N w0 l Q rest (bZ env o.dst (if(c&& !g)=true then v else undef)) L) (hd:cN N o.dst=true:=by rfl):Sq P N w0 l Q (o::rest) env L:=fun a w ha hw=>by
 unfold wpList;rw[ED ha hg hj hv]
 cases c<;>cases g
 ·
  exact hk _ _ (ha.put hd undef) hw
 ·
  exact hk _ _ (ha.put hd undef) hw
 ·
  exact .inl (xj ha hw (h rfl) fun w' fF=>hk _ _ (ha.put hd v) fF)
 ·
  exact hk _ _ (ha.put hd undef) hw
theorem EE{o:Oper}{v:Value}{j t:Nat}{c g:Bool}(hg:o.guard=some (j,false))(hj:(l[j]?).bind (·.dst)=some t)(hv:look env t=some (if c=true then .bool g else undef))(h:(c&& !g)=true->Yl P N w0 env L o v)
  (hk:Qt P N w0 l fs F (k+1) rest (bZ env o.dst (if(c&& !g)=true then v else undef)) L) (hd:cN N o.dst=true:=by rfl) (hf:fs.contains k=false:=by rfl):Qt P N w0 l fs F k (o::rest) env L:=fun a ha=>by
 unfold lK;rw[if_neg (by rw[hf];exact ana)];rw[ED ha hg hj hv]
 cases c<;>cases g
 ·
  exact hk _ (ha.put hd undef)
 ·
  exact hk _ (ha.put hd undef)
 ·
  exact⟨v,h rfl a ha,hk _ (ha.put hd v)⟩
 ·
  exact hk _ (ha.put hd undef)
theorem qV{x:Operand}{c g:Bool}{v u:Value}(hc:c=true)(h:ev env x=some (if(c&&g)=true then v else u)):ev env x=some (if g=true then v else u):=by subst hc;simpa using h
theorem au{x:Operand}{g:Bool}{v u:Value}(hg:g=true)(h:ev env x=some (if g=true then v else u)):ev env x=some v:=by rw[h,if_pos hg]
variable {d:Option Tmp} {ty:TypeId} {ps:String} {af:Array Edge}
theorem lj{o:Oper}(hg:o.guard=none)(hd:cN N o.dst=true)
  (h: ∀a w,cM N env a->Mem w0 L w-> ∃v w' L',(execOp a.eval o).run P w= .ok (.value v) w'/\Mem w0 L' w'/\Sq P N w0 l Q rest (bZ env o.dst v) L'):Sq P N w0 l Q (o::rest) env L:=fun a w ha hw=>by
 unfold wpList;rw[if_pos (pY hg)];obtain⟨v,w',L',h1,h2,h3⟩:=h a w ha hw;refine .inl ?_;unfold Oper.wp;rw[h1];exact h3 _ _ (ha.put hd v) h2
theorem BR{o:Oper}(hg:o.guard=none)(hd:o.dst=none)
  (h: ∀a w,cM N env a->Mem w0 L w-> ∃w' L',(execOp a.eval o).run P w= .ok .skip w'/\Mem w0 L' w'/\Sq P N w0 l Q rest env L'):Sq P N w0 l Q (o::rest) env L:=fun a w ha hw=>by
 unfold wpList;rw[if_pos (pY hg)];obtain⟨w',L',h1,h2,h3⟩:=h a w ha hw;refine .inl ?_;unfold Oper.wp;rw[h1];show wpList P l.toArray Q rest (a.put o.dst undef) w';rw[hd];exact h3 _ _ ha h2
theorem EF{t:TypeId}{x:Operand}{v:Value}(hx:ev env x=some v)(hk: ∀b,Sq P N w0 l Q rest (bZ env d (.pointer (some ⟨b,0,none⟩))) (al b v.cells t::L))(hd:cN N d=true:=by rfl):
  Sq P N w0 l Q (⟨d, .box t x,ty,ps,af,none⟩::rest) env L:=
 lj rfl hd fun a w ha hw=>⟨_,_,_,by simp only[execOp,ha.ev hx,Instr.box,newVar,newRow,Sem.run_bind,newObj,Sem.run,Result.andThen,Sem.run_pure];rfl,hw.alloc v.cells t,hk _⟩
theorem JD{t:TypeId}{z:Value}[hz:dH P t z](hk: ∀b,Sq P N w0 l Q rest (bZ env d (.pointer (some ⟨b,0,none⟩))) (al b z.cells t::L))(hd:cN N d=true:=by rfl):
  Sq P N w0 l Q (⟨d, .alloc t,ty,ps,af,none⟩::rest) env L:=
 lj rfl hd fun a w ha hw=>⟨_,_,_,by simp only[execOp,Instr.alloc,newVar,newRow,Sem.run_bind,BN w hz,newObj,Sem.run,Result.andThen,Sem.run_pure];rfl,hw.alloc z.cells t,hk _⟩
theorem bJ{t:TypeId}{x:Operand}{cs:Array Value}(hx:ev env x=some (.agg cs))(hk: ∀b,Sq P N w0 l Q rest (bZ env d (.pointer (some ⟨b,0,none⟩))) (al b cs t::L))(hd:cN N d=true:=by rfl):
  Sq P N w0 l Q (⟨d, .box t x,ty,ps,af,none⟩::rest) env L:=EF hx hk hd
theorem bc{t:TypeId}{cs:Array Value}[hz:dH P t (.agg cs)](hk: ∀b,Sq P N w0 l Q rest (bZ env d (.pointer (some ⟨b,0,none⟩))) (al b cs t::L))(hd:cN N d=true:=by rfl):
  Sq P N w0 l Q (⟨d, .alloc t,ty,ps,af,none⟩::rest) env L:=JD (z:= .agg cs) hk hd
theorem Ri{cs:Array Value}(h:cs.all (·.oneCell')=true)(a b:Nat):(cs.extract a b).all (·.oneCell')=true:=by
 rw[amU]at h⊢;intro v hv;have:v∈(cs.extract a b).toList:=Array.mem_toList_iff.2 hv;rw[Array.toList_extract]at this;simp only[List.extract]at this;exact h v (by simpa using List.mem_of_mem_drop (aov this))
theorem cR{t:TypeId}{x y:Operand}{i b o:Nat}{cs:Array Value}{T:TypeId}{v:Value}(hx:ev env x=some (.pointer (some ⟨b,o,none⟩)))(hy:ev env y=some v)[ht:ft P t][hh:Has L b cs T i](ho:o<cs.size)(hv:v.oneCell'=true){cs':Array Value}{L':List ah}(fH:cs.setIfInBounds o v=cs')[hu:eK L i (al b cs' T) L'](hk:Sq P N w0 l Q rest env L'):
  Sq P N w0 l Q (⟨none, .store t x y,ty,ps,af,none⟩::rest) env L:=
 BR rfl rfl fun a w ha hw=>by
  have hi:=hh.h;have hb:=hw.block hi;have hc:w.cell? ⟨b,o,none⟩=some cs[o]:=by rw[hw.cell hi];simp[ho]
  have hf:w.frozen? ⟨b,o,none⟩=false:=frozen_of_row w b o cs T hb;subst fH;refine⟨w.setCell ⟨b,o,none⟩ v,_,?_,?_,hk⟩
  ·
   have h1:(storeCells ⟨b,o,none⟩ [v]).run P w= .ok () (w.setCell ⟨b,o,none⟩ v):=by
    have:=run_storeCells_at (P:=P) b o T [v] 0 cs w hb (by simp;omega) (by simpa using hv);rw[this,setCell_eq_setRow w b o cs T (0,0) v hb];congr 2;apply aol;simp[List.set_eq_take_append_cons_drop,ho]
   have fH:v.cells= #[v]:=by cases v<;>simp_all[Value.oneCell',Value.cells]
   simp only[execOp,ha.ev hx,ha.ev hy,Instr.storeAt,Instr.sureAddr,storeVar,Sem.run_bind,Sem.run_pure,Result.andThen,jW w ht.size,fH];simp[h1]
  ·
   rw[setCell_eq_setRow w b o cs T (0,0) v hb];rw[←hu.h];exact hw.setRow hi _
def over(cs:Array Value)(o:Nat)(vs:Array Value):Array Value:=(cs.toList.take o++vs.toList++cs.toList.drop (o+vs.size)).toArray
theorem lL{t:TypeId}{x y:Operand}{i b o n:Nat}{cs vs:Array Value}{T:TypeId}(hx:ev env x=some (.pointer (some ⟨b,o,none⟩)))(hy:ev env y=some (.agg vs))[ht:eX P t n][hh:Has L b cs T i][hs:eY vs n](ho:o+n<=cs.size){cs':Array Value}{L':List ah}(fH:over cs o vs=cs')[hu:eK L i (al b cs' T) L'](hk:Sq P N w0 l Q rest env L'):
  Sq P N w0 l Q (⟨none, .store t x y,ty,ps,af,none⟩::rest) env L:=
 BR rfl rfl fun a w ha hw=>by
  have hi:=hh.h;have hn:=hs.h;have hv:=hs.one;have hb:=hw.block hi;subst fH;refine⟨_,_,?_,by rw[←hu.h];exact hw.setRow hi _,hk⟩;have h1:=run_storeCells_at (P:=P) b o T vs.toList 0 cs w hb (by simp;omega) (fun v ki=>(amU.1 hv) v (by simpa using ki));simp only[execOp,ha.ev hx,ha.ev hy,Instr.storeAt,Instr.sureAddr,storeVar,Value.cells,Sem.run_bind,Sem.run_pure,Result.andThen,jW w ht.size,hn];simp[h1,over]
theorem Rj{t:TypeId}{x y:Operand}{i b n:Nat}{cs vs:Array Value}{T:TypeId}(hx:ev env x=some (.pointer (some ⟨b,0,none⟩)))(hy:ev env y=some (.agg vs))[ht:eX P t n][hh:Has L b cs T i][hs:eY vs n][hc:eY cs n]{L':List ah}[hu:eK L i (al b vs T) L'](hk:Sq P N w0 l Q rest env L'):
  Sq P N w0 l Q (⟨none, .store t x y,ty,ps,af,none⟩::rest) env L:=by
 have hn:=hs.h;have Rk:=hc.h;refine lL hx hy (by omega) (?_:over cs 0 vs=vs) hk;apply aol;simp[over];omega
theorem EG{x y:Operand}{tx fv e:TypeId}{i b o dl dc sl sc:Nat}{a:Addr}{cs vs:Array Value}{T:TypeId}(hx:ev env x=some (.slice (some ⟨b,o,none⟩) dl dc))(hy:ev env y=some (.slice (some a) sl sc))
  [ht:ei P tx e 1] [hh:Has L b cs T i] (hn:vs.size=Nat.min sl dl) (pZ: ∀w,Mem w0 L w-> ∀j,j<vs.size->w.cell? (a.add j)=vs[j]?) (hv:vs.all (·.oneCell')=true) (ho:o+vs.size<=cs.size)
  {cs':Array Value} {L':List ah} (fH:over cs o vs=cs') [hu:eK L i (al b cs' T) L'] (hk:Sq P N w0 l Q rest (bZ env d (.int .i64 vs.size)) L') (hd:cN N d=true:=by rfl):
  Sq P N w0 l Q (⟨d, .call {callee:= .builtin .copy,args:= #[x,y],argTypes:= #[tx,fv]},ty,ps,af,none⟩::rest) env L:=
 lj rfl hd fun aa w ha hw=>by
  have hi:=hh.h;have hb:=hw.block hi;subst fH;have fq:=run_copy_row (P:=P) w tx fv ty e b o dl dc a sl sc cs T vs.toList ht.dK ht.size hb (by simpa using hn)
   (fun j v ki=>by
    have hj:j<vs.size:=by simpa using(zz.1 ki).1
    rw[pZ w hw j hj];simpa using ki) (by simpa using ho) (fun v ki=>(amU.1 hv) v (by simpa using ki))
  refine⟨_,w.setRow b (over cs o vs),_,?_,by rw[←hu.h];exact hw.setRow hi _,hk⟩;simp[execOp,ha.ev hx,ha.ev hy,resolve,invoke,builtin,fq,Result.andThen,goInt,over]
end
section
variable {P:Program} {N:cc} {w0:World} {env:Env} {L Lq:List ah} {l:List Oper} {n j:Nat} {js:List Nat} {Q:Exit->Act->World->Prop} {d:Option Tmp} {ty:TypeId} {ps:String} {af:Array Edge}
theorem Rl{o:Oper}(hj:l[j]? =some o)(hg:o.guard=none)(hd:cN N o.dst=true)
  (h: ∀a w,cM N env a->Mem w0 L w-> ∃v w' E,(execOp a.eval o).run P w= .ok (.value v) w'/\Mem w E w'/\Fr P N w0 Lq l n Q js (bZ env o.dst v) (E++L)):Fr P N w0 Lq l n Q (j::js) env L:=fun hq a ha=>
 ⟨o,hj,hg,fun w hw=>by
  obtain⟨v,w',E,h1,h2,h3⟩:=h a w ha hw;rw[h1];have JE: ∀w,Mem w0 (E++L) w->Mem w0 Lq w:=fun w h=>hq w (h.sub (List.sublist_append_right _ _));exact⟨E++L,hw.call h2,JE,h3 JE _ (ha.put hd v)⟩⟩
theorem Rm{X:Type}{val:X->Value}{L':X->List ah}{pr:X->Prop}{f:FuncId}{xs:List Operand}{ts:Array TypeId}{vs:List Value}(hj:l[j]? =some ⟨d, .call {callee:= .value (.func f),args:=xs.toArray,argTypes:=ts},ty,ps,af,none⟩)[hf:aC P f](hx:gh env xs=some vs)
  (hc: ∀w,Mem w0 L w->Calls P f vs.toArray w fun e w'=> ∃x,e= .returned (val x)/\pr x/\Mem w0 (L' x) w') (hL: ∀x w,Mem w0 (L' x) w->Mem w0 Lq w) (hk: ∀x,pr x->Fr P N w0 Lq l n Q js (bZ env d (val x)) (L' x)) (hd:cN N d=true:=by rfl):
  Fr P N w0 Lq l n Q (j::js) env L:=fun _ a ha=>
 ⟨_,hj,rfl,fun w hw=>by
  rw[BO hf w rfl,ha.gh hx];exact⟨rfl,(hc w hw).mono fun e w' ⟨x,he,hp,hm⟩=>⟨val x,L' x,he,hm,hL x,hk x hp (hL x) _ (ha.put hd _)⟩⟩⟩
end
section
variable {P:Program} {N:cc} {w0:World} {env:Env} {L:List ah} {Q:Exit->Act->World->Prop}
def Cw(P:Program)(N:cc)(w0:World)(Q:Exit->Act->World->Prop)(c:Code)(env:Env)(L:List ah):Prop:= ∀a w,cM N env a->Mem w0 L w->c.wpIn (kH N.ro) 0 P Q a w
theorem BS{x y:Code}(h:Cw P N w0 (Exit.then (y.wpIn (kH N.ro) 0 P Q) Q) x env L):Cw P N w0 Q (.seq x y) env L:=fun a w ha hw=>wpIn_seq (h a w ha hw)
theorem BT{id:Nat}{l:List Oper}[jz Q](h:Sq P N w0 l Q l env L)(cn:n9 l=true:=by kernel_rfl):Cw P N w0 Q (.region id l.toArray false) env L:=fun a w ha hw=>QR cn (h a w ha hw)
theorem EH{ops:Array Oper}{C:World->Prop}{F:Act->Prop}(hC: ∀w w',C w->Mem w [] w'->C w'): ∀(rest:List Oper) (k:Nat) (a:Act),lK P ops [] C F k rest a->wpQuiet P ops C F rest a
 |[],_,_,h=>h
 |o::rest,k,a,h=>by
  unfold lK at h;rw[if_neg (by simp)]at h;unfold wpQuiet;split
  ·
   rename_i hw;rw[if_pos hw]at h;obtain⟨v,h1,h2⟩:=h;refine⟨v,fun w BU=>?_,EH hC rest (k+1) _ h2⟩;have h3:=h1 w BU;unfold Oper.quietAt at h3⊢;generalize(execOp a.eval o).run P w=r at h3;unfold Oper.quietUpon at h3⊢;split at h3
   ·
    exact h3
   ·
    exact h3
   ·
    exact⟨h3.1,by obtain⟨rfl,sC⟩:=h3;exact sC.mono fun e ob ⟨he,hm⟩=>⟨he,hC _ _ BU hm⟩⟩
   exact h3.elim
  rename_i hw;rw[if_neg hw]at h;exact EH hC rest (k+1) _ h
theorem gO{id:Nat}{l:List Oper}[jz Q](hm:P.follows .mixedOrders=true)(hB:Region.lexB .any l.toArray=true)(h:Qt P N w0 l [] (fun a'=> ∀w',Mem w0 L w'->Q .normal a' w') 0 l env L)(cn:n9 l=true:=by kernel_rfl):Cw P N w0 Q (.region id l.toArray true) env L:=fun a _ ha hw=>
 QS cn (C:=Mem w0 L) hm hB hw.BC (by simpa using EH (fun w w' BU fF=>by simpa using BU.call fF) l 0 a (h a ha))
theorem JF{id:Nat}{l:List Oper}[jz Q](n:Nat)(fs:List Nat)(Lq:List ah)(hq: ∀w,Mem w0 L w->Mem w0 Lq w)(hm:P.follows .mixedOrders=true)(hB:BL l fs n=true)(h:Qt P N w0 l fs (fun a'=>sB P l n Q w0 Lq fs a' L) 0 (l.take n) env Lq)(cn:n9 l=true:=by kernel_rfl):Cw P N w0 Q (.region id l.toArray true) env L:=fun a _ ha hw=>
 Q4 n cn hm hB hw.BC hq (h a ha)
theorem uc{id:Nat}{l:List Oper}[jz Q](n:Nat)(fs:List Nat)(hm:P.follows .mixedOrders=true)(hB:BL l fs n=true)(h:Qt P N w0 l fs (fun a'=>sB P l n Q w0 L fs a' L) 0 (l.take n) env L)(cn:n9 l=true:=by kernel_rfl):Cw P N w0 Q (.region id l.toArray true) env L:=
 JF n fs L (fun _ h=>h) hm hB h cn
theorem ig{c:Operand}{x y:Code}{g:Bool}(hc:ev env c=some (.bool g))(hx:g=true->Cw P N w0 Q x env L)(hy:g=false->Cw P N w0 Q y env L):Cw P N w0 Q (.cond c x y) env L:=fun a w ha hw=>
 wpIn_cond_split (ha.ev hc) (fun h=>hx h a w ha hw) (fun h=>hy h a w ha hw)
theorem JG{id:Nat}{c:Code}(h:Cw P N w0 (Exit.inBlock id Q) c env L):Cw P N w0 Q (.block id c) env L:=fun a w ha hw=>wpIn_block (h a w ha hw)
theorem JH(h:Ex N w0 Q .normal env L):Cw P N w0 Q .skip env L:=fun a w ha hw=>wpIn_skip (h a w ha hw)
theorem JI{id:Nat}(h:Ex N w0 Q (.exit id) env L):Cw P N w0 Q (.exit id) env L:=fun a w ha hw=>wpIn_exit (h a w ha hw)
theorem EI(h:Ex N w0 Q .ret env L):Cw P N w0 Q .ret env L:=fun a w ha hw=>wpIn_ret (h a w ha hw)
theorem bI{c:Code}{X:Type}(vA:X->Env)(LI:X->List ah)(inv:X->Prop)(m:X->Nat)(x0:X)(h0:inv x0)(hs:Sub (vA x0) env)(hL: ∀w,Mem w0 L w->Mem w0 (LI x0) w)
  (round: ∀x,inv x->Cw P N w0 (Exit.then (fun a w=> ∃x',inv x'/\m x'<m x/\cM N (vA x') a/\Mem w0 (LI x') w) Q) c (vA x) (LI x)):Cw P N w0 Q (.loop c) env L:=by
 intro a0 w1 Rn nA b k cs Ro hb hr;have key: ∀n x,m x=n->inv x-> ∀a w,cM N (vA x) a->Mem w0 (LI x) w->
   ∃e a' w',Q e a' w'/\ArrivesIn (Machine.fenced P (kH N.ro)) P (lone (b.atR a (.code c:: .inLoop c::k)) cs w) b k cs e a' w':=by
  intro n
  induction n using Nat.strongRecOn with
  |_ n ih=>
   intro x hm hI a w ha hw;obtain⟨e,xk,xm,hq,ud⟩:=round x hI a w ha hw b (.inLoop c::k) cs Ro hb hr
   cases e with
   |normal=>
    obtain⟨x',Rp,bx,Rq,fF⟩:=hq;obtain⟨Rr,Rs,Ru,Rv,Rw⟩:=ih (m x') (hm▸bx) x' rfl Rp xk xm Rq fF;exact⟨Rr,Rs,Ru,Rv, .of_steps (StepsIn.trans ud (.one (fenced_calm hb hr rfl) stepR_inLoop)) Rw⟩
   |exit id=>exact⟨_,xk,xm,hq, .pass (x:= .inLoop c) rfl (fun _ _=> .inl (by simp)) ud⟩
   |goto l=>exact⟨_,xk,xm,hq, .pass (x:= .inLoop c) rfl (fun _ _=> .inl (by simp)) ud⟩
   |ret=>exact⟨_,xk,xm,hq, .pass (x:= .inLoop c) rfl (fun _ _=> .inl (by simp)) ud⟩
   |panic ch=>exact⟨_,xk,xm,hq, .pass (x:= .inLoop c) rfl (fun _ _=> .inl (by simp)) ud⟩
   |outgrown=>exact⟨_,xk,xm,hq, .pass (x:= .inLoop c) rfl (fun _ _=> .inl (by simp)) ud⟩
 obtain⟨e,a',w',hq,ud⟩:=key _ x0 rfl h0 a0 w1 (Rn.sub hs) (hL w1 nA);exact⟨e,a',w',hq, .of_steps (.one (fenced_calm hb hr rfl) stepR_loop) ud⟩
theorem mB{x y:Code}{X:Type}(zw:X->Env)(LJ:X->List ah)(J:X->Prop)
  (h:Cw P N w0 (Exit.then (fun a w=> ∃s,J s/\cM N (zw s) a/\Mem w0 (LJ s) w) Q) x env L) (hy: ∀s,J s->Cw P N w0 Q y (zw s) (LJ s)):Cw P N w0 Q (.seq x y) env L:=fun a w ha hw=>
 wpIn_seq (wpIn_mono (h a w ha hw) fun e a' w' hq=>by
  cases e with
  |normal=>obtain⟨s,hs,hr,hm⟩:=hq;exact hy s hs a' w' hr hm
  |exit id=>exact hq
  |goto l=>exact hq
  |ret=>exact hq
  |panic ch=>exact hq
  |outgrown=>exact hq)
theorem BW{y:Code}{Q':Exit->Act->World->Prop}(h:Cw P N w0 Q y env L):Ex N w0 (Exit.then (y.wpIn (kH N.ro) 0 P Q) Q') .normal env L:=h
theorem eD{X:Type}{zw:X->Env}{LJ:X->List ah}{J:X->Prop}(s:X)(hJ:J s)(hs:Sub (zw s) env)(hL: ∀w,Mem w0 L w->Mem w0 (LJ s) w):
  Ex N w0 (Exit.then (fun a w=> ∃s,J s/\cM N (zw s) a/\Mem w0 (LJ s) w) Q) .normal env L:=fun _ w ha hw=>⟨s,hJ,ha.sub hs,hL w hw⟩
theorem bg{X:Type}{vA:X->Env}{LI:X->List ah}{inv:X->Prop}{m:X->Nat}{x:X}(x':X)(hI:inv x')(hm:m x'<m x)(hs:Sub (vA x') env)(hL: ∀w,Mem w0 L w->Mem w0 (LI x') w):
  Ex N w0 (Exit.then (fun a w=> ∃x',inv x'/\m x'<m x/\cM N (vA x') a/\Mem w0 (LI x') w) Q) .normal env L:=fun _ w ha hw=>⟨x',hI,hm,ha.sub hs,hL w hw⟩
theorem JJ{K:Act->World->Prop}{id:Nat}(h:Ex N w0 Q (.exit id) env L):Ex N w0 (Exit.then K Q) (.exit id) env L:=h
theorem JK{K:Act->World->Prop}(h:Ex N w0 Q .ret env L):Ex N w0 (Exit.then K Q) .ret env L:=h
theorem JL{id:Nat}(h:Ex N w0 Q .normal env L):Ex N w0 (Exit.inBlock id Q) .normal env L:=h
theorem JM{id:Nat}(h:Ex N w0 Q .normal env L):Ex N w0 (Exit.inBlock id Q) (.exit id) env L:=fun a w ha hw=>by
 simp only[Exit.inBlock,if_true];exact h a w ha hw
theorem Rx{id BX:Nat}(cE:Nat.beq BX id=false)(h:Ex N w0 Q (.exit BX) env L):Ex N w0 (Exit.inBlock id Q) (.exit BX) env L:=fun a w ha hw=>by
 have: ¬BX=id:=fun e=>by subst e;simp at cE
 simp only[Exit.inBlock,this,if_false];exact h a w ha hw
theorem JN{id:Nat}(h:Ex N w0 Q .ret env L):Ex N w0 (Exit.inBlock id Q) .ret env L:=h
variable {fn:Func} {R:Ending->World->Prop}
theorem cY{n:Nat}{e:Exit}(he:e= .ret\/e= .normal){v:Value}(hr: ∀a w,cM ⟨n,[],none⟩ env a->Mem w0 L w->(results fn a.tmps).run P w= .ok v w)(h: ∀w,Mem w0 L w->R (.returned v) w):Ex ⟨n,[],none⟩ w0 (pT P fn R) e env L:=fun a w ha hw=>by
 have key:LeavesInM (kH none) 0 P fn a.tmps R a.defers .returning w:=by
  rw[ha.defers];exact⟨v,hr a w ha hw,h w hw⟩
 rcases he with rfl|rfl
 ·
  exact⟨.inr rfl,key⟩
 exact⟨.inl rfl,key⟩
theorem iT{t:Nat}{v:Value}(hf:fn.results= #[.tmp t])(hv:look env t=some v): ∀a w,cM N env a->Mem w0 L w->(results fn a.tmps).run P w= .ok v w:=fun a w ha _=>by
 have:=ha.get _ _ hv;simp[results,hf,this]
theorem BY{t:Nat}{T T':TypeId}{b i n:Nat}{cs:Array Value}(hf:fn.results= #[.cell t T])(hv:look env t=some (.pointer (some ⟨b,0,none⟩)))[ht:eX P T n][hi:Has L b cs T' i][hn:eY cs n]:
  ∀a w,cM N env a->Mem w0 L w->(results fn a.tmps).run P w= .ok (.agg cs) w:=fun a w ha hw=>by
 have h1:=ha.get _ _ hv;have h2:(loadVar T ⟨b,0,none⟩).run P w= .ok (.agg cs) w:=Ew w ht hn.h fun j _=>by rw[Addr.gl,hw.cell hi.h,amX]
 simp[results,hf,h1,asAddr,h2]
theorem xn{N:Nat}{f:FuncId}{c:Code}{args:List Value}{w:World}(hf:P.funcs[f]? =some fn)(hb:fn.body=some c)(hN:fn.ntmps=N)(hle:Nat.ble args.length N=true)
  (h:Cw P ⟨N,[],none⟩ w (pT P fn R) c (args.zipIdx.map fun p=>(p.2,p.1)) []):Calls P f args.toArray w R:=
 Jj hf hb (h _ _ (by rw[hN];exact cM.enter args N (Nat.le_of_ble_eq_true hle)) (Mem.init w))
end
theorem Z0(a b:Bool):((a&&b)=true)=(a=true/\b=true):=alM a b
theorem Z1(a b:Bool):((a||b)=true)=(a=true\/b=true):=anp a b
theorem Z2{x y:Bool}:(x&&y)=false↔x=false\/y=false:=Bool.and_eq_false_iff
theorem Z3{x y:Bool}:(x||y)=false↔x=false/\y=false:=Bool.or_eq_false_iff
theorem Z4(b:Bool):((!b)=true)=(b=false):=anS b
theorem Z5(b:Bool):((!b)=false)=(b=true):=Bool.not_eq_false' b
theorem Z6{p:Prop}[inst:Decidable p]:(decide p=true)=p:=decide_eq_true_eq
theorem Z7{p:Prop}{x:Decidable p}:decide p=false↔ ¬p:=decide_eq_false_iff_not
theorem Z8(b:Bool):(¬b=true)=(b=false):=Bool.not_eq_true b
theorem Z9(b:Bool):(¬b=false)=(b=true):=Bool.not_eq_false b
structure Sv where
  nil:Bool
  b:Nat
  o:Nat
  len:Nat
  cap:Nat
  sp:Option Nat
def Sv.val(s:Sv):Value:=match s.nil with
  |true=> .slice none 0 0
  |false=> .slice (some ⟨s.b,s.o,s.sp⟩) s.len s.cap
structure Sv.Ok(s:Sv):Prop where
  nil:s.nil=true->s.len=0/\s.cap=0
  le:s.len<=s.cap
  bd:s.len<=140737488355328
  sp:0<s.cap->s.sp=none
theorem Sv.Ok.some{s:Sv}(h:s.Ok)(hl:0<s.len):s.nil=false:=by
  cases hn:s.nil with
  |false=>rfl
  |true=>have:=h.nil hn;omega
theorem Sv.gn{s:Sv}(h:s.nil=false):s.val= .slice (some ⟨s.b,s.o,s.sp⟩) s.len s.cap:=by simp[Sv.val,h]
theorem Sv.p0{s:Sv}(h:s.nil=true):s.val= .slice none 0 0:=by simp[Sv.val,h]
def Sv.none:Sv:=⟨true,0,0,0,0, .none⟩
theorem Sv.zx:Sv.none.Ok:=⟨fun _=>⟨rfl,rfl⟩,amz _,amK _,fun _=>rfl⟩
theorem Sv.one(s:Sv):s.val.oneCell'=true:=by unfold Sv.val;split<;>rfl
def ll(h:Nat->Option Obj)(b o:Nat):Option Value:=match h b with
  |some (.cells cs _ _)=>cs[o]?
  |_=>none
abbrev hp(w:World):Nat->Option Obj:=fun k=>w.heap[k]?
theorem p6(w:World)(b o:Nat):w.cell? ⟨b,o,none⟩=ll (hp w) b o:=by
  unfold World.cell? ll;split<;>simp_all
class bn{α:Type}(enc:α->Array Value)(c:outParam Nat):Prop where
  size: ∀x,(enc x).size=c
  one: ∀x,(enc x).all (·.oneCell')=true
structure dL{α:Type}(enc:α->Array Value)(c:Nat)(h:Nat->Option Obj)(s:Sv)(xs:List α):Prop where
  ok:s.Ok
  len:s.len=xs.length
  row: ∀i x,xs[i]? =some x-> ∀j,j<c->ll h s.b (s.o+i*c+j)=(enc x)[j]?
theorem dL.some{α:Type}{enc:α->Array Value}{c:Nat}{h:Nat->Option Obj}{s:Sv}{xs:List α}(r:dL enc c h s xs){i:Nat}(hi:i<xs.length):s.nil=false:=r.ok.some (by rw[r.len];omega)
theorem dL.nil{α:Type}(enc:α->Array Value)(c:Nat)(h:Nat->Option Obj):dL enc c h Sv.none ([]:List α):=⟨Sv.zx,rfl,by simp⟩
theorem dL.bd{α:Type}{enc:α->Array Value}{c:Nat}{h:Nat->Option Obj}{s:Sv}{xs:List α}(r:dL enc c h s xs):xs.length<=140737488355328:=by have:=r.ok.bd;have:=r.len;omega
theorem dL.mono{α:Type}{enc:α->Array Value}{c:Nat}[he:bn enc c]{w w':World}{s:Sv}{xs:List α}(r:dL enc c (hp w) s xs)(hb:Below w.heap.size w w'):dL enc c (hp w') s xs:=
  ⟨r.ok,r.len,fun i x hi j hj=>by
    have h:=r.row i x hi j hj;rw[←h];have JO:((enc x)[j]?).isSome:=by rw[Array.getElem?_eq_getElem (by rw[he.size];exact hj)];rfl
    rw[←h]at JO;have bx:s.b<w.heap.size:=by
      rcases amv s.b w.heap.size with h'|h'
      ·exact h'
      ·simp[ll,hp,amE h']at JO
    have e:(hp w') s.b=(hp w) s.b:=hb.block s.b bx;unfold ll;rw[e]⟩
def EJ(n:Nat)(fz:Nat×Nat):Prop:= ∀j,j<n-> ¬(fz.1<=j/\j<fz.2)
theorem EK(n:Nat):EJ n (0,0):=fun j _ h=>by have:=h.2;simp at this
def own{α:Type}(enc:α->Array Value)(c:Nat)(s:Sv)(xs:List α):ah:=
  ⟨fun k=>s.nil=false/\k=s.b,fun h=>dL enc c h s xs/\(s.nil=false->s.sp= .none/\ ∃cs T fz,h s.b=some (.cells cs T fz)/\s.o+s.cap*c<=cs.size/\EJ cs.size fz/\(1<c->fz=(0,0))),
   fun h h' e st=>by
    cases hn:s.nil with
    |true=>
     refine⟨⟨st.1.ok,st.1.len,fun i x hi=>?_⟩,fun h=>by cases h⟩;have:=st.1.some (zz.1 hi).1;rw[hn]at this;cases this
    |false=>
     have e1:=e s.b ⟨hn,rfl⟩;refine⟨⟨st.1.ok,st.1.len,fun i x hi j hj=>?_⟩,fun _=>?_⟩
     ·rw[←st.1.row i x hi j hj];unfold ll;rw[e1]
     ·rw[e1];exact st.2 hn⟩
section
variable {P:Program} {N:cc} {w0:World} {env:Env} {L:List ah} {d:Option Tmp} {ty:TypeId} {ps:String} {af:Array Edge} {gd:Option (Nat×Bool)}
variable {α:Type} {enc:α->Array Value} {c:Nat} {s:Sv} {xs:List α}
def Holds(w0:World)(L:List ah){α:Type}(enc:α->Array Value)(c:Nat)(s:Sv)(xs:List α):Prop:= ∀w,Mem w0 L w->dL enc c (hp w) s xs
theorem EL[bn enc c](r:dL enc c (hp w0) s xs):Holds w0 L enc c s xs:=fun _ hw=>r.mono hw.below
class At(L:List ah)(e:ah)(i:outParam Nat):Prop where
  h:L[i]? =some e
instance (priority:=high) At.here {L:List ah}{e:ah}:At (e::L) e 0:=⟨rfl⟩
instance At.there{L:List ah}{e x:ah}{i:Nat}[q:At L e i]:At (x::L) e (i+1):=⟨by simpa using q.h⟩
theorem zy{t e:TypeId}{x:Operand}{m n:Nat}[ht:ei P t e m](hx:ev env x=some s.val)(hs:s.Ok)(hn:s.len=n):
    Ry P N w0 env L ⟨d, .call {callee:= .builtin .len,args:= #[x],argTypes:= #[t]},ty,ps,af,gd⟩ (.int .i64 n):=by
  subst hn
  cases h:s.nil with
  |false=>rw[Sv.gn h]at hx;exact vp hx
  |true=>
   rw[Sv.p0 h]at hx;rw[(hs.nil h).1];exact vp hx
theorem mC{t e:TypeId}{x ix:Operand}{m i:Nat}{k:IntKind}{j:Int}[ht:ei P t e m](hx:ev env x=some s.val)(hj:ev env ix=some (.int k j))(ej:j=(i:Int))(hs:s.Ok)(h1:i<s.len):
    Ry P N w0 env L ⟨d, .indexAddr t x ix,ty,ps,af,gd⟩ (.pointer (some ⟨s.b,s.o+i*m,none⟩)):=by
  subst ej;rw[Sv.gn (hs.some (by omega)),hs.sp (by have:=hs.le;omega)]at hx;have:=Ju (P:=P) (N:=N) (w0:=w0) (L:=L) (d:=d) (ty:=ty) (ps:=ps) (af:=af) (gd:=gd) (t:=t) hx hj (by omega) (by omega);simpa using this
theorem JP{t:TypeId}{x:Operand}{i p:Nat}{a:α}[ht:eX P t c][he:bn enc c](hx:ev env x=some (.pointer (some ⟨s.b,p,none⟩)))(hR:Holds w0 L enc c s xs)(hi:xs[i]? =some a)(gY:p=s.o+i*c):
    Ry P N w0 env L ⟨d, .load t x,ty,ps,af,gd⟩ (.agg (enc a)):=zp ht hx (he.size a) fun w hw j hj=>by
  rw[Addr.gl,p6,gY,(hR w hw).row i a hi j hj]
theorem Rz{t:TypeId}{x:Operand}{i p j:Nat}{a:α}{v:Value}[ht:ft P t](hx:ev env x=some (.pointer (some ⟨s.b,p,none⟩)))(hR:Holds w0 L enc c s xs)(hi:xs[i]? =some a)(gY:p=s.o+i*c+j)(hj:j<c)(hv:(enc a)[j]? =some v):
    Ry P N w0 env L ⟨d, .load t x,ty,ps,af,gd⟩ v:=xd ht hx fun w hw=>by
  rw[p6,gY,(hR w hw).row i a hi j hj,hv]
theorem JQ{t:TypeId}{x:Operand}{i p j n:Nat}{a:α}{sub:Array Value}[ht:eX P t n](hx:ev env x=some (.pointer (some ⟨s.b,p,none⟩)))(hR:Holds w0 L enc c s xs)(hi:xs[i]? =some a)(gY:p=s.o+i*c+j)(hj:j+n≤c)[hs:kJ (enc a) j n sub]:
    Ry P N w0 env L ⟨d, .load t x,ty,ps,af,gd⟩ (.agg sub):=zp ht hx hs.size fun w hw k hk=>by
  rw[Addr.gl,p6,gY,anz,(hR w hw).row i a hi (j+k) (by omega)];exact hs.h k hk
def Sv.sub(s:Sv)(c lo hi:Nat):Sv:=⟨s.nil,s.b,if s.cap=lo then s.o else s.o+lo*c,hi -lo,s.cap -lo,s.sp⟩
theorem Sv.Ok.sub{lo hi:Nat}(h:s.Ok)(h2:hi<=s.cap)(h3:hi<=s.len):(s.sub c lo hi).Ok:=
  ⟨fun hn=>by have:=h.nil hn;simp only[Sv.sub];omega,by simp only[Sv.sub];omega,by have:=h.bd;simp only[Sv.sub];omega,fun hc=>h.sp (by simp only[Sv.sub]at hc;omega)⟩
theorem dL.sub{h:Nat->Option Obj}(r:dL enc c h s xs){lo hi:Nat}(h1:lo<=hi)(h2:hi<=xs.length):dL enc c h (s.sub c lo hi) ((xs.drop lo).take (hi -lo)):=by
  have hl:=r.len;have hc:=r.ok.le;refine⟨r.ok.sub (by omega) (by omega),by simp[Sv.sub];omega,fun i x pd j hj=>?_⟩;have bx:i<hi -lo:=by
    have:=(zz.1 pd).1;simp at this;omega
  rw[anO,if_pos bx,ang]at pd;have:=r.row (lo+i) x pd j hj;rw[←this];have e:(s.sub c lo hi).o=s.o+lo*c:=by
    simp only[Sv.sub];rw[if_neg (by omega)]
  rw[e,show(s.sub c lo hi).b=s.b from rfl];congr 1;rw[amI];omega
theorem Holds.sub(r:Holds w0 L enc c s xs){lo hi:Nat}(h1:lo<=hi)(h2:hi<=xs.length):Holds w0 L enc c (s.sub c lo hi) ((xs.drop lo).take (hi -lo)):=fun w hw=>(r w hw).sub h1 h2
theorem xo{t e:TypeId}(hu:P.underlying t=some (.slice e)):P.elem t=e:=by simp[Program.elem,hu]
theorem EM{lo hi:Nat}(hs:s.Ok)(h2:lo<=hi)(h:hi<=s.cap): ∀a len cap,s.val= .slice a len cap->len=s.len/\cap=s.cap/\sliced a lo hi cap c=(s.sub c lo hi).val:=by
  intro a len cap e
  cases hn:s.nil with
  |true=>
   rw[Sv.p0 hn]at e;obtain⟨rfl,rfl,rfl⟩:=by simpa using e
   have:=hs.nil hn;have e2:(s.sub c lo hi).nil=true:=hn;rw[Sv.p0 e2];have:lo=0:=by omega
   have:hi=0:=by omega
   subst lo hi;exact⟨by omega,by omega,by simp[sliced]⟩
  |false=>
   rw[Sv.gn hn]at e;obtain⟨rfl,rfl,rfl⟩:=by simpa using e
   have e2:(s.sub c lo hi).nil=false:=hn;rw[Sv.gn e2];refine⟨rfl,rfl,?_⟩;simp only[sliced,Sv.sub]
   by_cases hc:s.cap=lo
   ·simp[hc]
   ·have eR:=hs.sp (by omega)
    simp[hc,eR,Addr.gl]
theorem Sv.ex(s:Sv): ∃ad len cap,s.val= .slice ad len cap:=by unfold Sv.val;split<;>exact⟨_,_,_,rfl⟩
theorem BZ{t e:TypeId}{x lo hi:Operand}{m l h:Nat}{k k':IntKind}{il ih:Int}[ht:ei P t e m](hx:ev env x=some s.val)(hl:ev env lo=some (.int k il))(hh:ev env hi=some (.int k' ih))(el:il=(l:Int))(eh:ih=(h:Int))(hs:s.Ok)(h1:l≤h)(h2:h≤s.cap):
    Ry P N w0 env L ⟨d, .slice t x (some lo) (some hi) none,ty,ps,af,gd⟩ (s.sub m l h).val:=fun a w ha _=>by
  subst el eh;have ee:=xo ht.dK;have hu:P.underlying t=some (.slice (P.elem t)):=by rw[ee];exact ht.dK
  obtain⟨ad,len,cap,mD⟩:=s.ex;obtain⟨e1,e2,e3⟩:=EM (c:=m) hs h1 h2 ad len cap mD;have hr:=run_slice_lh (P:=P) (w:=w) t ad len cap hu k k' (l:Int) (h:Int) (by omega) (by omega) (by omega);rw[ee,jW w ht.size]at hr;simp only[Result.andThen,am1,e3]at hr;simp only[execOp,ha.ev hx,ha.ev hl,ha.ev hh,mD,am3,aoo,run_sliceAt_slice (h:=hu),hr,Sem.run_bind,Result.andThen,Sem.run_pure]
theorem ue{t e:TypeId}{x hi:Operand}{m h:Nat}{k':IntKind}{ih:Int}[ht:ei P t e m](hx:ev env x=some s.val)(hh:ev env hi=some (.int k' ih))(eh:ih=(h:Int))(hs:s.Ok)(h2:h≤s.cap):
    Ry P N w0 env L ⟨d, .slice t x none (some hi) none,ty,ps,af,gd⟩ (s.sub m 0 h).val:=fun a w ha _=>by
  subst eh;have ee:=xo ht.dK;have hu:P.underlying t=some (.slice (P.elem t)):=by rw[ee];exact ht.dK
  obtain⟨ad,len,cap,mD⟩:=s.ex;obtain⟨e1,e2,e3⟩:=EM (c:=m) hs (amK h) h2 ad len cap mD;have hr:=run_slice_h (P:=P) (w:=w) t ad len cap hu k' (h:Int) (by omega) (by omega);rw[ee,jW w ht.size]at hr;simp only[Result.andThen,am1,e3]at hr;simp only[execOp,ha.ev hx,ha.ev hh,mD,am3,aoo,run_sliceAt_slice (h:=hu),hr,Sem.run_bind,Result.andThen,Sem.run_pure]
theorem qW{t e:TypeId}{x lo:Operand}{m l n:Nat}{k:IntKind}{il:Int}[ht:ei P t e m](hx:ev env x=some s.val)(hl:ev env lo=some (.int k il))(el:il=(l:Int))(hs:s.Ok)(hn:s.len=n)(h1:l≤n):
    Ry P N w0 env L ⟨d, .slice t x (some lo) none none,ty,ps,af,gd⟩ (s.sub m l n).val:=fun a w ha _=>by
  subst el hn;have ee:=xo ht.dK;have hu:P.underlying t=some (.slice (P.elem t)):=by rw[ee];exact ht.dK
  obtain⟨ad,len,cap,mD⟩:=s.ex;obtain⟨e1,e2,e3⟩:=EM (c:=m) hs h1 hs.le ad len cap mD;have hle:=hs.le;have hr:=run_slice_l (P:=P) (w:=w) t ad len cap hu k (l:Int) (by omega) (by omega);rw[ee,jW w ht.size]at hr;simp only[Result.andThen,am1,e1]at hr;rw[e1]at mD;rw[e3]at hr;simp only[execOp,ha.ev hx,ha.ev hl,mD,am3,aoo,run_sliceAt_slice (h:=hu),hr,Sem.run_bind,Result.andThen,Sem.run_pure]
end
theorem set_perm(x:ah): ∀(L:List ah) (i:Nat),i<L.length->(x::L.eraseIdx i).Perm (L.set i x)
  |[],_,h=>by simp at h
  |_::_,0,_=>by simp
  |a::L,i+1,h=>by
   simp only[aoD,List.set_cons_succ];exact(List.Perm.swap a x _).trans ((set_perm x L i (by simpa using h)).cons a)
theorem Mem.swap{w w':World}{E:ah}(h:Mem w0 L w){i:Nat}(hi:i<L.length)(h':Mem w [E] w'):Mem w0 (L.set i E) w':=
  ((h.call h').sub (L':=E::L.eraseIdx i) ((List.eraseIdx_sublist L i).cons_cons E)).perm (set_perm E L i hi)
theorem At.lt{L:List ah}{e:ah}{i:Nat}(h:L[i]? =some e):i<L.length:=(zz.1 h).1
class dC(P:Program)(t:TypeId)(e:outParam TypeId)(c:outParam Nat)(cf:outParam Nat):Prop where
  dK:P.underlying t=some (.slice e)
  row:(P.info? e).map (fun i=>(i.zero.map (·.cells.size),i.size,i.bytes))=some (some c,c,cf)
theorem dC.info{P:Program}{t e:TypeId}{c cf:Nat}(h:dC P t e c cf): ∃i z,P.info? e=some i/\i.zero=some z/\i.size=c/\i.bytes=cf/\z.cells.size=c:=by
  have h:=h.row
  cases hi:P.info? e with
  |none=>simp[hi]at h
  |some i=>
   cases hz:i.zero with
   |none=>simp[hi,hz]at h
   |some z=>simp[hi,hz]at h;exact⟨i,z,rfl,hz,h.2.1,h.2.2,h.1⟩
theorem qX{cs vs:Array Value}{o j:Nat}(ho:o+vs.size<=cs.size):(over cs o vs)[j]? =if o<=j/\j<o+vs.size then vs[j -o]?else cs[j]? :=by
  unfold over;simp only[anu];rw[ams,List.getElem?_append];have e1:(List.take o cs.toList).length=o:=by simp;omega
  rw[e1]
  by_cases h1:j<o
  ·rw[if_pos h1,if_neg (by omega),anO,if_pos h1];simp
  ·rw[if_neg h1,List.getElem?_append]
   by_cases h2:j -o<vs.toList.length
   ·rw[if_pos h2,if_pos (by simp at h2;omega)];simp
   ·rw[if_neg h2,if_neg (by simp at h2;omega),ang]
    simp at h2⊢;congr 1;omega
theorem mE{cs vs:Array Value}{o:Nat}(ho:o+vs.size<=cs.size):(over cs o vs).size=cs.size:=by
  simp[over];omega
theorem zA{P:Program}(g o:Nat)(t:TypeId)(fz:Nat×Nat): ∀(vs:List Value) (i:Nat) (cur:Array Value) (w:World),w.heap[g]? =some (.cells cur t fz)→EJ cur.size fz→o+i+vs.length≤cur.size→(∀v∈vs,v.oneCell'=true)→
    (storeCells ⟨g,o,none⟩ vs i).run P w= .ok () (w.setRow g (cur.toList.take (o+i)++vs++cur.toList.drop (o+i+vs.length)).toArray)
  |[],i,cur,w,hg,_,_,_=>by
   simp only[storeCells,am4,af0,anA,amO,Array.toArray_toList];rw[setRow_self w g cur t fz hg];rfl
  |v::rest,i,cur,w,hg,hf,hl,h1=>by
   have hi:o+i<cur.size:=by simp at hl;omega
   have RA:(⟨g,o,none⟩:Addr).add i=⟨g,o+i,none⟩:=by unfold Addr.add;split<;>simp_all
   have EN:w.cell? ⟨g,o+i,none⟩=some cur[o+i]:=by simp[World.cell?,hg,hi]
   have RB:w.frozen? ⟨g,o+i,none⟩=false:=by
      have:=hf (o+i) hi;obtain⟨a,b⟩:=fz;simp only[World.frozen?,hg];simp only[Bool.and_eq_false_iff,decide_eq_false_iff_not];omega
   have bE:(store ((⟨g,o,none⟩:Addr).add i) v).run P w= .ok () (w.setRow g (cur.setIfInBounds (o+i) v)):=by
      rw[RA,run_store P w _ v _ (h1 v (by simp)),EN];simp[RB,setCell_eq_setRow w g (o+i) cur t fz v hg]
   have ih:=zA (P:=P) g o t fz rest (i+1) (cur.setIfInBounds (o+i) v) (w.setRow g (cur.setIfInBounds (o+i) v)) (setRow_heap w g cur _ t _ hg) (by simpa using hf) (by simp at hl⊢;omega) (fun x hx=>h1 x (by simp[hx]));simp only[storeCells,Sem.run_bind,bE,Result.andThen_ok,ih,setRow_setRow];congr 3;have e:=list_seg_step cur.toList (o+i) v rest (by simp at hl⊢;omega);simpa[Array.toList_setIfInBounds,anz]using e
section
variable {α:Type} {enc:α->Array Value} {c:Nat}
def aH(enc:α->Array Value)(xs:List α):List Value:=xs.flatMap fun x=>(enc x).toList
theorem gp[he:bn enc c]: ∀xs:List α,(aH enc xs).length=xs.length*c
  |[]=>by simp[aH]
  |x::xs=>by
   have:=gp xs;simp only[aH,aoJ,adr]at this⊢;rw[this,anU,he.size,ad2,amI];omega
theorem lM[he:bn enc c]: ∀(xs:List α) (i:Nat) (x:α),xs[i]? =some x-> ∀j,j<c->(aH enc xs)[i*c+j]? =(enc x)[j]?
  |[],i,x,h,_,_=>by simp at h
  |y::xs,0,x,h,j,hj=>by
   obtain rfl:y=x:=by simpa using h
   simp only[aH,aoJ,Nat.zero_mul,amX];rw[amC (by rw[anU,he.size];exact hj)];simp
  |y::xs,i+1,x,h,j,hj=>by
   have:=lM xs i x (by simpa using h) j hj;simp only[aH,aoJ]at this⊢;rw[amw (by rw[anU,he.size,amI];omega),anU,he.size];rw[←this];congr 1;rw[amI];omega
theorem B2(hc:0<c)[he:bn enc c]{xs:List α}{k:Nat}{v:Value}(h:(aH enc xs)[k]? =some v): ∃x,xs[k/c]? =some x/\(enc x)[k%c]? =some v:=by
  have hk:k<xs.length*c:=by
    have:=(zz.1 h).1;rwa [gp]at this
  have hd:k/c<xs.length:=Nat.div_lt_of_lt_mul (by rwa [anv]);refine⟨xs[k/c],by simp[hd],?_⟩;rw[←lM xs (k/c) xs[k/c] (by simp[hd]) (k%c) (an1 _ hc),←h];congr 1;rw[anv];exact aop k c
theorem uf[he:bn enc c](xs:List α): ∀u∈aH enc xs,u.oneCell'=true:=fun u hu=>by
  obtain⟨x,_,hx⟩:=List.mem_flatMap.1 hu;exact(amU.1 (he.one x)) u (by simpa using hx)
theorem ug{h:Nat→Option Obj}{s:Sv}{xs:List α}{cs:Array Value}{T:TypeId}{fz:Nat×Nat}(ok:s.Ok)(hl:s.len=xs.length)(hb:h s.b=some (.cells cs T fz))
    (hc: ∀i x,xs[i]? =some x-> ∀j,j<c->cs[s.o+i*c+j]? =(enc x)[j]?):dL enc c h s xs:=
  ⟨ok,hl,fun i x hi j hj=>by unfold ll;rw[hb];exact hc i x hi j hj⟩
theorem gP{P:Program}{tx e':TypeId}(hk:P.underlying tx=some (.slice e'))(hc:0<c)[he:bn enc c]{w:World}{s:Sv}{xs:List α}(r:dL enc c (hp w) s xs):Src P c tx s.val xs.length (aH enc xs) w:=by
  cases hn:s.nil with
  |true=>
   have:xs=[]:=by have:=(r.ok.nil hn).1;rw[r.len]at this;exact amB.1 this
   subst this;rw[Sv.p0 hn];exact Src.ofNil w hk 0
  |false=>
   rw[Sv.gn hn,r.len];refine Src.ofSlice w hk _ _ _ _ (gp xs) (fun j u hu=>?_) (uf xs);obtain⟨x,hx,EO⟩:=B2 hc hu;have eR:=r.ok.sp (by have h1:=aoc (amK _) (zz.1 hx).1;have:=r.len;have:=r.ok.le;omega);rw[eR,Addr.gl,p6,←EO,←r.row _ x hx (j%c) (an1 _ hc)];congr 1;have:=aop j c;rw[anv]at this;omega
theorem JR{P:Program}{t tx ty e:TypeId}{cf:Nat}(ht:dC P t e c cf)(hc:0<c)[he:bn enc c]{w0 w:World}{L:List ah}{i:Nat}{s:Sv}{xs ys:List α}{x:Value}
    (hw:Mem w0 L w) (hi:L[i]? =some (own enc c s xs)) (hs:Src P c tx x ys.length (aH enc ys) w) (hb:(xs.length+ys.length)*cf<=140737488355328) (fQ:xs.length+ys.length<=140737488355328):
    ∃s' w',(Builtin.append_ #[t,tx] ty #[s.val,x]).run P w= .ok (Sv.val s') w'/\s'.Ok/\s'.len=(xs++ys).length/\Mem w0 (L.set i (own enc c s' (xs++ys))) w'/\((s'.nil=s.nil/\s'.b=s.b/\s'.o=s.o/\s'.cap=s.cap/\ ∀cs T fz,w.heap[s.b]? =some (.cells cs T fz)-> ∃cs',w'.heap[s.b]? =some (.cells cs' T fz))\/(s'.nil=false/\s'.o=0/\0<s'.cap/\ ∃cs,w'.heap[s'.b]? =some (.cells cs e (0,0)))):=by
  obtain⟨r,mF⟩:=hw.get hi;obtain⟨i',z,bf,aF,bo,cI,lN⟩:=ht.info;subst bo cI;have hlen:=r.len;have hle:=r.ok.le
  have grow:s.cap<s.len+ys.length→ ∀(base:Option Addr),s.val= .slice base s.len s.cap→(Builtin.firstCells i'.size s.len (.slice base s.len s.cap)).run P w.drew= .ok (aH enc xs).toArray w.drew→
      ∃s' w',(Builtin.append_ #[t,tx] ty #[s.val,x]).run P w= .ok (Sv.val s') w'/\s'.Ok/\s'.len=(xs++ys).length/\Mem w0 (L.set i (own enc i'.size s' (xs++ys))) w'/\((s'.nil=s.nil/\s'.b=s.b/\s'.o=s.o/\s'.cap=s.cap/\ ∀cs T fz,w.heap[s.b]? =some (.cells cs T fz)-> ∃cs',w'.heap[s.b]? =some (.cells cs' T fz))\/(s'.nil=false/\s'.o=0/\0<s'.cap/\ ∃cs,w'.heap[s'.b]? =some (.cells cs e (0,0)))):=by
    intro hg base hv hold;have uh:=nextslicecap_le hg;have ij:Builtin.nextslicecap (s.len+ys.length) s.cap*i'.bytes<=281474976710656:=by
      have h2:Builtin.nextslicecap (s.len+ys.length) s.cap*i'.bytes<=2*(s.len+ys.length)*i'.bytes:=amy _ uh;rw[Nat.mul_assoc,hlen]at h2;rw[hlen];omega
    have hr:=run_append_grow_src w t tx ty e i' z ht.dK bf aF base s.len s.cap (aH enc xs) hold x ys.length (aH enc ys) hs hg (by omega) ij;have qY:=grownCap_ge w (s.len+ys.length) s.cap e;generalize grownCap w (s.len+ys.length) s.cap e=C at hr qY;refine⟨⟨false,w.heap.size,0,s.len+ys.length,C,none⟩,_,by rw[hv,hr];rfl,⟨(fun h=>by cases h),qY,by simp only;omega,fun _=>rfl⟩,by simp[hlen],hw.swap (At.lt hi) ?_, .inr ⟨rfl,rfl,(show 0<C by omega),_,Below.zb w.drew _⟩⟩;have hm:=(Mem.init w).drew.alloc ((aH enc xs++aH enc ys).toArray++Builtin.zeroCells z.cells (C -(s.len+ys.length))) e;refine⟨hm.below,fun q hq=>?_,fun q hq k hk=>?_,by simp⟩
    ·obtain rfl:=amS.1 hq
     have eL:hp (w.drew.alloc (.cells ((aH enc xs++aH enc ys).toArray++Builtin.zeroCells z.cells (C -(s.len+ys.length))) e)) w.heap.size=some (.cells ((aH enc xs++aH enc ys).toArray++Builtin.zeroCells z.cells (C -(s.len+ys.length))) e (0,0)):=Below.zb w.drew _;have dM:aH enc xs++aH enc ys=aH enc (xs++ys):=by simp[aH]
     rw[dM]at eL;rw[dM];have dU:(aH enc (xs++ys)).length=(xs.length+ys.length)*i'.size:=by rw[gp];simp
     refine⟨ug (enc:=enc) (c:=i'.size) (xs:=xs++ys) ⟨(fun h=>by cases h),qY,by simp only;omega,fun _=>rfl⟩ (by simp[hlen]) eL fun k y hy j hj=>?_,fun _=>⟨rfl,_,_,_,eL,?_,EK _,fun _=>rfl⟩⟩
     ·have p8:=lM (enc:=enc) (xs++ys) k y hy j hj
      have bx:k*i'.size+j<(aH enc (xs++ys)).length:=by
          rw[dU];have h1:=(zz.1 hy).1;rw[adr]at h1
          calc k*i'.size+j<k*i'.size+i'.size:=by omega
            _=(k+1)*i'.size:=by rw[amI];omega
            _<=_:=amy _ h1
      simp only[amX];rw[←p8,amW (by simpa using bx)];simp
     ·have h3:=size_zeroCells z.cells (C -(s.len+ys.length))
      rw[lN]at h3;simp only[amT,am2,h3,dU,amX];rw[←amI,hlen];refine amy _ ?_;omega
    ·obtain rfl:=amS.1 hq
     obtain rfl:k=w.heap.size:=hk.2;simp
  rcases Bool.eq_false_or_eq_true s.nil with hn|hn
  ·
    have h0:=r.ok.nil hn;have dz:xs=[]:=by rw[hlen]at h0;exact amB.1 h0.1
    subst dz
    by_cases hy:ys.length=0
    ·have vB:ys=[]:=amB.1 hy
     subst vB;refine⟨s,w,?_,r.ok,by simpa using hlen,?_, .inl ⟨rfl,rfl,rfl,rfl,fun cs _ _ h=>⟨cs,h⟩⟩⟩
     ·rw[Sv.p0 hn]
      have zB:=hs.cells;simp only[af0]at zB;rcases hs.kind with⟨e',hk⟩|hk<;>simp[Builtin.append_,run_underlying ht.dK,run_underlying hk,sizeOf,typeInfo,bf,hs.len,zB]
     ·have:L.set i (own enc i'.size s ([]++[]))=L:=by
          rw[am4];refine anq fun k=>?_;rw[anD]
          by_cases hk:i=k
          ·subst hk;rw[if_pos rfl,hi,if_pos (At.lt hi)]
          ·rw[if_neg hk]
      rw[this];exact hw
    ·refine grow (by omega) .none (by rw[Sv.p0 hn,h0.1,h0.2]) ?_
     rw[h0.1,h0.2];exact run_firstCells_none w.drew _ _ _ _
  ·
    obtain⟨eR,cs,T,fz,eL,dU,lp,kN⟩:=mF hn
    by_cases nB:s.len+ys.length<=s.cap
    ·have hmul:(s.len+ys.length)*i'.size<=s.cap*i'.size:=amy _ nB
     have dM:(aH enc ys).length=ys.length*i'.size:=gp ys
     have ij:s.o+s.len*i'.size+(aH enc ys).toArray.size<=cs.size:=by
        rw[am2,dM];rw[amI]at hmul;omega
     have bE:=zA (P:=P) s.b (s.o+s.len*i'.size) T fz (aH enc ys) 0 cs w eL lp (by simpa using ij) hs.one
     have zC:(storeCells ⟨s.b,s.o+s.len*i'.size,none⟩ (aH enc ys)).run P w= .ok () (w.setRow s.b (over cs (s.o+s.len*i'.size) (aH enc ys).toArray)):=by
        simpa[over]using bE
     refine⟨{s with len:=s.len+ys.length},w.setRow s.b (over cs (s.o+s.len*i'.size) (aH enc ys).toArray),?_,⟨(fun h=>by rw[hn]at h;cases h),nB,by simp only;omega,r.ok.sp⟩,by simp[hlen],?_, .inl ⟨rfl,rfl,rfl,rfl,fun B3 T2 RC h2=>by
        have h3:=eL.symm.trans h2
        cases h3
        exact⟨_,setRow_heap w s.b cs _ T fz eL⟩⟩⟩
     ·have ki:({s with len:=s.len+ys.length}:Sv).val= .slice (some ⟨s.b,s.o,s.sp⟩) (s.len+ys.length) s.cap:=Sv.gn (s:={s with len:=s.len+ys.length}) hn
      rw[Sv.gn hn,ki,eR];rcases hs.kind with⟨e',hk⟩|hk<;>simp[Builtin.append_,run_underlying ht.dK,run_underlying hk,sizeOf,typeInfo,bf,hs.len,nB,hs.cells,Addr.gl,zC]
     ·have lq:hp (w.setRow s.b (over cs (s.o+s.len*i'.size) (aH enc ys).toArray)) s.b=some (.cells (over cs (s.o+s.len*i'.size) (aH enc ys).toArray) T fz):=setRow_heap w s.b cs _ T fz eL
      refine hw.change hi (fun k hk=>hk) (fun k hk=>?_) (by simp[World.setRow]) ⟨rfl,rfl,rfl⟩ ⟨ug ⟨(fun h=>by rw[hn]at h;cases h),nB,by simp only;omega,r.ok.sp⟩ (by simp[hlen]) lq fun k y hy j hj=>?_,fun _=>⟨eR,_,_,_,lq,?_,by rw[mE ij];exact lp,kN⟩⟩
      ·exact setRow_other w s.b k _ (fun e=>hk ⟨hn,e⟩)
      ·rw[qX ij]
       by_cases hk:k<xs.length
       ·rw[if_neg,←r.row k y (by rw[amC hk]at hy;exact hy) j hj]
        ·unfold ll;rw[eL]
        ·have:(k+1)*i'.size<=s.len*i'.size:=amy _ (by omega)
         rw[amI]at this;intro h;have:=h.1;simp only at this;omega
       ·rw[amw (by omega)]at hy
        have p8:=lM (enc:=enc) ys (k -xs.length) y hy j hj;have qa:s.len*i'.size+(k -xs.length)*i'.size=k*i'.size:=by rw[←amI];congr 1;omega
        have bx:(k -xs.length+1)*i'.size<=ys.length*i'.size:=amy _ (by have:=(zz.1 hy).1;omega);rw[amI]at bx;rw[if_pos ⟨by simp only;omega,by rw[am2,dM];simp only;omega⟩,←p8];simp only[anu];congr 1;omega
      ·rw[mE ij];exact dU
    ·refine grow (by omega) _ (by rw[Sv.gn hn,eR]) ?_
     refine run_firstCells_some w.drew _ _ _ _ _ _ (by rw[gp,hlen]) fun j u hu=>?_;obtain⟨y,hy,EO⟩:=B2 hc hu;have:=r.row _ y hy (j%i'.size) (an1 _ hc);rw[EO]at this;rw[Addr.gl];show w.cell? _=_;rw[p6,←this];congr 1;have h9:=aop j i'.size;rw[anv]at h9;omega
theorem EP{P:Program}{t tx ty e:TypeId}{cf:Nat}(ht:dC P t e c cf)(hc:0<c)[he:bn enc c]{w0 w:World}{L:List ah}{i:Nat}{s:Sv}{xs ys:List α}{x:Value}
    (hw:Mem w0 L w) (hi:L[i]? =some (own enc c s xs)) (hs:Src P c tx x ys.length (aH enc ys) w) (hb:(xs.length+ys.length)*cf<=140737488355328) (fQ:xs.length+ys.length<=140737488355328):
    ∃s' w',(Builtin.append_ #[t,tx] ty #[s.val,x]).run P w= .ok (Sv.val s') w'/\s'.Ok/\s'.len=(xs++ys).length/\Mem w0 (L.set i (own enc c s' (xs++ys))) w':=by
  obtain⟨s',w',h1,h2,h3,h4,_⟩:=JR (ty:=ty) ht hc hw hi hs hb fQ;exact⟨s',w',h1,h2,h3,h4⟩
theorem JS(off:Nat): ∀(vs:List Value) (k:Nat) (cs:Array Value),off+k+vs.length≤cs.size→
    (vs.zipIdx k).foldl (fun cs (p:Value×Nat)=>cs.setIfInBounds (off+p.2) p.1) cs=(cs.toList.take (off+k)++vs++cs.toList.drop (off+k+vs.length)).toArray
  |[],k,cs,_=>by simp
  |v::vs,k,cs,h=>by
   simp only[List.zipIdx_cons,aoq,ad2]at h⊢;rw[JS off vs (k+1) _ (by simp;omega)];apply aol;have e1:(cs.setIfInBounds (off+k) v).toList=cs.toList.set (off+k) v:=by simp
   rw[e1];have bx:off+k<cs.toList.length:=by simp;omega
   have e2:(cs.toList.set (off+k) v).take (off+(k+1))=cs.toList.take (off+k)++[v]:=by
      rw[←anz,amq,aoj (amz _),amP bx];rfl
   have e3:(cs.toList.set (off+k) v).drop (off+(k+1)+vs.length)=cs.toList.drop (off+k+(vs.length+1)):=by
      rw[List.drop_set_of_lt (by omega)];congr 1;omega
   rw[e2,e3];simp
def idx(vals:List Value)(i:Nat):List (Nat×Value):=(vals.zipIdx i).map fun p=>(p.2,p.1)
theorem JT[he:bn enc c]: ∀(xs:List α) (vals:List Value) (i:Nat) (cs:Array Value),vals.map Value.cells=xs.map enc→i*c+xs.length*c≤cs.size→
    Instr.fill (fun i=>some (i*c,c)) cs (idx vals i)=some (cs.toList.take (i*c)++aH enc xs++cs.toList.drop (i*c+xs.length*c)).toArray
  |[],[],i,cs,_,_=>by simp[idx,Instr.fill,aH]
  |[],_::_,_,_,h,_=>by simp at h
  |_::_,[],_,_,h,_=>by simp at h
  |x::xs,v::vals,i,cs,h,hs=>by
   simp only[amR,aor]at h;obtain⟨h1,h2⟩:=h;have dU:v.cells.size=c:=by rw[h1];exact he.size x
   rw[ad2,amI,Nat.one_mul]at hs;simp only[idx,List.zipIdx_cons,amR,Instr.fill,dU];rw[if_neg (by simp;omega)]
   have ef:v.cells.zipIdx.foldl (fun cs (p:Value×Nat)=>cs.setIfInBounds (i*c+p.2) p.1) cs=(cs.toList.take (i*c)++v.cells.toList++cs.toList.drop (i*c+c)).toArray:=by
      have:=JS (i*c) v.cells.toList 0 cs (by simp;omega);simp only[anA]at this;rw[←Array.foldl_toList,Array.toList_zipIdx,this];simp[dU]
   have RD:(v.cells.zipIdx.foldl (fun cs (x:Value×Nat)=>match x with|(c',j)=>cs.setIfInBounds (i*c+j) c') cs)=(cs.toList.take (i*c)++v.cells.toList++cs.toList.drop (i*c+c)).toArray:=ef
   rw[RD];have zD:(cs.toList.take (i*c)++v.cells.toList).length=(i+1)*c:=by simp[dU,amI];omega
   have:=JT xs vals (i+1) (cs.toList.take (i*c)++v.cells.toList++cs.toList.drop (i*c+c)).toArray h2 (by simp[dU,amI];omega);unfold idx at this;rw[this];congr 1;apply aol;rw[List.take_left' zD,←aox (j:=(i+1)*c) (i:=xs.length*c),List.drop_left' zD];simp only[aH,aoJ,h1,ams,List.append_cancel_left_eq];rw[aox,ad2,show i*c+c+xs.length*c=i*c+(xs.length+1)*c by rw[amI];omega]
end
section
variable {P:Program} {N:cc} {w0:World} {env:Env} {L:List ah} {l:List Oper} {Q:Exit->Act->World->Prop} {rest:List Oper} {d:Option Tmp} {ty:TypeId} {ps:String} {af:Array Edge}
variable {α:Type} {enc:α->Array Value} {c:Nat} {s:Sv} {xs ys:List α}
class eS(L:List ah)(s:Sv){α:outParam Type}(enc:outParam (α->Array Value))(c:outParam Nat)(xs:outParam (List α))(i:outParam Nat):Prop where
  h:L[i]? =some (own enc c s xs)
instance (priority:=high) eS.here {L:List ah}:eS (own enc c s xs::L) s enc c xs 0:=⟨rfl⟩
instance eS.there{L:List ah}{e:ah}{i:Nat}[q:eS L s enc c xs i]:eS (e::L) s enc c xs (i+1):=⟨by simpa using q.h⟩
theorem eS.holds{i:Nat}(q:eS L s enc c xs i):Holds w0 L enc c s xs:=fun _ hw=>(hw.get q.h).1
theorem Mem.cJ{w:World}(enc:α->Array Value)(c:Nat)(h:Mem w0 L w):Mem w0 (own enc c Sv.none []::L) w:=
  h.call (E:=[own enc c Sv.none []]) ⟨Below.refl _ _,fun e he=>by
    obtain rfl:=amS.1 he;exact⟨dL.nil enc c _,(fun h=>by cases h)⟩,fun e he k hk=>by
    obtain rfl:=amS.1 he;exact absurd hk.1 (by simp[Sv.none]),by simp⟩
theorem jY{t tx e:TypeId}{x y:Operand}{yv:Value}{cf i:Nat}[ht:dC P t e c cf][he:bn enc c](hx:ev env x=some s.val)(hy:ev env y=some yv)[q:eS L s enc c xs i](hc:0<c)
    (hs: ∀w,Mem w0 L w->Src P c tx yv ys.length (aH enc ys) w) (hb:(xs.length+ys.length)*cf<=140737488355328) (fQ:xs.length+ys.length<=140737488355328) {L':Sv->List ah} [hu: ∀s',eK L i (own enc c s' (xs++ys)) (L' s')]
    (hk: ∀s':Sv,s'.Ok->s'.len=(xs++ys).length->Sq P N w0 l Q rest (bZ env d s'.val) (L' s')) (hd:cN N d=true:=by rfl):
    Sq P N w0 l Q (⟨d, .call {callee:= .builtin .append,args:= #[x,y],argTypes:= #[t,tx]},ty,ps,af,none⟩::rest) env L:=
  lj rfl hd fun a w ha hw=>by
    obtain⟨s',w',h1,h2,h3,h4⟩:=EP (ty:=ty) ht hc hw q.h (hs w hw) hb fQ;refine⟨s'.val,w',L' s',?_,by rw[←(hu s').h];exact h4,hk s' h2 h3⟩;simp[execOp,ha.ev hx,ha.ev hy,resolve,invoke,builtin,h1,Result.andThen]
theorem ui{w:World}{b:Nat}{cs:Array Value}{e:TypeId}(hb:b=w.heap.size)(n cap:Nat)(hn:n=xs.length)(hle:n≤cap)(fQ:n≤140737488355328)(dU:cap*c≤cs.size)(hc: ∀i x,xs[i]? =some x→ ∀j,j<c→cs[i*c+j]? =(enc x)[j]?):
    Mem w [own enc c ⟨false,b,0,n,cap,none⟩ xs] (w.alloc (.cells cs e)):=by
  subst hb;have hm:=(Mem.init w).alloc cs e;have eL:hp (w.alloc (.cells cs e)) w.heap.size=some (.cells cs e (0,0)):=Below.zb w _;refine⟨hm.below,fun q hq=>?_,fun q hq k hk=>?_,by simp⟩
  ·obtain rfl:=amS.1 hq
   exact⟨ug ⟨(fun h=>by cases h),hle,fQ,fun _=>rfl⟩ hn eL (by simpa using hc),fun _=>⟨rfl,_,_,_,eL,by simpa using dU,EK _,fun _=>rfl⟩⟩
  ·obtain rfl:=amS.1 hq
   obtain rfl:k=w.heap.size:=hk.2;simp
theorem B4{n c:Nat}(h0:0<n*c)(h:n*c<=16777216):n<=140737488355328:=by
  have:n*1≤n*c:=Nat.mul_le_mul_left _ (by rcases anW c with rfl|h';·simp at h0
                                          ·exact h')
  omega
theorem B5{t e:TypeId}{cf:Nat}(ht:dC P t e c cf)[he:bn enc c]{vals:List Value}(hv:vals.map Value.cells=xs.map enc)(hc:0<xs.length*c)(pj:xs.length*c≤16777216)(w:World):
    (Instr.buildSlice t xs.length (idx vals 0).toArray).run P w= .ok (.slice (some ⟨w.heap.size,0,none⟩) xs.length xs.length) (w.alloc (.cells (aH enc xs).toArray e)):=by
  obtain⟨i',z,bf,aF,bo,cI,lN⟩:=ht.info;subst bo;have hf:=JT (enc:=enc) (c:=i'.size) xs vals 0 ((Array.range (xs.length*i'.size)).map (z.cells[· %z.cells.size]!)) hv (by simp);have RE:((Array.range (xs.length*i'.size)).map (z.cells[· %z.cells.size]!)).toList.drop (0*i'.size+xs.length*i'.size)=[]:=by simp
  rw[RE]at hf;simp only[Nat.zero_mul,amL,am6,am4]at hf;have n1: ¬xs.length*i'.size>2^24:=by omega
  have n2: ¬xs.length*i'.size=0:=by omega
  simp[Instr.buildSlice,run_underlying ht.dK,sizeOf,typeInfo,zeroValue,bf,aF,n1,n2,hf,newRow,newObj,Sem.run,Result.andThen]
theorem kO{t e:TypeId}{cf n:Nat}[ht:dC P t e c cf][he:bn enc c]{ops:List (Nat×Operand)}{vals:List Value}(xs:List α)(hx:jB env ops=some (idx vals 0))(hv:vals.map Value.cells=xs.map enc)(hn:xs.length=n)(hc:0<n*c)(pj:n*c≤16777216)
    (hk: ∀b,Sq P N w0 l Q rest (bZ env d (Sv.val ⟨false,b,0,n,n,none⟩)) (own enc c ⟨false,b,0,n,n,none⟩ xs::L)) (hd:cN N d=true:=by rfl):
    Sq P N w0 l Q (⟨d, .buildSlice t n ops.toArray,ty,ps,af,none⟩::rest) env L:=
  lj rfl hd fun a w ha hw=>by
    subst hn;have e1:(ops.toArray.map fun(p:Nat×Operand)=>match p with|(i,x)=>(i,a.eval x))=(idx vals 0).toArray:=by
      rw[←ha.jB hx];simp
    refine⟨_,_,_,?_,hw.call (ui (enc:=enc) (c:=c) (xs:=xs) (cs:=(aH enc xs).toArray) (e:=e) rfl xs.length xs.length rfl (amz _) (B4 hc pj) (by simp[gp]) fun i x hx j hj=>by rw[←lM (enc:=enc) xs i x hx j hj];simp),hk _⟩;simp only[execOp,e1,Sem.run_bind,B5 ht hv hc pj w,Result.andThen,Sem.run_pure];rfl
theorem RF{Lq:List ah}{n' j:Nat}{js:List Nat}{t e:TypeId}{cf n:Nat}{ops:List (Nat×Operand)}(hj:l[j]? =some ⟨d, .buildSlice t n ops.toArray,ty,ps,af,none⟩)[ht:dC P t e c cf][he:bn enc c]{vals:List Value}(xs:List α)(hx:jB env ops=some (idx vals 0))(hv:vals.map Value.cells=xs.map enc)(hn:xs.length=n)(hc:0<n*c)(pj:n*c≤16777216)
    (hk: ∀b,Fr P N w0 Lq l n' Q js (bZ env d (Sv.val ⟨false,b,0,n,n,none⟩)) (own enc c ⟨false,b,0,n,n,none⟩ xs::L)) (hd:cN N d=true:=by rfl):
    Fr P N w0 Lq l n' Q (j::js) env L:=
  Rl hj rfl hd fun a w ha hw=>by
    subst hn;have e1:(ops.toArray.map fun(p:Nat×Operand)=>match p with|(i,x)=>(i,a.eval x))=(idx vals 0).toArray:=by
      rw[←ha.jB hx];simp
    refine⟨_,_,[own enc c ⟨false,w.heap.size,0,xs.length,xs.length,none⟩ xs],?_,ui (enc:=enc) (c:=c) (xs:=xs) (cs:=(aH enc xs).toArray) (e:=e) rfl xs.length xs.length rfl (amz _) (B4 hc pj) (by simp[gp]) fun i x hx j hj=>by rw[←lM (enc:=enc) xs i x hx j hj];simp,hk _⟩;simp only[execOp,e1,Sem.run_bind,B5 ht hv hc pj w,Result.andThen,Sem.run_pure];rfl
theorem RG{zc:Array Value}(m n:Nat)(h:zc.size=c)(i j:Nat)(hi:i<n)(hj:j<c)(hm:n*c<=m):(madeCells zc m)[i*c+j]? =zc[j]? :=by
  have bx:i*c+j<m:=by
    have:(i+1)*c<=n*c:=amy _ hi;rw[amI]at this;omega
  have e1:(i*c+j)%zc.size=j:=by rw[h,anv,Nat.mul_add_mod];exact amY hj
  have hz:j<zc.size:=by omega
  simp[madeCells,bx,e1,hz]
theorem ER{t e:TypeId}{cf n cap:Nat}{z:Value}(ht:dC P t e c cf)(hz:dH P e z){k k':IntKind}(x0:α)(h0:enc x0=z.cells)(hle:n≤cap)(hb:cf*cap≤281474976710656)(fQ:cap≤140737488355328)(w:World):
    ∃w',(Instr.makeSlice t (.int k n) (.int k' cap)).run P w= .ok (Sv.val ⟨false,w.heap.size,0,n,cap,none⟩) w'/\Mem w [own enc c ⟨false,w.heap.size,0,n,cap,none⟩ (List.replicate n x0)] w':=by
  obtain⟨i',z',bf,aF,bo,cI,lN⟩:=ht.info;obtain rfl:z'=z:=by
    have:=hz.zero;rw[bf,am3,aF]at this;exact amn (amn this)
  subst bo cI;have lq:(i'.bytes:Int)*(cap:Int)<=281474976710656:=by
    have h:((i'.bytes*cap:Nat):Int)<=281474976710656:=by omega
    rwa [Int.natCast_mul]at h
  have hr:=run_make (P:=P) w t e i' _ ht.dK bf aF k k' n cap (by omega) (by omega) lq (by omega);simp only[am1]at hr;refine⟨_,hr,ui rfl n cap (by simp) hle (by omega) (by simp[size_madeCells]) fun i x hx j hj=>?_⟩;have hi:i<n:=by
    have:=(zz.1 hx).1;simpa using this
  obtain rfl:x0=x:=by rw[aoi,if_pos hi]at hx;exact amn hx
  rw[h0];exact RG _ n lN i j hi hj (amy _ hle)
theorem sJ{t e:TypeId}{cf n cap:Nat}{z:Value}{x y:Operand}{k k':IntKind}{ix iy:Int}[ht:dC P t e c cf][hz:dH P e z](x0:α)(h0:enc x0=z.cells)(hx:ev env x=some (.int k ix))(hy:ev env y=some (.int k' iy))(ex:ix=(n:Int))(ey:iy=(cap:Int))(hle:n≤cap)(hb:cf*cap≤281474976710656)(fQ:cap≤140737488355328)
    (hk: ∀b,Sq P N w0 l Q rest (bZ env d (Sv.val ⟨false,b,0,n,cap,none⟩)) (own enc c ⟨false,b,0,n,cap,none⟩ (List.replicate n x0)::L)) (hd:cN N d=true:=by rfl):
    Sq P N w0 l Q (⟨d, .makeSlice t x y,ty,ps,af,none⟩::rest) env L:=
  lj rfl hd fun a w ha hw=>by
    subst ex ey;obtain⟨w',h1,h2⟩:=ER ht hz (k:=k) (k':=k') (n:=n) x0 h0 hle hb fQ w;exact⟨_,w',_,by simp only[execOp,ha.ev hx,ha.ev hy,Sem.run_bind,h1,Result.andThen,Sem.run_pure],hw.call h2,hk _⟩
theorem JU{w:World}{L':List ah}{i k j:Nat}{a a':α}{vs:Array Value}[he:bn enc c](hw:Mem w0 L w)(q:eS L s enc c xs i)(ha:xs[k]? =some a)(hv:vs.all (·.oneCell')=true)(hj:j+vs.size≤c)(og:over (enc a) j vs=enc a')(hu:eK L i (own enc c s (xs.set k a')) L'):
    ∃w',(storeCells ⟨s.b,s.o+k*c+j,none⟩ vs.toList).run P w= .ok () w'/\Mem w0 L' w':=by
  obtain⟨r,mF⟩:=hw.get q.h;have hk:k<xs.length:=(zz.1 ha).1;have hn:=r.some hk;have hle:=r.ok.le;have hlen:=r.len;obtain⟨eR,cs,T,fz,eL,dU,lp,kN⟩:=mF hn;have hmul:(k+1)*c<=s.cap*c:=amy _ (by omega);have acB:=hmul;rw[amI]at hmul;have ij:s.o+k*c+j+vs.size<=cs.size:=by omega
  have bE:=zA (P:=P) s.b (s.o+k*c+j) T fz vs.toList 0 cs w eL lp (by simpa using ij) (fun v ki=>(amU.1 hv) v (by simpa using ki));refine⟨w.setRow s.b (over cs (s.o+k*c+j) vs),by simpa[over]using bE,?_⟩;have lq:hp (w.setRow s.b (over cs (s.o+k*c+j) vs)) s.b=some (.cells (over cs (s.o+k*c+j) vs) T fz):=setRow_heap w s.b cs _ T fz eL;rw[←hu.h];refine hw.change q.h (fun k hk=>hk) (fun x hx=>setRow_other w s.b x _ (fun e=>hx ⟨hn,e⟩)) (by simp[World.setRow]) ⟨rfl,rfl,rfl⟩ ⟨ug r.ok (by simpa using hlen) lq fun x y hy p gY=>?_,fun _=>⟨eR,_,_,_,lq,by rw[mE ij];exact dU,by rw[mE ij];exact lp,kN⟩⟩;rw[qX ij]
  by_cases JV:x=k
  ·subst JV
   obtain rfl:a'=y:=by rw[amP hk]at hy;exact amn hy
   rw[←og,qX (by rw[he.size];exact hj)]
   by_cases h1:j<=p/\p<j+vs.size
   ·rw[if_pos h1,if_pos (by omega)];congr 1;omega
   ·rw[if_neg h1,if_neg (by omega),←r.row x a ha p gY]
    unfold ll;rw[eL]
  ·rw[aog (by omega)]at hy
   rw[if_neg,←r.row x y hy p gY]
   ·unfold ll;rw[eL]
   ·intro h
    rcases Nat.lt_or_gt_of_ne JV with h'|h'
    ·have:(x+1)*c<=k*c:=amy _ h'
     rw[amI]at this;omega
    ·have:(k+1)*c<=x*c:=amy _ h'
     rw[amI]at this;omega
theorem kj{t:TypeId}{x y:Operand}{i k j n p:Nat}{a a':α}{v:Value}(sz:(P.info? t).map (·.size)=some n)[he:bn enc c](hx:ev env x=some (.pointer (some ⟨s.b,p,none⟩)))(hy:ev env y=some v)[q:eS L s enc c xs i](gY:p=s.o+k*c+j)
    (ha:xs[k]? =some a) (hv:v.cells.all (·.oneCell')=true) (hn:v.cells.size=n) (hj:j+n<=c) (og:over (enc a) j v.cells=enc a') {L':List ah} [hu:eK L i (own enc c s (xs.set k a')) L'] (hk:Sq P N w0 l Q rest env L'):
    Sq P N w0 l Q (⟨none, .store t x y,ty,ps,af,none⟩::rest) env L:=
  BR rfl rfl fun aa w zE hw=>by
    subst gY hn;obtain⟨w',h1,h2⟩:=JU (P:=P) hw q ha hv hj og hu;refine⟨w',_,?_,h2,hk⟩;simp only[execOp,zE.ev hx,zE.ev hy,Instr.storeAt,Instr.sureAddr,storeVar,Sem.run_bind,Sem.run_pure,Result.andThen,jW w sz];simp[h1]
theorem RH{X:Type}{val:X→Value}{L':X→List ah}{pr:X→Prop}{f:FuncId}{xs:List Operand}{ts:Array TypeId}{vs:List Value}[hf:aC P f](hx:gh env xs=some vs)
    (hc: ∀w,Mem w0 L w->Calls P f vs.toArray w fun e w'=> ∃x,e= .returned (val x)/\pr x/\Mem w0 (L' x) w') (hk: ∀x,pr x->Sq P N w0 l Q rest (bZ env d (val x)) (L' x)) (hd:cN N d=true:=by rfl):
    Sq P N w0 l Q (⟨d, .call {callee:= .value (.func f),args:=xs.toArray,argTypes:=ts},ty,ps,af,none⟩::rest) env L:=fun a w ha hw=>by
  unfold wpList;rw[if_pos (pY rfl)];refine .inl ?_;unfold Oper.wp;rw[BO hf w rfl,ha.gh hx];exact(hc w hw).mono fun e w' ⟨x,he,hp,hm⟩=>by subst he;exact hk x hp _ _ (ha.put hd _) hm
theorem fI{N:Nat}{fn:Func}{R:Ending→World→Prop}{f:FuncId}{c:Code}{args:List Value}{w:World}(hf:P.funcs[f]? =some fn)(hb:fn.body=some c)(hN:fn.ntmps=N)(hle:Nat.ble args.length N=true)(hw:Mem w0 L w)
    (h:Cw P ⟨N,[],none⟩ w0 (pT P fn R) c (args.zipIdx.map fun p=>(p.2,p.1)) L):Calls P f args.toArray w R:=
  Jj hf hb (h _ _ (by rw[hN];exact cM.enter args N (Nat.le_of_ble_eq_true hle)) hw)
theorem B6{b n i:Nat}{cs:Array Value}{T:TypeId}[hi:Has L b cs T i][he:bn enc c](fH:cs=(aH enc xs).toArray)(hn:xs.length=n)(fQ:n<=140737488355328:=by decide):Holds w0 L enc c ⟨false,b,0,n,n,none⟩ xs:=fun w hw=>by
  have hb:=hw.block hi.h;exact ug ⟨(fun h=>by cases h),amz _,fQ,fun _=>rfl⟩ hn.symm hb fun k x hx j hj=>by
    rw[←lM (enc:=enc) xs k x hx j hj,fH];simp
def xp(tmps:Array Value)(r:ResultVar):Sem Value:=match r with
  | .tmp t=>pure (tmps.getD t undef)
  | .cell c t=>do loadVar t (←asAddr (tmps.getD c undef))
theorem ES(fn:Func)(tmps:Array Value):results fn tmps=(do let vs←fn.results.mapM (xp tmps);pure (if h:vs.size=1 then vs[0]else .tuple vs)):=by
  have:(fun r=>xp tmps r)=(fun| .tmp t=>pure (tmps.getD t undef)| .cell a t=>do loadVar t (←asAddr (tmps.getD a undef)):ResultVar->Sem Value):=by
    funext r;cases r<;>rfl
  show _=(do let vs←fn.results.mapM (fun r=>xp tmps r);pure (if h:vs.size=1 then vs[0]else .tuple vs));rw[this];rfl
def RV(P:Program)(N:cc)(w0:World)(env:Env)(L:List ah)(r:ResultVar)(v:Value):Prop:= ∀a w,cM N env a->Mem w0 L w->(xp a.tmps r).run P w= .ok v w
theorem xq{t:Nat}{v:Value}(hv:look env t=some v):RV P N w0 env L (.tmp t) v:=fun a w ha _=>by
  have:=ha.get _ _ hv;simp[xp,this]
theorem xr{t b i n:Nat}{T T':TypeId}{cs:Array Value}(hv:look env t=some (.pointer (some ⟨b,0,none⟩)))[ht:eX P T n][hi:Has L b cs T' i][hn:eY cs n]:RV P N w0 env L (.cell t T) (.agg cs):=fun a w ha hw=>by
  have h1:=ha.get _ _ hv;have h2:(loadVar T ⟨b,0,none⟩).run P w= .ok (.agg cs) w:=Ew w ht hn.h fun j _=>by rw[Addr.gl,hw.cell hi.h,amX]
  simp[xp,h1,asAddr,h2]
variable {fn:Func} {r1 r2 r3:ResultVar} {v1 v2 v3:Value}
theorem RI{A B:Type}(f:A->Sem B)(x y:A):(#[x,y]:Array A).mapM f=(do let a←f x;let b←f y;pure #[a,b]):=by simp
theorem RJ{A B:Type}(f:A->Sem B)(x y z:A):(#[x,y,z]:Array A).mapM f=(do let a←f x;let b←f y;let c←f z;pure #[a,b,c]):=by simp
theorem JW(hf:fn.results= #[r1])(h1:RV P N w0 env L r1 v1): ∀a w,cM N env a->Mem w0 L w->(results fn a.tmps).run P w= .ok v1 w:=fun a w ha hw=>by
  have e1:=h1 a w ha hw;rw[ES,hf];simp[e1]
theorem RL(hf:fn.results= #[r1,r2])(h1:RV P N w0 env L r1 v1)(h2:RV P N w0 env L r2 v2): ∀a w,cM N env a->Mem w0 L w->(results fn a.tmps).run P w= .ok (.tuple #[v1,v2]) w:=fun a w ha hw=>by
  have e1:=h1 a w ha hw;have e2:=h2 a w ha hw;rw[ES,hf,RI];simp[e1,e2]
theorem RM(hf:fn.results= #[r1,r2,r3])(h1:RV P N w0 env L r1 v1)(h2:RV P N w0 env L r2 v2)(h3:RV P N w0 env L r3 v3): ∀a w,cM N env a->Mem w0 L w->(results fn a.tmps).run P w= .ok (.tuple #[v1,v2,v3]) w:=fun a w ha hw=>by
  have e1:=h1 a w ha hw;have e2:=h2 a w ha hw;have e3:=h3 a w ha hw;rw[ES,hf,RJ];simp[e1,e2,e3]
end
def aL(b:UInt8):Array Value:= #[.int .u8 b.toNat]
instance:bn aL 1:=⟨fun _=>rfl,fun _=>by simp[aL,Value.oneCell']⟩
instance (b:UInt8):bH (aL b) 0 (.int .u8 b.toNat):=⟨rfl⟩
def qZ(s:Sv):Array Value:= #[s.val]
instance:bn qZ 1:=⟨fun _=>rfl,fun s=>by simp[qZ,Sv.one]⟩
def b8(n:Nat):UInt8:=UInt8.ofNat n
theorem ET(n:Nat):(b8 n).toNat=n%256:=by simp[b8]
theorem RN(n:Nat):IntKind.u8.wrap (n:Int)=((b8 n).toNat:Int):=by
 rw[ET];simp[IntKind.wrap,IntKind.bits,IntKind.signed]
def be(n:Nat):Nat->List UInt8
 |0=>[]
 |k+1=>b8 (n/256^k)::be n k
theorem mG(n:Nat): ∀k,(be n k).length=k
 |0=>rfl
 |k+1=>by simp[be,mG n k]
def de(l:List UInt8):Nat:=l.foldl (fun a b=>a*256+b.toNat) 0
theorem JX{xs:List UInt8}{i:Nat}{b:UInt8}(h:xs[i]? =some b):de (xs.take (i+1))=de (xs.take i)*256+b.toNat:=by
 rw[amq,h];simp[de]
theorem EU(xs:List UInt8): ∀i,i<=xs.length->de (xs.take i)<256^i
 |0,_=>by simp[de]
 |i+1,h=>by
  have:=EU xs i (by omega);rw[JX (b:=xs[i]) (by simp),Nat.pow_succ];have:=xs[i].toNat_lt;omega
section
variable {P:Program} {N:cc} {w0:World} {env:Env} {L:List ah} {d:Option Tmp} {ty:TypeId} {ps:String} {af:Array Edge} {gd:Option (Nat×Bool)}
variable {x y:Operand} {k k':IntKind} {p q:Nat} {t u s:TypeId}
theorem EV{a b:Int}(hx:ev env x=some (.int k a))(hy:ev env y=some (.int k b))(ea:a=p)(eb:b=q)(hq:0<q):
  Ry P N w0 env L ⟨d, .binOp .rem t x y u,ty,ps,af,gd⟩ (.int k ((p%q:Nat):Int)):=da hx hy (by
 subst ea eb;rw[kI,if_neg (by omega),←Int.ofNat_tmod])
theorem RO{a b:Int}(hx:ev env x=some (.int k a))(hy:ev env y=some (.int k b))(ea:a=p)(eb:b=q)(h:p*q<2^nb k):
  Ry P N w0 env L ⟨d, .binOp .mul t x y u,ty,ps,af,gd⟩ (.int k ((p*q:Nat):Int)):=da hx hy (by
 subst ea eb;rw[kI,←Int.natCast_mul,od h])
theorem zF{n:Nat}{a:Int}[hs:kh P s k'][ht:kh P t .u8](hx:ev env x=some (.int k' a))(ea:a=n):
  Ry P N w0 env L ⟨d, .convert s t x,ty,ps,af,gd⟩ (.int .u8 (b8 n).toNat):=sE hx (by subst ea;exact RN n)
theorem RP{e:TypeId}{sv:Sv}{xs:List UInt8}(hs:P.underlying s=some (.slice e))(he:P.underlying e=some (.int .u8))(hd:P.underlying t=some .string)(hx:ev env x=some sv.val)(hR:Holds w0 L aL 1 sv xs):
  Ry P N w0 env L ⟨d, .convert s t x,ty,ps,af,gd⟩ (.string ⟨xs.toArray⟩):=fun a w ha hw=>by
 have r:=hR w hw;have hr:(convert s t sv.val).run P w= .ok (.string ⟨xs.toArray⟩) w:=by
  cases hn:sv.nil with
  |true=>
   have:xs=[]:=by have:=(r.ok.nil hn).1;rw[r.len]at this;exact amB.1 this
   subst this;rw[Sv.p0 hn,run_convert_bytes_string w s t e none 0 0 hs he hd];rfl
  |false=>
   rw[Sv.gn hn,r.len];refine run_convert_bytes_back w s t e _ _ xs hs he hd fun j hj=>?_;rw[r.ok.sp (by have:=r.len;have:=r.ok.le;omega)];rw[Addr.gl,p6];have:=r.row j xs[j] (by simp) 0 (by decide);simp only[an0,anA]at this;rw[this];rfl
 simp only[execOp,ha.ev hx,Sem.run_bind,hr,Result.andThen,Sem.run_pure]
theorem RQ{a b:ByteArray}(hx:ev env x=some (.string a))(hy:ev env y=some (.string b)):
  Ry P N w0 env L ⟨d, .binOp .eql t x y u,ty,ps,af,gd⟩ (.bool (a.toList==b.toList)):=fun aa w ha _=>by
 have h2:(eqGuard BinOp.eql t x y (.string a) (.string b)).run P w= .ok () w:=rfl;simp only[execOp,ha.ev hx,ha.ev hy,Sem.run_bind,h2,Result.andThen_ok,binOp_string_eql,Sem.run_pure]
theorem RR{a b:ByteArray}(hx:ev env x=some (.string a))(hy:ev env y=some (.string b)):
  Ry P N w0 env L ⟨d, .binOp .neq t x y u,ty,ps,af,gd⟩ (.bool (!(a.toList==b.toList))):=fun aa w ha _=>by
 have h2:(eqGuard BinOp.neq t x y (.string a) (.string b)).run P w= .ok () w:=rfl;simp only[execOp,ha.ev hx,ha.ev hy,Sem.run_bind,h2,Result.andThen_ok,binOp_string_neq,Sem.run_pure]
end
section
variable {P:Program} {N:cc} {w0:World} {env:Env} {L:List ah} {l:List Oper} {Q:Exit->Act->World->Prop} {rest:List Oper} {d:Option Tmp} {ty:TypeId} {ps:String} {af:Array Edge}
end
def vC(b c:UInt8):UInt16:=UInt16.ofNat (b.toNat*256+c.toNat)
theorem RS(b c:UInt8):(vC b c).toNat=b.toNat*256+c.toNat:=by
 have:=b.toNat_lt;have:=c.toNat_lt;simp[vC];omega
theorem JY(p q:Nat)(h:q<256):(p*256)|||q=p*256+q:=by
 have:=Nat.two_pow_add_eq_or_of_lt (i:=8) (b:=q) (by simpa using h) p;rw[show(2^8*p)=p*256 by rw[anv]]at this;exact this.symm
section
variable {P:Program} {N:cc} {w0:World} {env:Env} {L:List ah} {d:Option Tmp} {ty:TypeId} {ps:String} {af:Array Edge} {gd:Option (Nat×Bool)} {x y:Operand} {k:IntKind} {t u:TypeId}
theorem JZ{b:UInt8}{k':IntKind}(hx:ev env x=some (.int k b.toNat))(hy:ev env y=some (.int k' 8))(hk:k= .u16\/k= .i64:=by decide):
  Ry P N w0 env L ⟨d, .binOp .shl t x y u,ty,ps,af,gd⟩ (.int k ((b.toNat*256:Nat):Int)):=by
 have h:=EC (P:=P) (N:=N) (w0:=w0) (L:=L) (d:=d) (ty:=ty) (ps:=ps) (af:=af) (gd:=gd) (t:=t) (u:=u) hx hy (by decide);have hb:=b.toNat_lt;have e:k.wrap ((b.toNat:Int)*2^min (Int.toNat 8) k.bits)=((b.toNat*256:Nat):Int):=by
  rcases hk with rfl|rfl<;>simp[IntKind.wrap,IntKind.bits,IntKind.signed]<;>omega
 rw[e]at h;exact h
theorem J0{b c:UInt8}(hx:ev env x=some (.int k ((b.toNat*256:Nat):Int)))(hy:ev env y=some (.int k c.toNat))(hk:k= .u16\/k= .i64:=by decide):
  Ry P N w0 env L ⟨d, .binOp .or t x y u,ty,ps,af,gd⟩ (.int k ((vC b c).toNat:Nat)):=by
 have hb:=b.toNat_lt;have hc:=c.toNat_lt;rw[RS,←JY _ _ hc];rcases hk with rfl|rfl
 ·
  exact zu hx hy rfl rfl (by simp only[nb];omega) (by simp only[nb];omega)
 ·
  exact zu hx hy rfl rfl (by simp only[nb];omega) (by simp only[nb];omega)
end
def ah.emp:ah:=⟨fun _=>False,fun _=>True,fun _ _ _ s=>s⟩
def ah.two(a b:ah):ah:=⟨fun k=>a.fp k\/b.fp k,fun h=>a.sat h/\b.sat h/\ ∀k,a.fp k-> ¬b.fp k,
  fun h h' e s=>⟨a.loc h h' (fun k hk=>e k (.inl hk)) s.1,b.loc h h' (fun k hk=>e k (.inr hk)) s.2.1,s.2.2⟩⟩
def ah.all:List ah->ah
  |[]=> .emp
  |e::r=> .two e (.all r)
theorem Mem.zG{w0 w:World}{L:List ah}:Mem w0 (.emp::L) w↔Mem w0 L w:=
  ⟨fun h=>h.sub (anx _ _),fun h=>⟨h.below,fun e he=>by
    rcases amA.1 he with rfl|he
    ·exact trivial
    ·exact h.sat e he,fun e he k hk=>by
    rcases amA.1 he with rfl|he
    ·exact hk.elim
    ·exact h.iO e he k hk,anm.2 ⟨fun _ _ _ hk=>hk.elim,h.ny⟩⟩⟩
theorem Mem.vD{w0 w:World}{a b:ah}{L:List ah}:Mem w0 (.two a b::L) w↔Mem w0 (a::b::L) w:=by
  constructor
  ·intro h
   have hs:(a.sat fun k=>w.heap[k]?)/\(b.sat fun k=>w.heap[k]?)/\ ∀k,a.fp k-> ¬b.fp k:=h.sat (.two a b) (by simp);have hd:=anm.1 h.ny;refine⟨h.below,fun e he=>?_,fun e he k hk=>?_,?_⟩
   ·rcases amA.1 he with rfl|he
    ·exact hs.1
    ·rcases amA.1 he with rfl|he
     ·exact hs.2.1
     ·exact h.sat e (by simp[he])
   ·rcases amA.1 he with rfl|he
    ·exact h.iO (.two e b) (by simp) k (.inl hk)
    ·rcases amA.1 he with rfl|he
     ·exact h.iO (.two a e) (by simp) k (.inr hk)
     ·exact h.iO e (by simp[he]) k hk
   ·refine anm.2 ⟨fun x hx k hk=>?_,anm.2 ⟨fun x hx k hk=>hd.1 x hx k (.inr hk),hd.2⟩⟩
    rcases amA.1 hx with rfl|hx
    ·exact hs.2.2 k hk
    ·exact hd.1 x hx k (.inl hk)
  ·intro h
   have hd:=anm.1 h.ny;have EW:=anm.1 hd.2;refine⟨h.below,fun e he=>?_,fun e he k hk=>?_,anm.2 ⟨fun x hx k hk=>?_,EW.2⟩⟩
   ·rcases amA.1 he with rfl|he
    ·exact⟨h.sat a (by simp),h.sat b (by simp),fun k hk=>hd.1 b (by simp) k hk⟩
    ·exact h.sat e (by simp[he])
   ·rcases amA.1 he with rfl|he
    ·rcases hk with hk|hk
     ·exact h.iO a (by simp) k hk
     ·exact h.iO b (by simp) k hk
    ·exact h.iO e (by simp[he]) k hk
   ·rcases hk with hk|hk
    ·exact hd.1 x (by simp[hx]) k hk
    ·exact EW.1 x hx k hk
theorem Mem.zH{w0 w:World}: ∀(es:List ah) {L:List ah},Mem w0 (.all es::L) w↔Mem w0 (es++L) w
  |[],_=>Mem.zG
  |e::r,L=>by
   show Mem w0 (.two e (.all r)::L) w↔_;rw[Mem.vD];have sw: ∀(a b:ah) (K:List ah),Mem w0 (a::b::K) w↔Mem w0 (b::a::K) w:=fun a b K=>⟨fun h=>h.perm (List.Perm.swap _ _ _),fun h=>h.perm (List.Perm.swap _ _ _)⟩;rw[sw,Mem.zH r];exact⟨fun h=>h.perm (anX),fun h=>h.perm (anX).symm⟩
class Deep(τ:Type) where
  c:Nat
  cells:τ->Array Value
  size: ∀x,(cells x).size=c
  one: ∀x,(cells x).all (·.oneCell')=true
  dD:(Nat->Option Obj)->τ->Prop
  cg:τ->ah
  iU: ∀h x,(cg x).sat h->dD h x
  mono: ∀(w w':World) x,dD (hp w) x->Below w.heap.size w w'->dD (hp w') x
instance Deep.enc{τ:Type}[Deep τ]:bn (Deep.cells (τ:=τ)) (Deep.c τ):=⟨Deep.size,Deep.one⟩
@[reducible] def Deep.flat {τ:Type}(enc:τ->Array Value)(c:Nat)[he:bn enc c]:Deep τ:=⟨c,enc,he.size,he.one,fun _ _=>True,fun _=> .emp,fun _ _ _=>trivial,fun _ _ _ _ _=>trivial⟩
structure Sl(τ:Type) where
  sv:Sv
  xs:List τ
theorem ah.zI{h:Nat->Option Obj}: ∀{es:List ah},(ah.all es).sat h-> ∀e∈es,e.sat h
  |[],_,_,he=>by cases he
  |_::_,hs,e,he=>by
   rcases amA.1 he with rfl|he
   ·exact hs.1
   ·exact ah.zI hs.2.1 e he
instance Deep.slice{τ:Type}[d:Deep τ]:Deep (Sl τ) where
  c:=1
  cells a:=qZ a.sv
  size _:=rfl
  one a:=bn.one (enc:=qZ) (c:=1) a.sv
  dD h a:=dL (Deep.cells (τ:=τ)) (Deep.c τ) h a.sv a.xs/\ ∀x∈a.xs,d.dD h x
  cg a:= .two (own (Deep.cells (τ:=τ)) (Deep.c τ) a.sv a.xs) (.all (a.xs.map d.cg))
  iU h _ hs:=⟨hs.1.1,fun x hx=>d.iU h x (ah.zI hs.2.1 _ (am5 hx))⟩
  mono w w' _ hg hb:=⟨hg.1.mono hb,fun x hx=>d.mono w w' x (hg.2 x hx) hb⟩
theorem Mem.B7{τ:Type}[d:Deep τ]{w0 w:World}{L:List ah}{a:Sl τ}:Mem w0 (Deep.cg a::L) w↔Mem w0 (own (Deep.cells (τ:=τ)) (Deep.c τ) a.sv a.xs::a.xs.map d.cg++L) w:=by
  show Mem w0 (.two _ (.all _)::L) w↔_;rw[Mem.vD];have sw: ∀(a b:ah) (K:List ah),Mem w0 (a::b::K) w↔Mem w0 (b::a::K) w:=fun a b K=>⟨fun h=>h.perm (List.Perm.swap _ _ _),fun h=>h.perm (List.Perm.swap _ _ _)⟩;rw[sw,Mem.zH];exact⟨fun h=>h.perm (anX),fun h=>h.perm (anX).symm⟩
section
variable {w0:World} {L:List ah} {τ:Type}
class Hd(w0:World)(L:List ah)(s:Sv){α:outParam Type}(enc:outParam (α->Array Value))(c:outParam Nat)(xs:outParam (List α)):Prop where
  h:Holds w0 L enc c s xs
class Gv(w0:World)(s:Sv){α:outParam Type}(enc:outParam (α->Array Value))(c:outParam Nat)(xs:outParam (List α)):Prop where
  h:dL enc c (hp w0) s xs
instance (priority:=high) Hd.owned {s:Sv}{α:Type}{enc:α->Array Value}{c:Nat}{xs:List α}{i:Nat}[q:eS L s enc c xs i]:Hd w0 L s enc c xs:=⟨q.holds⟩
instance Hd.given{s:Sv}{α:Type}{enc:α->Array Value}{c:Nat}{xs:List α}[q:Gv w0 s enc c xs][bn enc c]:Hd w0 L s enc c xs:=⟨EL q.h⟩
class Rg(lo hi n:Nat):Prop where
  h:lo<=hi/\hi<=n
instance Hd.sub{s:Sv}{α:Type}{enc:α->Array Value}{c:Nat}{xs:List α}{lo hi:Nat}[q:Hd w0 L s enc c xs][r:Rg lo hi xs.length]:Hd w0 L (s.sub c lo hi) enc c ((xs.drop lo).take (hi -lo)):=⟨q.h.sub r.h.1 r.h.2⟩
class cS(w0:World)(L:List ah){α:Type}(enc:α->Array Value)(c:Nat)(s:Sv)(xs:outParam (List α)):Prop where
  h:Holds w0 L enc c s xs
instance (priority:=high) cS.of {s:Sv}{α:Type}{enc:α->Array Value}{c:Nat}{xs:List α}[q:Hd w0 L s enc c xs]:cS w0 L enc c s xs:=⟨q.h⟩
instance cS.none{α:Type}{enc:α->Array Value}{c:Nat}:cS w0 L enc c Sv.none []:=⟨fun _ _=>dL.nil enc c _⟩
class aU(w0:World)(L:List ah){τ:Type}[Deep τ](a:τ):Prop where
  h: ∀w,Mem w0 L w->Deep.dD (hp w) a
class cw(w0:World){τ:Type}[Deep τ](a:τ):Prop where
  h:Deep.dD (hp w0) a
class Mb{τ:Type}(x:τ)(a:outParam (Sl τ)):Prop where
  h:x∈a.xs
instance aU.given[Deep τ]{a:τ}[q:cw w0 a]:aU w0 L a:=⟨fun _ hw=>Deep.mono w0 _ a q.h hw.below⟩
instance (priority:=high) aU.owned [Deep τ]{a:τ}{i:Nat}[q:At L (Deep.cg a) i]:aU w0 L a:=⟨fun _ hw=>Deep.iU _ a (hw.get q.h)⟩
instance (priority:=low) aU.elem [Deep τ]{a:Sl τ}{x:τ}[q:aU w0 L a][m:Mb x a]:aU w0 L x:=⟨fun w hw=>(q.h w hw).2 x m.h⟩
class ff(τ:Type)[Deep τ](enc:outParam (τ->Array Value))(c:outParam Nat):Prop where
  hc:Deep.c τ=c
  h: ∀x:τ,Deep.cells x=enc x
instance (priority:=low) Hd.deep [d:Deep τ]{enc:τ->Array Value}{c:Nat}[f:ff τ enc c]{a:Sl τ}[q:aU w0 L a]:Hd w0 L a.sv enc c a.xs:=⟨fun w hw=>by
  have h:=(q.h w hw).1;have e:Deep.cells (τ:=τ)=enc:=funext f.h;rw[←e,←f.hc];exact h⟩
end
section
variable {P:Program} {N:cc} {w0:World} {env:Env} {L:List ah} {d:Option Tmp} {ty:TypeId} {ps:String} {af:Array Edge} {gd:Option (Nat×Bool)}
variable {α:Type} {enc:α->Array Value} {c:Nat} {s:Sv} {xs:List α}
theorem q6{t e:TypeId}{x:Operand}{m:Nat}[ht:ei P t e m](hx:ev env x=some s.val)[q:Hd w0 L s enc c xs]:
    Ry P N w0 env L ⟨d, .call {callee:= .builtin .len,args:= #[x],argTypes:= #[t]},ty,ps,af,gd⟩ (.int .i64 (xs.length:Nat)):=fun a w ha hw=>
  zy (P:=P) (N:=N) (w0:=w0) (L:=L) (d:=d) (ty:=ty) (ps:=ps) (af:=af) (gd:=gd) hx (q.h w hw).ok (q.h w hw).len a w ha hw
theorem aY{t e:TypeId}{x ix:Operand}{m:Nat}{k:IntKind}{j:Int}[ht:ei P t e m](hx:ev env x=some s.val)(hj:ev env ix=some (.int k j))[q:Hd w0 L s enc c xs](i:Nat)(ej:j=(i:Int))(h1:i<xs.length):
    Ry P N w0 env L ⟨d, .indexAddr t x ix,ty,ps,af,gd⟩ (.pointer (some ⟨s.b,s.o+i*m,none⟩)):=fun a w ha hw=>
  mC (P:=P) (N:=N) (w0:=w0) (L:=L) (d:=d) (ty:=ty) (ps:=ps) (af:=af) (gd:=gd) hx hj ej (q.h w hw).ok (by rw[(q.h w hw).len];exact h1) a w ha hw
theorem gq{t:TypeId}{x:Operand}{p:Nat}{a:α}[ht:eX P t c][he:bn enc c][q:Hd w0 L s enc c xs](hx:ev env x=some (.pointer (some ⟨s.b,p,none⟩)))(i:Nat)(hi:xs[i]? =some a)(gY:p=s.o+i*c):
    Ry P N w0 env L ⟨d, .load t x,ty,ps,af,gd⟩ (.agg (enc a)):=JP hx q.h hi gY
theorem bB{t:TypeId}{x:Operand}{p j:Nat}{a:α}{v:Value}[ht:ft P t][q:Hd w0 L s enc c xs](hx:ev env x=some (.pointer (some ⟨s.b,p,none⟩)))(i:Nat)(hi:xs[i]? =some a)(gY:p=s.o+i*c+j)(hj:j<c)[hv:bH (enc a) j v]:
    Ry P N w0 env L ⟨d, .load t x,ty,ps,af,gd⟩ v:=Rz hx q.h hi gY hj hv.h
theorem J1{t:TypeId}{x:Operand}{p j n:Nat}{a:α}{sub:Array Value}[ht:eX P t n][q:Hd w0 L s enc c xs](hx:ev env x=some (.pointer (some ⟨s.b,p,none⟩)))(i:Nat)(hi:xs[i]? =some a)(gY:p=s.o+i*c+j)(hj:j+n≤c)[hs:kJ (enc a) j n sub]:
    Ry P N w0 env L ⟨d, .load t x,ty,ps,af,gd⟩ (.agg sub):=JQ hx q.h hi gY hj
theorem zJ{t e:TypeId}{x lo hi:Operand}{k k':IntKind}{il ih:Int}[ht:ei P t e c](hx:ev env x=some s.val)(hl:ev env lo=some (.int k il))(hh:ev env hi=some (.int k' ih))[q:Hd w0 L s enc c xs](l h:Nat)(el:il=(l:Int))(eh:ih=(h:Int))(h1:l≤h)(h2:h≤xs.length):
    Ry P N w0 env L ⟨d, .slice t x (some lo) (some hi) none,ty,ps,af,gd⟩ (s.sub c l h).val:=fun a w ha hw=>
  BZ (P:=P) (N:=N) (w0:=w0) (L:=L) (d:=d) (ty:=ty) (ps:=ps) (af:=af) (gd:=gd) hx hl hh el eh (q.h w hw).ok h1 (by have:=(q.h w hw).len;have:=(q.h w hw).ok.le;omega) a w ha hw
theorem J2{t e:TypeId}{x hi:Operand}{k':IntKind}{ih:Int}[ht:ei P t e c](hx:ev env x=some s.val)(hh:ev env hi=some (.int k' ih))[q:Hd w0 L s enc c xs](h:Nat)(eh:ih=(h:Int))(h2:h≤xs.length):
    Ry P N w0 env L ⟨d, .slice t x none (some hi) none,ty,ps,af,gd⟩ (s.sub c 0 h).val:=fun a w ha hw=>
  ue (P:=P) (N:=N) (w0:=w0) (L:=L) (d:=d) (ty:=ty) (ps:=ps) (af:=af) (gd:=gd) hx hh eh (q.h w hw).ok (by have:=(q.h w hw).len;have:=(q.h w hw).ok.le;omega) a w ha hw
theorem zK{t e:TypeId}{x lo:Operand}{k:IntKind}{il:Int}[ht:ei P t e c](hx:ev env x=some s.val)(hl:ev env lo=some (.int k il))[q:Hd w0 L s enc c xs](l:Nat)(el:il=(l:Int))(h1:l≤xs.length):
    Ry P N w0 env L ⟨d, .slice t x (some lo) none none,ty,ps,af,gd⟩ (s.sub c l xs.length).val:=fun a w ha hw=>
  qW (P:=P) (N:=N) (w0:=w0) (L:=L) (d:=d) (ty:=ty) (ps:=ps) (af:=af) (gd:=gd) hx hl el (q.h w hw).ok (q.h w hw).len h1 a w ha hw
theorem EX{t e tb:TypeId}{x:Operand}{xs:List UInt8}(hs:P.underlying tb=some (.slice e))(he:P.underlying e=some (.int .u8))(hd:P.underlying t=some .string)(hx:ev env x=some s.val)[q:Hd w0 L s aL 1 xs]:
    Ry P N w0 env L ⟨d, .convert tb t x,ty,ps,af,gd⟩ (.string ⟨xs.toArray⟩):=RP hs he hd hx q.h
theorem sK{s t:TypeId}{x:Operand}{k:IntKind}{b:UInt8}[hs:kh P s .u8][ht:kh P t k](hx:ev env x=some (.int .u8 b.toNat))(hk:8≤nb k:=by decide):
    Ry P N w0 env L ⟨d, .convert s t x,ty,ps,af,gd⟩ (.int k b.toNat):=iS hx (ant b.toNat_lt (ank (by decide) hk))
theorem J3{s t:TypeId}{x:Operand}{k:IntKind}{b:UInt16}[hs:kh P s .u16][ht:kh P t k](hx:ev env x=some (.int .u16 b.toNat))(hk:16≤nb k:=by decide):
    Ry P N w0 env L ⟨d, .convert s t x,ty,ps,af,gd⟩ (.int k b.toNat):=iS hx (ant b.toNat_lt (ank (by decide) hk))
end
section
variable {P:Program} {N:cc} {w0:World} {env:Env} {L:List ah} {l:List Oper} {Q:Exit->Act->World->Prop} {rest:List Oper} {d:Option Tmp} {ty:TypeId} {ps:String} {af:Array Edge} {gd:Option (Nat×Bool)}
class bD(P:Program)(f:FuncId)(w0:World)(L:List ah)(vs:List Value)(v:outParam Value)(pre:outParam Prop):Prop where
  h:pre-> ∀w,Mem w0 L w->Calls P f vs.toArray w fun e w'=>e= .returned v/\Mem w [] w'
class bK(P:Program)(f:FuncId)(w0:World)(L:List ah)(vs:List Value)(X:outParam Type)(val:outParam (X->Value))(L':outParam (X->List ah))(pr:outParam (X->Prop))(pre:outParam Prop):Prop where
  h:pre-> ∀w,Mem w0 L w->Calls P f vs.toArray w fun e w'=> ∃x,e= .returned (val x)/\pr x/\Mem w0 (L' x) w'
instance (priority:=high) bD.pure {f:FuncId}{vs:List Value}{v:Value}[h:kK P f vs v]:bD P f w0 L vs v True:=⟨fun _ w _=>h.h w⟩
theorem br{f:FuncId}{xs:List Operand}{ts:Array TypeId}{vs:List Value}{v:Value}{pre:Prop}[hf:aC P f](hx:gh env xs=some vs)[hc:bD P f w0 L vs v pre](hp:pre):
    Yl P N w0 env L ⟨d, .call {callee:= .value (.func f),args:=xs.toArray,argTypes:=ts},ty,ps,af,gd⟩ v:=zq hx fun w hw=>hc.h hp w hw
theorem aW{X:Type}{val:X→Value}{L':X→List ah}{pr:X→Prop}{pre:Prop}{f:FuncId}{xs:List Operand}{ts:Array TypeId}{vs:List Value}[hf:aC P f](hx:gh env xs=some vs)
    [hc:bK P f w0 L vs X val L' pr pre] (hp:pre) (hk: ∀x,pr x->Sq P N w0 l Q rest (bZ env d (val x)) (L' x)) (hd:cN N d=true:=by rfl):
    Sq P N w0 l Q (⟨d, .call {callee:= .value (.func f),args:=xs.toArray,argTypes:=ts},ty,ps,af,none⟩::rest) env L:=RH hx (fun w hw=>hc.h hp w hw) hk hd
theorem RT{Lq:List ah}{n j:Nat}{js:List Nat}{X:Type}{val:X→Value}{L':X→List ah}{pr:X→Prop}{pre:Prop}{f:FuncId}{xs:List Operand}{ts:Array TypeId}{vs:List Value}(hj:l[j]? =some ⟨d, .call {callee:= .value (.func f),args:=xs.toArray,argTypes:=ts},ty,ps,af,none⟩)[hf:aC P f](hx:gh env xs=some vs)
    [hc:bK P f w0 L vs X val L' pr pre] (hp:pre) (hL: ∀x w,Mem w0 (L' x) w->Mem w0 Lq w) (hk: ∀x,pr x->Fr P N w0 Lq l n Q js (bZ env d (val x)) (L' x)) (hd:cN N d=true:=by rfl):
    Fr P N w0 Lq l n Q (j::js) env L:=Rm hj hx (fun w hw=>hc.h hp w hw) hL hk hd
end
class bW(L:List ah)(i:Nat)(R:outParam (List ah)):Prop where
  h:L.eraseIdx i=R
instance bW.here{e:ah}{L:List ah}:bW (e::L) 0 L:=⟨rfl⟩
instance bW.there{e:ah}{L R:List ah}{i:Nat}[q:bW L i R]:bW (e::L) (i+1) (e::R):=⟨by simp[q.h]⟩
class ag(L L':List ah):Prop where
  h: ∃R,L.Perm (L'++R)
instance (priority:=high) ag.nil {L:List ah}:ag L []:=⟨⟨L, .refl _⟩⟩
instance (priority:=high) ag.same {L:List ah}:ag L L:=⟨⟨[],by simp⟩⟩
theorem mH{e:ah}: ∀{L:List ah} {i:Nat},L[i]? =some e->L.Perm (e::L.eraseIdx i)
  |[],i,h=>by simp at h
  |x::L,0,h=>by obtain rfl:x=e:=by simpa using h
                simp
  |x::L,i+1,h=>by
   have:=mH (L:=L) (i:=i) (by simpa using h);rw[aoD];exact(this.cons x).trans (.swap _ _ _)
instance ag.cons{L L' R:List ah}{e:ah}{i:Nat}[a:At L e i][b:bW L i R][k:ag R L']:ag L (e::L'):=⟨by
  obtain⟨S,hS⟩:=k.h;exact⟨S,(mH a.h).trans (by rw[b.h];exact hS.cons e)⟩⟩
theorem ag.mem{L L':List ah}[k:ag L L']{w0 w:World}(h:Mem w0 L w):Mem w0 L' w:=by
  obtain⟨R,hR⟩:=k.h;exact(h.perm hR).sub (List.sublist_append_left _ _)
theorem q7{P:Program}{N:cc}{w0:World}{env:Env}{L:List ah}{Q:Exit->Act->World->Prop}{c:Code}(L':List ah)(h: ∀w,Mem w0 L w->Mem w0 L' w)(hk:Cw P N w0 Q c env L'):Cw P N w0 Q c env L:=fun a w ha hw=>hk a w ha (h w hw)
theorem RU{P:Program}{N:cc}{w0:World}{env:Env}{L:List ah}{Q:Exit->Act->World->Prop}{c:Code}(s:Sv){α:Type}{enc:α->Array Value}{n:Nat}{xs:List α}[q:Hd w0 L s enc n xs](hk:xs.length<=140737488355328->Cw P N w0 Q c env L):Cw P N w0 Q c env L:=
  fun a w ha hw=>hk (q.h w hw).bd a w ha hw
theorem jZ{α:Type}{xs:List α}{i:Nat}{d:α}(h:i<xs.length):xs[i]? =some (xs.getD i d):=by
  simp[List.getD,h]
section
variable {P:Program} {N:cc} {w0:World} {env:Env} {L:List ah} {l:List Oper} {Q:Exit->Act->World->Prop} {rest:List Oper} {d:Option Tmp} {ty:TypeId} {ps:String} {af:Array Edge} {gd:Option (Nat×Bool)}
variable {α:Type} {enc:α->Array Value} {c:Nat} {s:Sv} {xs:List α}
theorem nC{x y:Operand}{t u:TypeId}{a b:List UInt8}(hx:ev env x=some (.string ⟨a.toArray⟩))(hy:ev env y=some (.string ⟨b.toArray⟩)):
    Ry P N w0 env L ⟨d, .binOp .eql t x y u,ty,ps,af,gd⟩ (.bool (decide (a=b))):=by
  have e:((⟨a.toArray⟩:ByteArray).toList==(⟨b.toArray⟩:ByteArray).toList)=decide (a=b):=by
    rw[ByteArray.toList_mk,ByteArray.toList_mk,Bool.eq_iff_iff];simp
  rw[←e];exact RQ hx hy
theorem xu{x y:Operand}{t u:TypeId}{a b:List UInt8}(hx:ev env x=some (.string ⟨a.toArray⟩))(hy:ev env y=some (.string ⟨b.toArray⟩)):
    Ry P N w0 env L ⟨d, .binOp .neq t x y u,ty,ps,af,gd⟩ (.bool (!decide (a=b))):=by
  have e:((⟨a.toArray⟩:ByteArray).toList==(⟨b.toArray⟩:ByteArray).toList)=decide (a=b):=by
    rw[ByteArray.toList_mk,ByteArray.toList_mk,Bool.eq_iff_iff];simp
  rw[←e];exact RR hx hy
theorem sL{t e:TypeId}{x:Operand}{u:TypeId}(ht:P.underlying t=some (.slice e))(hx:ev env x=some s.val):
    Ry P N w0 env L ⟨d, .binOp .eql t x (.const (.slice none 0 0)) u,ty,ps,af,gd⟩ (.bool s.nil):=fun a w ha _=>by
  have h1:(eqGuard BinOp.eql t x (.const (.slice none 0 0)) s.val (.slice none 0 0)).run P w= .ok () w:=by
    unfold Sv.val;split<;>rfl
  have h3:(Op.equal t s.val (.slice none 0 0)).run P w= .ok s.nil w:=by
    unfold Sv.val;split<;>rename_i hn<;>rw[run_equal_slice_nil w t e _ _ _ ht,hn]<;>rfl
  have h2:(binOp .eql t s.val (.slice none 0 0)).run P w= .ok (.bool s.nil) w:=by
    have:binOp .eql t s.val (.slice none 0 0)=(do pure (.bool (←Op.equal t s.val (.slice none 0 0)))):=by unfold Sv.val;split<;>rfl
    rw[this,Sem.run_bind,h3];rfl
  simp only[execOp,ha.ev hx,show a.eval (.const (.slice none 0 0))= .slice none 0 0 from rfl,Sem.run_bind,h1,Result.andThen_ok,h2,Sem.run_pure]
theorem RW{t e:TypeId}{cf:Nat}(ht:dC P t e c cf)(w:World):(Instr.buildSlice t 0 #[]).run P w= .ok (.slice (some ⟨w.heap.size,0,none⟩) 0 0) (w.alloc (.cells #[] e)):=by
  obtain⟨i',z,bf,aF,bo,cI,lN⟩:=ht.info;have:(Array.range 0:Array Nat)= #[]:=by simp
  simp[Instr.buildSlice,run_underlying ht.dK,sizeOf,typeInfo,bf,Instr.fill,newRow,newObj,Sem.run,Result.andThen,this]
theorem uj{t e:TypeId}{cf:Nat}(enc:α→Array Value)[ht:dC P t e c cf][he:bn enc c](hk: ∀b,Sq P N w0 l Q rest (bZ env d (Sv.val ⟨false,b,0,0,0,none⟩)) (own enc c ⟨false,b,0,0,0,none⟩ []::L))(hd:cN N d=true:=by rfl):
    Sq P N w0 l Q (⟨d, .buildSlice t 0 #[],ty,ps,af,none⟩::rest) env L:=
  lj rfl hd fun a w _ hw=>by
    refine⟨_,_,_,?_,hw.call (ui (enc:=enc) (c:=c) (xs:=[]) (cs:= #[]) (e:=e) rfl 0 0 rfl (amz _) (amK _) (by simp) (by simp)),hk _⟩;simp only[execOp,Sem.run_bind,List.map_toArray,anl,RW ht w,Result.andThen,Sem.run_pure];rfl
end
instance:Deep UInt8:=Deep.flat aL 1
instance:ff UInt8 aL 1:=⟨rfl,fun _=>rfl⟩
def bX{τ:Type}(a:Sl τ):Array Value:= #[a.sv.val]
instance {τ:Type}:bn (bX (τ:=τ)) 1:=⟨fun _=>rfl,fun a=>bn.one (enc:=qZ) (c:=1) a.sv⟩
instance {τ:Type}[Deep τ]:ff (Sl τ) bX 1:=⟨rfl,fun _=>rfl⟩
instance {τ:Type}(a:Sl τ):bH (bX a) 0 a.sv.val:=⟨rfl⟩
def lx{τ:Type}(a:Sl (Sl τ)):List (List τ):=a.xs.map (·.xs)
theorem vE{τ:Type}(a:Sl (Sl τ)):(lx a).length=a.xs.length:=by simp[lx]
section
variable {L L' L1 L2 R R1 R2:List ah} {τ:Type}
def Tr(L L':List ah):Prop:= ∀(K:List ah) (w0 w:World),Mem w0 (L++K) w->Mem w0 (L'++K) w
theorem Tr.mem(h:Tr L L'){w0 w:World}(hw:Mem w0 L w):Mem w0 L' w:=by
  have:=h [] w0 w (by simpa using hw);simpa using this
theorem Tr.refl:Tr L L:=fun _ _ _ h=>h
theorem Tr.trans(h:Tr L L1)(h':Tr L1 L2):Tr L L2:=fun K w0 w hw=>h' K w0 w (h K w0 w hw)
theorem Tr.perm(h:L.Perm L'):Tr L L':=fun K _ _ hw=>Mem.perm hw (h.append_right K)
theorem Tr.left(h:Tr L L')(X:List ah):Tr (X++L) (X++L'):=fun K w0 w hw=>by
  have p: ∀Y:List ah,(X++Y++K).Perm (Y++(X++K)):=fun Y=>by
    rw[ams,←ams Y];refine(List.perm_append_comm_assoc X Y K).trans ?_;rw[ams]
  exact(h (X++K) w0 w (hw.perm (p L))).perm (p L').symm
theorem Tr.right(h:Tr L L')(X:List ah):Tr (L++X) (L'++X):=fun K w0 w hw=>by
  rw[ams]at hw⊢;exact h (X++K) w0 w hw
theorem Tr.cons(h:Tr L L')(x:ah):Tr (x::L) (x::L'):=h.left [x]
theorem Tr.sub(h:L'.Sublist L):Tr L L':=fun K _ _ hw=>Mem.sub hw (h.append (.refl K))
theorem Tr.front{e:ah}{i:Nat}(hi:L[i]? =some e):Tr L (e::L.eraseIdx i):= .perm (mH hi)
theorem Tr.back{e:ah}{i:Nat}(hi:L[i]? =some e):Tr (e::L.eraseIdx i) L:= .perm (mH hi).symm
theorem Tr.emp:Tr (.emp::L) L:=fun _ _ _ hw=>Mem.zG.1 hw
theorem Tr.J4:Tr L (.emp::L):=fun _ _ _ hw=>Mem.zG.2 hw
theorem Tr.two{a b:ah}:Tr (.two a b::L) (a::b::L):=fun _ _ _ hw=>Mem.vD.1 hw
theorem Tr.B7[d:Deep τ]{a:Sl τ}:Tr (Deep.cg a::L) (own (Deep.cells (τ:=τ)) (Deep.c τ) a.sv a.xs::a.xs.map d.cg++L):=fun K w0 w hw=>by
  have:=Mem.B7.1 hw;simpa using this
theorem Tr.RX[d:Deep τ]{a:Sl τ}:Tr (own (Deep.cells (τ:=τ)) (Deep.c τ) a.sv a.xs::a.xs.map d.cg++L) (Deep.cg a::L):=fun K w0 w hw=>by
  refine Mem.B7.2 ?_;simpa using hw
class Plain(τ:Type)[Deep τ]:Prop where
  h: ∀x:τ,Deep.cg x= .emp
theorem Tr.plain[Deep τ][p:Plain τ]: ∀{xs:List τ},Tr (xs.map Deep.cg++L) L
  |[]=> .refl
  |x::xs=>by
   rw[amR,p.h];exact Tr.emp.trans Tr.plain
theorem Tr.J5[Deep τ][p:Plain τ]: ∀{xs:List τ},Tr L (xs.map Deep.cg++L)
  |[]=> .refl
  |x::xs=>by
   rw[amR,p.h];exact(Tr.J5 (xs:=xs)).trans Tr.J4
theorem J6[Deep τ]{enc:τ->Array Value}{c:Nat}[f:ff τ enc c](s:Sv)(xs:List τ):own (Deep.cells (τ:=τ)) (Deep.c τ) s xs=own enc c s xs:=by
  have e:Deep.cells (τ:=τ)=enc:=funext f.h;rw[e,f.hc]
theorem Tr.EY[d:Deep τ]{enc:τ->Array Value}{c:Nat}[f:ff τ enc c]{a:Sl τ}:Tr (Deep.cg a::L) (own enc c a.sv a.xs::(a.xs.map d.cg++L)):=by
  rw[←J6];exact Tr.B7
theorem Tr.zL[d:Deep τ]{enc:τ->Array Value}{c:Nat}[f:ff τ enc c]{a:Sl τ}:Tr (own enc c a.sv a.xs::(a.xs.map d.cg++L)) (Deep.cg a::L):=by
  rw[←J6];exact Tr.RX
theorem Tr.RY[d:Deep τ]{enc:τ->Array Value}{c:Nat}[f:ff τ enc c][Plain τ]{a:Sl τ}:Tr (Deep.cg a::L) (own enc c a.sv a.xs::L):=Tr.EY.trans (Tr.plain.cons _)
theorem Tr.EZ[d:Deep τ]{enc:τ->Array Value}{c:Nat}[f:ff τ enc c][Plain τ]{a:Sl τ}:Tr (own enc c a.sv a.xs::L) (Deep.cg a::L):=(Tr.J5.cons _).trans Tr.zL
theorem J7{α β:Type}(f:α->β){xs:List α}{i:Nat}{x:α}(hx:xs[i]? =some x):(xs.map f).Perm (f x::(xs.eraseIdx i).map f):=by
  have h1:=(J8 hx).map f;exact h1
where J8 {α:Type}: ∀{L:List α} {i:Nat} {e:α},L[i]? =some e->L.Perm (e::L.eraseIdx i)
  |[],i,e,h=>by simp at h
  |x::L,0,e,h=>by obtain rfl:x=e:=by simpa using h
                  simp
  |x::L,i+1,e,h=>by
   have:=J8 (L:=L) (i:=i) (e:=e) (by simpa using h);rw[aoD];exact(this.cons x).trans (.swap _ _ _)
theorem Tr.pick[d:Deep τ]{enc:τ→Array Value}{c:Nat}[f:ff τ enc c]{a:Sl τ}{i:Nat}{x:τ}(hx:a.xs[i]? =some x):
    Tr (Deep.cg a::L) (own enc c a.sv a.xs::Deep.cg x::((a.xs.eraseIdx i).map d.cg++L)):=
  Tr.EY.trans (Tr.cons (Tr.right (Tr.perm (J7 d.cg hx)) L) _)
theorem J9{α:Type}: ∀(xs:List α) (i:Nat) (y:α),(xs.set i y).eraseIdx i=xs.eraseIdx i
  |[],_,_=>by simp
  |_::_,0,_=>by simp
  |_::xs,i+1,y=>by simp[J9 xs i y]
theorem Tr.lay[d:Deep τ]{enc:τ→Array Value}{c:Nat}[f:ff τ enc c]{s:Sv}{xs:List τ}{i:Nat}{y:τ}(hi:i<xs.length):
    Tr (own enc c s (xs.set i y)::Deep.cg y::((xs.eraseIdx i).map d.cg++L)) (Deep.cg (⟨s,xs.set i y⟩:Sl τ)::L):=by
  have hy:(xs.set i y)[i]? =some y:=by simp[hi]
  have:=(J7 d.cg hy).symm;rw[J9]at this;exact(Tr.cons (Tr.right (Tr.perm this) L) _).trans (Tr.zL (a:=⟨s,xs.set i y⟩))
class Take(L:List ah){τ:Type}[Deep τ](x:τ)(R:outParam (List ah)):Prop where
  h:Tr L (Deep.cg x::R)
class xv(L:List ah){τ:Type}[Deep τ](xs:List τ)(R:outParam (List ah)):Prop where
  h:Tr L (xs.map Deep.cg++R)
instance (priority:=high) Take.at [Deep τ]{x:τ}{i:Nat}[a:At L (Deep.cg x) i][d:bW L i R]:Take L x R:=⟨by
  have:=Tr.front a.h;rwa [d.h]at this⟩
instance (priority:=low) Take.plain [Deep τ][p:Plain τ]{x:τ}:Take L x L:=⟨by rw[p.h];exact Tr.J4⟩
instance Take.own[Deep τ][p:Plain τ]{enc:τ->Array Value}{c:Nat}[f:ff τ enc c]{s:Sv}{xs:List τ}{i:Nat}[a:At L (own enc c s xs) i][d:bW L i R]:Take L (⟨s,xs⟩:Sl τ) R:=⟨by
  have:=Tr.front a.h;rw[d.h]at this;exact this.trans (Tr.EZ (a:=⟨s,xs⟩))⟩
instance xv.nil[Deep τ]:xv L ([]:List τ) L:=⟨.refl⟩
instance xv.cons[Deep τ]{x:τ}{xs:List τ}[a:Take L x R1][b:xv R1 xs R2]:xv L (x::xs) R2:=⟨a.h.trans (b.h.cons _)⟩
instance:Plain UInt8:=⟨fun _=>rfl⟩
end
section
variable {P:Program} {N:cc} {w0:World} {env:Env} {L R R1 R2:List ah} {l:List Oper} {Q:Exit->Act->World->Prop} {rest:List Oper} {d:Option Tmp} {ty:TypeId} {ps:String} {af:Array Edge}
variable {τ:Type} [dp:Deep τ] {enc:τ->Array Value} {c:Nat}
theorem RZ{α:Type}{enc:α→Array Value}{c:Nat}{s:Sv}{xs ys:List α}{t tx e:TypeId}{x y:Operand}{yv:Value}{cf:Nat}[ht:dC P t e c cf][he:bn enc c](R:List ah)(hx:ev env x=some s.val)(hy:ev env y=some yv)
    (ho: ∀w,Mem w0 L w->Mem w0 (own enc c s xs::R) w) (hc:0<c) (hs: ∀w,Mem w0 L w->Src P c tx yv ys.length (aH enc ys) w) (hb:(xs.length+ys.length)*cf<=140737488355328) (fQ:xs.length+ys.length<=140737488355328)
    (hk: ∀s':Sv,Sq P N w0 l Q rest (bZ env d s'.val) (own enc c s' (xs++ys)::R)) (hd:cN N d=true:=by rfl):
    Sq P N w0 l Q (⟨d, .call {callee:= .builtin .append,args:= #[x,y],argTypes:= #[t,tx]},ty,ps,af,none⟩::rest) env L:=
  lj rfl hd fun a w ha hw=>by
    obtain⟨s',w',h1,h2,h3,h4⟩:=EP (i:=0) (ty:=ty) ht hc (ho w hw) rfl (hs w hw) hb fQ;refine⟨s'.val,w',_,?_,by simpa using h4,hk s'⟩;simp[execOp,ha.ev hx,ha.ev hy,resolve,invoke,builtin,h1,Result.andThen]
theorem R0{s:Sv}{t tx e e':TypeId}{x y:Operand}{cf m:Nat}[f:ff τ enc c][ht:dC P t e c cf][zM:ei P tx e' m][he:bn enc c](a:Sl τ)(ys:List τ)(hx:ev env x=some a.sv.val)(hy:ev env y=some s.val)[q:Hd w0 L s enc c ys]
    [k1:Take L a R1] [k2:xv R1 ys R2] (hc:0<c) (hb:(a.xs.length+ys.length)*cf<=140737488355328) (fQ:a.xs.length+ys.length<=140737488355328)
    (hk: ∀a':Sl τ,a'.xs=a.xs++ys->Sq P N w0 l Q rest (bZ env d a'.sv.val) (Deep.cg a'::R2)) (hd:cN N d=true:=by rfl):
    Sq P N w0 l Q (⟨d, .call {callee:= .builtin .append,args:= #[x,y],argTypes:= #[t,tx]},ty,ps,af,none⟩::rest) env L:=
  RZ (enc:=enc) (c:=c) (xs:=a.xs) (ys:=ys) (a.xs.map dp.cg++(ys.map dp.cg++R2)) hx hy (fun w hw=>((k1.h.trans (k2.h.cons _)).trans Tr.EY).mem hw) hc (fun w hw=>gP zM.dK hc (q.h w hw)) hb fQ
    (fun s' aa w ha hw=>hk ⟨s',a.xs++ys⟩ rfl aa w ha (by
      have t1:Tr (own enc c s' (a.xs++ys)::(a.xs.map dp.cg++(ys.map dp.cg++R2))) (Deep.cg (⟨s',a.xs++ys⟩:Sl τ)::R2):=by
        have:=Tr.zL (enc:=enc) (c:=c) (a:=(⟨s',a.xs++ys⟩:Sl τ)) (L:=R2);simpa using this
      exact t1.mem hw)) hd
theorem Mem.B8{w:World}[f:ff τ enc c](h:Mem w0 L w):Mem w0 (Deep.cg (⟨Sv.none,[]⟩:Sl τ)::L) w:=
  (Tr.zL (enc:=enc) (c:=c) (a:=(⟨Sv.none,[]⟩:Sl τ)) (L:=L)).mem (by simpa using h.cJ enc c)
def q8{τ:Type}(s:Sl (Sl τ))(i:Nat):Sl τ:=s.xs.getD i ⟨Sv.none,[]⟩
theorem B9{τ:Type}{s:Sl (Sl τ)}{i:Nat}{x:Sl τ}(h:s.xs[i]? =some x):q8 s i=x:=by simp[q8,h]
theorem Ca{τ:Type}{s:Sl (Sl τ)}{i:Nat}(h:s.xs.length<=i):q8 s i=⟨Sv.none,[]⟩:=by simp[q8,h]
theorem zN{τ:Type}(s:Sl (Sl τ))(i:Nat):(q8 s i).xs=(lx s).getD i []:=by
  rcases amv i s.xs.length with h|h
  ·have:s.xs[i]? =some s.xs[i]:=by simp[h]
   simp[B9 this,lx,h]
  ·rw[Ca h];simp[lx,h]
theorem vF{h:Nat->Option Obj}:Deep.dD h (⟨Sv.none,[]⟩:Sl τ):=⟨dL.nil _ _ _,fun _ hx=>by cases hx⟩
def Sl.nil{τ:Type}:Sl τ:=⟨Sv.none,[]⟩
instance aU.none:aU w0 L (Sl.nil:Sl τ):=⟨fun _ _=>vF⟩
instance aU.q8{s:Sl (Sl τ)}{i:Nat}[q:aU w0 L s]:aU w0 L (q8 s i):=⟨fun w hw=>by
  rcases amv i s.xs.length with h|h
  ·have hx:s.xs[i]? =some s.xs[i]:=by simp[h]
   rw[B9 hx];exact(q.h w hw).2 _ (amm hx)
  ·rw[Ca h];exact vF⟩
theorem Tr.Ka{L:List ah}[f:ff τ enc c]: ∀n,Tr L ((List.replicate n (⟨Sv.none,[]⟩:Sl τ)).map Deep.cg++L)
  |0=> .refl
  |n+1=>by
   rw[aoA,amR];exact(Tr.Ka n).trans fun K w0 w hw=>Mem.B8 (enc:=enc) (c:=c) hw
theorem R5{t e:TypeId}{cf n cap:Nat}{x y:Operand}{k k':IntKind}{ix iy:Int}[f:ff τ enc c][ht:dC P t e 1 cf][hz:dH P e (.slice none 0 0)](hx:ev env x=some (.int k ix))(hy:ev env y=some (.int k' iy))(ex:ix=(n:Int))(ey:iy=(cap:Int))(hle:n≤cap)(hb:cf*cap≤281474976710656)(fQ:cap≤140737488355328)
    (hk: ∀a:Sl (Sl τ),a.xs=List.replicate n ⟨Sv.none,[]⟩->Sq P N w0 l Q rest (bZ env d a.sv.val) (Deep.cg a::L)) (hd:cN N d=true:=by rfl):
    Sq P N w0 l Q (⟨d, .makeSlice t x y,ty,ps,af,none⟩::rest) env L:=
  sJ (enc:=bX (τ:=τ)) (n:=n) (cap:=cap) (⟨Sv.none,[]⟩:Sl τ) rfl hx hy ex ey hle hb fQ (fun b a w ha hw=>hk ⟨⟨false,b,0,n,cap,none⟩,List.replicate n ⟨Sv.none,[]⟩⟩ rfl a w ha
    (((Tr.Ka (enc:=enc) (c:=c) n).cons _|>.trans (Tr.zL (enc:=bX) (c:=1) (a:=(⟨⟨false,b,0,n,cap,none⟩,List.replicate n ⟨Sv.none,[]⟩⟩:Sl (Sl τ))))).mem hw)) hd
end
section
variable {P:Program} {N:cc} {w0:World} {env:Env} {L:List ah} {l:List Oper} {Q:Exit->Act->World->Prop} {rest:List Oper} {d:Option Tmp} {ty:TypeId} {ps:String} {af:Array Edge}
end
theorem Sv.iC(s:Sv):s.val.cells= #[s.val]:=by unfold Sv.val;split<;>rfl
theorem Tr.R6{τ:Type}[Deep τ][Plain τ]{enc:τ→Array Value}{c:Nat}[ff τ enc c]{a:Sl (Sl τ)}{x:Sl τ}{i:Nat}{B:List ah}(hx:a.xs[i]? =some x):
    Tr (B++[Deep.cg a]) (own bX 1 a.sv a.xs::own enc c x.sv x.xs::(B++(a.xs.eraseIdx i).map Deep.cg)):=by
  refine(Tr.perm (List.perm_append_comm (l₁:=B) (l₂:=[Deep.cg a]))).trans ?_;refine(Tr.pick (L:=B) hx).trans (Tr.cons (Tr.RY.trans (Tr.cons (Tr.perm List.perm_append_comm) _)) _)
theorem Tr.R7{τ:Type}[Deep τ][Plain τ]{enc:τ→Array Value}{c:Nat}[ff τ enc c]{s y:Sv}{xs:List (Sl τ)}{ys:List τ}{i:Nat}{B:List ah}(hi:i<xs.length):
    Tr (own bX 1 s (xs.set i ⟨y,ys⟩)::own enc c y ys::(B++(xs.eraseIdx i).map Deep.cg)) (Deep.cg (⟨s,xs.set i ⟨y,ys⟩⟩:Sl (Sl τ))::B):=by
  refine Tr.trans ?_ (Tr.lay (L:=B) hi);exact Tr.cons ((Tr.EZ (a:=(⟨y,ys⟩:Sl τ))).trans (Tr.cons (Tr.perm List.perm_append_comm) _)) _
theorem Cb{P:Program}{N:cc}{w0:World}{env:Env}{L:List ah}{l:List Oper}{Q:Exit→Act→World→Prop}{rest:List Oper}{ty:TypeId}{ps:String}{af:Array Edge}{τ:Type}{t:TypeId}{x y:Operand}{i k p:Nat}{s:Sv}{xs:List (Sl τ)}{a:Sl τ}(a':Sl τ)
    (sz:(P.info? t).map (·.size)=some 1) (hx:ev env x=some (.pointer (some ⟨s.b,p,none⟩))) (hy:ev env y=some a'.sv.val) [q:eS L s (bX (τ:=τ)) 1 xs i] (gY:p=s.o+k*1) (ha:xs[k]? =some a) {L':List ah} [hu:eK L i (own bX 1 s (xs.set k a')) L'] (hk:Sq P N w0 l Q rest env L'):
    Sq P N w0 l Q (⟨none, .store t x y,ty,ps,af,none⟩::rest) env L:=
  kj (j:=0) (a':=a') sz hx hy (q:=q) gY ha (by rw[Sv.iC];simp[Sv.one]) (by rw[Sv.iC];rfl) (by decide) (by rw[Sv.iC];rfl) hk
section
variable {P:Program} {N:cc} {w0:World} {env:Env} {L:List ah} {l:List Oper} {Q:Exit->Act->World->Prop} {rest:List Oper} {d:Option Tmp} {ty:TypeId} {ps:String} {af:Array Edge} {gd:Option (Nat×Bool)}
variable {fs:List Nat} {F:Act->Prop} {k:Nat}
theorem lO{o:Oper}{v:Value}{j t:Nat}{b g:Bool}(hg:o.guard=some (j,b))(hj:(l[j]?).bind (·.dst)=some t)(hv:look env t=some (.bool g))(ht:g=b)(h:Yl P N w0 env L o v)
    (hk:Sq P N w0 l Q rest (bZ env o.dst v) L) (hd:cN N o.dst=true:=by rfl):Sq P N w0 l Q (o::rest) env L:=fun a w ha hw=>by
  unfold wpList;rw[vz ha hg hj hv,ht,beq_self_eq_true,if_pos rfl];exact .inl (xj ha hw h fun w' fF=>hk _ _ (ha.put hd v) fF)
end
theorem xw{P:Program}{N:cc}{w0:World}{env:Env}{L:List ah}{d:Option Tmp}{ty:TypeId}{ps:String}{af:Array Edge}{gd:Option (Nat×Bool)}{c x y:Operand}{g:Bool}{v:Value}(hc:ev env c=some (.bool g))(ht:g=true)(hx:ev env x=some v)(hy:ev env y=some (.bool false)):
    Ry P N w0 env L ⟨d, .pick c x y,ty,ps,af,gd⟩ v:=by
  subst ht;have h:=Eu (P:=P) (N:=N) (w0:=w0) (L:=L) (d:=d) (ty:=ty) (ps:=ps) (af:=af) (gd:=gd) hc hx hy;simpa using h
abbrev aB:=List UInt8
def dec(n:Nat):aB:=Lib.decDigits n
variable {n top:Nat} {s t:aB} {c:UInt8}
theorem oh(h:n<10):dec n=[UInt8.ofNat (48+n)]:=by rw[dec,Lib.decDigits,dif_pos h]
theorem q9(h:10<=n):dec n=dec (n/10)++[UInt8.ofNat (48+n%10)]:=by
 rw[dec,Lib.decDigits,dif_neg (by omega)];rfl
def jg(c:UInt8):Bool:=decide (48<=c.toNat/\c.toNat<=57)
def val(s:aB):Nat:=s.foldl (fun a c=>10*a+(c.toNat -48)) 0
theorem Cc:val (s++[c])=10*val s+(c.toNat -48):=by simp[val,anT]
theorem zO{d:Nat}(h:d<10):(UInt8.ofNat (48+d)).toNat=48+d:=by
 rw[UInt8.toNat_ofNat'];omega
theorem E3: ∀n,(dec n).all jg=true:=by
 intro n
 induction n using Nat.strongRecOn with
 |_ n ih=>
  rcases amv n 10 with h|h
  ·
   rw[oh h];have:=zO h;simp[jg,this];omega
  rw[q9 h,List.all_append,ih (n/10) (by omega)];have:=zO (an1 n (show 0<10 by decide));simp[jg,this];omega
theorem E4: ∀n,val (dec n)=n:=by
 intro n
 induction n using Nat.strongRecOn with
 |_ n ih=>
  rcases amv n 10 with h|h
  ·
   rw[oh h];have:=zO h;simp[val];omega
  rw[q9 h,Cc,ih (n/10) (by omega),zO (an1 n (by decide))];omega
theorem Kc:dec n≠[]:=by
 rcases amv n 10 with h|h
 ·
  rw[oh h];simp
 rw[q9 h];simp
def Cd(s:aB):Prop:=s≠[]/\(s.length<=1\/s.head?≠some 48)
theorem R8: ∀n,0<n->(dec n).head?≠some 48:=by
 intro n
 induction n using Nat.strongRecOn with
 |_ n ih=>
  intro hn;rcases amv n 10 with h|h
  ·
   rw[oh h];intro e;simp only[List.head?_cons,anC]at e;have h2:=congrArg UInt8.toNat e;rw[zO h]at h2;have:(48:UInt8).toNat=48:=rfl;omega
  rw[q9 h,List.head?_append]
  cases hd:(dec (n/10)).head? with
  |none=>exact absurd (List.head?_eq_none_iff.1 hd) Kc
  |some x=>
   have:=ih (n/10) (by omega) (by omega);rw[hd]at this;simpa using this
theorem E5(n:Nat):Cd (dec n):=by
 refine⟨Kc,?_⟩;rcases anW n with rfl|h
 ·
  left;rw[oh (by decide)];simp
 exact .inr (R8 n h)
theorem R9: ∀{s:aB},Cd s->s.all jg=true->dec (val s)=s:=by
 intro s;have key: ∀k (s:aB),s.length=k->Cd s->s.all jg=true->dec (val s)=s:=by
  intro k
  induction k with
  |zero=>intro s hl hp _;exact absurd (amB.1 hl) hp.1
  |succ k ih=>
   intro s hl hp hd;obtain⟨t,c,rfl⟩: ∃t c,s=t++[c]:=by
    rcases List.eq_nil_or_concat s with h|⟨t,c,h⟩
    ·
     exact absurd h hp.1
    exact⟨t,c,by simpa using h⟩
   rw[List.all_append,alM]at hd;have hc:48<=c.toNat/\c.toNat<=57:=by
    have:=hd.2;simpa[jg]using this
   have zP:UInt8.ofNat (48+(c.toNat -48))=c:=by
    rw[show 48+(c.toNat -48)=c.toNat by omega];exact UInt8.ofNat_toNat
   rw[Cc]
   by_cases ht:t=[]
   ·
    subst ht;rw[show val []=0 from rfl,Nat.mul_zero,amX,oh (by omega),zP];rfl
   have bx:t.length=k:=by simpa using hl
   have Sa:Cd t:=by
    refine⟨ht,?_⟩;rcases hp.2 with h|h
    ·
     left;simp only[adr,ad2,af0]at h;omega
    right;rw[List.head?_append]at h
    cases BH:t.head? with
    |none=>simp
    |some x=>rw[BH]at h;simpa using h
   have E6:=ih t bx Sa hd.1;have hv:0<val t:=by
    rcases anW (val t)with h0|h0
    ·
     exfalso;rw[h0,oh (by decide)]at E6;rcases hp.2 with h|h
     ·
      simp only[adr,ad2,af0]at h;have:=anf.2 ht;omega
     rw[←E6]at h;exact h rfl
    exact h0
   rw[q9 (by omega),show(10*val t+(c.toNat -48))/10=val t by omega,E6,show(10*val t+(c.toNat -48))%10=c.toNat -48 by omega,zP]
 exact key s.length s rfl
def bj(s:aB)(top:Nat):Option Nat:=if(s≠[]/\(s.length<=1\/s.head?≠some 48)/\s.all jg=true/\val s<=top)then some (val s)else none
theorem gZ:bj s top=some n↔s=dec n/\n<=top:=by
 unfold bj;constructor
 ·
  intro h;split at h
  ·
   rename_i h1;obtain⟨h2,h3,h4,h5⟩:=h1;obtain rfl:=amn h;exact⟨(R9 ⟨h2,h3⟩ h4).symm,h5⟩
  cases h
 rintro⟨rfl,h⟩;obtain⟨h1,h2⟩:=E5 n;rw[if_pos ⟨h1,h2,E3 n,by rw[E4];exact h⟩,E4]
theorem zQ(h:n<=top):bj (dec n) top=some n:=gZ.2 ⟨rfl,h⟩
theorem iV: ∀k n,n<10^k->0<k->(dec n).length<=k:=by
 intro k
 induction k with
 |zero=>intro n _ h;omega
 |succ k ih=>
  intro n h _;rcases amv n 10 with h1|h1
  ·
   rw[oh h1];simp
  rw[q9 h1,adr];have hk:0<k:=by
   rcases anW k with rfl|hk
   ·
    simp at h;omega
   exact hk
  have:=ih (n/10) (by rw[Nat.pow_succ]at h;omega) hk;simpa using this
theorem xx(h:jg c=false):c∉dec n:=fun hc=>by
 have:=amt.1 (E3 n) c hc;rw[h]at this;cases this
def aE(c:UInt8):aB->List aB
 |[]=>[[]]
 |x::s=>if x=c then[]::aE c s else match aE c s with
  |[]=>[[x]]
  |p::r=>(x::p)::r
theorem vG: ∀s,aE c s≠[]
 |[]=>by simp[aE]
 |x::s=>by
  rw[aE];split
  ·
   simp
  split<;>simp
theorem vH(h:c∉s):aE c s=[s]:=by
 induction s with
 |nil=>rfl
 |cons x s ih=>
  rw[aE,if_neg (fun e=>h (by simp[e])),ih (fun hc=>h (ans _ hc))]
theorem vI(h:c∉s):aE c (s++c::t)=s::aE c t:=by
 induction s with
 |nil=>rw[am6,aE,if_pos rfl]
 |cons x s ih=>
  rw[anj,aE,if_neg (fun e=>h (by simp[e])),ih (fun hc=>h (ans _ hc))]
theorem xz: ∀(s:aB),(c∉s/\aE c s=[s])\/ ∃a b,s=a++c::b/\c∉a/\aE c s=a::aE c b
 |[]=> .inl ⟨by simp,rfl⟩
 |x::s=>by
  by_cases hx:x=c
  ·
   subst hx;exact .inr ⟨[],s,rfl,by simp,by rw[aE,if_pos rfl]⟩
  rcases xz s with⟨h1,h2⟩|⟨a,b,h1,h2,h3⟩
  ·
   left;have:c∉x::s:=fun h=>(amA.1 h).elim (fun e=>hx e.symm) h1;exact⟨this,vH this⟩
  right;have:c∉x::a:=fun h=>(amA.1 h).elim (fun e=>hx e.symm) h2;exact⟨x::a,b,by rw[h1];rfl,this,by rw[h1,←anj,vI this]⟩
theorem E7{a:aB}(h:aE c s=[a]):s=a/\c∉s:=by
 rcases xz (c:=c) s with⟨h1,h2⟩|⟨x,y,h1,h2,h3⟩
 ·
  rw[h2]at h;exact⟨(List.cons.inj h).1,h1⟩
 rw[h3]at h;exact absurd (List.cons.inj h).2 (vG y)
theorem zR{a b:aB}{r:List aB}(h:aE c s=a::b::r): ∃u,s=a++c::u/\c∉a/\aE c u=b::r:=by
 rcases xz (c:=c) s with⟨h1,h2⟩|⟨x,y,h1,h2,h3⟩
 ·
  rw[h2]at h;cases(List.cons.inj h).2
 rw[h3]at h;obtain⟨e1,e2⟩:=List.cons.inj h;subst e1;exact⟨y,h1,h2,e2⟩
def gu(s:aB):Array Value:= #[.string ⟨s.toArray⟩]
instance:bn gu 1:=⟨fun _=>rfl,fun s=>by simp[gu,Value.oneCell']⟩
instance (s:aB):bH (gu s) 0 (.string ⟨s.toArray⟩):=⟨rfl⟩
theorem mI(s:aB):(⟨s.toArray⟩:ByteArray).size=s.length:=by simp[ByteArray.size]
theorem Sb(s:aB)(i:Nat):(⟨s.toArray⟩:ByteArray)[i]? =s[i]? :=by
 by_cases h:i<s.length
 ·
  rw[ByteArray.getElem?_lt' _ _ (by rw[mI];exact h),amG h];rfl
 rw[ByteArray.getElem?_ge' _ _ (by rw[mI];exact h),amD (by omega)]
theorem E8(s:aB)(a b:Nat):(⟨s.toArray⟩:ByteArray).extract a b=⟨((s.drop a).take (b -a)).toArray⟩:=by
 have h:=Lib.extract_data (⟨s.toArray⟩:ByteArray) a b;have:((⟨s.toArray⟩:ByteArray).extract a b).data=((s.drop a).take (b -a)).toArray:=by
  apply aol;rw[h]
 cases e:(⟨s.toArray⟩:ByteArray).extract a b with
 |mk d=>rw[e]at this;rw[←this]
theorem Sc(a b:aB):(⟨a.toArray⟩:ByteArray)++⟨b.toArray⟩=⟨(a++b).toArray⟩:=by
 have:((⟨a.toArray⟩:ByteArray)++⟨b.toArray⟩).data=(a++b).toArray:=by
  rw[ByteArray.data_append];simp
 cases e:(⟨a.toArray⟩:ByteArray)++⟨b.toArray⟩with
 |mk d=>rw[e]at this;rw[←this]
theorem Kd(s:ByteArray):s=⟨s.data.toList.toArray⟩:=by cases s;simp
theorem zS(c:UInt8): ∀s:aB,(aE c s).length<=s.length+1
 |[]=>by simp[aE]
 |x::s=>by
  have ih:=zS c s;rw[aE];split
  ·
   simp;omega
  split
  ·
   simp
  rename_i p r h;rw[h]at ih;simp at ih⊢;omega
section
variable {P:Program} {N:cc} {w0:World} {env:Env} {L:List ah} {d:Option Tmp} {ty t u:TypeId} {ps:String} {af:Array Edge} {gd:Option (Nat×Bool)} {x y lo hi:Operand} {k k':IntKind} {a b s:aB}
theorem hH(ht:P.underlying t=some .string)(hx:ev env x=some (.string ⟨s.toArray⟩)):
  Ry P N w0 env L ⟨d, .call {callee:= .builtin .len,args:= #[x],argTypes:= #[t]},ty,ps,af,gd⟩ (.int .i64 (s.length:Nat)):=fun aa w ha _=>by
 have h:(Builtin.len_ #[t] ty #[.string ⟨s.toArray⟩]).run P w= .ok (goInt s.length) w:=by
  rw[run_len_string w t ty _ ht,mI]
 simp[execOp,ha.ev hx,resolve,invoke,builtin,h,Result.andThen,goInt]
theorem lr{j:Int}(i:Nat)(hu:P.underlying t=some .string)(hx:ev env x=some (.string ⟨s.toArray⟩))(hj:ev env y=some (.int k j))(ej:j=(i:Int))(h:i<s.length):
  Ry P N w0 env L ⟨d, .index t x y,ty,ps,af,gd⟩ (.int .u8 ((s.getD i 0).toNat:Nat)):=BP hu hx hj (by omega) (by
 subst ej;rw[Sb,am1,amG h];simp[List.getD,h])
theorem jC(hx:ev env x=some (.string ⟨a.toArray⟩))(hy:ev env y=some (.string ⟨b.toArray⟩))(h:a.length+b.length<4294967296):
  Ry P N w0 env L ⟨d, .binOp .add t x y u,ty,ps,af,gd⟩ (.string ⟨(a++b).toArray⟩):=fun aa w ha _=>by
 have h2:(eqGuard BinOp.add t x y (.string ⟨a.toArray⟩) (.string ⟨b.toArray⟩)).run P w= .ok () w:=rfl;have hl: ¬(((⟨a.toArray⟩:ByteArray).size+(⟨b.toArray⟩:ByteArray).size:Nat):Int)>IntKind.i64.max:=by
  rw[mI,mI,show IntKind.i64.max=9223372036854775807 from rfl];omega
 have h3:(Op.stringOp .add (⟨a.toArray⟩:ByteArray) ⟨b.toArray⟩).run P w= .ok (.string ⟨(a++b).toArray⟩) w:=by
  simp only[Op.stringOp,hl,if_false,Sc];rfl
 simp only[execOp,ha.ev hx,ha.ev hy,Sem.run_bind,h2,Result.andThen_ok,binOp_string_add,h3,Sem.run_pure]
theorem Sd{p q:Int}(l h:Nat)(ht:P.underlying t=some .string)(hx:ev env x=some (.string ⟨s.toArray⟩))(hl:ev env lo=some (.int k p))(hh:ev env hi=some (.int k' q))(el:p=(l:Int))(eh:q=(h:Int))(h1:l<=h)(h2:h<=s.length):
  Ry P N w0 env L ⟨d, .slice t x (some lo) (some hi) none,ty,ps,af,gd⟩ (.string ⟨((s.drop l).take (h -l)).toArray⟩):=fun aa w ha _=>by
 subst el;subst eh;have hr:=run_slice_string_if (P:=P) w t ⟨s.toArray⟩ k k' l h ht;rw[if_pos ⟨by omega,by rw[mI];omega⟩,if_pos ⟨by omega,by omega⟩,am1,am1,E8]at hr;have e1:((some lo).map aa.eval:Option Value)=some (.int k l):=by simp[ha.ev hl]
 have e2:((some hi).map aa.eval:Option Value)=some (.int k' h):=by simp[ha.ev hh]
 simp only[execOp,ha.ev hx,e1,e2,aoo,run_sliceAt_string (h:=ht),hr,Sem.run_bind,Result.andThen,Sem.run_pure]
theorem Ry.as{o:Oper}{v v':Value}(h:Ry P N w0 env L o v)(e:v=v'):Ry P N w0 env L o v':=e▸h
theorem Se{q:Int}(h:Nat)(ht:P.underlying t=some .string)(hx:ev env x=some (.string ⟨s.toArray⟩))(hh:ev env hi=some (.int k' q))(eh:q=(h:Int))(h2:h<=s.length):
  Ry P N w0 env L ⟨d, .slice t x none (some hi) none,ty,ps,af,gd⟩ (.string ⟨(s.take h).toArray⟩):=fun aa w ha _=>by
 subst eh;have hr:=run_slice_string_h (P:=P) (w:=w) t ⟨s.toArray⟩ ht k' h (by omega) (by rw[mI];omega);rw[am1,E8,Nat.sub_zero,anh]at hr;simp only[execOp,ha.ev hx,ha.ev hh,am3,aoo,run_sliceAt_string (h:=ht),hr,Sem.run_bind,Result.andThen,Sem.run_pure]
theorem Sf{p:Nat}{v1 v2:Int}(hx:ev env x=some (.int .u8 v1))(hy:ev env y=some (.int k' v2))(ea:v1=p)(hp:p<16)(eb:v2=4:=by rfl):
  Ry P N w0 env L ⟨d, .binOp .shl t x y u,ty,ps,af,gd⟩ (.int .u8 ((p*16:Nat):Int)):=by
 subst ea eb;refine Ry.as (EC hx hy (by decide)) (congrArg (Value.int .u8) ?_);have e:((p:Int)*2^min (4:Int).toNat IntKind.u8.bits)=((p*16:Nat):Int):=by
  rw[show(2:Int)^min (4:Int).toNat IntKind.u8.bits=16 by decide];omega
 rw[e];exact od (by simp only[nb];omega)
theorem zT{p q:Nat}{v1 v2:Int}(hx:ev env x=some (.int k v1))(hy:ev env y=some (.int k v2))(ea:v1=p)(eb:v2=q)(h:q<=p)(h2:p<2^nb k:=by first|(simp only[nb];omega)|exact(aod _)):
  Ry P N w0 env L ⟨d, .binOp .sub t x y u,ty,ps,af,gd⟩ (.int k ((p -q:Nat):Int)):=da hx hy (by
 subst ea eb;rw[kI,show(p:Int) -(q:Int)=((p -q:Nat):Int) by omega,od (by omega)])
theorem E9{n:Nat}(hs:(P.underlying t).isSome=true)(hd:P.underlying u=some .string)(hx:ev env x=some (.int k n))(h:n<128):
  Ry P N w0 env L ⟨d, .convert t u x,ty,ps,af,gd⟩ (.string ⟨[UInt8.ofNat n].toArray⟩):=fun aa w ha _=>by
 have hr:=run_convert_int_string (P:=P) w t u k n hs hd;have he:Utf8.encode (n:Int)=⟨[UInt8.ofNat n].toArray⟩:=by
  have hv:Utf8.valid (n:Int)=true:=by simp[Utf8.valid];omega
  unfold Utf8.encode;simp only[hv,if_true,am1,h]
 rw[he]at hr;simp only[execOp,ha.ev hx,Sem.run_bind,hr,Result.andThen,Sem.run_pure]
end
variable {s a b:aB} {c:UInt8}
theorem Ke(h:c∉s):Lib.index s [c]= -1:=by
 induction s with
 |nil=>rfl
 |cons x s ih=>
  have hx:x≠c:=fun e=>h (by simp[e]);have hp:([c]:aB).isPrefixOf (x::s)=false:=by
   simp only[List.isPrefixOf,Bool.and_true];simpa using fun e=>hx e.symm
  rw[Lib.index,hp,ih (fun hc=>h (ans _ hc))];rfl
theorem Kf(h:c∉a):Lib.index (a++c::b) [c]=(a.length:Int):=by
 induction a with
 |nil=>
  rw[am6,Lib.index,if_pos (by simp[List.isPrefixOf])];rfl
 |cons x a ih=>
  have hx:x≠c:=fun e=>h (by simp[e]);have hp:([c]:aB).isPrefixOf (x::(a++c::b))=false:=by
   simp only[List.isPrefixOf,Bool.and_true];simpa using fun e=>hx e.symm
  rw[anj,Lib.index,hp,ih (fun hc=>h (ans _ hc)),if_neg (by simp),if_neg (by simp only[beq_iff_eq];omega)];simp
def aD(c:UInt8)(s:aB):aB×aB×Bool:=Lib.cut s [c]
theorem Kg(h:c∉s):aD c s=(s,[],false):=by
 rw[aD,Lib.cut,Ke h,if_neg (by decide)]
theorem Kh(h:c∉a):aD c (a++c::b)=(a,b,true):=by
 rw[aD,Lib.cut,Kf h,if_pos (by omega)];simp
theorem Ki(c:UInt8): ∀(n:Nat) (s:ByteArray),s.size<=n->(Lib.splitB ⟨#[c]⟩ 0 (Lib.countB s ⟨#[c]⟩) s).map (·.data.toList)=aE c s.data.toList:=by
 intro n
 induction n with
 |zero=>
  intro s hs;have hz:s.data.toList=[]:=by
   apply amB.1;have:=Lib.size_eq s;omega
  have hi:Lib.indexB s ⟨#[c]⟩= -1:=by
   show Lib.index s.data.toList [c]= -1;rw[hz];rfl
  rw[Lib.splitB_miss _ _ _ _ hi,hz];simp[hz,aE]
 |succ n ih=>
  intro s hs;rcases xz (c:=c) s.data.toList with⟨h1,h2⟩|⟨a,b,h1,h2,h3⟩
  ·
   have hi:Lib.indexB s ⟨#[c]⟩= -1:=Ke h1;rw[Lib.splitB_miss _ _ _ _ hi,h2];rfl
  have hi:Lib.indexB s ⟨#[c]⟩=(a.length:Int):=by
   show Lib.index s.data.toList [c]=_;rw[h1];exact Kf h2
  have dU:(⟨#[c]⟩:ByteArray).size=1:=rfl;have hlen:s.size=a.length+(b.length+1):=by rw[Lib.size_eq,h1];simp
  rw[Lib.countB_hit s _ a.length (by rw[dU];decide) hi,aoy 1,Lib.splitB,if_neg (by rw[hi];simp only[beq_iff_eq];omega),hi,h3];have e1:((a.length:Int)).toNat=a.length:=by omega
  rw[e1,amR];have ed: ∀x y:Nat,(s.extract x y).data.toList=(s.data.toList.drop x).take (y -x):=fun x y=>Lib.extract_data s x y;have e2:(s.extract 0 (a.length+0)).data.toList=a:=by rw[ed,h1];simp
  have e3:(s.extract (a.length+(⟨#[c]⟩:ByteArray).size) s.size).data.toList=b:=by
   rw[ed,h1,dU,hlen];simp;exact amr (by omega)
  rw[e2,ih _ (by have:=Lib.size_eq (s.extract (a.length+(⟨#[c]⟩:ByteArray).size) s.size);rw[e3]at this;omega),e3]
theorem Sg(c:UInt8)(s:ByteArray):Lib.countB s ⟨#[c]⟩+1=(aE c s.data.toList).length:=by
 rw[←Ki c s.size s (amz _),amF,Lib.splitB_all _ (amz _) 0 _ s rfl]
end Go.ay
namespace Go.Kb
abbrev Key:=BitVec 128
def aX(k:Key)(i:Nat):Nat:=k.toNat/2^(8*(15 -i))%2^8
theorem fJ(k:Key)(i:Nat):aX k i<256:=an1 _ (by decide)
theorem Sh(k:Key)(i j:Nat)(hj:j<8):(aX k i).testBit j=k.toNat.testBit (8*(15 -i)+j):=by
 unfold aX;rw[Nat.testBit_mod_two_pow,Nat.testBit_div_two_pow];simp[hj,aoy]
theorem Si(k:Key)(n:Nat)(h:n<128):k.getMsbD n=k.toNat.testBit (127 -n):=by
 simp only[BitVec.getMsbD,BitVec.getLsbD,h,decide_true,an9]
theorem zU(k:Key)(n:Nat)(h:n<128):k.getMsbD n=(aX k (n/8)).testBit (7 -n%8):=by
 rw[Si k n h,Sh k (n/8) (7 -n%8) (by omega)];congr 1;omega
theorem Fa(k:Key)(n:Nat)(h:128<=n):k.getMsbD n=false:=by
 simp only[BitVec.getMsbD];simp;omega
theorem zV{a b:Key}(h: ∀n,n<128->a.getMsbD n=b.getMsbD n):a=b:=BitVec.eq_of_getMsbD_eq fun i hi=>h i hi
theorem Sj{x y:Nat}(hx:x<256)(hy:y<256)(h: ∀j,j<8->x.testBit j=y.testBit j):x=y:=by
 refine Nat.eq_of_testBit_eq fun j=>?_;rcases amv j 8 with hj|hj
 ·
  exact h j hj
 have hp:2^8<=2^j:=ank (by decide) hj;rw[Nat.testBit_lt_two_pow (ant hx hp),Nat.testBit_lt_two_pow (ant hy hp)]
theorem ra{a b:Key}(h: ∀i,i<16->aX a i=aX b i):a=b:=
 zV fun n hn=>by rw[zU a n hn,zU b n hn,h (n/8) (by omega)]
theorem Sk{k:Key}{i x:Nat}(hi:i<16)(hx:x<256)(h: ∀m,m<8->k.getMsbD (8*i+m)=x.testBit (7 -m)):aX k i=x:=
 Sj (fJ k i) hx fun j hj=>by
  have:=h (7 -j) (by omega);rw[zU k _ (by omega),show(8*i+(7 -j))/8=i by omega,show 7 -(8*i+(7 -j))%8=j by omega,show 7 -(7 -j)=j by omega]at this;exact this
def nD(f:Nat->Nat):Key:=BitVec.ofNat 128 ((List.range 16).foldl (fun a i=>a*2^8+f i%2^8) 0)
theorem Ce(f:Nat->Nat): ∀n,(List.range n).foldl (fun a i=>a*2^8+f i%2^8) 0<2^(8*n)
 |0=>by simp
 |n+1=>by
  rw[aof,anT];have:=Ce f n;have h2:f n%2^8<2^8:=an1 _ (by decide);simp only[aoq,List.foldl_nil];rw[Nat.mul_add,an0,Nat.pow_add];omega
theorem Kj(f:Nat->Nat): ∀n i,i<n->(List.range n).foldl (fun a i=>a*2^8+f i%2^8) 0/2^(8*(n -1 -i))%2^8=f i%2^8
 |0,i,h=>by omega
 |n+1,i,h=>by
  rw[aof,anT];simp only[aoq,List.foldl_nil];generalize hF:(List.range n).foldl (fun a i=>a*2^8+f i%2^8) 0=F
  by_cases hi:i=n
  ·
   subst hi;rw[show i+1 -1 -i=0 by omega];simp
  have ih:=Kj f n i (by omega);rw[hF]at ih;rw[show 8*(n+1 -1 -i)=8+8*(n -1 -i) by omega,Nat.pow_add,←Nat.div_div_eq_div_mul];have:(F*2^8+f n%2^8)/2^8=F:=by
   have h2:f n%2^8<2^8:=an1 _ (by decide);omega
  rw[this];exact ih
theorem rb(f:Nat->Nat)(i:Nat)(h:i<16):aX (nD f) i=f i%2^8:=by
 unfold aX nD;have e:((List.range 16).foldl (fun a i=>a*2^8+f i%2^8) 0)%2^128=(List.range 16).foldl (fun a i=>a*2^8+f i%2^8) 0:=amY (Ce f 16);rw[anF,e];exact Kj f 16 i h
def zW(k:Key)(i x:Nat):Key:=nD fun j=>if j=i then x else aX k j
theorem Kk(k:Key)(i x j:Nat)(hj:j<16)(hx:x<256):aX (zW k i x) j=if j=i then x else aX k j:=by
 unfold zW;rw[rb _ j hj];split
 ·
  omega
 have:=fJ k j;omega
def bw(k:Key):Array Value:=((List.range 16).map fun i=>Value.int .u8 (aX k i)).toArray
theorem du(k:Key):(bw k).size=16:=by unfold bw;simp
theorem fK(k:Key)(i:Nat)(h:i<16):(bw k)[i]? =some (.int .u8 (aX k i)):=by unfold bw;simp[h]
theorem Kl(k:Key)(i:Nat)(h:16<=i):(bw k)[i]? =none:=by unfold bw;simp;omega
theorem Fb{A:Array Value}{k:Key}(hs:A.size=16)(h: ∀i,i<16->A[i]? =some (.int .u8 (aX k i))):A=bw k:=by
 apply am7;intro i;rcases amv i 16 with hi|hi
 ·
  rw[h i hi,fK k i hi]
 rw[Kl k i hi];simp;omega
theorem Sm(k:Key)(i x:Nat)(hi:i<16)(hx:x<256):(bw k).setIfInBounds i (.int .u8 x)=bw (zW k i x):=by
 refine Fb (by simp[du]) fun j hj=>?_;rw[amQ,Kk k i x j hj hx]
 by_cases h:i=j
 ·
  subst h;simp[du,hi]
 rw[if_neg h,if_neg (fun e=>h e.symm),fK k j hj]
theorem Fc{a b:Key}(h:bw a=bw b):a=b:=ra fun i hi=>by
 have h1:=fK a i hi;rw[h,fK b i hi]at h1;simp at h1;omega
def dE(k:Key)(n:Int):Key:=if n<1 then 0#128 else(k>>>(128 -n.toNat))<<<(128 -n.toNat)
theorem sM(k:Key)(n:Int)(i:Nat):(dE k n).getMsbD i=(decide ((i:Int)<n)&&k.getMsbD i):=by
 unfold dE;split
 ·
  have: ¬((i:Int)<n):=by omega
  simp[this]
 rcases amv i 128 with hi|hi
 ·
  rw[BitVec.getMsbD_shiftLeft,BitVec.getMsbD_ushiftRight]
  by_cases hn:(i:Int)<n
  ·
   have h1:i+(128 -n.toNat)<128:=by omega
   have h2:i+(128 -n.toNat) -(128 -n.toNat)=i:=by omega
   simp[hn,h1,h2]
  have h1: ¬i+(128 -n.toNat)<128:=by omega
  simp[hn,h1]
 rw[Fa _ _ hi,Fa _ _ hi];simp
theorem Km(k:Key)(n:Int)(h:128<=n):dE k n=k:=zV fun i hi=>by
 rw[sM];have:(i:Int)<n:=by omega
 simp[this]
theorem Sn(k:Key)(n:Int)(h:n<1):dE k n=0#128:=by unfold dE;rw[if_pos h]
theorem So(k:Key)(n m:Int):dE (dE k n) m=dE k (min n m):=zV fun i _=>by
 rw[sM,sM,sM,←Bool.and_assoc];congr 1;rw[←Bool.decide_and,decide_eq_decide];omega
theorem Sp(k:Key)(n:Int):dE k n=k↔ ∀i:Nat,i<128->n<=(i:Int)->k.getMsbD i=false:=by
 constructor
 ·
  intro h i hi hn;rw[←h,sM];have: ¬(i:Int)<n:=by omega
  simp[this]
 intro h;refine zV fun i hi=>?_;rw[sM]
 by_cases hn:(i:Int)<n
 ·
  simp[hn]
 rw[h i hi (by omega)];simp
theorem zX(k:Key)(n:Nat)(i:Nat)(hi:i<16):aX (dE k n) i=if 8*i+8<=n then aX k i else if 8*i<=n then aX k i/2^(8 -(n -8*i))*2^(8 -(n -8*i))else 0:=by
 have hb:=fJ k i;have bx:(if 8*i+8<=n then aX k i else if 8*i<=n then aX k i/2^(8 -(n -8*i))*2^(8 -(n -8*i))else 0)<256:=by
  split
  ·
   exact hb
  split
  ·
   exact aoc (Nat.div_mul_le_self _ _) hb
  omega
 refine Sk hi bx fun m hm=>?_;rw[sM,zU k _ (by omega),show(8*i+m)/8=i by omega,show 7 -(8*i+m)%8=7 -m by omega];split
 ·
  have:((8*i+m:Nat):Int)<(n:Int):=by omega
  simp only[this,decide_true,an9]
 split
 ·
  generalize ht:8 -(n -8*i)=t;rw[Nat.testBit_mul_two_pow,Nat.testBit_div_two_pow]
  by_cases bx:((8*i+m:Nat):Int)<(n:Int)
  ·
   have h1:t<=7 -m:=by omega
   simp only[bx,h1,decide_true,an9];rw[show 7 -m -t+t=7 -m by omega]
  have h1: ¬t<=7 -m:=by omega
  simp only[bx,h1,decide_false,aoK]
 have: ¬((8*i+m:Nat):Int)<(n:Int):=by omega
 simp only[this,decide_false,aoK,Nat.zero_testBit]
def lP(k:Key)(n:Int):Int:=if 0<=n/\n<128 then(if k.getMsbD n.toNat then 1 else 0)else 0
theorem Sr(x j:Nat):((x/2^j%2:Nat):Int)=if x.testBit j then 1 else 0:=by
 rw[Nat.testBit_eq_decide_div_mod_eq]
 by_cases h:x/2^j%2=1
 ·
  simp[h]
 have:x/2^j%2=0:=by omega
 simp[this]
theorem Kn(k:Key)(n:Int)(h0:0<=n)(h1:n<128):lP k n=((aX k (n/8).toNat/2^(7 -n%8).toNat%2:Nat):Int):=by
 unfold lP;rw[if_pos ⟨h0,h1⟩,Sr,zU k n.toNat (by omega)];rw[show(n/8).toNat=n.toNat/8 by omega,show(7 -n%8).toNat=7 -n.toNat%8 by omega]
theorem Ss(k:Key)(n:Int)(h:n<0\/128<=n):lP k n=0:=by unfold lP;rw[if_neg (by omega)]
theorem Cf(k:Key)(n:Int):0<=lP k n/\lP k n<=1:=by unfold lP;split<;>(try split)<;>omega
theorem Ko(k:Key)(n:Nat):lP k n=if k.getMsbD n then 1 else 0:=by
 unfold lP;rcases amv n 128 with h|h
 ·
  rw[if_pos (by omega)];simp
 rw[if_neg (by omega),Fa k n h];simp
def qb(k:Key)(n:Int):Int:=if 0<=n/\n<32 then 8*lP k (4*n)+4*lP k (4*n+1)+2*lP k (4*n+2)+lP k (4*n+3)else 0
theorem St(k:Key)(n:Int)(h:n<0\/32<=n):qb k n=0:=by unfold qb;rw[if_neg (by omega)]
theorem uk(k:Key)(i j:Nat)(hi:i<16)(hj:j<8):lP k ((8*i+j:Nat):Int)=((aX k i/2^(7 -j)%2:Nat):Int):=by
 rw[Kn k _ (by omega) (by omega)];rw[show(((8*i+j:Nat):Int)/8).toNat=i by omega,show(7 -((8*i+j:Nat):Int)%8).toNat=7 -j by omega]
theorem Su(b:Nat)(h:b<256):8*(b/2^7%2)+4*(b/2^6%2)+2*(b/2^5%2)+b/2^4%2=b/2^4:=by
 simp only[Nat.reducePow];omega
theorem Sw(b:Nat):8*(b/2^3%2)+4*(b/2^2%2)+2*(b/2^1%2)+b/2^0%2=b%16:=by
 simp only[Nat.reducePow];omega
theorem Sx(k:Key)(n:Int)(h0:0<=n)(h1:n<32)(he:n%2=0):qb k n=((aX k (n/2).toNat/2^4:Nat):Int):=by
 unfold qb;rw[if_pos ⟨h0,h1⟩];generalize hi:(n/2).toNat=i;have e0:4*n=((8*i+0:Nat):Int):=by omega
 have e1:4*n+1=((8*i+1:Nat):Int):=by omega
 have e2:4*n+2=((8*i+2:Nat):Int):=by omega
 have e3:4*n+3=((8*i+3:Nat):Int):=by omega
 rw[e1,e2,e3,e0,uk k i 0 (by omega) (by omega),uk k i 1 (by omega) (by omega),uk k i 2 (by omega) (by omega),uk k i 3 (by omega) (by omega)];have:=Su (aX k i) (fJ k i);simp only[Nat.reduceSub]at*;omega
theorem Sy(k:Key)(n:Int)(h0:0<=n)(h1:n<32)(he:n%2=1):qb k n=((aX k (n/2).toNat%16:Nat):Int):=by
 unfold qb;rw[if_pos ⟨h0,h1⟩];generalize hi:(n/2).toNat=i;have e0:4*n=((8*i+4:Nat):Int):=by omega
 have e1:4*n+1=((8*i+5:Nat):Int):=by omega
 have e2:4*n+2=((8*i+6:Nat):Int):=by omega
 have e3:4*n+3=((8*i+7:Nat):Int):=by omega
 rw[e1,e2,e3,e0,uk k i 4 (by omega) (by omega),uk k i 5 (by omega) (by omega),uk k i 6 (by omega) (by omega),uk k i 7 (by omega) (by omega)];have:=Sw (aX k i);simp only[Nat.reduceSub]at*;omega
structure cz where
 bits:Int
 len:Int
 key:Key
 deriving DecidableEq
def bO(p:cz):Bool:=decide (p.bits=32\/p.bits=128)&&decide (0<=p.len)&&decide (p.len<=p.bits)&&decide (dE p.key p.len=p.key)
theorem xA(p:cz):bO p=true↔(p.bits=32\/p.bits=128)/\0<=p.len/\p.len<=p.bits/\dE p.key p.len=p.key:=by
 unfold bO;simp[and_assoc]
def Sz(p:cz)(k:Key):Bool:=bO p&&decide (dE k p.bits=k)&&decide (dE k p.len=p.key)
def SA(p q:cz):Bool:=bO p&&bO q&&decide (p.bits=q.bits)&&decide (p.len<=q.len)&&decide (dE q.key p.len=p.key)
def qc(p q:cz):Bool:=bO p&&bO q&&(if p.bits≠q.bits then decide (p.bits=32)else if p.key≠q.key then decide (p.key.toNat<q.key.toNat)else decide (p.len<q.len))
def cl(p:cz):Array Value:= #[.int .i64 p.bits, .int .i64 p.len]++bw p.key
theorem lQ(p:cz):(cl p).size=18:=by unfold cl;rw[amT,du];rfl
theorem vJ(p:cz):(cl p)[0]? =some (.int .i64 p.bits):=by unfold cl;rw[Array.getElem?_append];rfl
theorem vK(p:cz):(cl p)[1]? =some (.int .i64 p.len):=by unfold cl;rw[Array.getElem?_append];rfl
theorem om(p:cz)(j:Nat):(cl p)[2+j]? =(bw p.key)[j]? :=by
 unfold cl;rw[Array.getElem?_append,if_neg (by simp)];congr 1;simp
theorem Kp{a b:cz}(h:cl a=cl b):a=b:=by
 have h0:=vJ a;rw[h,vJ]at h0;have h1:=vK a;rw[h,vK]at h1;have h2:a.key=b.key:=Fc (am7 fun i=>by rw[←om,←om,h])
 cases a;cases b
 simp at h0 h1 h2⊢;exact⟨h0.symm,h1.symm,h2⟩
theorem Kq(k:Key):nD (aX k)=k:=ra fun i hi=>by
 rw[rb _ i hi];have:=fJ k i;omega
theorem Kr{a b:Key}{i:Nat}(hi:i<16)(hs: ∀j,j<i->aX a j=aX b j)(hd:aX a i<aX b i):a.toNat<b.toNat:=by
 have key: ∀n,n<=16->i<n->(List.range n).foldl (fun x j=>x*2^8+aX a j%2^8) 0<(List.range n).foldl (fun x j=>x*2^8+aX b j%2^8) 0:=by
  intro n
  induction n with
  |zero=>intro _ h;omega
  |succ n ih=>
   intro hn jA;rw[aof,anT,anT];simp only[aoq,List.foldl_nil];have ha:=fJ a n;have hb:=fJ b n
   by_cases h:i=n
   ·
    subst h;have e:(List.range i).foldl (fun x j=>x*2^8+aX a j%2^8) 0=(List.range i).foldl (fun x j=>x*2^8+aX b j%2^8) 0:=by
     have aux: ∀(l:List Nat) (z:Nat),(∀j∈l,aX a j=aX b j)->l.foldl (fun x j=>x*2^8+aX a j%2^8) z=l.foldl (fun x j=>x*2^8+aX b j%2^8) z:=by
      intro l
      induction l with
      |nil=>intro z _;rfl
      |cons x l ih=>intro z hl;simp only[aoq];rw[hl x (by simp)];exact ih _ fun j hj=>hl j (by simp[hj])
     exact aux _ _ fun j hj=>hs j (anc.1 hj)
    rw[e];omega
   have:=ih (by omega) (by omega);omega
 have mJ:=key 16 (amz _) hi;have ea:a.toNat=(List.range 16).foldl (fun x j=>x*2^8+aX a j%2^8) 0:=by
  conv=>lhs;rw[←Kq a]
  unfold nD;rw[anF];exact amY (Ce (aX a) 16)
 have eb:b.toNat=(List.range 16).foldl (fun x j=>x*2^8+aX b j%2^8) 0:=by
  conv=>lhs;rw[←Kq b]
  unfold nD;rw[anF];exact amY (Ce (aX b) 16)
 rw[ea,eb];exact mJ
def pk(a b:Key):Int:=if a.toNat<b.toNat then -1 else if b.toNat<a.toNat then 1 else 0
theorem Ks(a b:Key):pk a b=0↔a=b:=by
 unfold pk;constructor
 ·
  intro h;split at h
  ·
   omega
  split at h
  ·
   omega
  exact BitVec.eq_of_toNat_eq (by omega)
 rintro rfl;simp
theorem SB(a b:Key):pk a b<0↔a.toNat<b.toNat:=by
 unfold pk;split
 ·
  simp[*]
 split<;>simp[*]
theorem vL(p:cz):bO p=true↔(p.bits=32\/p.bits=128)/\0<=p.len/\p.len<=p.bits/\ ∀i:Nat,i<128->p.len<=(i:Int)->p.key.getMsbD i=false:=by
 rw[xA,Sp]
structure Rt where
 p:cz
 eC:UInt16
 deriving DecidableEq
def bp:Rt:=⟨⟨0,0,0#128⟩,0⟩
def av(r:Rt):Array Value:=cl r.p++ #[.int .u16 r.eC.toNat]
theorem fw(r:Rt):(av r).size=19:=by unfold av;rw[amT,lQ];rfl
theorem lu(r:Rt)(j:Nat)(h:j<18):(av r)[j]? =(cl r.p)[j]? :=by
 unfold av;rw[amW (by rw[lQ];exact h)]
theorem rf(r:Rt):(av r)[18]? =some (.int .u16 r.eC.toNat):=by
 unfold av;rw[an4 (by rw[lQ];omega),lQ];rfl
def qd(xs:List Rt)(i:Nat):Bool:=match xs[i]?with
 |none=>true
 |some r=>bO r.p&&match i with
  |0=>true
  |j+1=>match xs[j]?with
   |none=>true
   |some q=>qc q.p r.p
def sN(xs:List Rt)(n:Nat):Bool:=(List.range n).all (qd xs)
def iD(xs:List Rt):Bool:=decide (xs.length<=256)&&sN xs xs.length
theorem SC(xs:List Rt):sN xs 0=true:=rfl
theorem SD(xs:List Rt)(n:Nat):sN xs (n+1)=(sN xs n&&qd xs n):=by
 simp[sN,aof]
theorem Kt{xs:List Rt}(h:256<xs.length):iD xs=false:=by
 simp[iD];omega
theorem Ku{xs:List Rt}{i:Nat}(hi:i<xs.length)(h:qd xs i=false):iD xs=false:=by
 have:sN xs xs.length=false:=by
  rw[sN,List.all_eq_false];exact⟨i,anc.2 hi,by simp[h]⟩
 simp[iD,this]
theorem SE{xs:List Rt}(h:xs.length<=256)(ho:sN xs xs.length=true):iD xs=true:=by simp[iD,h,ho]
theorem SF{xs:List Rt}{i:Nat}{r:Rt}(hi:xs[i]? =some r)(h:bO r.p=false):qd xs i=false:=by simp[qd,hi,h]
theorem SG{xs:List Rt}{r:Rt}(hi:xs[0]? =some r):qd xs 0=bO r.p:=by simp[qd,hi]
theorem SH{xs:List Rt}{i:Nat}{q r:Rt}(hi:xs[i+1]? =some r)(hq:xs[i]? =some q):qd xs (i+1)=(bO r.p&&qc q.p r.p):=by simp[qd,hi,hq]
theorem SI{xs:List Rt}{i:Nat}{q r:Rt}(h0:0<i)(hi:xs[i]? =some r)(hq:xs[i -1]? =some q):qd xs i=(bO r.p&&qc q.p r.p):=by
 obtain⟨j,rfl⟩: ∃j,i=j+1:=⟨i -1,by omega⟩;exact SH hi (by simpa using hq)
theorem Kv{xs:List Rt}{i:Nat}{q r:Rt}(hi:xs[i]? =some r)(hq:xs[i -1]? =some q):qd xs i=(bO r.p&& !(decide (0<(i:Int))&& !qc q.p r.p)):=by
 rcases anW i with h|h
 ·
  subst h;rw[SG hi];simp
 rw[SI h hi hq];simp[h]
theorem get_some{α:Type}{xs:List α}{i:Nat}(h:i<xs.length): ∃r,xs[i]? =some r:=⟨xs[i],by simp[h]⟩
theorem Kw{a b:Rt}(h:av a=av b):a=b:=by
 have hp:cl a.p=cl b.p:=am7 fun j=>by
  rcases amv j 18 with hj|hj
  ·
   rw[←lu a j hj,←lu b j hj,h]
  rw[amE (by rw[lQ];exact hj),amE (by rw[lQ];exact hj)]
 have hh:=rf a;rw[h,rf b]at hh;have e1:b.eC=a.eC:=by
  apply UInt16.toNat_inj.1;simp only[anC,Value.int.injEq,true_and]at hh;omega
 obtain⟨p,q⟩:=a;obtain⟨p',q'⟩:=b;simp only at e1 hp;rw[Kp hp,e1]
open Go.ay
variable {s:aB} {c:UInt8} {k:Key}
def gv(n:Nat):UInt8:=if n<10 then UInt8.ofNat (48+n)else UInt8.ofNat (87+n)
def iE(c:UInt8):Option Nat:=if 48<=c.toNat/\c.toNat<=57 then some (c.toNat -48)else if 97<=c.toNat/\c.toNat<=102 then some (c.toNat -87)else none
theorem Kx{n:Nat}(h:n<16):(gv n).toNat=if n<10 then 48+n else 87+n:=by
 unfold gv;split
 ·
  rw[UInt8.toNat_ofNat'];omega
 rw[UInt8.toNat_ofNat'];omega
theorem Cg{n:Nat}(h:n<16):iE c=some n↔c=gv n:=by
 have ht:=Kx h;constructor
 ·
  intro h1;apply an5.1;rw[ht];unfold iE at h1;split at h1
  ·
   have:=amn h1;split<;>omega
  split at h1
  ·
   have:=amn h1;split<;>omega
  cases h1
 rintro rfl;unfold iE;rw[ht];split
 ·
  rw[if_pos (by omega)];congr 1;omega
 rw[if_neg (by omega),if_pos (by omega)];congr 1;omega
theorem Fe{n:Nat}(h:iE c=some n):n<16:=by
 unfold iE at h;split at h
 ·
  have:=amn h;omega
 split at h
 ·
  have:=amn h;omega
 cases h
theorem SJ{n:Nat}(h:n<16){c:UInt8}(hc:iE c=none):gv n≠c:=fun e=>by
 have:=(Cg h).2 e.symm;rw[hc]at this;cases this
def pn(k:Key):aB:=dec (aX k 0)++46::(dec (aX k 1)++46::(dec (aX k 2)++46::dec (aX k 3)))
def eF(k:Key)(i:Nat):Nat:=if i%2=0 then aX k (i/2)/16 else aX k (i/2)%16
theorem vM(k:Key)(i:Nat):eF k i<16:=by
 have:=fJ k (i/2);unfold eF;split<;>omega
def lv(k:Key):aB:=(List.range 32).map fun i=>gv (eF k i)
def nE(k:Key)(bits:Int):aB:=if bits=32 then pn k else lv k
def four(a b c d:Nat):Key:=nD fun i=>if i=0 then a else if i=1 then b else if i=2 then c else if i=3 then d else 0
def iW(s:aB):Option Key:=match aE 46 s with
 |[a,b,c,d]=>match bj a 255,bj b 255,bj c 255,bj d 255 with
  |some a,some b,some c,some d=>some (four a b c d)
  |_,_,_,_=>none
 |_=>none
def Ci(s:aB):Bool:=s.all fun c=>(iE c).isSome
def fR(s:aB)(i:Nat):Nat:=(iE (s.getD i 0)).getD 0
def vN(s:aB):Key:=nD fun i=>16*fR s (2*i)+fR s (2*i+1)
def jD(s:aB):Option Key:=if s.length=32/\Ci s=true then some (vN s)else none
def lR(s:aB):Option (Key×Int):=match iW s with
 |some k=>some (k,32)
 |none=>(jD s).map fun k=>(k,128)
theorem vO{a b c d:Nat}(ha:a<=255)(hb:b<=255)(hc:c<=255)(hd:d<=255){i:Nat}(hi:i<16):aX (four a b c d) i=if i=0 then a else if i=1 then b else if i=2 then c else if i=3 then d else 0:=by
 rw[four,rb _ _ hi];split
 ·
  omega
 split
 ·
  omega
 split
 ·
  omega
 split<;>omega
theorem Ky:dE k 32=k↔ ∀i,4<=i->i<16->aX k i=0:=by
 constructor
 ·
  intro h i h1 h2;have:=zX k 32 i h2;rw[show dE k ((32:Nat):Int)=k from h]at this;rw[this,if_neg (by omega)];split
  ·
   have hb:=fJ k i;obtain rfl:i=4:=by omega
   rw[show(8 -(32 -8*4))=8 by decide];omega
  rfl
 intro h;refine ra fun i hi=>?_;rw[show dE k 32=dE k ((32:Nat):Int)from rfl,zX k 32 i hi];split
 ·
  rfl
 have:=h i (by omega) hi;rw[this];split<;>simp
theorem Kz:iW s=some k↔dE k 32=k/\s=pn k:=by
 constructor
 ·
  intro h;unfold iW at h;split at h
  ·
   rename_i a b c d hs;obtain⟨u1,e1,_,h1⟩:=zR hs;obtain⟨u2,e2,_,h2⟩:=zR h1;obtain⟨u3,e3,_,h3⟩:=zR h2;obtain⟨e4,_⟩:=E7 h3;split at h
   ·
    rename_i na nb nc nd ha hb hc hd;obtain⟨ea,la⟩:=gZ.1 ha;obtain⟨eb,lb⟩:=gZ.1 hb;obtain⟨ec,lc⟩:=gZ.1 hc;obtain⟨ed,ld⟩:=gZ.1 hd;obtain rfl:=amn h;refine⟨Ky.2 fun i h1 h2=>?_,?_⟩
    ·
     rw[vO la lb lc ld h2,if_neg (by omega),if_neg (by omega),if_neg (by omega),if_neg (by omega)]
    rw[pn,vO la lb lc ld (by decide),vO la lb lc ld (by decide),vO la lb lc ld (by decide),vO la lb lc ld (by decide)];simp only[if_true,Nat.one_ne_zero,if_false,(by decide:(2:Nat)≠0),(by decide:(2:Nat)≠1),(by decide:(3:Nat)≠0),(by decide:(3:Nat)≠1),(by decide:(3:Nat)≠2)];rw[e1,e2,e3,e4,ea,eb,ec,ed]
   cases h
  cases h
 rintro⟨h,rfl⟩;have hn: ∀n,(46:UInt8)∉dec n:=fun n=>xx (by decide);have hs:aE 46 (pn k)=[dec (aX k 0),dec (aX k 1),dec (aX k 2),dec (aX k 3)]:=by
  rw[pn,vI (hn _),vI (hn _),vI (hn _),vH (hn _)]
 have hl: ∀i,aX k i<=255:=fun i=>by have:=fJ k i;omega
 have e:iW (pn k)=some (four (aX k 0) (aX k 1) (aX k 2) (aX k 3)):=by
  unfold iW;rw[hs];simp only[zQ (hl _)]
 rw[e];refine congrArg some (ra fun i hi=>?_);rw[vO (hl _) (hl _) (hl _) (hl _) hi];rcases amv i 4 with h4|h4
 ·
  have:i=0\/i=1\/i=2\/i=3:=by omega
  rcases this with rfl|rfl|rfl|rfl<;>simp
 rw[if_neg (by omega),if_neg (by omega),if_neg (by omega),if_neg (by omega),Ky.1 h i h4 hi]
theorem Ff(k:Key){i:Nat}(h:i<32):(lv k)[i]? =some (gv (eF k i)):=by simp[lv,h]
theorem vP(k:Key):(lv k).length=32:=by simp[lv]
theorem KA(k:Key){i:Nat}(h:i<32):fR (lv k) i=eF k i:=by
 unfold fR;rw[List.getD,Ff k h,aok,(Cg (vM k i)).2 rfl];rfl
theorem SK(k:Key):Ci (lv k)=true:=by
 unfold Ci lv;rw[List.all_map,amt];intro i _;simp only[Function.comp];rw[(Cg (vM k i)).2 rfl];rfl
theorem KB:jD s=some k↔s=lv k:=by
 constructor
 ·
  intro h;unfold jD at h;split at h
  ·
   rename_i h1;obtain⟨hl,ha⟩:=h1;obtain rfl:=amn h;have hh: ∀i,i<32-> ∃n,n<16/\s[i]? =some (gv n)/\fR s i=n:=fun i hi=>by
    have hK:i<s.length:=by omega
    have hm:s[i]? =some (s.getD i 0):=by simp[List.getD,hK]
    have:=amt.1 ha _ (amm hm);obtain⟨n,hn⟩:=amH.1 this;have bx:=Fe hn;exact⟨n,bx,by rw[hm,(Cg bx).1 hn],by rw[fR,hn];rfl⟩
   have hb: ∀j,j<16->aX (vN s) j=16*fR s (2*j)+fR s (2*j+1):=fun j hj=>by
    obtain⟨n,h1,_,h2⟩:=hh (2*j) (by omega);obtain⟨m,h3,_,h4⟩:=hh (2*j+1) (by omega);rw[vN,rb _ _ hj];omega
   refine anq fun i=>?_;rcases amv i 32 with hi|hi
   ·
    obtain⟨n,h1,h2,h3⟩:=hh i hi;rw[h2,Ff _ hi];have hn:eF (vN s) i=n:=by
     unfold eF;rw[hb (i/2) (by omega)];have um:=fun j (hj:j<32)=>hh j hj;split
     ·
      rename_i he;obtain⟨m,h5,_,h6⟩:=hh (2*(i/2)+1) (by omega);rw[show 2*(i/2)=i by omega,h3,show i+1=2*(i/2)+1 by omega,h6];omega
     rename_i he;obtain⟨m,h5,_,h6⟩:=hh (2*(i/2)) (by omega);rw[show 2*(i/2)+1=i by omega,h3,h6];omega
    rw[hn]
   rw[amD (by omega),amD (by rw[vP];omega)]
  cases h
 rintro rfl;unfold jD;rw[if_pos ⟨vP k,SK k⟩];congr 1;refine ra fun j hj=>?_;rw[vN,rb _ _ hj,KA k (by omega),KA k (by omega)];have hb:=fJ k j;have e1:eF k (2*j)=aX k j/16:=by unfold eF;rw[if_pos (by omega),show 2*j/2=j by omega]
 have e2:eF k (2*j+1)=aX k j%16:=by unfold eF;rw[if_neg (by omega),show(2*j+1)/2=j by omega]
 rw[e1,e2];omega
theorem KC(k:Key){c:UInt8}(hc:iE c=none):c∉lv k:=fun h=>by
 obtain⟨i,_,hi⟩:=anB.1 h;exact SJ (vM k i) hc hi
theorem SL(k:Key):iW (lv k)=none:=by
 unfold iW;rw[vH (KC k (by decide))]
theorem Cj{b:Int}:lR s=some (k,b)↔bO ⟨b,b,k⟩=true/\s=nE k b:=by
 rw[xA];simp only;constructor
 ·
  intro h;unfold lR at h;split at h
  ·
   rename_i k' hk;obtain⟨rfl,rfl⟩:=Prod.mk.inj (amn h);obtain⟨h1,h2⟩:=Kz.1 hk;exact⟨⟨.inl rfl,by decide,ann _,h1⟩,by rw[nE,if_pos rfl];exact h2⟩
  obtain⟨k',hk,he⟩:=anH.1 h;obtain⟨rfl,rfl⟩:=Prod.mk.inj he;exact⟨⟨.inr rfl,by decide,ann _,Km _ _ (ann _)⟩,by rw[nE,if_neg (by decide)];exact KB.1 hk⟩
 rintro⟨⟨h1,_,_,h2⟩,rfl⟩;rcases h1 with rfl|rfl
 ·
  rw[nE,if_pos rfl,lR,Kz.2 ⟨h2,rfl⟩]
 rw[nE,if_neg (by decide),lR,SL,KB.2 rfl];rfl
def rh(p:cz):aB:=nE p.key p.bits++47::dec p.len.toNat
def jh(s:aB):Option cz:=match aE 47 s with
 |[a,b]=>match lR a,bj b 128 with
  |some (k,bits),some n=>if bO ⟨bits,(n:Int),k⟩=true then some ⟨bits,(n:Int),k⟩else none
  |_,_=>none
 |_=>none
theorem KD{k:Key}{b:Int}{c:UInt8}(h1:iE c=none)(h2:c≠46)(h3:jg c=false):c∉nE k b:=by
 unfold nE;split
 ·
  unfold pn;have hn: ∀n,c∉dec n:=fun n=>xx h3;simp[hn,h2]
 exact KC k h1
theorem SM{p:cz}(h:bO p=true):bO ⟨p.bits,p.bits,p.key⟩=true:=by
 obtain⟨h1,h2,h3,h4⟩:=(xA p).1 h;refine(xA _).2 ⟨h1,by simp only;omega,ann _,?_⟩;show dE p.key p.bits=p.key
 conv=>lhs;rw[←h4]
 rw[So,show min p.len p.bits=p.len by omega,h4]
theorem Fg{p:cz}:jh s=some p↔bO p=true/\s=rh p:=by
 constructor
 ·
  intro h;unfold jh at h;split at h
  ·
   rename_i a b hs;obtain⟨u,e1,_,h1⟩:=zR hs;obtain⟨e2,_⟩:=E7 h1;split at h
   ·
    rename_i k bits n hk hn;split at h
    ·
     rename_i hm;obtain rfl:=amn h;refine⟨hm,?_⟩;obtain⟨_,ek⟩:=Cj.1 hk;obtain⟨en,_⟩:=gZ.1 hn;rw[rh,e1,e2,ek,en];rfl
    cases h
   cases h
  cases h
 rintro⟨hm,rfl⟩;obtain⟨h1,h2,h3,h4⟩:=(xA p).1 hm;unfold jh;rw[rh,vI (KD (by decide) (by decide) (by decide)),vH (xx (by decide))];simp only[Cj.2 ⟨SM hm,rfl⟩];rw[zQ (by rcases h1 with h|h<;>omega)]
 have e:(⟨p.bits,((p.len.toNat:Nat):Int),p.key⟩:cz)=p:=by
  obtain⟨b,l,k⟩:=p;simp only at h2⊢;rw[an8 h2]
 simp only[e,hm,if_true]
def vQ(r:Rt):aB:=rh r.p++32::dec r.eC.toNat
def lS(s:aB):Option Rt:=match aE 32 s with
 |[a,b]=>match jh a,bj b 65535 with
  |some p,some n=>some ⟨p,UInt16.ofNat n⟩
  |_,_=>none
 |_=>none
theorem SN{p:cz}:(32:UInt8)∉rh p:=by
 unfold rh;rw[amM,amA];rintro(h|h|h)
 ·
  exact KD (by decide) (by decide) (by decide) h
 ·
  cases h
 exact xx (by decide) h
theorem SO{r:Rt}:lS s=some r↔bO r.p=true/\s=vQ r:=by
 constructor
 ·
  intro h;unfold lS at h;split at h
  ·
   rename_i a b hs;obtain⟨u,e1,_,h1⟩:=zR hs;obtain⟨e2,_⟩:=E7 h1;split at h
   ·
    rename_i p n hp hn;obtain rfl:=amn h;obtain⟨hm,ep⟩:=Fg.1 hp;obtain⟨en,ln⟩:=gZ.1 hn;refine⟨hm,?_⟩;rw[vQ,e1,e2,ep,en];have:(UInt16.ofNat n).toNat=n:=by rw[UInt16.toNat_ofNat'];omega
    simp only[this]
   cases h
  cases h
 rintro⟨hm,rfl⟩;unfold lS;rw[vQ,vI SN,vH (xx (by decide))];simp only[Fg.2 ⟨hm,rfl⟩];rw[zQ (by have:=r.eC.toNat_lt;omega)];simp only[UInt16.ofNat_toNat]
end Go.Kb

/- Part of a proof. -/
import Derived.WalkKit
import Derived.Deep.Quiet
import Derived.Laws.CopyRow
import Derived.RangeFuncRecord
import Derived.RangeFuncCalls
import Derived.OrdersIn
import Derived.IntWalk
import Derived.StillTail
import Derived.Deep.MidRow
import Derived.Deep.AppendSrc
import Derived.Laws.MakeOwn
import Derived.Laws.Append
import Derived.Laws.Slices
import Derived.Laws.AppendOwn
import Derived.Laws.IdiomStrings
import Derived.Laws.Strings
import Derived.Laws.Cover3
import Derived.Lib.ItoaNum
import Derived.Laws.DeepStrings4
import Derived.Laws.Runes
import Derived.Lib.Strings
import Derived.Lib.SplitLaws
import Derived.Lib.CutLaws
import GoSem.Core.Value
set_option maxRecDepth 20000
set_option linter.unusedSimpArgs false
set_option linter.unusedVariables false
theorem ad2:type_of% @List.getElem?_eq_some_iff:=List.getElem?_eq_some_iff
theorem af0:type_of% @List.length_append:=List.length_append
theorem alM:type_of% @List.mem_of_getElem?:=List.mem_of_getElem?
theorem anc:type_of% @Bool.and_eq_true:=Bool.and_eq_true
theorem ang:type_of% @List.length_cons:=List.length_cons
theorem anh:type_of% @List.length_nil:=List.length_nil
theorem ani:type_of% @Option.some.inj:=Option.some.inj
theorem anj:type_of% @List.length_take:=List.length_take
theorem ank:type_of% @List.mem_cons:=List.mem_cons
theorem anl:type_of% @Nat.lt_or_ge:=Nat.lt_or_ge
theorem anm:type_of% @Nat.le_refl:=Nat.le_refl
theorem ann:type_of% @List.getElem?_append_left:=List.getElem?_append_left
theorem ano:type_of% @List.mem_cons_self:=List.mem_cons_self
theorem anp:type_of% @Nat.mul_le_mul_right:=Nat.mul_le_mul_right
theorem anq:type_of% @List.take_add_one:=List.take_add_one
theorem anr:type_of% @List.getElem?_append_right:=List.getElem?_append_right
theorem ans:type_of% @List.getElem?_eq_none:=List.getElem?_eq_none
theorem ant:type_of% @List.length_drop:=List.length_drop
theorem anu:type_of% @List.mem_append:=List.mem_append
theorem anv:type_of% @List.append_assoc:=List.append_assoc
theorem anw:type_of% @List.all_eq_true:=List.all_eq_true
theorem anx:type_of% @List.take_of_length_le:=List.take_of_length_le
theorem anz:type_of% @List.nil_sublist:=List.nil_sublist
theorem anA:type_of% @List.getElem?_map:=List.getElem?_map
theorem anB:type_of% @List.length_eq_zero_iff:=List.length_eq_zero_iff
theorem anC:type_of% @List.getElem?_eq_getElem:=List.getElem?_eq_getElem
theorem anD:type_of% @List.take_length:=List.take_length
theorem anE:type_of% @List.mem_singleton:=List.mem_singleton
theorem anF:type_of% @Nat.add_mul:=Nat.add_mul
theorem anG:type_of% @Nat.zero_add:=Nat.zero_add
theorem anH:type_of% @Nat.zero_le:=Nat.zero_le
theorem anI:type_of% @List.mem_cons_of_mem:=List.mem_cons_of_mem
theorem anJ:type_of% @List.length_map:=List.length_map
theorem anK:type_of% @List.getElem?_set_self:=List.getElem?_set_self
theorem anL:type_of% @Nat.mod_eq_of_lt:=Nat.mod_eq_of_lt
theorem anM:type_of% @List.pairwise_cons:=List.pairwise_cons
theorem anN:type_of% @List.append_nil:=List.append_nil
theorem anO:type_of% @List.take_append_drop:=List.take_append_drop
theorem anP:type_of% @List.take_zero:=List.take_zero
theorem anQ:type_of% @List.mem_filter:=List.mem_filter
theorem anR:type_of% @List.nil_append:=List.nil_append
theorem anS:type_of% @Array.all_eq_true_iff_forall_mem:=Array.all_eq_true_iff_forall_mem
theorem anT:type_of% @List.sublist_cons_self:=List.sublist_cons_self
theorem anU:type_of% @List.getD_eq_getElem?_getD:=List.getD_eq_getElem?_getD
theorem anV:type_of% @List.mem_or_eq_of_mem_set:=List.mem_or_eq_of_mem_set
theorem anW:type_of% @Nat.lt_of_lt_of_le:=Nat.lt_of_lt_of_le
theorem anX:type_of% @List.map_cons:=List.map_cons
theorem anY:type_of% @Array.getElem?_setIfInBounds:=Array.getElem?_setIfInBounds
theorem anZ:type_of% @List.length_replicate:=List.length_replicate
theorem an0:type_of% @Nat.mul_comm:=Nat.mul_comm
theorem an1:type_of% @List.size_toArray:=List.size_toArray
theorem an2:type_of% @List.map_append:=List.map_append
theorem an3:type_of% @Nat.add_zero:=Nat.add_zero
theorem an4:type_of% @Option.isSome_iff_exists:=Option.isSome_iff_exists
theorem an5:type_of% @List.mem_range:=List.mem_range
theorem an6:type_of% @List.mem_map_of_mem:=List.mem_map_of_mem
theorem an7:type_of% @List.mem_append_left:=List.mem_append_left
theorem an8:type_of% @Option.map_some:=Option.map_some
theorem an9:type_of% @Nat.pow_le_pow_right:=Nat.pow_le_pow_right
theorem aoa:type_of% @List.length_set:=List.length_set
theorem aob:type_of% @Classical.byContradiction:=Classical.byContradiction
theorem aoc:type_of% @List.getElem_of_mem:=List.getElem_of_mem
theorem aod:type_of% @List.pairwise_iff_getElem:=List.pairwise_iff_getElem
theorem aoe:type_of% @Int.toNat_natCast:=Int.toNat_natCast
theorem aof:type_of% @List.getElem?_set:=List.getElem?_set
theorem aog:type_of% @Bool.or_eq_true:=Bool.or_eq_true
theorem aoh:type_of% @Bool.false_ne_true:=Bool.false_ne_true
theorem aoi:type_of% @List.getElem?_of_mem:=List.getElem?_of_mem
theorem aoj:type_of% @List.filter_cons:=List.filter_cons
theorem aok:type_of% @List.ext_getElem?:=List.ext_getElem?
theorem aol:type_of% @List.getElem?_toArray:=List.getElem?_toArray
theorem aom:type_of% @List.getElem?_drop:=List.getElem?_drop
theorem aon:type_of% @Bool.false_eq_true:=Bool.false_eq_true
theorem aoo:type_of% @List.take_succ_cons:=List.take_succ_cons
theorem aop:type_of% @Int.le_refl:=Int.le_refl
theorem aoq:type_of% @List.cons_append:=List.cons_append
theorem aor:type_of% @Nat.eq_zero_or_pos:=Nat.eq_zero_or_pos
theorem aos:type_of% @Bool.true_and:=Bool.true_and
theorem aot:type_of% @List.mem_iff_getElem?:=List.mem_iff_getElem?
theorem aou:type_of% @List.map_nil:=List.map_nil
theorem aov:type_of% @Bool.not_eq_true':=Bool.not_eq_true'
theorem aow:type_of% @List.flatten_cons:=List.flatten_cons
theorem aox:type_of% @List.getElem?_set_ne:=List.getElem?_set_ne
theorem aoy:type_of% @Nat.mul_one:=Nat.mul_one
theorem aoz:type_of% @Nat.testBit_lt_two_pow:=Nat.testBit_lt_two_pow
theorem aoA:type_of% @List.filter_append:=List.filter_append
theorem aoB:type_of% @BitVec.toNat_ofNat:=BitVec.toNat_ofNat
theorem aoC:type_of% @List.mem_map:=List.mem_map
theorem aoD:type_of% @Nat.add_assoc:=Nat.add_assoc
theorem aoE:type_of% @Nat.add_sub_cancel_left:=Nat.add_sub_cancel_left
theorem aoF:type_of% @Array.getElem?_eq_none:=Array.getElem?_eq_none
theorem aoG:type_of% @Array.ext_getElem?:=Array.ext_getElem?
theorem aoH:type_of% @List.take_succ_eq_append_getElem:=List.take_succ_eq_append_getElem
theorem aoI:type_of% @Nat.sub_self:=Nat.sub_self
theorem aoJ:type_of% @Option.bind_some:=Option.bind_some
theorem aoK:type_of% @List.getElem?_range:=List.getElem?_range
theorem aoL:type_of% @List.nodup_append:=List.nodup_append
theorem aoM:type_of% @Option.some.injEq:=Option.some.injEq
theorem aoN:type_of% @Array.getElem?_eq_some_iff:=Array.getElem?_eq_some_iff
theorem aoO:type_of% @List.drop_zero:=List.drop_zero
theorem aoP:type_of% @Nat.mod_lt:=Nat.mod_lt
theorem aoQ:type_of% @Bool.true_eq_false:=Bool.true_eq_false
theorem aoR:type_of% @List.all_toArray:=List.all_toArray
theorem aoS:type_of% @List.map_congr_left:=List.map_congr_left
theorem aoT:type_of% @Bool.and_self:=Bool.and_self
theorem aoU:type_of% @List.set_append_right:=List.set_append_right
theorem aoV:type_of% @List.range_succ:=List.range_succ
theorem aoW:type_of% @Nat.div_add_mod:=Nat.div_add_mod
theorem aoX:type_of% @List.set_cons_zero:=List.set_cons_zero
theorem aoY:type_of% @Nat.eq_of_testBit_eq:=Nat.eq_of_testBit_eq
theorem aoZ:type_of% @List.all_cons:=List.all_cons
theorem ao0:type_of% @Array.length_toList:=Array.length_toList
theorem ao1:type_of% @List.drop_succ_cons:=List.drop_succ_cons
theorem ao2:type_of% @List.drop_eq_getElem_cons:=List.drop_eq_getElem_cons
theorem ao3:type_of% @BitVec.eq_of_toNat_eq:=BitVec.eq_of_toNat_eq
theorem ao4:type_of% @List.contains_iff_mem:=List.contains_iff_mem
theorem ao5:type_of% @Nat.xor_lt_two_pow:=Nat.xor_lt_two_pow
theorem ao6:type_of% @Nat.lt_of_le_of_lt:=Nat.lt_of_le_of_lt
theorem ao7:type_of% @List.perm_middle:=List.perm_middle
theorem ao8:type_of% @List.all_nil:=List.all_nil
theorem ao9:type_of% @Bool.false_and:=Bool.false_and
theorem apa:type_of% @Nat.testBit_div_two_pow:=Nat.testBit_div_two_pow
theorem apb:type_of% @Nat.lt_trichotomy:=Nat.lt_trichotomy
theorem apc:type_of% @List.nodup_cons:=List.nodup_cons
theorem apd:type_of% @List.length_pos_iff:=List.length_pos_iff
theorem ape:type_of% @Array.getElem?_append_left:=Array.getElem?_append_left
theorem apf:type_of% @List.drop_length:=List.drop_length
theorem apg:type_of% @List.getElem?_take:=List.getElem?_take
theorem aph:type_of% @List.find?_eq_none:=List.find?_eq_none
theorem api:type_of% @List.append_of_mem:=List.append_of_mem
theorem apj:type_of% @List.mem_of_mem_take:=List.mem_of_mem_take
theorem apk:type_of% @Bool.eq_iff_iff:=Bool.eq_iff_iff
theorem apl:type_of% @UInt8.toNat_inj:=UInt8.toNat_inj
theorem apm:type_of% @List.prefix_rfl:=List.prefix_rfl
theorem apn:type_of% @List.map_set:=List.map_set
theorem apo:type_of% @List.foldl_append:=List.foldl_append
theorem apq:type_of% @List.getElem?_replicate:=List.getElem?_replicate
theorem apr:type_of% @List.take_set_of_le:=List.take_set_of_le
theorem aps:type_of% @List.filter_sublist:=List.filter_sublist
theorem apt:type_of% @Bool.not_eq_true:=Bool.not_eq_true
theorem apu:type_of% @Option.getD_some:=Option.getD_some
theorem apv:type_of% @Option.map_eq_some_iff:=Option.map_eq_some_iff
theorem apw:type_of% @List.filter_eq_nil_iff:=List.filter_eq_nil_iff
theorem apx:type_of% @Nat.two_pow_add_eq_or_of_lt:=Nat.two_pow_add_eq_or_of_lt
theorem apy:type_of% @Option.toList_some:=Option.toList_some
theorem apz:type_of% @List.filter_nil:=List.filter_nil
theorem apA:type_of% @List.mem_append_right:=List.mem_append_right
theorem apB:type_of% @Nat.min_eq_left:=Nat.min_eq_left
theorem apC:type_of% @List.cons.injEq:=List.cons.injEq
theorem apD:type_of% @List.singleton_append:=List.singleton_append
theorem apE:type_of% @List.length_filter_le:=List.length_filter_le
theorem apF:type_of% @Array.size_append:=Array.size_append
theorem apG:type_of% @List.pairwise_append:=List.pairwise_append
theorem apH:type_of% @Nat.add_eq:=Nat.add_eq
theorem apI:type_of% @Array.ext':=Array.ext'
theorem apJ:type_of% @Nat.div_lt_of_lt_mul:=Nat.div_lt_of_lt_mul
theorem apK:type_of% @List.contains_eq_mem:=List.contains_eq_mem
theorem apL:type_of% @List.map_map:=List.map_map
theorem apM:type_of% @Nat.mul_le_mul_left:=Nat.mul_le_mul_left
theorem apN:type_of% @List.replicate_succ:=List.replicate_succ
theorem apO:type_of% @List.eraseIdx_cons_succ:=List.eraseIdx_cons_succ
theorem apP:type_of% @Bool.false_or:=Bool.false_or
theorem apQ:type_of% @Nat.lt_or_gt_of_ne:=Nat.lt_or_gt_of_ne
theorem apR:type_of% @Int.ediv_nonneg:=Int.ediv_nonneg
theorem apS:type_of% @List.foldl_cons:=List.foldl_cons
theorem apT:type_of% @Int.emod_lt_of_pos:=Int.emod_lt_of_pos
theorem apU:type_of% @Nat.pow_add:=Nat.pow_add
theorem apV:type_of% @List.drop_eq_nil_of_le:=List.drop_eq_nil_of_le
theorem apW:type_of% @List.getElem_cons_drop:=List.getElem_cons_drop
theorem apX:type_of% @Int.add_mul_ediv_right:=Int.add_mul_ediv_right
theorem apY:type_of% @Int.ediv_eq_zero_of_lt:=Int.ediv_eq_zero_of_lt
theorem apZ:type_of% @List.flatMap_cons:=List.flatMap_cons
theorem ap0:type_of% @List.drop_drop:=List.drop_drop
theorem ap1:type_of% @Int.mul_le_mul:=Int.mul_le_mul
theorem ap2:type_of% @Int.mul_nonneg:=Int.mul_nonneg
theorem ap3:type_of% @List.getElem_mem:=List.getElem_mem
theorem ap4:type_of% @List.mem_reverse:=List.mem_reverse
theorem ap5:type_of% @List.flatten_nil:=List.flatten_nil
theorem ap6:type_of% @List.not_mem_nil:=List.not_mem_nil
theorem ap7:type_of% @List.cons.inj:=List.cons.inj
theorem ap8:type_of% @Prod.mk.injEq:=Prod.mk.injEq
namespace Go.au
open Go.RowKit
structure ai where
 fp:Nat->Prop
 sat:(Nat->Option Obj)->Prop
 loc: ∀h h':Nat->Option Obj,(∀k,fp k->h' k=h k)->sat h->sat h'
def an(b:Nat)(cs:Array Value)(T:TypeId):ai:=⟨fun k=>k=b,fun h=>h b=some (.cells cs T (0,0)),fun _ _ e s=>by rw[e b rfl];exact s⟩
structure Mem(w0:World)(L:List ai)(w:World):Prop where
 below:Below w0.heap.size w0 w
 sat: ∀e∈L,e.sat fun k=>w.heap[k]?
 iT: ∀e∈L,∀k,e.fp k->w0.heap.size<=k/\k<w.heap.size
 nD:L.Pairwise fun a b=> ∀k,a.fp k-> ¬b.fp k
theorem Mem.init(w:World):Mem w [] w:=⟨Below.refl _ _,by simp,by simp,by simp⟩
theorem Mem.Kf{w w':World}(h:Below w.heap.size w w'):Mem w [] w':=⟨h,by simp,by simp,by simp⟩
variable {w0:World}{L:List ai}
theorem Mem.le{w:World}(h:Mem w0 L w):w0.heap.size<=w.heap.size:=h.below.size
theorem Mem.call{w0:World}{L E:List ai}{w w':World}(h:Mem w0 L w)(h':Mem w E w'):Mem w0 (E++L) w':=by
 refine⟨h.below.trans (h'.below.mono h.le),fun e he=>?_,fun e he k hk=>?_,?_⟩
 ·
  rcases anu.1 he with he|he
  ·
   exact h'.sat e he
  exact e.loc _ _ (fun k hk=>h'.below.block k (h.iT e he k hk).2) (h.sat e he)
 ·
  rcases anu.1 he with he|he
  ·
   have:=h'.iT e he k hk;have:=h.le;omega
  have:=h.iT e he k hk;have:=h'.below.size;omega
 refine apG.2 ⟨h'.nD,h.nD,fun a ha b hb k hk ji=>?_⟩;have:=h'.iT a ha k hk;have:=h.iT b hb k ji;omega
theorem Mem.step{w w':World}(h:Mem w0 L w)(h':Below w.heap.size w w'):Mem w0 L w':=h.call (E:=[]) (.Kf h')
theorem Mem.drew{w:World}(h:Mem w0 L w):Mem w0 L w.drew:=h.step ((Below.refl _ _).drew)
theorem Mem.Ci{w:World}(h:Mem w0 L w):Mem w0 L {w with drawn:=w.drawn+1}:=h.step ((Below.refl _ _).drew)
theorem Mem.sub{w0:World}{L L':List ai}{w:World}(h:Mem w0 L w)(s:L'.Sublist L):Mem w0 L' w:=
 ⟨h.below,fun e he=>h.sat e (s.subset he),fun e he=>h.iT e (s.subset he),h.nD.sublist s⟩
theorem Mem.perm{w0:World}{L L':List ai}{w:World}(h:Mem w0 L w)(s:L.Perm L'):Mem w0 L' w:=
 ⟨h.below,fun e he=>h.sat e (s.mem_iff.2 he),fun e he=>h.iT e (s.mem_iff.2 he),s.pairwise h.nD (fun sD k hk ji=>sD k ji hk)⟩
theorem Mem.get{w:World}(h:Mem w0 L w){i:Nat}{e:ai}(hi:L[i]? =some e):e.sat fun k=>w.heap[k]? :=h.sat e (alM hi)
theorem Below.Cj(w:World)(o:Obj):(w.alloc o).heap[w.heap.size]? =some o:=by
 show(w.heap.push o)[w.heap.size]? =some o;simp
theorem Mem.alloc{w:World}(h:Mem w0 L w)(cs:Array Value)(T:TypeId):Mem w0 (an w.heap.size cs T::L) (w.alloc (.cells cs T)):=by
 refine h.call (E:=[an w.heap.size cs T]) ⟨(Below.refl _ _).alloc (anm _) _,fun e he=>?_,fun e he k hk=>?_,by simp⟩
 ·
  simp at he;subst he;exact Below.Cj w _
 simp at he;subst he;have:k=w.heap.size:=hk;subst this;simp
theorem Mem.change{w w':World}(h:Mem w0 L w){i:Nat}{e e':ai}(hi:L[i]? =some e)(sE: ∀k,e'.fp k->e.fp k)
  (hB: ∀k,¬e.fp k->w'.heap[k]? =w.heap[k]?) (hs:w'.heap.size=w.heap.size) (ho:w'.os=w.os/\w'.tape=w.tape/\w'.output=w.output)
  (Fy:e'.sat fun k=>w'.heap[k]?):Mem w0 (L.set i e') w':=by
 have Ck:i<L.length:=by
  rcases anl i L.length with h'|h'
  ·
   exact h'
  ·
   simp[ans h']at hi
 have Cl:L[i]=e:=by simpa[anC Ck]using hi
 have Kg:e∈L:=Cl▸ap3 Ck;refine⟨⟨ho.1.trans h.below.os,ho.2.1.trans h.below.tape,ho.2.2.trans h.below.output,hs▸h.below.size,fun k hk=>?_⟩,fun x hx=>?_,fun x hx k hk=>?_,?_⟩
 ·
  rw[hB k (fun hf=>by have:=h.iT e Kg k hf;omega)];exact h.below.block k hk
 ·
  obtain⟨j,hj,mB⟩:=aoc hx;rw[List.getElem_set]at mB;split at mB
  ·
   subst mB;exact Fy
  ·
   rename_i cc;have gO:j<L.length:=by simpa using hj
   subst mB;have hd:=h.nD;rw[aod]at hd;refine(L[j]).loc _ _ (fun k hk=>hB k (fun hf=>?_)) (h.sat _ (ap3 gO));rw[←Cl]at hf;rcases apQ cc with aZ|aZ
   ·
    exact hd i j Ck gO aZ k hf hk
   ·
    exact hd j i gO Ck aZ k hk hf
 ·
  rw[hs];obtain⟨j,hj,mB⟩:=aoc hx;rw[List.getElem_set]at mB;split at mB
  ·
   subst mB;exact h.iT e Kg k (sE k hk)
  ·
   subst mB;exact h.iT _ (ap3 _) k hk
 ·
  rw[aod];intro p q hp hq xT k hk ji;have hd:=h.nD;rw[aod]at hd;rw[List.getElem_set]at hk ji;have gP:p<L.length:=by simpa using hp
  have Cm:q<L.length:=by simpa using hq
  have:=hd p q gP Cm xT k;split at hk<;>split at ji
  ·
   omega
  ·
   rename_i h1 h2;subst h1;exact this (by rw[Cl];exact sE k hk) ji
  ·
   rename_i h1 h2;subst h2;exact this hk (by rw[Cl];exact sE k ji)
  ·
   exact this hk ji
theorem Mem.cell{w:World}(h:Mem w0 L w){i b:Nat}{cs:Array Value}{T:TypeId}(hi:L[i]? =some (an b cs T))(o:Nat):w.cell? ⟨b,o,none⟩=cs[o]? :=by
 have:w.heap[b]? =some (.cells cs T (0,0)):=h.get hi;simp[World.cell?,this]
theorem Mem.block{w:World}(h:Mem w0 L w){i b:Nat}{cs:Array Value}{T:TypeId}(hi:L[i]? =some (an b cs T)):w.heap[b]? =some (.cells cs T (0,0)):=h.get hi
theorem Mem.setRow{w:World}(h:Mem w0 L w){i b:Nat}{cs:Array Value}{T:TypeId}(hi:L[i]? =some (an b cs T))(cs':Array Value):Mem w0 (L.set i (an b cs' T)) (w.setRow b cs'):=by
 have hb:=h.block hi;refine h.change hi (fun k hk=>hk) (fun k hk=>?_) (by simp[World.setRow]) ⟨rfl,rfl,rfl⟩ ?_
 ·
  exact setRow_other w b k cs' (fun e=>hk e)
 exact setRow_heap w b cs cs' T (0,0) hb
def gQ(ro:Option Nat):Fence:={fn:=fun _=>True,depth:=none,alive:=false,round:=ro}
def n8(l:List Oper):Bool:=l.all fun o=>match o.op with
 | .defer _=>false
 |_=>true
theorem Kh{l:List Oper}(h:n8 l=true){i:Nat}{o:Oper}(hi:l.toArray[i]? =some o): ∀c,o.op≠ .defer c:=fun c e=>by
 have hm:o∈l:=by simpa using Array.mem_of_getElem? hi
 have:=anw.1 h o hm;rw[e]at this;cases this
class ir(Q:Exit->Act->World->Prop):Prop where
 h: ∀a w,¬Q .outgrown a w
instance ir.then{K:Act->World->Prop}{Q:Exit->Act->World->Prop}[q:ir Q]:ir (Exit.then K Q):=⟨fun a w h=>q.h a w h⟩
instance ir.block{id:Nat}{Q:Exit->Act->World->Prop}[q:ir Q]:ir (Exit.inBlock id Q):=⟨fun a w h=>q.h a w h⟩
variable {P:Program} {ro:Option Nat}
theorem Ki{f:FuncId}{args:Array Value}{w:World}{R:Ending->World->Prop}(h:Calls P f args w R):CallsIn (gQ ro) 0 P f args w R:=by
 have h':CallsIn Fence.wide 0 P f args w R:=callsIn_wide.2 h
 cases ro with
 |none=>exact h'
 |some l=>exact h'.inRound l
theorem Sc{row:String}{args:Array Value}{w:World}{R:Value->World->Prop}(h:Rows P row args w R):RowsIn (gQ ro) 0 P row args w R:=fun c cs _=>by
 obtain⟨v,w',hR,hs⟩:=h c cs;refine⟨v,w',hR,?_⟩;have h':StepsIn (Machine.fenced P Fence.wide) P _ _:=stepsIn_wide.2 hs;exact h'
theorem Sd{o:Oper}{a:Act}{w:World}{K:Act->World->Prop}{Q:Exit->Act->World->Prop}(ca: ∀c,o.op≠ .defer c)(h:o.wp P a w K Q):o.wpIn (gQ ro) 0 P a w K Q:=by
 refine⟨fun _ _=>trivial,?_⟩;rw[Oper.semAt_eq _ _ _ ca];unfold Oper.wp at h;generalize(execOp a.eval o).run P w=r at h⊢;unfold Oper.upon at h;unfold Oper.uponIn;split at h
 ·
  exact h
 ·
  exact h
 ·
  exact h
 ·
  exact⟨fun e=>(by cases e),Ki h⟩
 ·
  exact⟨fun e=>(by cases e),Sc h⟩
 ·
  exact h
 exact h.elim
theorem z6{ops:Array Oper}{Q:Exit->Act->World->Prop}[q:ir Q](ca: ∀(i:Nat) (o:Oper),ops[i]? =some o-> ∀c,o.op≠ .defer c): ∀(l:List Nat) (a:Act) (w:World),wpOps P ops Q l a w->wpOpsIn (gQ ro) 0 P ops Q l a w
 |[],_,_,h=>h
 |i::rest,a,w,h=>by
  unfold wpOps at h;unfold wpOpsIn;split at h
  ·
   rename_i ho;simp only[ho];exact z6 ca rest a w h
  rename_i o ho;simp only[ho];split at h
  ·
   rename_i hw;rw[if_pos hw];rcases h with h|⟨_,a',w',h⟩
   ·
    exact Oper.wpIn_mono (fun a w h=>z6 ca rest a w h) (Sd (ca i o ho) h)
   exact absurd h (q.h a' w')
  rename_i hw;rw[if_neg hw];exact⟨fun _ _=>trivial,z6 ca rest _ w h⟩
theorem Se{id:Nat}{l:List Oper}{Q:Exit->Act->World->Prop}{a:Act}{w:World}[ir Q](ca:n8 l=true)(h:wpList P l.toArray Q l a w):(Code.region id l.toArray false).wpIn (gQ ro) 0 P Q a w:=
 wpIn_region (z6 (fun _ _ hi=>Kh ca hi) _ a w (by rw[List.range_eq_range',←ao0,wpOps_eq_wpList l.toArray.toList 0 (by simp)];exact h))
theorem Fz{id:Nat}{l:List Oper}{Q:Exit->Act->World->Prop}{a:Act}{w:World}[ir Q](ca:n8 l=true)(hm:P.follows .mixedOrders=true)
  (h:wpAny P .any l.toArray Q l.toArray.size (Array.replicate l.toArray.size false) a {w with drawn:=w.drawn+1}):(Code.region id l.toArray true).wpIn (gQ ro) 0 P Q a w:=
 wpIn_region_draw fun t=>z6 (fun _ _ hi=>Kh ca hi) _ a _ (by
  simp only[Region.schedule,hm,Bool.true_or,if_true];exact wpAny_sound l.toArray.size t _ a _ h)
theorem Sf{id:Nat}{l:List Oper}{C:World->Prop}{Q:Exit->Act->World->Prop}{a:Act}{w:World}[ir Q](ca:n8 l=true)(hm:P.follows .mixedOrders=true)(hB:Region.lexB .any l.toArray=true)(hC:C {w with drawn:=w.drawn+1})
  (h:wpQuiet P l.toArray C (fun a'=> ∀w',C w'->Q .normal a' w') l a):(Code.region id l.toArray true).wpIn (gQ ro) 0 P Q a w:=by
 simp only[Region.lexB,anc]at hB;refine Fz ca hm (wpAny_of_quiet (Q:=fun a'=> ∀w',C w'->Q .normal a' w') (fun _ w' fB h=>h w' fB) _ _ _ _ hC ?_);have:=wpAnyQ_lex (C:=C) (md:= .any) hB.1 l 0 (Array.replicate l.toArray.size false) a (by simp) (by simpa using hB.2) h;simpa using this
def mark(D:Nat):Deferred:={target:= .collected D,args:= #[]}
def n9(P:Program)(fn:Func)(R:Ending->World->Prop):Exit->Act->World->Prop:=fun e a w=>(e= .normal\/e= .ret)/\bodyPostM (gQ none) 0 P fn R e a w
instance ir.end{fn:Func}{R:Ending->World->Prop}:ir (n9 P fn R):=⟨fun a w h=>by rcases h.1 with h|h<;>cases h⟩
theorem Kj{f:FuncId}{fn:Func}{c:Code}{args:Array Value}{w:World}{R:Ending->World->Prop}(hf:P.funcs[f]? =some fn)(hb:fn.body=some c)
  (h:c.wpIn (gQ none) 0 P (n9 P fn R) {tmps:=args++Array.replicate (fn.ntmps -args.size) undef,defers:=[]} w):Calls P f args w R:=
 callsIn_wide.1 (callsIn_of_wp_marks (F:=gQ none) (n:=0) hf hb trivial (wpIn_mono h fun _ _ _ h=>h.2))
section
variable {P:Program} {l:List Oper} {C:World->Prop} {Q:Exit->Act->World->Prop} {n:Nat} {fs:List Nat}
def fr(l:List Oper)(fs:List Nat)(v:Nat->Value)(a0:Act):Nat->Act
 |0=>a0
 |k+1=>if fs.contains k=true then fr l fs v a0 k else match l[k]?with
  |some o=>(fr l fs v a0 k).put o.dst (v k)
  |none=>fr l fs v a0 k
def dt(l:List Oper)(j:Nat):Option Tmp:=(l[j]?).bind (·.dst)
theorem iU(a:Act)(d:Option Tmp)(v:Value)(t:Nat)(h:d≠some t):(a.put d v).tmps[t]? =a.tmps[t]? :=by
 cases d with
 |none=>rfl
 |some d=>
  have:d≠t:=fun e=>h (by rw[e]);simp[Act.put,this]
theorem qX(a:Act)(d:Option Tmp)(v:Value):(a.put d v).tmps.size=a.tmps.size:=by cases d<;>simp[Act.put]
theorem qY(a:Act)(d:Option Tmp)(v:Value):(a.put d v).defers=a.defers:=by cases d<;>rfl
theorem Kk(a b:Act)(d:Nat)(v:Value)(h:a.tmps.size=b.tmps.size):(a.put (some d) v).tmps[d]? =(b.put (some d) v).tmps[d]? :=by
 simp[Act.put,anY,h]
theorem v8{v:Nat->Value}{a0:Act}{k:Nat}{o:Oper}(hf:fs.contains k=false)(h:l[k]? =some o):fr l fs v a0 (k+1)=(fr l fs v a0 k).put o.dst (v k):=by
 show(if fs.contains k=true then _ else match l[k]?with|some o=>(fr l fs v a0 k).put o.dst (v k)|none=>fr l fs v a0 k)=_;rw[hf,h];rfl
theorem xU{v:Nat->Value}{a0:Act}{k:Nat}(hf:fs.contains k=true):fr l fs v a0 (k+1)=fr l fs v a0 k:=by
 show(if fs.contains k=true then _ else match l[k]?with|some o=>(fr l fs v a0 k).put o.dst (v k)|none=>fr l fs v a0 k)=_;rw[hf];rfl
theorem z7{v:Nat->Value}{a0:Act}{k:Nat}(h:l[k]? =none):fr l fs v a0 (k+1)=fr l fs v a0 k:=by
 show(if fs.contains k=true then _ else match l[k]?with|some o=>(fr l fs v a0 k).put o.dst (v k)|none=>fr l fs v a0 k)=_;rw[h];split<;>rfl
theorem z8(v:Nat->Value)(a0:Act): ∀k,(fr l fs v a0 k).tmps.size=a0.tmps.size
 |0=>rfl
 |k+1=>by
  cases hf:fs.contains k with
  |true=>rw[xU hf];exact z8 v a0 k
  |false=>
   cases ho:l[k]?with
   |none=>rw[z7 ho];exact z8 v a0 k
   |some o=>rw[v8 hf ho,qX];exact z8 v a0 k
theorem Cn(v:Nat->Value)(a0:Act): ∀k,(fr l fs v a0 k).defers=a0.defers
 |0=>rfl
 |k+1=>by
  cases hf:fs.contains k with
  |true=>rw[xU hf];exact Cn v a0 k
  |false=>
   cases ho:l[k]?with
   |none=>rw[z7 ho];exact Cn v a0 k
   |some o=>rw[v8 hf ho,qY];exact Cn v a0 k
theorem wa(v:Nat->Value)(a0:Act)(t k:Nat): ∀m,k<=m->(∀j,k<=j->j<m->fs.contains j=false->dt l j≠some t)->(fr l fs v a0 m).tmps[t]? =(fr l fs v a0 k).tmps[t]?
 |0,h,_=>by obtain rfl:k=0:=by omega
            rfl
 |m+1,h,hn=>by
  by_cases e:k=m+1
  ·
   subst e;rfl
  have ih:=wa v a0 t k m (by omega) fun j h1 h2=>hn j h1 (by omega);rw[←ih]
  cases hf:fs.contains m with
  |true=>rw[xU hf]
  |false=>
   cases ho:l[m]?with
   |none=>rw[z7 ho]
   |some o=>
    rw[v8 hf ho];exact iU _ _ _ _ (by simpa[dt,ho]using hn m (by omega) (by omega) hf)
def Aa(l:List Oper)(fs:List Nat)(n:Nat):Bool:=
 (List.range n).all fun k=>match l[k]?with
  |none=>false
  |some o=>
   (match o.op with| .select .. =>false|_=>true)&&
   (o.after.all fun e=> !Region.binds .any e||decide (e.on<k))&&
   (List.range n).all fun j=>match dt l j with
    |none=>true
    |some d=>(!(o.looksAt l.toArray).contains d||(decide (j<k)&&(!fs.contains j||fs.contains k)&&o.after.any fun e=>Region.binds .any e&&e.on==j))&&(j==k||o.dst !=some d)
structure Ab(l:List Oper)(fs:List Nat)(n k:Nat)(o:Oper):Prop where
 uq: ∀cs b,o.op≠ .select cs b
 back: ∀e∈o.after,Region.binds .any e=true->e.on<k
 reads: ∀j d,j<n->dt l j=some d->d∈o.looksAt l.toArray->j<k/\(fs.contains j=true->fs.contains k=true)/\ ∃e∈o.after,Region.binds .any e=true/\e.on=j
 one: ∀j d,j<n->dt l j=some d->j≠k->o.dst≠some d
theorem Co(h:Aa l fs n=true)(k:Nat)(hk:k<n): ∃o,l[k]? =some o/\Ab l fs n k o:=by
 have:=anw.1 h k (an5.2 hk)
 cases ho:l[k]?with
 |none=>simp[ho]at this
 |some o=>
  rw[ho]at this;simp only[anc]at this;obtain⟨⟨h1,h2⟩,h3⟩:=this;refine⟨o,rfl,⟨fun cs b e=>by rw[e]at h1;simp at h1,fun e he hb=>?_,fun j d hj hd hl=>?_,fun j d hj hd cc=>?_⟩⟩
  ·
   have:=(anS.1 h2) e he;simpa[hb]using this
  ·
   have:=anw.1 h3 j (an5.2 hj);rw[hd]at this;simp only[anc,aog,aov,decide_eq_true_eq]at this;rcases this.1 with h4|h4
   ·
    exact absurd hl (by simpa using h4)
   obtain⟨⟨h5,h6⟩,h7⟩:=h4;obtain⟨e,he,hb⟩:=Array.any_eq_true'.1 h7;simp only[anc,beq_iff_eq]at hb;exact⟨h5,fun jw=>h6.elim (fun h=>by rw[h]at jw;cases jw) id,e,he,hb.1,hb.2⟩
  have:=anw.1 h3 j (an5.2 hj);rw[hd]at this;simp only[anc,aog,beq_iff_eq]at this;rcases this.2 with h4|h4
  ·
   exact absurd h4 cc
  simpa using h4
def sF(P:Program)(o:Oper)(a:Act)(C:World->Prop)(v:Value):Prop:= ∀w,C w->o.quietAt P a (Mem w []) w v
def FA(P:Program)(l:List Oper)(fs:List Nat)(C:World->Prop)(v:Nat->Value)(a0:Act)(k:Nat):Prop:=
 ∀o,l[k]? =some o->(Region.wanted o (yielded l.toArray (fr l fs v a0 k).tmps)=true->sF P o (fr l fs v a0 k) C (v k))/\
  (Region.wanted o (yielded l.toArray (fr l fs v a0 k).tmps)=false->v k=undef)
def lM(P:Program)(ops:Array Oper)(fs:List Nat)(C:World->Prop)(F:Act->Prop):Nat->List Oper->Act->Prop
 |_,[],a=>F a
 |k,o::rest,a=>if fs.contains k=true then lM P ops fs C F (k+1) rest a
  else if Region.wanted o (yielded ops a.tmps)=true then∃v,sF P o a C v/\lM P ops fs C F (k+1) rest (a.put o.dst v)else lM P ops fs C F (k+1) rest (a.put o.dst undef)
theorem FB{F:Act->Prop}: ∀(m k:Nat) (a0:Act) (v0:Nat->Value),k+m<=l.length->lM P l.toArray fs C F k ((l.drop k).take m) (fr l fs v0 a0 k)->
  ∃v,(∀j,j<k->v j=v0 j)/\(∀j,k<=j->j<k+m->fs.contains j=false->FA P l fs C v a0 j)/\F (fr l fs v a0 (k+m))
 |0,k,a0,v0,_,h=>⟨v0,fun _ _=>rfl,fun j h1 h2=>by omega,by simpa[lM]using h⟩
 |m+1,k,a0,v0,hle,h=>by
  have hk:k<l.length:=by omega
  have ed:l.drop k=l[k]::l.drop (k+1):=ao2 hk;rw[ed,aoo]at h;have Kl:l[k]? =some l[k]:=anC hk;have agree: ∀v v':Nat->Value,∀j,(∀i,i<j->v i=v' i)->fr l fs v a0 j=fr l fs v' a0 j:=by
   intro v v' j
   induction j with
   |zero=>intro _;rfl
   |succ j ih=>
    intro hh;have e:=ih fun i hi=>hh i (by omega)
    cases hf:fs.contains j with
    |true=>rw[xU hf,xU hf,e]
    |false=>
     cases ho:l[j]?with
     |none=>rw[z7 ho,z7 ho,e]
     |some o=>rw[v8 hf ho,v8 hf ho,e,hh j (by omega)]
  unfold lM at h
  cases wb:fs.contains k with
  |true=>
   rw[if_pos wb]at h;obtain⟨v,g1,g2,g3⟩:=FB m (k+1) a0 v0 (by omega) (by rw[xU wb];exact h);refine⟨v,fun j hj=>g1 j (by omega),fun j h3 h4 h5=>?_,by rw[show k+(m+1)=k+1+m by omega];exact g3⟩
   by_cases hj:j=k
   ·
    subst hj;rw[wb]at h5;cases h5
   ·
    exact g2 j (by omega) (by omega) h5
  |false=>
   rw[if_neg (by rw[wb];exact aoh)]at h;have step: ∀u:Value,lM P l.toArray fs C F (k+1) ((l.drop (k+1)).take m) ((fr l fs v0 a0 k).put l[k].dst u)->
     ((Region.wanted l[k] (yielded l.toArray (fr l fs v0 a0 k).tmps)=true->sF P l[k] (fr l fs v0 a0 k) C u)/\(Region.wanted l[k] (yielded l.toArray (fr l fs v0 a0 k).tmps)=false->u=undef))->
     ∃v,(∀j,j<k->v j=v0 j)/\(∀j,k<=j->j<k+(m+1)->fs.contains j=false->FA P l fs C v a0 j)/\F (fr l fs v a0 (k+(m+1))):=by
    intro u h2 hu
    let v1:Nat->Value:=fun j=>if j=k then u else v0 j
    have e1:fr l fs v1 a0 k=fr l fs v0 a0 k:=agree _ _ k fun i hi=>by simp[v1,show i≠k by omega]
    have e2:fr l fs v1 a0 (k+1)=(fr l fs v0 a0 k).put l[k].dst u:=by
     rw[v8 wb Kl,e1];simp[v1]
    obtain⟨v,g1,g2,g3⟩:=FB m (k+1) a0 v1 (by omega) (by rw[e2];exact h2);have e3:fr l fs v a0 k=fr l fs v0 a0 k:=agree _ _ k fun i hi=>by rw[g1 i (by omega)];simp[v1,show i≠k by omega]
    have e4:v k=u:=by rw[g1 k (by omega)];simp[v1]
    refine⟨v,fun j hj=>by rw[g1 j (by omega)];simp[v1,show j≠k by omega],fun j h3 h4 h5=>?_,by rw[show k+(m+1)=k+1+m by omega];exact g3⟩
    by_cases hj:j=k
    ·
     subst hj;intro o ho;rw[Kl]at ho;cases ho;rw[e3,e4];exact hu
    ·
     exact g2 j (by omega) (by omega) h5
   split at h
   ·
    rename_i hw;obtain⟨u,h1,h2⟩:=h;exact step u h2 ⟨fun _=>h1,fun hf=>by rw[hw]at hf;cases hf⟩
   ·
    rename_i hw;exact step undef h ⟨fun ht=>absurd ht hw,fun _=>rfl⟩
def Km(P:Program)(w:World)(R:Value->World->List ai->Prop):Result Next->Prop
 | .ok (.value v) w'=> ∃E,R v w' E
 | .ok (.enter f args) w'=>w'=w/\Calls P f args w fun e ob=> ∃v E,e= .returned v/\R v ob E
 |_=>False
def sG(P:Program)(l:List Oper)(n:Nat)(Q:Exit->Act->World->Prop)(w0:World)(Lq:List ai):List Nat->Act->List ai->Prop
 |[],af,L=> ∀w,Mem w0 L w->wpList P l.toArray Q (l.drop n) af w
 |j::js,af,L=> ∃o,l[j]? =some o/\o.guard=none/\ ∀w,Mem w0 L w->Km P w (fun v w' L'=>Mem w0 L' w'/\(∀w,Mem w0 L' w->Mem w0 Lq w)/\sG P l n Q w0 Lq js (af.put o.dst v) L') ((execOp af.eval o).run P w)
def qZ(l:List Oper):List Nat->Bool
 |j::k::r=>(match l[k]?with|some o=>o.after.any fun e=>Region.binds .any e&&e.on==j|none=>false)&&qZ l (k::r)
 |_=>true
theorem Kn: ∀(rs:List Nat) (j0:Nat),qZ l (j0::rs)=true-> ∀i∈rs,∃p∈j0::rs,∃o,l[i]? =some o/\ ∃e∈o.after,Region.binds .any e=true/\e.on=p
 |[],_,_,i,hi=>by cases hi
 |k::r,j0,h,i,hi=>by
  simp only[qZ,anc]at h;rcases ank.1 hi with rfl|hi
  ·
   cases ho:l[i]?with
   |none=>rw[ho]at h;simp at h
   |some o=>
    rw[ho]at h;obtain⟨e,he,hb⟩:=Array.any_eq_true'.1 h.1;simp only[anc,beq_iff_eq]at hb;exact⟨j0,by simp,o,rfl,e,he,hb.1,hb.2⟩
  obtain⟨p,hp,o,ho,e,he,hb⟩:=Kn r k h.2 i hi;exact⟨p,anI _ hp,o,ho,e,he,hb⟩
structure ur(P:Program)(l:List Oper)(fs:List Nat)(Q:Exit->Act->World->Prop)(w0:World)(L0:List ai)(n:Nat)(v:Nat->Value)(a0:Act)(rs:List Nat)(af:Act)(listed:Array Bool)(a:Act)(w:World):Prop where
 inv:HeadInv .any l.toArray n listed
 mem: ∃L,Mem w0 L w/\(∀w,Mem w0 L w->Mem w0 L0 w)/\sG P l n Q w0 L0 rs af L
 size:a.tmps.size=a0.tmps.size
 pj:af.tmps.size=a0.tmps.size
 defers:a.defers=a0.defers
 q6:af.defers=a0.defers
 gq: ∃ds,fs=ds++rs
 todo: ∀j,j<n->fs.contains j=true->(listed.getD j true=false↔j∈rs)
 done: ∀j d,j<n->listed.getD j true=true->dt l j=some d->a.tmps[d]? =af.tmps[d]?
 rest: ∀d,(∀j,j<n->listed.getD j true=true->dt l j≠some d)->a.tmps[d]? =a0.tmps[d]?
 full: ∀d,(∀j,j<n->fs.contains j=true->listed.getD j true=true->dt l j≠some d)->af.tmps[d]? =(fr l fs v a0 n).tmps[d]?
variable {w0:World} {L0:List ai}
theorem FC{listed:Array Bool}{i:Nat}(h:listed.getD i true=false):i<listed.size:=by
 rcases anl i listed.size with h'|h'
 ·
  exact h'
 simp[aoF h']at h
theorem Ko{v:Nat->Value}{a0 a af:Act}{rs:List Nat}{listed:Array Bool}{w:World}(H:ur P l fs Q w0 L0 n v a0 rs af listed a w){k:Nat}{o:Oper}(ho:Ab l fs n k o)
  (pn: ∀e∈o.after,Region.binds .any e=true->listed.getD e.on false=true) (t:Nat) (ht:t∈o.looksAt l.toArray):a.tmps[t]? =af.tmps[t]? :=by
 by_cases hw: ∃j,j<n/\dt l j=some t
 ·
  obtain⟨j,hj,hd⟩:=hw;obtain⟨_,_,e,he,hb,kg⟩:=ho.reads j t hj hd ht;have hl:=pn e he hb;rw[kg]at hl;have Sg:listed.getD j true=true:=by
   have Ac:j<listed.size:=by
    rcases anl j listed.size with h|h
    ·
     exact h
    ·
     simp[aoF h]at hl
   simp[Ac]at hl⊢;exact hl
  exact H.done j t hj Sg hd
 ·
  have h1: ∀j,j<n->dt l j≠some t:=fun j hj hd=>hw ⟨j,hj,hd⟩;rw[H.rest t fun j hj _=>h1 j hj,H.full t fun j hj _ _=>h1 j hj];exact(wa v a0 t 0 n (by omega) fun j _ h2 _=>h1 j h2).symm
theorem Sh{v:Nat->Value}{a0 a af:Act}{rs:List Nat}{listed:Array Bool}{w:World}(H:ur P l fs Q w0 L0 n v a0 rs af listed a w){k:Nat}{o:Oper}(hk:k<n)(wb:fs.contains k=false)(ho:Ab l fs n k o)(hB:Aa l fs n=true)
  (pn: ∀e∈o.after,Region.binds .any e=true->listed.getD e.on false=true) (t:Nat) (ht:t∈o.looksAt l.toArray):a.tmps[t]? =(fr l fs v a0 k).tmps[t]? :=by
 rw[Ko H ho pn t ht]
 by_cases hw: ∃j,j<n/\dt l j=some t
 ·
  obtain⟨j,hj,hd⟩:=hw;obtain⟨hjk,Sj,_⟩:=ho.reads j t hj hd ht;have uniq: ∀i,i<n->i≠j->dt l i≠some t:=fun i hi lN he=>by
   obtain⟨oi,uu,lO⟩:=Co hB i hi;exact lO.one j t hj hd (Ne.symm lN) (by simpa[dt,uu]using he)
  rw[H.full t fun i hi hf _ he=>?_]
  ·
   exact wa v a0 t k n (by omega) fun i h1 h2 _=>uniq i h2 (by omega)
  ·
   by_cases lN:i=j
   ·
    subst lN;have:=Sj hf;rw[wb]at this;cases this
   ·
    exact uniq i hi lN he
 ·
  have h1: ∀j,j<n->dt l j≠some t:=fun j hj hd=>hw ⟨j,hj,hd⟩;rw[H.full t fun j hj _ _=>h1 j hj,wa v a0 t 0 n (by omega) fun j _ h2 _=>h1 j h2];exact(wa v a0 t 0 k (by omega) fun j _ h2 _=>h1 j (by omega)).symm
theorem FD{a b:Act}{o:Oper}{ops:Array Oper}(h: ∀t∈o.looksAt ops,a.tmps[t]? =b.tmps[t]?): ∀x∈o.op.operands,a.eval x=b.eval x:=by
 intro x hx
 cases x with
 |tmp t=>
  have:t∈o.looksAt ops:=by
   unfold Oper.looksAt;refine an7 _ (List.mem_filterMap.2 ⟨.tmp t,by simpa using hx,rfl⟩)
  simp[Act.eval,h t this]
 |_=>rfl
theorem Kp{a b:Act}{o:Oper}{ops:Array Oper}(h: ∀t∈o.looksAt ops,a.tmps[t]? =b.tmps[t]?):Region.wanted o (yielded ops a.tmps)=Region.wanted o (yielded ops b.tmps):=by
 unfold Region.wanted
 cases hg:o.guard with
 |none=>rfl
 |some p=>
  obtain⟨j,b'⟩:=p;have:yielded ops a.tmps j=yielded ops b.tmps j:=by
   unfold yielded
   cases hd:(ops[j]?).bind (·.dst)with
   |none=>rfl
   |some d=>
    have hm:d∈o.looksAt ops:=by unfold Oper.looksAt;rw[hg];simp[hd]
    simp[h d hm]
  simp[this]
def xV(size n:Nat):Array Bool:=((List.range size).map fun i=>decide (i<n)).toArray
theorem Sk{v:Nat->Value}{a0 a af:Act}{rs:List Nat}{listed:Array Bool}{w w':World}(H:ur P l fs Q w0 L0 n v a0 rs af listed a w){i:Nat}{o:Oper}(hi:i<n)(iV:fs.contains i=false)(wc:l[i]? =some o)(ho:Ab l fs n i o)(hB:Aa l fs n=true)
  (hr:i∈Region.ready .any l.toArray listed) (fB:Mem w [] w'):ur P l fs Q w0 L0 n v a0 rs af (listed.setIfInBounds i true) (a.put o.dst (v i)) w':=by
 have gR:=(mem_ready.1 hr).1;have jS:dt l i=o.dst:=by simp[dt,wc]
 have aZ:=FC gR;have gu: ∀j,j≠i->(listed.setIfInBounds i true).getD j true=listed.getD j true:=fun j cg=>getD_set_ne true (Ne.symm cg);have oc:(listed.setIfInBounds i true).getD i true=true:=by simp[aZ]
 obtain⟨L,hL,mC,hF⟩:=H.mem;have uniq: ∀d,dt l i=some d-> ∀j,j<n->j≠i->dt l j≠some d:=fun d hd j hj cg he=>by
  obtain⟨oj,Sm,jw⟩:=Co hB j hj;exact jw.one i d hi hd (Ne.symm cg) (by simpa[dt,Sm]using he)
 refine⟨H.inv.set hr hi,⟨L,by simpa using hL.call fB,mC,hF⟩,by rw[qX];exact H.size,H.pj,by rw[qY];exact H.defers,H.q6,H.gq,fun j hj hf=>?_,fun j d hj hl hd=>?_,fun d hd=>?_,fun d hd=>?_⟩
 ·
  rw[gu j (fun e=>by subst e;rw[iV]at hf;cases hf)];exact H.todo j hj hf
 ·
  by_cases cg:j=i
  ·
   subst cg;have Cq:=hd;rw[jS]at hd;rw[hd,H.full d fun j' jw qc _=>uniq d Cq j' jw (fun e=>by subst e;rw[iV]at qc;cases qc)];have e1:(fr l fs v a0 n).tmps[d]? =(fr l fs v a0 (j+1)).tmps[d]? :=wa v a0 d (j+1) n (by omega) fun i' h1 h2 _=>uniq d Cq i' h2 (by omega);rw[e1,v8 iV wc,hd];exact Kk _ _ _ _ (by rw[H.size,z8])
  ·
   rw[gu j cg]at hl;rw[iU _ _ _ _ (ho.one j d hj hd cg)];exact H.done j d hj hl hd
 ·
  have h1:o.dst≠some d:=by
   have:=hd i hi oc;rwa [jS]at this
  rw[iU _ _ _ _ h1];refine H.rest d fun j hj hl=>?_
  by_cases cg:j=i
  ·
   subst cg;rw[jS];exact h1
  ·
   exact hd j hj (by rw[gu j cg];exact hl)
 ·
  refine H.full d fun j hj hf hl=>?_;exact hd j hj hf (by rw[gu j (fun e=>by subst e;rw[iV]at hf;cases hf)];exact hl)
theorem Sn{v:Nat->Value}{a0 a af:Act}{i:Nat}{rs:List Nat}{listed:Array Bool}{w w':World}(H:ur P l fs Q w0 L0 n v a0 (i::rs) af listed a w){o:Oper}(hi:i<n)(iV:fs.contains i=true)(ca:fs.Nodup)(wc:l[i]? =some o)(ho:Ab l fs n i o)
  (hr:i∈Region.ready .any l.toArray listed) {u:Value} {L':List ai} (fB:Mem w0 L' w') (mC: ∀w,Mem w0 L' w->Mem w0 L0 w) (hF:sG P l n Q w0 L0 rs (af.put o.dst u) L'):
  ur P l fs Q w0 L0 n v a0 rs (af.put o.dst u) (listed.setIfInBounds i true) (a.put o.dst u) w':=by
 have gR:=(mem_ready.1 hr).1;have jS:dt l i=o.dst:=by simp[dt,wc]
 have aZ:=FC gR;have gu: ∀j,j≠i->(listed.setIfInBounds i true).getD j true=listed.getD j true:=fun j cg=>getD_set_ne true (Ne.symm cg);have oc:(listed.setIfInBounds i true).getD i true=true:=by simp[aZ]
 obtain⟨ds,we⟩:=H.gq;have Cr:i∉rs:=fun h=>by
  rw[we]at ca;have:=(aoL.1 ca).2.1;exact(apc.1 this).1 h
 refine⟨H.inv.set hr hi,⟨L',fB,mC,hF⟩,by rw[qX];exact H.size,by rw[qX];exact H.pj,by rw[qY];exact H.defers,by rw[qY];exact H.q6,⟨ds++[i],by rw[we];simp⟩,fun j hj hf=>?_,fun j d hj hl hd=>?_,fun d hd=>?_,fun d hd=>?_⟩
 ·
  by_cases cg:j=i
  ·
   subst cg;rw[oc];simp[Cr]
  ·
   rw[gu j cg,H.todo j hj hf];simp[cg]
 ·
  by_cases cg:j=i
  ·
   subst cg;rw[jS]at hd;rw[hd];exact Kk _ _ _ _ (by rw[H.size,H.pj])
  ·
   rw[gu j cg]at hl;rw[iU _ _ _ _ (ho.one j d hj hd cg),iU _ _ _ _ (ho.one j d hj hd cg)];exact H.done j d hj hl hd
 ·
  have h1:o.dst≠some d:=by
   have:=hd i hi oc;rwa [jS]at this
  rw[iU _ _ _ _ h1];refine H.rest d fun j hj hl=>?_
  by_cases cg:j=i
  ·
   subst cg;rw[jS];exact h1
  ·
   exact hd j hj (by rw[gu j cg];exact hl)
 ·
  have h1:o.dst≠some d:=by
   have:=hd i hi iV oc;rwa [jS]at this
  rw[iU _ _ _ _ h1];refine H.full d fun j hj hf hl=>?_
  by_cases cg:j=i
  ·
   subst cg;rw[jS];exact h1
  ·
   exact hd j hj hf (by rw[gu j cg];exact hl)
theorem So{v:Nat->Value}{a0 a af:Act}{rs:List Nat}{listed:Array Bool}{w:World}(H:ur P l fs Q w0 L0 n v a0 rs af listed a w)(mD: ∀j,j<n->listed.getD j true=true):a=af:=by
 have:a.tmps=af.tmps:=by
  apply aoG;intro d
  by_cases hw: ∃j,j<n/\dt l j=some d
  ·
   obtain⟨j,hj,hd⟩:=hw;exact H.done j d hj (mD j hj) hd
  have h1: ∀j,j<n->dt l j≠some d:=fun j hj hd=>hw ⟨j,hj,hd⟩;rw[H.rest d fun j hj _=>h1 j hj,H.full d fun j hj _ _=>h1 j hj];exact(wa v a0 d 0 n (by omega) fun j _ h2 _=>h1 j h2).symm
 have h2:a.defers=af.defers:=by rw[H.defers,H.q6]
 cases a;cases af
 simp_all
def left(n:Nat)(listed:Array Bool):Nat:=((List.range n).filter fun i=> !listed.getD i true).length
theorem Kq{listed:Array Bool}{i:Nat}(hi:i<n)(gR:listed.getD i true=false):left n listed=left n (listed.setIfInBounds i true)+1:=by
 have aZ:=FC gR;have key: ∀m,i<m->((List.range m).filter fun j=> !listed.getD j true).length=((List.range m).filter fun j=> !(listed.setIfInBounds i true).getD j true).length+1:=by
  intro m
  induction m with
  |zero=>intro h;omega
  |succ m ih=>
   intro h;rw[aoV,aoA,aoA,af0,af0]
   by_cases e:i=m
   ·
    subst e;have h1:((List.range i).filter fun j=> !listed.getD j true)=((List.range i).filter fun j=> !(listed.setIfInBounds i true).getD j true):=by
     apply List.filter_congr;intro j hj;rw[getD_set_ne true (by have:=an5.1 hj;omega)]
    rw[h1];simp only[aoj,gR,Bool.not_false,if_true,apz,ang,anh];simp[aZ]
   have:=ih (by omega);have h2:(listed.setIfInBounds i true).getD m true=listed.getD m true:=getD_set_ne true e;simp only[aoj,h2,apz];omega
 exact key n hi
theorem FE{v:Nat->Value}{a0:Act}(hB:Aa l fs n=true)(hn:n<l.length)(hs:Region.sinkB .any l.toArray n=true)(hc:Region.chainB .any l.toArray n=true)
  (FF:Region.seqB .any l.toArray (l.length -n) n (xV l.length n)=true) (ca:fs.Nodup) (aZ: ∀j∈fs,j<n) (uv:qZ l fs=true) (hq: ∀k,k<n->fs.contains k=false->FA P l fs (Mem w0 L0) v a0 k):
  ∀(m:Nat) (rs:List Nat) (af:Act) (listed:Array Bool) (a:Act) (w:World),left n listed=m->ur P l fs Q w0 L0 n v a0 rs af listed a w->wpAny P .any l.toArray Q (m+(l.length -n)) listed a w
 |0,rs,af,listed,a,w,hm,H=>by
  have mD: ∀j,j<n->listed.getD j true=true:=fun j hj=>by
   cases h:listed.getD j true with
   |true=>rfl
   |false=>
    have:j∈(List.range n).filter fun i=> !listed.getD i true:=anQ.2 ⟨List.mem_range.2 hj,by rw[h];rfl⟩;rw[anB.1 hm]at this
    cases this
  have e1:=So H mD;have e2:listed=xV l.length n:=by
   apply aoG;intro j;have eL:listed.size=l.length:=by simpa using H.inv.size
   by_cases hj:j<l.length
   ·
    have Ac:j<listed.size:=by omega
    simp only[xV,aol,anA,aoK hj,an8,Array.getElem?_eq_getElem Ac]
    by_cases uw:j<n
    ·
     have:=mD j uw;simp[Ac]at this;simp[this,uw]
    ·
     have:=H.inv.tail j (by omega) (by simpa using hj);simp[Ac]at this;simp[this,uw]
   ·
    simp[xV,show ¬j<l.length from hj];omega
  have e3:rs=[]:=by
   cases rs with
   |nil=>rfl
   |cons r wg=>
    obtain⟨ds,we⟩:=H.gq;have hr:r∈fs:=by rw[we];simp
    have:=(H.todo r (aZ r hr) (by simpa using hr)).2 (by simp);rw[mD r (aZ r hr)]at this;cases this
  subst e1 e2 e3;obtain⟨L,hL,_,hF⟩:=H.mem;have:=wpAny_of_seq (P:=P) (md:= .any) (Q':=Q) (l.drop n) n (xV l.length n) a w (fun j=>by simp[aom]) (by rw[ant];exact FF) (hF w hL);rw[ant]at this;rw[anG];exact this
 |m+1,rs,af,listed,a,w,hm,H=>by
  rw[show m+1+(l.length -n)=(m+(l.length -n))+1 by omega];obtain⟨i0,wh,Cs,Ad⟩: ∃i,i<n/\listed.getD i true=false/\ ∀j,j<i->listed.getD j true=true:=by
   have cc: ∃i,i<n/\listed.getD i true=false:=by
    cases hf:(List.range n).filter fun i=> !listed.getD i true with
    |nil=>rw[left,hf]at hm;cases hm
    |cons i r=>
     have:i∈(List.range n).filter fun i=> !listed.getD i true:=by rw[hf];simp
     obtain⟨h1,h2⟩:=anQ.1 this;exact⟨i,an5.1 h1,by simpa using h2⟩
   obtain⟨i,h1,h2⟩:=cc
   induction i using Nat.strongRecOn with
   |_ i ih=>
    by_cases h: ∃j,j<i/\listed.getD j true=false
    ·
     obtain⟨j,hj,fk⟩:=h;exact ih j hj (by omega) fk
    ·
     refine⟨i,h1,h2,fun j hj=>?_⟩
     cases hh:listed.getD j true with
     |true=>rfl
     |false=>exact absurd ⟨j,hj,hh⟩ h
  have eL:listed.size=l.length:=by simpa using H.inv.size
  have Ae:i0∈Region.ready .any l.toArray listed:=by
   obtain⟨o,ho,bu⟩:=Co hB i0 wh;refine mem_ready.2 ⟨Cs,o,by simpa using ho,fun e he hb=>?_⟩;have h1:=bu.back e he hb;have h2:=Ad e.on h1;have h3:e.on<listed.size:=by omega
   simp[h3]at h2⊢;exact h2
  refine⟨fun h=>(by rw[h]at Ae;cases Ae),fun i hi=>?_⟩;have iF:i<n:=by
   rcases anl i n with h|h
   ·
    exact h
   ·
    exact absurd hi (tail_waits hs hc (by simpa using hn) H.inv _ i0 rfl wh Cs i h)
  obtain⟨o,ho,bu⟩:=Co hB i iF;obtain⟨gR,o',nE,pn⟩:=mem_ready.1 hi;have:o'=o:=by simpa[ho]using nE.symm
  subst this;have q7:left n (listed.setIfInBounds i true)=m:=by have:=Kq iF gR;omega
  obtain⟨L,hL,mC,hF⟩:=H.mem
  cases iV:fs.contains i with
  |false=>
   have Ct:=Sh H iF iV bu hB pn;have ew:=Kp (ops:=l.toArray) Ct;have ee:execOp a.eval o'=execOp (fr l fs v a0 i).eval o':=execOp_congr o' bu.uq (FD Ct);obtain⟨FG,qd⟩:=hq i iF iV o' ho;have next: ∀w',Mem w [] w'->wpAny P .any l.toArray Q (m+(l.length -n)) (listed.setIfInBounds i true) (a.put o'.dst (v i)) w':=fun w' fB=>
    FE hB hn hs hc FF ca aZ uv hq m rs af _ _ w' q7 (Sk H iF iV ho bu hB hi fB)
   unfold wpOp;simp only[nE];rw[ew];split
   ·
    rename_i po;have h1:=FG po w (mC w hL);refine .inl ?_;unfold Oper.wp;rw[ee];unfold Oper.quietAt at h1;generalize(execOp (fr l fs v a0 i).eval o').run P w=r at h1;unfold Oper.quietUpon at h1;split at h1
    ·
     obtain⟨rfl,rfl⟩:=h1;exact next _ (Mem.init _)
    ·
     obtain⟨rfl,e⟩:=h1;rw[e]at next;exact next _ (Mem.init _)
    ·
     obtain⟨rfl,sH⟩:=h1;exact sH.mono fun e ob ⟨he,hm⟩=>by subst he;exact next _ hm
    ·
     exact h1.elim
   ·
    rename_i po;have:=qd (by simpa using po);rw[this]at next;exact next w (Mem.init _)
  |true=>
   have Cr:i∈rs:=(H.todo i iF iV).1 gR
   cases rs with
   |nil=>cases Cr
   |cons r wg=>
    have Af:i=r:=by
     rcases ank.1 Cr with h|h
     ·
      exact h
     ·
      exfalso;obtain⟨ds,we⟩:=H.gq;have Sp:qZ l (r::wg)=true:=by
       rw[we]at uv;have key: ∀ds:List Nat,qZ l (ds++r::wg)=true->qZ l (r::wg)=true:=by
        intro ds
        induction ds with
        |nil=>exact id
        |cons d ds ih=>
         intro hh
         cases ds with
         |nil=>simp only[aoq,anR,qZ,anc]at hh;exact hh.2
         |cons d' ds'=>simp only[aoq,qZ,anc]at hh;exact ih hh.2
       exact key ds uv
      obtain⟨p,hp,op,hop,e,he,hb,kg⟩:=Kn wg r Sp i h;have:op=o':=by rw[ho]at hop;exact(ani hop).symm
      subst this;have hl:=pn e he hb;rw[kg]at hl;have Kr:p∈fs:=by rw[we];exact apA _ hp
      have h1:=(H.todo p (aZ p Kr) (by simpa using Kr)).2 hp;rw[getD_both h1]at hl
      cases hl
    subst Af;obtain⟨of,pq,hg,fC⟩:=hF;have:of=o':=by rw[ho]at pq;exact(ani pq).symm
    subst this;have Ct:=Ko H bu pn;have ee:execOp a.eval of=execOp af.eval of:=execOp_congr of bu.uq (FD Ct);have h1:=fC w hL;have next: ∀u w' E,(Mem w0 E w'/\(∀w,Mem w0 E w->Mem w0 L0 w)/\sG P l n Q w0 L0 wg (af.put of.dst u) E)->wpAny P .any l.toArray Q (m+(l.length -n)) (listed.setIfInBounds i true) (a.put of.dst u) w':=fun u w' E ⟨fB,xW,Sr⟩=>
     FE hB hn hs hc FF ca aZ uv hq m wg (af.put of.dst u) _ _ w' q7 (Sn H iF iV ca ho bu hi fB xW Sr)
    unfold wpOp;simp only[nE];rw[if_pos (by simp[Region.wanted,hg])];refine .inl ?_;unfold Oper.wp;rw[ee];generalize(execOp af.eval of).run P w=r at h1;unfold Km at h1;split at h1
    ·
     obtain⟨E,hR⟩:=h1;exact next _ _ E hR
    ·
     obtain⟨rfl,sH⟩:=h1;exact sH.mono fun e ob ⟨u,E,he,hR⟩=>by subst he;exact next u _ E hR
    ·
     exact h1.elim
def Cu(l:List Oper)(fs:List Nat)(n:Nat):Bool:=
 Aa l fs n&&decide (n<l.length)&&Region.sinkB .any l.toArray n&&Region.chainB .any l.toArray n&&Region.seqB .any l.toArray (l.length -n) n (xV l.length n)&&
  decide fs.Nodup&&(fs.all fun j=>decide (j<n))&&qZ l fs
theorem Ss{id:Nat}{ro:Option Nat}[ir Q]{a:Act}{w:World}(n:Nat)(ca:n8 l=true)(hm:P.follows .mixedOrders=true)(hB:Cu l fs n=true){L:List ai}(hC:Mem w0 L {w with drawn:=w.drawn+1})(mC: ∀w,Mem w0 L w->Mem w0 L0 w)
  (h:lM P l.toArray fs (Mem w0 L0) (fun a'=>sG P l n Q w0 L0 fs a' L) 0 (l.take n) a):(Code.region id l.toArray true).wpIn (gQ ro) 0 P Q a w:=by
 simp only[Cu,anc,decide_eq_true_eq]at hB;obtain⟨⟨⟨⟨⟨⟨⟨h1,h2⟩,h3⟩,h4⟩,h5⟩,h6⟩,h7⟩,h8⟩:=hB;have St: ∀j∈fs,j<n:=fun j hj=>by have:=anw.1 h7 j hj;simpa using this
 obtain⟨v,_,g2,g3⟩:=FB (P:=P) (C:=Mem w0 L0) (l:=l) (fs:=fs) n 0 a (fun _=>undef) (by omega) (by simpa[fr]using h);refine Fz ca hm ?_;have FH:HeadInv .any l.toArray n (Array.replicate l.toArray.size false):=
  ⟨by simp,fun j oj _ hl=>(by rw[getD_replicate_false]at hl;cases hl),fun t _ ht=>getD_in (by simpa using ht) (getD_replicate_false _ _)⟩
 have q7:left n (Array.replicate l.toArray.size false)=n:=by
  unfold left;rw[List.filter_eq_self.2 (fun j hj=>?_),List.length_range];have jw:=an5.1 hj;simp[show j<l.length by omega]
 rw[anG]at g3;have:=FE (P:=P) (Q:=Q) (w0:=w0) (L0:=L0) (v:=v) (a0:=a) h1 h2 h3 h4 h5 h6 St h8 (fun k hk hf=>g2 k (by omega) (by omega) hf) n fs (fr l fs v a n) (Array.replicate l.toArray.size false) a _ q7
  ⟨FH,⟨L,hC,mC,g3⟩,rfl,z8 v a n,rfl,Cn v a n,⟨[],rfl⟩,fun j hj hf=>?_,fun j d hj hl=>?_,fun _ _=>rfl,fun _ _=>rfl⟩
 ·
  rw[show n+(l.length -n)=l.toArray.size by simp;omega]at this;exact this
 ·
  have:j∈fs:=by simpa using hf
  simp[show j<l.length by omega,this]
 ·
  simp[show j<l.length by omega]at hl
end
abbrev Env:=List (Nat×Value)
theorem Cv{a b:Nat}(h: ¬a=b):Nat.beq a b=false:=by
 cases hb:Nat.beq a b with
 |false=>rfl
 |true=>exact absurd (Nat.eq_of_beq_eq_true hb) h
def look:Env->Nat->Option Value
 |[],_=>none
 |(k,v)::r,d=>match Nat.beq k d with
  |true=>some v
  |false=>look r d
structure bO where
 n:Nat
 ds:List Nat
 ro:Option Nat
structure cm(N:bO)(env:Env)(a:Act):Prop where
 size:a.tmps.size=N.n
 get: ∀d v,look env d=some v->a.tmps[d]? =some v
 defers:a.defers=N.ds.map mark
def ev(env:Env):Operand->Option Value
 | .tmp t=>look env t
 | .const v=>some v
 | .global g=>some (.pointer (some ⟨g,0,none⟩))
 | .func f=>some (.func (.func f) #[] #[])
theorem cm.ev{N:bO}{env:Env}{a:Act}(h:cm N env a){x:Operand}{v:Value}(e:ev env x=some v):a.eval x=v:=by
 match x,e with
 | .tmp t,e=>
  have:=h.get t v e;simp[Act.eval,this]
 | .const u,e=>simpa[au.ev,Act.eval]using e
 | .global g,e=>simpa[au.ev,Act.eval]using e
 | .func f,e=>simpa[au.ev,Act.eval]using e
def ff(env:Env):List Operand->Option (List Value)
 |[]=>some []
 |x::r=>match ev env x,ff env r with
  |some v,some vs=>some (v::vs)
  |_,_=>none
theorem cm.ff{N:bO}{env:Env}{a:Act}(h:cm N env a): ∀{xs:List Operand} {vs:List Value},ff env xs=some vs->xs.map a.eval=vs
 |[],vs,e=>by simp[au.ff]at e;simp[e]
 |x::r,vs,e=>by
  unfold au.ff at e;split at e
  ·
   rename_i v Su hv xX;simp only[aoM]at e;subst e;simp[h.ev hv,h.ff xX]
  simp at e
theorem eX{env:Env}:ff env []=some []:=rfl
theorem cF{env:Env}{x:Operand}{r:List Operand}{v:Value}{vs:List Value}(h:ev env x=some v)(h':ff env r=some vs):ff env (x::r)=some (v::vs):=by
 simp[ff,h,h']
def bZ(env:Env):Option Tmp->Value->Env
 |some d,v=>(d,v)::env
 |none,_=>env
def cL(N:bO):Option Tmp->Bool
 |some d=>Nat.ble (d+1) N.n
 |none=>true
theorem cm.put{N:bO}{env:Env}{a:Act}(h:cm N env a){dst:Option Tmp}(hd:cL N dst=true)(v:Value):cm N (bZ env dst v) (a.put dst v):=by
 cases dst with
 |none=>exact h
 |some d=>
  have aZ:d<N.n:=Nat.le_of_ble_eq_true hd;refine⟨by simp[Act.put,h.size],fun d' v' hv=>?_,h.defers⟩;simp only[bZ,look]at hv;simp only[Act.put,anY]
  by_cases he:d=d'
  ·
   subst he;simp at hv;simp[hv,h.size,aZ]
  have:Nat.beq d d'=false:=Cv he;rw[this]at hv;rw[if_neg he];exact h.get d' v' hv
def Sub(Cx env:Env):Prop:= ∀d v,look Cx d=some v->look env d=some v
theorem Sub.refl(env:Env):Sub env env:=fun _ _ h=>h
theorem Sub.nil(env:Env):Sub [] env:=fun _ _ h=>by simp[look]at h
theorem Sub.cons{r env:Env}{d:Nat}{v:Value}(hv:look env d=some v)(h:Sub r env):Sub ((d,v)::r) env:=fun d' v' h'=>by
 simp only[look]at h'
 by_cases he:d=d'
 ·
  subst he;simp at h';rw[←h'];exact hv
 have:Nat.beq d d'=false:=Cv he;rw[this]at h';exact h d' v' h'
theorem cm.sub{N:bO}{env Cx:Env}{a:Act}(h:cm N env a)(s:Sub Cx env):cm N Cx a:=⟨h.size,fun d v e=>h.get d v (s d v e),h.defers⟩
theorem cm.enter(args:List Value)(N:Nat)(h:args.length<=N):cm ⟨N,[],none⟩ (args.zipIdx.map fun p=>(p.2,p.1)) {tmps:=args.toArray++Array.replicate (N -args.toArray.size) undef,defers:=[]}:=by
 refine⟨by simp;omega,fun d v e=>?_,rfl⟩;have key: ∀(l:List Value) (k:Nat),look ((l.zipIdx k).map fun p=>(p.2,p.1)) d=some v->k<=d/\l[d -k]? =some v:=by
  intro l
  induction l with
  |nil=>intro k h;simp[look]at h
  |cons x r ih=>
   intro k h;simp only[List.zipIdx_cons,anX,look]at h
   by_cases he:k=d
   ·
    subst he;simp at h;simp[h]
   have:Nat.beq k d=false:=Cv he;rw[this]at h;obtain⟨h1,h2⟩:=ih (k+1) h;refine⟨by omega,?_⟩;rw[show d -k=(d -(k+1))+1 by omega,List.getElem?_cons_succ];exact h2
 have hh:=(key args 0 e).2;rw[Nat.sub_zero]at hh;have aZ:d<args.length:=by
  rcases anl d args.length with h'|h'
  ·
   exact h'
  simp[ans h']at hh
 rw[ape (by simpa using aZ)];simpa using hh
section
variable {P:Program} {N:bO} {w0:World} {env:Env} {L:List ai} {d:Option Tmp} {ty:TypeId} {ps:String} {af:Array Edge} {gd:Option (Nat×Bool)}
def Ry(P:Program)(N:bO)(w0:World)(env:Env)(L:List ai)(o:Oper)(v:Value):Prop:=
 ∀a w,cm N env a->Mem w0 L w->(execOp a.eval o).run P w= .ok (.value v) w
def Yl(P:Program)(N:bO)(w0:World)(env:Env)(L:List ai)(o:Oper)(v:Value):Prop:=
 ∀a,cm N env a->sF P o a (Mem w0 L) v
theorem Ry.yl{o:Oper}{v:Value}(h:Ry P N w0 env L o v):Yl P N w0 env L o v:=fun a ha w hw=>by
 unfold Oper.quietAt;rw[h a w ha hw];exact⟨rfl,rfl⟩
theorem aK{x:Operand}{v:Value}(hx:ev env x=some v):Ry P N w0 env L ⟨d, .move x,ty,ps,af,gd⟩ v:=fun a w ha _=>by
 simp only[execOp,ha.ev hx,Sem.run_pure]
theorem c0{x:Operand}{v:Value}(hx:ev env x=some v):Ry P N w0 env L ⟨d, .assign x,ty,ps,af,gd⟩ v:=fun a w ha _=>by
 simp only[execOp,ha.ev hx,Sem.run_pure]
theorem Cy{c x y:Operand}{g:Bool}{vx vy:Value}(hc:ev env c=some (.bool g))(hx:ev env x=some vx)(hy:ev env y=some vy):
  Ry P N w0 env L ⟨d, .pick c x y,ty,ps,af,gd⟩ (if g=true then vx else vy):=fun a w ha _=>by
 simp only[execOp,ha.ev hx,ha.ev hc,ha.ev hy,Sem.run_bind,Sem.run_pure,asBool,Result.andThen]
theorem sI{c x y:Operand}{g b:Bool}(hc:ev env c=some (.bool g))(hx:ev env x=some (if g=true then .bool b else undef))(hy:ev env y=some (.bool false)):
  Ry P N w0 env L ⟨d, .pick c x y,ty,ps,af,gd⟩ (.bool (g&&b)):=by
 have h:=Cy (P:=P) (N:=N) (w0:=w0) (L:=L) (d:=d) (ty:=ty) (ps:=ps) (af:=af) (gd:=gd) hc hx hy
 cases g<;>simpa using h
theorem wi{c x y:Operand}{g b:Bool}(hc:ev env c=some (.bool g))(hx:ev env x=some (.bool true))(hy:ev env y=some (if(!g)=true then .bool b else undef)):
  Ry P N w0 env L ⟨d, .pick c x y,ty,ps,af,gd⟩ (.bool (g||b)):=by
 have h:=Cy (P:=P) (N:=N) (w0:=w0) (L:=L) (d:=d) (ty:=ty) (ps:=ps) (af:=af) (gd:=gd) hc hx hy
 cases g<;>simpa using h
theorem gS{x:Operand}{g:Bool}{t:TypeId}(hx:ev env x=some (.bool g)):Ry P N w0 env L ⟨d, .unOp .not t x,ty,ps,af,gd⟩ (.bool (!g)):=fun a w ha _=>by
 simp only[execOp,ha.ev hx,Op.unary,Sem.run_bind,Sem.run_pure,Result.andThen]
theorem aF{x:Operand}{vs:Array Value}{i:Nat}{v:Value}(hx:ev env x=some (.tuple vs))(hv:vs[i]? =some v):Ry P N w0 env L ⟨d, .extract x i,ty,ps,af,gd⟩ v:=fun a w ha _=>by
 simp only[execOp,ha.ev hx,Instr.extract,hv,Sem.run_bind,Sem.run_pure,Result.andThen]
def kh(op:BinOp)(k:IntKind)(a b:Int):Option Value:=
 match op with
 | .add=>some (.int k (k.wrap (a+b)))
 | .sub=>some (.int k (k.wrap (a -b)))
 | .mul=>some (.int k (k.wrap (a*b)))
 | .quo=>if b=0 then none else some (.int k (k.wrap (a.tdiv b)))
 | .rem=>if b=0 then none else some (.int k (a.tmod b))
 | .and=>some (.int k (k.wrap (BitVec.ofInt k.bits a&&&BitVec.ofInt k.bits b).toNat))
 | .or=>some (.int k (k.wrap (BitVec.ofInt k.bits a|||BitVec.ofInt k.bits b).toNat))
 | .xor=>some (.int k (k.wrap (BitVec.ofInt k.bits a^^^BitVec.ofInt k.bits b).toNat))
 | .andNot=>some (.int k (k.wrap (BitVec.ofInt k.bits a&&& ~~~BitVec.ofInt k.bits b).toNat))
 | .eql=>some (.bool (decide (a=b)))
 | .neq=>some (.bool (!decide (a=b)))
 | .lss=>some (.bool (decide (a<b)))
 | .leq=>some (.bool (decide (a<=b)))
 | .gtr=>some (.bool (decide (b<a)))
 | .geq=>some (.bool (decide (b<=a)))
 |_=>none
theorem FI(op:BinOp)(t:TypeId)(x y:Operand)(k k':IntKind)(a b:Int)(w:World):(eqGuard op t x y (.int k a) (.int k' b)).run P w= .ok () w:=by
 cases op<;>rfl
theorem Sw{op:BinOp}{k:IntKind}{a b:Int}{v:Value}(t:TypeId)(h:kh op k a b=some v)(w:World):(binOp op t (.int k a) (.int k b)).run P w= .ok v w:=by
 cases op<;>simp only[kh,aoM,reduceCtorEq]at h<;>(try split at h)<;>(try simp only[aoM,reduceCtorEq]at h)<;>(try subst h)<;>
  simp_all[binOp,Op.intArith,Op.intDiv,Op.intBits,Op.intCmp]<;>rfl
theorem cQ{op:BinOp}{k:IntKind}{x y:Operand}{a b:Int}{v:Value}{t u:TypeId}(hx:ev env x=some (.int k a))(hy:ev env y=some (.int k b))(h:kh op k a b=some v):
  Ry P N w0 env L ⟨d, .binOp op t x y u,ty,ps,af,gd⟩ v:=fun a w ha _=>by
 simp only[execOp,ha.ev hx,ha.ev hy,Sem.run_bind,FI,Sw t h,Sem.run_pure,Result.andThen]
end
def ux:TypeDesc->Bool
 | .struct _| .array _ _=>true
 |_=>false
class eu(P:Program)(t:TypeId)(n:outParam Nat):Prop where
 row: ∃d,P.underlying t=some d/\ux d=true
 size:(P.info? t).map (·.size)=some n
class eY(P:Program)(t:TypeId):Prop where
 one: ∃d,P.underlying t=some d/\ux d=false
 size:(P.info? t).map (·.size)=some 1
class cY(P:Program)(s:TypeId)(i:Nat)(off:outParam Nat):Prop where
 Sx: ∃fs f m,P.underlying s=some (.struct fs)/\fs[i]? =some f/\f.offset=off/\(P.info? f.type).map (·.size)=some (m+1)
class sJ(P:Program)(t:TypeId)(n m:outParam Nat):Prop where
 arr: ∃e,P.underlying t=some (.array n e)/\(P.info? e).map (·.size)=some m
class ez(P:Program)(t:TypeId)(e:outParam TypeId)(m:outParam Nat):Prop where
 dU:P.underlying t=some (.slice e)
 size:(P.info? e).map (·.size)=some m
class lP(P:Program)(t:TypeId)(k:outParam IntKind):Prop where
 dU:P.underlying t=some (.int k)
class dB(P:Program)(t:TypeId)(v:outParam Value):Prop where
 zero:(P.info? t).map (·.zero)=some (some v)
class aD(P:Program)(f:FuncId):Prop where
 fn: ∃fn,P.funcs[f]? =some fn∧fn.body.isNone=false∧(fn.name== "runtime.NumGoroutine")=false
class Has(L:List ai)(b:Nat)(cs:outParam (Array Value))(T:outParam TypeId)(i:outParam Nat):Prop where
 h:L[i]? =some (an b cs T)
instance (priority:=high) Has.here {L:List ai}{b:Nat}{cs:Array Value}{T:TypeId}:Has (an b cs T::L) b cs T 0:=⟨rfl⟩
instance Has.there{L:List ai}{e:ai}{b:Nat}{cs:Array Value}{T:TypeId}{i:Nat}[q:Has L b cs T i]:Has (e::L) b cs T (i+1):=⟨by simpa using q.h⟩
class eM(L:List ai)(i:Nat)(e:ai)(L':outParam (List ai)):Prop where
 h:L.set i e=L'
instance eM.here{L:List ai}{x e:ai}:eM (x::L) 0 e (e::L):=⟨rfl⟩
instance eM.there{L L':List ai}{x e:ai}{i:Nat}[q:eM L i e L']:eM (x::L) (i+1) e (x::L'):=⟨by simp[q.h]⟩
class bT(cs:Array Value)(o:Nat)(v:outParam Value):Prop where
 h:cs[o]? =some v
class lQ(cs:Array Value)(o n:Nat)(sub:outParam (Array Value)):Prop where
 size:sub.size=n
 h: ∀j,j<n->cs[o+j]? =sub[j]?
class eZ(cs:Array Value)(n:outParam Nat):Prop where
 h:cs.size=n
 one:cs.all (·.oneCell')=true
class jj(P:Program)(f:FuncId)(vs:List Value)(v:outParam Value):Prop where
 h: ∀w,Calls P f vs.toArray w fun e w'=>e= .returned v/\Mem w [] w'
class xY(P:Program)(t:TypeId)(x y:Value)(r:outParam Bool):Prop where
 h: ∀w,(Op.equalIn 10000 t x y).run P w= .ok r w
 plain:P.eqGuardType P.depth t=false
 agg: ∃xs ys,x= .agg xs/\y= .agg ys
section
variable {P:Program} (w:World)
theorem Ks{t:TypeId}{i:TypeInfo}(h:P.info? t=some i):(typeInfo t).run P w= .ok i w:=by
 simp[typeInfo,h]
theorem ki{t:TypeId}{n:Nat}(h:(P.info? t).map (·.size)=some n):(sizeOf t).run P w= .ok n w:=by
 cases hi:P.info? t with
 |none=>simp[hi]at h
 |some i=>simp[hi]at h;simp[sizeOf,Ks w hi,h]
theorem Cz{t:TypeId}{v:Value}(h:dB P t v):(zeroValue t).run P w= .ok v w:=by
 have h:=h.zero
 cases hi:P.info? t with
 |none=>simp[hi]at h
 |some i=>simp[hi]at h;simp[zeroValue,Ks w hi,h]
theorem CA{t:TypeId}{d:TypeDesc}(h:P.underlying t=some d):(isAgg t).run P w= .ok (ux d) w:=by
 cases d<;>simp[isAgg,run_underlying h,ux]
theorem Kt{t:TypeId}(h:eY P t){a:Addr}{v:Value}(hc:w.cell? a=some v):(loadVar t a).run P w= .ok v w:=by
 obtain⟨d,hu,hd⟩:=h.one;simp[loadVar,CA w hu,hd,hc]
theorem FJ{t:TypeId}{n:Nat}(h:eu P t n){a:Addr}{cs:Array Value}(hn:cs.size=n)(hc: ∀j,j<n->w.cell? (a.add j)=cs[j]?):(loadVar t a).run P w= .ok (.agg cs) w:=by
 obtain⟨d,hu,hd⟩:=h.row;have hl:(loadCells a n).run P w= .ok cs w:=by
  have:=run_loadCells_list (P:=P) w a cs.toList (fun j v hv=>by
   have hj:j<n:=by
    have:=(ad2.1 hv).1;simpa[hn]using this
   rw[hc j hj];simpa using hv)
  simpa[hn]using this
 simp[loadVar,CA w hu,hd,ki w h.size,hl]
end
section
variable {P:Program} {N:bO} {w0:World} {env:Env} {L:List ai} {d:Option Tmp} {ty:TypeId} {ps:String} {af:Array Edge} {gd:Option (Nat×Bool)}
theorem Addr.fS(b o j:Nat):(⟨b,o,none⟩:Addr).add j=⟨b,o+j,none⟩:=by
 unfold Addr.add;split<;>simp_all
theorem xZ{t:TypeId}{x:Operand}{p:Addr}{v:Value}(ht:eY P t)(hx:ev env x=some (.pointer (some p)))(hc: ∀w,Mem w0 L w->w.cell? p=some v):
  Ry P N w0 env L ⟨d, .load t x,ty,ps,af,gd⟩ v:=fun a w ha hw=>by
 simp only[execOp,ha.ev hx,Instr.loadAt,Instr.sureAddr,Sem.run_bind,Sem.run_pure,Result.andThen,Kt w ht (hc w hw)]
theorem Ag{t:TypeId}{x:Operand}{p:Addr}{n:Nat}{cs:Array Value}(ht:eu P t n)(hx:ev env x=some (.pointer (some p)))(hn:cs.size=n)(hc: ∀w,Mem w0 L w-> ∀j,j<n->w.cell? (p.add j)=cs[j]?):
  Ry P N w0 env L ⟨d, .load t x,ty,ps,af,gd⟩ (.agg cs):=fun a w ha hw=>by
 simp only[execOp,ha.ev hx,Instr.loadAt,Instr.sureAddr,Sem.run_bind,Sem.run_pure,Result.andThen,FJ w ht hn (hc w hw)]
theorem qe{t:TypeId}{x:Operand}{i b o:Nat}{cs:Array Value}{T:TypeId}{v:Value}(hx:ev env x=some (.pointer (some ⟨b,o,none⟩)))[ht:eY P t][hi:Has L b cs T i](hc:cs[o]? =some v):
  Ry P N w0 env L ⟨d, .load t x,ty,ps,af,gd⟩ v:=xZ ht hx fun w hw=>by rw[hw.cell hi.h];exact hc
theorem bC{t:TypeId}{x:Operand}{i b o:Nat}{cs:Array Value}{T:TypeId}{v:Value}(hx:ev env x=some (.pointer (some ⟨b,o,none⟩)))[ht:eY P t][hi:Has L b cs T i][hc:bT cs o v]:
  Ry P N w0 env L ⟨d, .load t x,ty,ps,af,gd⟩ v:=qe hx hc.h
theorem dw{t:TypeId}{x:Operand}{i b n:Nat}{cs:Array Value}{T:TypeId}(hx:ev env x=some (.pointer (some ⟨b,0,none⟩)))[ht:eu P t n][hi:Has L b cs T i][hn:eZ cs n]:
  Ry P N w0 env L ⟨d, .load t x,ty,ps,af,gd⟩ (.agg cs):=Ag ht hx hn.h fun w hw j _=>by rw[Addr.fS,hw.cell hi.h,anG]
theorem fa{t:TypeId}{x:Operand}{i b o n:Nat}{cs sub:Array Value}{T:TypeId}(hx:ev env x=some (.pointer (some ⟨b,o,none⟩)))[ht:eu P t n][hi:Has L b cs T i][hs:lQ cs o n sub]:
  Ry P N w0 env L ⟨d, .load t x,ty,ps,af,gd⟩ (.agg sub):=Ag ht hx hs.size fun w hw j hj=>by rw[Addr.fS,hw.cell hi.h];exact hs.h j hj
theorem aH{s:TypeId}{x:Operand}{fi off b o o':Nat}[hf:cY P s fi off](hx:ev env x=some (.pointer (some ⟨b,o,none⟩)))(ho:Nat.add o off=o'):
  Ry P N w0 env L ⟨d, .fieldAddr s x fi,ty,ps,af,gd⟩ (.pointer (some ⟨b,o',none⟩)):=fun a w ha _=>by
 obtain⟨fs,f,m,hu,iV,pq,eL⟩:=hf.Sx;subst ho pq;simp only[execOp,ha.ev hx,Instr.fieldAt,Sem.run_bind,run_underlying hu,Result.andThen,iV,Instr.sureAddr,Sem.run_pure,fieldPlace,ki w eL,Nat.succ_ne_zero,if_false,Addr.fS,apH]
theorem uy{t:TypeId}{x ix:Operand}{n m b o:Nat}{k:IntKind}{j:Int}[ht:sJ P t n m](hx:ev env x=some (.pointer (some ⟨b,o,none⟩)))(hj:ev env ix=some (.int k j))(h0:0<=j)(h1:j<n):
  Ry P N w0 env L ⟨d, .indexAddr t x ix,ty,ps,af,gd⟩ (.pointer (some ⟨b,o+j.toNat*m,none⟩)):=fun a w ha _=>by
 obtain⟨e,hu,eL⟩:=ht.arr;simp only[execOp,ha.ev hx,ha.ev hj,Instr.indexAt,asIntOf,Sem.run_bind,run_underlying hu,Result.andThen,Instr.sureAddr,Sem.run_pure,ki w eL,h0,h1,and_self,if_true,Addr.fS]
theorem kj{t:TypeId}{x ix:Operand}{n b:Nat}{k:IntKind}{j:Int}[ht:sJ P t n 1](hx:ev env x=some (.pointer (some ⟨b,0,none⟩)))(hj:ev env ix=some (.int k j))(h0:0<=j)(h1:j<n):
  Ry P N w0 env L ⟨d, .indexAddr t x ix,ty,ps,af,gd⟩ (.pointer (some ⟨b,j.toNat,none⟩)):=by
 have:=uy (P:=P) (t:=t) (N:=N) (w0:=w0) (L:=L) (d:=d) (ty:=ty) (ps:=ps) (af:=af) (gd:=gd) hx hj h0 h1;simpa using this
theorem Ku{t e:TypeId}{x ix:Operand}{m b o len cap:Nat}{k:IntKind}{j:Int}[ht:ez P t e m](hx:ev env x=some (.slice (some ⟨b,o,none⟩) len cap))(hj:ev env ix=some (.int k j))(h0:0<=j)(h1:j<len):
  Ry P N w0 env L ⟨d, .indexAddr t x ix,ty,ps,af,gd⟩ (.pointer (some ⟨b,o+j.toNat*m,none⟩)):=fun a w ha _=>by
 simp only[execOp,ha.ev hx,ha.ev hj,Instr.indexAt,asIntOf,Sem.run_bind,run_underlying ht.dU,Result.andThen,Sem.run_pure,ki w ht.size,h0,h1,and_self,if_true,Addr.fS]
theorem sK{s t:TypeId}{x:Operand}{k k':IntKind}{n m:Int}[hs:lP P s k'][ht:lP P t k](hx:ev env x=some (.int k' n))(hm:k.wrap n=m):
  Ry P N w0 env L ⟨d, .convert s t x,ty,ps,af,gd⟩ (.int k m):=fun a w ha _=>by
 subst hm;simp only[execOp,ha.ev hx,convert,Sem.run_bind,run_underlying hs.dU,run_underlying ht.dU,Result.andThen,Conv.intToInt,Sem.run_pure]
theorem wj{t e:TypeId}{x:Operand}{m len cap:Nat}{p:Option Addr}[ht:ez P t e m](hx:ev env x=some (.slice p len cap)):
  Ry P N w0 env L ⟨d, .call {callee:= .builtin .len,args:= #[x],argTypes:= #[t]},ty,ps,af,gd⟩ (.int .i64 len):=fun a w ha _=>by
 simp[execOp,ha.ev hx,resolve,invoke,builtin,Builtin.len_,run_underlying ht.dU,goInt,Result.andThen]
theorem x7{f:FuncId}(hf:aD P f){ρ:Operand->Value}{xs:List Operand}{ts:Array TypeId}(w:World)(Sy:ρ (.func f)= .func (.func f) #[] #[]):
  (execOp ρ ⟨d, .call {callee:= .value (.func f),args:=xs.toArray,argTypes:=ts},ty,ps,af,gd⟩).run P w= .ok (.enter f (xs.map ρ).toArray) w:=by
 obtain⟨fn,h1,h2,h3⟩:=hf.fn;have Ah: ¬fn.body=none:=fun e=>by simp[e]at h2
 have uz: ¬fn.name= "runtime.NumGoroutine" :=by simpa using h3
 simp[execOp,resolve,Sy,Deferred.ofValue,invoke,callFunc,h1,Ah,uz,Result.andThen]
theorem ya{f:FuncId}{xs:List Operand}{ts:Array TypeId}{vs:List Value}{v:Value}[hf:aD P f](hx:ff env xs=some vs)
  (hc: ∀w,Mem w0 L w->Calls P f vs.toArray w fun e w'=>e= .returned v/\Mem w [] w'):
  Yl P N w0 env L ⟨d, .call {callee:= .value (.func f),args:=xs.toArray,argTypes:=ts},ty,ps,af,gd⟩ v:=fun a ha w hw=>by
 unfold Oper.quietAt;rw[x7 hf w rfl,ha.ff hx];exact⟨rfl,hc w hw⟩
theorem pt{f:FuncId}{xs:List Operand}{ts:Array TypeId}{vs:List Value}{v:Value}[hf:aD P f](hx:ff env xs=some vs)[hc:jj P f vs v]:
  Yl P N w0 env L ⟨d, .call {callee:= .value (.func f),args:=xs.toArray,argTypes:=ts},ty,ps,af,gd⟩ v:=ya hx fun w _=>hc.h w
theorem Kv{op:BinOp}{t:TypeId}(hm:P.eqGuardType P.depth t=false)(x y:Operand)(xs ys:Array Value)(w:World):(eqGuard op t x y (.agg xs) (.agg ys)).run P w= .ok () w:=run_eqGuard_agg w op t x y xs ys hm
theorem Kw{x y:Operand}{t u:TypeId}{vx vy:Value}{r:Bool}(hx:ev env x=some vx)(hy:ev env y=some vy)[h:xY P t vx vy r]:
  Ry P N w0 env L ⟨d, .binOp .eql t x y u,ty,ps,af,gd⟩ (.bool r):=fun a w ha _=>by
 obtain⟨xs,ys,e1,e2⟩:=h.agg;subst e1 e2;simp only[execOp,ha.ev hx,ha.ev hy,Sem.run_bind,Kv h.plain,Result.andThen,run_eql_struct,h.h,Sem.run_pure]
theorem uA{x y:Operand}{t u:TypeId}{vx vy:Value}{r:Bool}(hx:ev env x=some vx)(hy:ev env y=some vy)[h:xY P t vx vy r]:
  Ry P N w0 env L ⟨d, .binOp .neq t x y u,ty,ps,af,gd⟩ (.bool (!r)):=fun a w ha _=>by
 obtain⟨xs,ys,e1,e2⟩:=h.agg;subst e1 e2;simp only[execOp,ha.ev hx,ha.ev hy,Sem.run_bind,Kv h.plain,Result.andThen,run_neq_struct,h.h,Sem.run_pure]
theorem Sz{x y:Operand}{t u:TypeId}{a b:Bool}(hx:ev env x=some (.bool a))(hy:ev env y=some (.bool b))(ht:P.underlying t=some .bool):
  Ry P N w0 env L ⟨d, .binOp .eql t x y u,ty,ps,af,gd⟩ (.bool (a==b)):=fun aa w ha _=>by
 have h1:(Op.equal t (.bool a) (.bool b)).run P w= .ok (a==b) w:=run_equalIn_bool' w 9999 t a b ht;have h2:(eqGuard BinOp.eql t x y (.bool a) (.bool b)).run P w= .ok () w:=rfl;simp only[execOp,ha.ev hx,ha.ev hy,Sem.run_bind,h2,Result.andThen_ok,binOp,h1,Sem.run_pure]
theorem SA{x y:Operand}{t u:TypeId}{a b:Bool}(hx:ev env x=some (.bool a))(hy:ev env y=some (.bool b))(ht:P.underlying t=some .bool):
  Ry P N w0 env L ⟨d, .binOp .neq t x y u,ty,ps,af,gd⟩ (.bool (!(a==b))):=fun aa w ha _=>by
 have h1:(Op.equal t (.bool a) (.bool b)).run P w= .ok (a==b) w:=run_equalIn_bool' w 9999 t a b ht;have h2:(eqGuard BinOp.neq t x y (.bool a) (.bool b)).run P w= .ok () w:=rfl;simp only[execOp,ha.ev hx,ha.ev hy,Sem.run_bind,h2,Result.andThen_ok,binOp,h1,Sem.run_pure]
theorem wrap64_in{n:Int}(h: -9223372036854775808<=n/\n<=9223372036854775807):IntKind.i64.wrap n=n:=IntWalk.i64_in n h
theorem pv{x y:Operand}{a b:Int}{t u:TypeId}(hx:ev env x=some (.int .i64 a))(hy:ev env y=some (.int .i64 b))(h: -9223372036854775808<=a+b/\a+b<=9223372036854775807):
  Ry P N w0 env L ⟨d, .binOp .add t x y u,ty,ps,af,gd⟩ (.int .i64 (a+b)):=cQ hx hy (by rw[kh,wrap64_in h])
theorem uB{x y:Operand}{a b:Int}{t u:TypeId}(hx:ev env x=some (.int .i64 a))(hy:ev env y=some (.int .i64 b))(h: -9223372036854775808<=a -b/\a -b<=9223372036854775807):
  Ry P N w0 env L ⟨d, .binOp .sub t x y u,ty,ps,af,gd⟩ (.int .i64 (a -b)):=cQ hx hy (by rw[kh,wrap64_in h])
theorem od{x y:Operand}{a b:Int}{t u:TypeId}(hx:ev env x=some (.int .i64 a))(hy:ev env y=some (.int .i64 b))(h: -9223372036854775808<=a*b/\a*b<=9223372036854775807):
  Ry P N w0 env L ⟨d, .binOp .mul t x y u,ty,ps,af,gd⟩ (.int .i64 (a*b)):=cQ hx hy (by rw[kh,wrap64_in h])
theorem kl{x y:Operand}{a b:Int}{t u:TypeId}(hx:ev env x=some (.int .i64 a))(hy:ev env y=some (.int .i64 b))(h:0<=a/\a<=9223372036854775807)(hb:0<b):
  Ry P N w0 env L ⟨d, .binOp .quo t x y u,ty,ps,af,gd⟩ (.int .i64 (a/b)):=cQ hx hy (by
 have h2:a/b<=a:=Int.ediv_le_self _ h.1;have h3:0<=a/b:=apR h.1 (by omega);rw[kh,if_neg (by omega),Int.tdiv_eq_ediv_of_nonneg h.1,wrap64_in (by omega)])
theorem wm{x y:Operand}{a b:Int}{k:IntKind}{t u:TypeId}(hx:ev env x=some (.int k a))(hy:ev env y=some (.int k b))(h:0<=a)(hb:0<b):
  Ry P N w0 env L ⟨d, .binOp .rem t x y u,ty,ps,af,gd⟩ (.int k (a%b)):=cQ hx hy (by
 rw[kh,if_neg (by omega),Int.tmod_eq_emod_of_nonneg h])
def km(env:Env):List (Nat×Operand)->Option (List (Nat×Value))
 |[]=>some []
 |(i,x)::r=>match ev env x,km env r with
  |some v,some vs=>some ((i,v)::vs)
  |_,_=>none
theorem Kx:km env []=some []:=rfl
theorem Ai{i:Nat}{x:Operand}{r:List (Nat×Operand)}{v:Value}{vs:List (Nat×Value)}(h:ev env x=some v)(h':km env r=some vs):km env ((i,x)::r)=some ((i,v)::vs):=by
 simp[km,h,h']
theorem cm.km{a:Act}(h:cm N env a): ∀{xs:List (Nat×Operand)} {vs:List (Nat×Value)},km env xs=some vs->(xs.map fun p=>(p.1,a.eval p.2))=vs
 |[],vs,e=>by simp[au.km]at e;simp[e]
 |(i,x)::r,vs,e=>by
  unfold au.km at e;split at e
  ·
   rename_i v Su hv xX;simp only[aoM]at e;subst e;simp[h.ev hv,h.km xX]
  simp at e
class nF(P:Program)(t:TypeId)(vs:List (Nat×Value))(v:outParam Value):Prop where
 h: ∀w,(Instr.build t vs.toArray).run P w= .ok v w
theorem cG{t:TypeId}{xs:List (Nat×Operand)}{vs:List (Nat×Value)}{v:Value}(hx:km env xs=some vs)(hb: ∀w,(Instr.build t vs.toArray).run P w= .ok v w):
  Ry P N w0 env L ⟨d, .build t xs.toArray,ty,ps,af,gd⟩ v:=fun a w ha _=>by
 have e:(xs.toArray.map fun(p:Nat×Operand)=>match p with|(i,x)=>(i,a.eval x))=vs.toArray:=by
  rw[←ha.km hx];simp
 simp only[execOp,e,Sem.run_bind,hb w,Result.andThen,Sem.run_pure]
theorem eN{t:TypeId}{xs:List (Nat×Operand)}{vs:List (Nat×Value)}{v:Value}(hx:km env xs=some vs)[hb:nF P t vs v]:
  Ry P N w0 env L ⟨d, .build t xs.toArray,ty,ps,af,gd⟩ v:=cG hx hb.h
theorem Ky{k:IntKind}{i:Int}{y:Nat}(h0:0<=i)(h1:i<=y)(c:BoundsCode)(w:World):(Instr.sliceBound (.int k i) y c).run P w= .ok i.toNat w:=by
 simp[Instr.sliceBound,asIntOf,h0,h1]
theorem Kz{t:TypeId}{x hi:Operand}{n m b o:Nat}{k:IntKind}{h:Int}[ht:sJ P t n m](hx:ev env x=some (.pointer (some ⟨b,o,none⟩)))(hh:ev env hi=some (.int k h))(h0:0<=h)(h1:h<=n):
  Ry P N w0 env L ⟨d, .slice t x none (some hi) none,ty,ps,af,gd⟩ (.slice (some ⟨b,o,none⟩) h.toNat n):=fun a w ha _=>by
 obtain⟨e,hu,eL⟩:=ht.arr;have e0:(⟨b,o,none⟩:Addr).add 0=⟨b,o,none⟩:=rfl;simp[execOp,ha.ev hx,ha.ev hh,Instr.sliceAt,run_underlying hu,Instr.sureAddr,Instr.sliceBounds,Ky h0 h1,ki w eL,Result.andThen,e0]
theorem jx{t:TypeId}{x:Operand}{n m b o:Nat}[ht:sJ P t n m](hx:ev env x=some (.pointer (some ⟨b,o,none⟩))):
  Ry P N w0 env L ⟨d, .slice t x none none none,ty,ps,af,gd⟩ (.slice (some ⟨b,o,none⟩) n n):=fun a w ha _=>by
 obtain⟨e,hu,eL⟩:=ht.arr;have e0:(⟨b,o,none⟩:Addr).add 0=⟨b,o,none⟩:=rfl;simp[execOp,ha.ev hx,Instr.sliceAt,run_underlying hu,Instr.sureAddr,Instr.sliceBounds,ki w eL,Result.andThen,e0]
theorem KA{t:TypeId}{x lo:Operand}{n m b o:Nat}{k:IntKind}{l:Int}[ht:sJ P t n m](hx:ev env x=some (.pointer (some ⟨b,o,none⟩)))(hl:ev env lo=some (.int k l))(h0:0<=l)(h1:l<n):
  Ry P N w0 env L ⟨d, .slice t x (some lo) none none,ty,ps,af,gd⟩ (.slice (some ⟨b,o+l.toNat*m,none⟩) (n -l.toNat) (n -l.toNat)):=fun a w ha _=>by
 obtain⟨e,hu,eL⟩:=ht.arr;have e0:(if n=l.toNat then(⟨b,o,none⟩:Addr)else(⟨b,o,none⟩:Addr).add (l.toNat*m))=⟨b,o+l.toNat*m,none⟩:=by rw[if_neg (by omega),Addr.fS]
 simp[execOp,ha.ev hx,ha.ev hl,Instr.sliceAt,run_underlying hu,Instr.sureAddr,Instr.sliceBounds,Ky h0 (Int.le_of_lt h1),ki w eL,Result.andThen,e0]
def nb:IntKind->Nat
 | .i8=>7| .i16=>15| .i32=>31| .i64=>63| .u8=>8| .u16=>16| .u32=>32| .u64=>64
theorem SB(k:IntKind):nb k<=k.bits:=by cases k<;>decide
theorem og{k:IntKind}{n:Nat}(h:n<2^nb k):k.wrap (n:Int)=n:=by
 cases k<;>simp[IntKind.wrap,IntKind.bits,IntKind.signed,nb]at* <;>omega
theorem yb(b n:Nat):BitVec.ofInt b (n:Int)=BitVec.ofNat b n:=by
 apply ao3;simp
theorem pw{k:IntKind}{n:Nat}(h:n<2^nb k):n<2^k.bits:=anW h (an9 (by decide) (SB k))
variable {x y:Operand} {k k':IntKind} {p q:Nat} {t u:TypeId}
theorem KB{a b:Int}(hx:ev env x=some (.int k a))(hy:ev env y=some (.int k b))(ea:a=p)(eb:b=q)(hp:p<2^nb k)(hq:q<2^nb k):
  Ry P N w0 env L ⟨d, .binOp .and t x y u,ty,ps,af,gd⟩ (.int k ((p&&&q:Nat):Int)):=cQ hx hy (by
 subst ea eb;simp only[kh,yb,BitVec.toNat_and,aoB,anL (pw hp),anL (pw hq)];rw[og (Nat.and_lt_two_pow _ hq)])
theorem yc{a b:Int}(hx:ev env x=some (.int k a))(hy:ev env y=some (.int k b))(ea:a=p)(eb:b=q)(hp:p<2^nb k)(hq:q<2^nb k):
  Ry P N w0 env L ⟨d, .binOp .or t x y u,ty,ps,af,gd⟩ (.int k ((p|||q:Nat):Int)):=cQ hx hy (by
 subst ea eb;simp only[kh,yb,BitVec.toNat_or,aoB,anL (pw hp),anL (pw hq)];rw[og (Nat.or_lt_two_pow hp hq)])
theorem FK{a b:Int}(hx:ev env x=some (.int k a))(hy:ev env y=some (.int k b))(ea:a=p)(eb:b=q)(hp:p<2^nb k)(hq:q<2^nb k):
  Ry P N w0 env L ⟨d, .binOp .xor t x y u,ty,ps,af,gd⟩ (.int k ((p^^^q:Nat):Int)):=cQ hx hy (by
 subst ea eb;simp only[kh,yb,BitVec.toNat_xor,aoB,anL (pw hp),anL (pw hq)];rw[og (ao5 hp hq)])
theorem SC(hp:p<2^nb k)(hq:q<2^nb k):kh .andNot k p q=some (.int k ((p&&&(2^k.bits -1 -q):Nat):Int)):=by
 simp only[kh,yb,BitVec.toNat_and,BitVec.toNat_not,aoB,anL (pw hp),anL (pw hq)];rw[og (ao6 Nat.and_le_left hp)]
theorem SD{a b:Int}(h:0<=b)(w:World):(binOp .shr t (.int k a) (.int k' b)).run P w= .ok (.int k (a.fdiv (2^min b.toNat k.bits))) w:=by
 simp[binOp,Op.shift,show ¬b<0 by omega]
theorem SE{a b:Int}(h:0<=b)(w:World):(binOp .shl t (.int k a) (.int k' b)).run P w= .ok (.int k (k.wrap (a*2^min b.toNat k.bits))) w:=by
 simp[binOp,Op.shift,show ¬b<0 by omega]
theorem Aj{a b:Int}(hx:ev env x=some (.int k a))(hy:ev env y=some (.int k b))(ea:a=p)(eb:b=q)(h:p+q<2^nb k):
  Ry P N w0 env L ⟨d, .binOp .add t x y u,ty,ps,af,gd⟩ (.int k ((p+q:Nat):Int)):=cQ hx hy (by
 subst ea eb;rw[kh,←Int.natCast_add,og h])
theorem FL{a b:Int}{ts:Array TypeId}(hx:ev env x=some (.int k a))(hy:ev env y=some (.int k b)):
  Ry P N w0 env L ⟨d, .call {callee:= .builtin .min,args:= #[x,y],argTypes:=ts},ty,ps,af,gd⟩ (.int k (min a b)):=fun aa w ha _=>by
 have e:(if b<a then b else a)=min a b:=by rw[Int.min_def];split<;>split<;>omega
 simp[execOp,ha.ev hx,ha.ev hy,resolve,invoke,builtin,Builtin.min_,Builtin.min2,e]
theorem uC{a b:Int}{ts:Array TypeId}(hx:ev env x=some (.int k a))(hy:ev env y=some (.int k b)):
  Ry P N w0 env L ⟨d, .call {callee:= .builtin .max,args:= #[x,y],argTypes:=ts},ty,ps,af,gd⟩ (.int k (max a b)):=fun aa w ha _=>by
 have e:(if a<b then b else a)=max a b:=by rw[Int.max_def];split<;>split<;>omega
 simp[execOp,ha.ev hx,ha.ev hy,resolve,invoke,builtin,Builtin.max_,Builtin.max2,e]
theorem KC{ix:Operand}{s:ByteArray}{j:Int}{v:Nat}(hu:P.underlying t=some .string)(hx:ev env x=some (.string s))(hj:ev env ix=some (.int k j))(h0:0<=j)(hv:(s[j.toNat]?).map (·.toNat)=some v):
  Ry P N w0 env L ⟨d, .index t x ix,ty,ps,af,gd⟩ (.int .u8 v):=fun a w ha _=>by
 cases hs:s[j.toNat]?with
 |none=>simp[hs]at hv
 |some b=>
  simp[hs]at hv;simp[execOp,ha.ev hx,ha.ev hj,Instr.index,asIntOf,run_underlying hu,h0,hs,hv,Result.andThen]
theorem lR{s:TypeId}{n:Nat}[hs:lP P s k'][ht:lP P t k](hx:ev env x=some (.int k' n))(hn:n<2^nb k):
  Ry P N w0 env L ⟨d, .convert s t x,ty,ps,af,gd⟩ (.int k n):=sK hx (og hn)
theorem FM{s:TypeId}{n:Int}[hs:lP P s k'][ht:lP P t k](hx:ev env x=some (.int k' n))(h0:0<=n)(hn:n.toNat<2^nb k):
  Ry P N w0 env L ⟨d, .convert s t x,ty,ps,af,gd⟩ (.int k n):=sK hx (by
 have:=og hn;rwa [Int.toNat_of_nonneg h0]at this)
theorem sL{b:Int}(hx:ev env x=some (.int k p))(hy:ev env y=some (.int k' b))(hp:p<2^nb k)(hb:0<=b):
  Ry P N w0 env L ⟨d, .binOp .shr t x y u,ty,ps,af,gd⟩ (.int k ((p/2^b.toNat:Nat):Int)):=fun a w ha _=>by
 have e:((p:Int).fdiv (2^min b.toNat k.bits))=((p/2^b.toNat:Nat):Int):=by
  rw[Int.fdiv_eq_ediv_of_nonneg _ (Int.pow_nonneg (by decide)),show((2:Int)^min b.toNat k.bits)=((2^min b.toNat k.bits:Nat):Int) by simp,←Int.natCast_ediv];congr 1
  by_cases h:b.toNat<=k.bits
  ·
   rw[apB h]
  ·
   rw[Nat.min_eq_right (by omega),Nat.div_eq_of_lt (pw hp),Nat.div_eq_of_lt (anW (pw hp) (an9 (by decide) (by omega)))]
 simp only[execOp,ha.ev hx,ha.ev hy,Sem.run_bind,FI,SD hb,e,Sem.run_pure,Result.andThen]
theorem CB{a b:Int}(hx:ev env x=some (.int k a))(hy:ev env y=some (.int k' b))(hb:0<=b):
  Ry P N w0 env L ⟨d, .binOp .shl t x y u,ty,ps,af,gd⟩ (.int k (k.wrap (a*2^min b.toNat k.bits))):=fun aa w ha _=>by
 simp only[execOp,ha.ev hx,ha.ev hy,Sem.run_bind,FI,SE hb,Sem.run_pure,Result.andThen]
end
section
variable {P:Program} {N:bO} {w0:World} {env:Env} {L:List ai} {l:List Oper} {Q:Exit->Act->World->Prop} {F:Act->Prop} {fs:List Nat} {k:Nat} {rest:List Oper}
def Ex(N:bO)(w0:World)(Q:Exit->Act->World->Prop)(e:Exit)(env:Env)(L:List ai):Prop:= ∀a w,cm N env a->Mem w0 L w->Q e a w
def Sq(P:Program)(N:bO)(w0:World)(l:List Oper)(Q:Exit->Act->World->Prop)(rest:List Oper)(env:Env)(L:List ai):Prop:=
 ∀a w,cm N env a->Mem w0 L w->wpList P l.toArray Q rest a w
def Qt(P:Program)(N:bO)(w0:World)(l:List Oper)(fs:List Nat)(F:Act->Prop)(k:Nat)(rest:List Oper)(env:Env)(L:List ai):Prop:=
 ∀a,cm N env a->lM P l.toArray fs (Mem w0 L) F k rest a
theorem cR(h:Ex N w0 Q .normal env L):Sq P N w0 l Q [] env L:=h
theorem KD(h:Ex N w0 Q .normal env L):Qt P N w0 l fs (fun a'=> ∀w',Mem w0 L w'->Q .normal a' w') k [] env L:=fun a ha w' fB=>h a w' ha fB
def Fr(P:Program)(N:bO)(w0:World)(Lq:List ai)(l:List Oper)(n:Nat)(Q:Exit->Act->World->Prop)(fs:List Nat)(env:Env)(L:List ai):Prop:=
 (∀w,Mem w0 L w->Mem w0 Lq w)-> ∀a,cm N env a->sG P l n Q w0 Lq fs a L
theorem uD{n:Nat}{gs:List Nat}{L':List ai}(h:Fr P N w0 L l n Q gs env L')(hq: ∀w,Mem w0 L' w->Mem w0 L w:=by exact fun _ h=>h):Qt P N w0 l fs (fun a'=>sG P l n Q w0 L gs a' L') k [] env L:=fun a ha=>h hq a ha
theorem uE{n:Nat}{Lq:List ai}(h:Sq P N w0 l Q (l.drop n) env L):Fr P N w0 Lq l n Q [] env L:=fun _ a ha w hw=>h a w ha hw
theorem SF{o:Oper}(hk:Qt P N w0 l fs F (k+1) rest env L)(hf:fs.contains k=true:=by rfl):Qt P N w0 l fs F k (o::rest) env L:=fun a ha=>by
 unfold lM;rw[if_pos hf];exact hk a ha
theorem oh{o:Oper}{y:Nat->Option Bool}(h:o.guard=none):Region.wanted o y=true:=by simp[Region.wanted,h]
theorem q8{o:Oper}{a:Act}{j t:Nat}{b g:Bool}(ha:cm N env a)(h:o.guard=some (j,b))(hj:(l[j]?).bind (·.dst)=some t)(hv:look env t=some (.bool g)):
  Region.wanted o (yielded l.toArray a.tmps)=(g==b):=by
 have:=ha.get _ _ hv;simp[Region.wanted,h,yielded,hj,this]
theorem FN{o:Oper}{a:Act}{j t:Nat}{b c g:Bool}(ha:cm N env a)(h:o.guard=some (j,b))(hj:(l[j]?).bind (·.dst)=some t)(hv:look env t=some (if c=true then .bool g else undef)):
  Region.wanted o (yielded l.toArray a.tmps)=(c&&(g==b)):=by
 have:=ha.get _ _ hv
 cases c
 ·
  simp only[aon,if_false]at this;simp[Region.wanted,h,yielded,hj,this,undef]
 ·
  simp only[if_true]at this;simp[Region.wanted,h,yielded,hj,this]
theorem yd{o:Oper}{a:Act}{w:World}{v:Value}{K:Act->World->Prop}(ha:cm N env a)(hw:Mem w0 L w)(h:Yl P N w0 env L o v)(hk: ∀w',Mem w0 L w'->K (a.put o.dst v) w'):o.wp P a w K Q:=by
 have h1:=h a ha w hw;unfold Oper.quietAt at h1;unfold Oper.wp;generalize(execOp a.eval o).run P w=r at h1;unfold Oper.quietUpon at h1;split at h1
 ·
  obtain⟨rfl,rfl⟩:=h1;exact hk _ hw
 ·
  obtain⟨rfl,rfl⟩:=h1;exact hk _ hw
 ·
  obtain⟨rfl,hc⟩:=h1;exact hc.mono fun e ob ⟨he,hm⟩=>by subst he;exact hk _ (by simpa using hw.call hm)
 exact h1.elim
theorem c6{o:Oper}{v:Value}(h:Yl P N w0 env L o v)(hk:Sq P N w0 l Q rest (bZ env o.dst v) L)(hg:o.guard=none:=by rfl)(hd:cL N o.dst=true:=by rfl):Sq P N w0 l Q (o::rest) env L:=fun a w ha hw=>by
 unfold wpList;rw[if_pos (oh hg)];exact .inl (yd ha hw h fun w' fB=>hk _ _ (ha.put hd v) fB)
theorem ae{o:Oper}{v:Value}(h:Ry P N w0 env L o v)(hk:Sq P N w0 l Q rest (bZ env o.dst v) L)(hg:o.guard=none:=by rfl)(hd:cL N o.dst=true:=by rfl):Sq P N w0 l Q (o::rest) env L:=c6 h.yl hk hg hd
theorem lS{o:Oper}{v:Value}(h:Yl P N w0 env L o v)(hk:Qt P N w0 l fs F (k+1) rest (bZ env o.dst v) L)(hg:o.guard=none:=by rfl)(hd:cL N o.dst=true:=by rfl)(hf:fs.contains k=false:=by rfl):Qt P N w0 l fs F k (o::rest) env L:=fun a ha=>by
 unfold lM;rw[if_neg (by rw[hf];exact aoh)];rw[if_pos (oh hg)];exact⟨v,h a ha,hk _ (ha.put hd v)⟩
theorem bn{o:Oper}{v:Value}(h:Ry P N w0 env L o v)(hk:Qt P N w0 l fs F (k+1) rest (bZ env o.dst v) L)(hg:o.guard=none:=by rfl)(hd:cL N o.dst=true:=by rfl)(hf:fs.contains k=false:=by rfl):Qt P N w0 l fs F k (o::rest) env L:=lS h.yl hk hg hd hf
theorem look_eq{t:Nat}{u v:Value}(h:look env t=some u)(e:u=v):look env t=some v:=by rw[h,e]
theorem fv{o:Oper}{v:Value}{j t:Nat}{g:Bool}(hg:o.guard=some (j,true))(hj:(l[j]?).bind (·.dst)=some t)(hv:look env t=some (.bool g))(h:g=true->Yl P N w0 env L o v)
  (hk:Sq P N w0 l Q rest (bZ env o.dst (if g=true then v else undef)) L) (hd:cL N o.dst=true:=by rfl):Sq P N w0 l Q (o::rest) env L:=fun a w ha hw=>by
 unfold wpList;rw[q8 ha hg hj hv]
 cases g
 ·
  exact hk _ _ (ha.put hd undef) hw
 ·
  exact .inl (yd ha hw (h rfl) fun w' fB=>hk _ _ (ha.put hd v) fB)
theorem dM{o:Oper}{v:Value}{j t:Nat}{g:Bool}(hg:o.guard=some (j,true))(hj:(l[j]?).bind (·.dst)=some t)(hv:look env t=some (.bool g))(h:g=true->Yl P N w0 env L o v)
  (hk:Qt P N w0 l fs F (k+1) rest (bZ env o.dst (if g=true then v else undef)) L) (hd:cL N o.dst=true:=by rfl) (hf:fs.contains k=false:=by rfl):Qt P N w0 l fs F k (o::rest) env L:=fun a ha=>by
 unfold lM;rw[if_neg (by rw[hf];exact aoh)];rw[q8 ha hg hj hv]
 cases g
 ·
  exact hk _ (ha.put hd undef)
 ·
  exact⟨v,h rfl a ha,hk _ (ha.put hd v)⟩
theorem bk{o:Oper}{v:Value}{j t:Nat}{g:Bool}(hg:o.guard=some (j,false))(hj:(l[j]?).bind (·.dst)=some t)(hv:look env t=some (.bool g))(h:(!g)=true->Yl P N w0 env L o v)
  (hk:Sq P N w0 l Q rest (bZ env o.dst (if(!g)=true then v else undef)) L) (hd:cL N o.dst=true:=by rfl):Sq P N w0 l Q (o::rest) env L:=fun a w ha hw=>by
 unfold wpList;rw[q8 ha hg hj hv]
 cases g
 ·
  exact .inl (yd ha hw (h rfl) fun w' fB=>hk _ _ (ha.put hd v) fB)
 ·
  exact hk _ _ (ha.put hd undef) hw
theorem dm{o:Oper}{v:Value}{j t:Nat}{g:Bool}(hg:o.guard=some (j,false))(hj:(l[j]?).bind (·.dst)=some t)(hv:look env t=some (.bool g))(h:(!g)=true->Yl P N w0 env L o v)
  (hk:Qt P N w0 l fs F (k+1) rest (bZ env o.dst (if(!g)=true then v else undef)) L) (hd:cL N o.dst=true:=by rfl) (hf:fs.contains k=false:=by rfl):Qt P N w0 l fs F k (o::rest) env L:=fun a ha=>by
 unfold lM;rw[if_neg (by rw[hf];exact aoh)];rw[q8 ha hg hj hv]
 cases g
 ·
  exact⟨v,h rfl a ha,hk _ (ha.put hd v)⟩
 ·
  exact hk _ (ha.put hd undef)
theorem ko{o:Oper}{v:Value}{j t:Nat}{c g:Bool}(hg:o.guard=some (j,true))(hj:(l[j]?).bind (·.dst)=some t)(hv:look env t=some (if c=true then .bool g else undef))(h:(c&&g)=true->Yl P N w0 env L o v)
  (hk:Sq P N w0 l Q rest (bZ env o.dst (if(c&&g)=true then v else undef)) L) (hd:cL N o.dst=true:=by rfl):Sq P N w0 l Q (o::rest) env L:=fun a w ha hw=>by
 unfold wpList;rw[FN ha hg hj hv]
 cases c<;>cases g
 ·
  exact hk _ _ (ha.put hd undef) hw
 ·
  exact hk _ _ (ha.put hd undef) hw
 ·
  exact hk _ _ (ha.put hd undef) hw
 ·
  exact .inl (yd ha hw (h rfl) fun w' fB=>hk _ _ (ha.put hd v) fB)
theorem sM{o:Oper}{v:Value}{j t:Nat}{c g:Bool}(hg:o.guard=some (j,false))(hj:(l[j]?).bind (·.dst)=some t)(hv:look env t=some (if c=true then .bool g else undef))(h:(c&& !g)=true->Yl P N w0 env L o v)
  (hk:Sq P N w0 l Q rest (bZ env o.dst (if(c&& !g)=true then v else undef)) L) (hd:cL N o.dst=true:=by rfl):Sq P N w0 l Q (o::rest) env L:=fun a w ha hw=>by
 unfold wpList;rw[FN ha hg hj hv]
 cases c<;>cases g
 ·
  exact hk _ _ (ha.put hd undef) hw
 ·
  exact hk _ _ (ha.put hd undef) hw
 ·
  exact .inl (yd ha hw (h rfl) fun w' fB=>hk _ _ (ha.put hd v) fB)
 ·
  exact hk _ _ (ha.put hd undef) hw
theorem FO{o:Oper}{v:Value}{j t:Nat}{c g:Bool}(hg:o.guard=some (j,false))(hj:(l[j]?).bind (·.dst)=some t)(hv:look env t=some (if c=true then .bool g else undef))(h:(c&& !g)=true->Yl P N w0 env L o v)
  (hk:Qt P N w0 l fs F (k+1) rest (bZ env o.dst (if(c&& !g)=true then v else undef)) L) (hd:cL N o.dst=true:=by rfl) (hf:fs.contains k=false:=by rfl):Qt P N w0 l fs F k (o::rest) env L:=fun a ha=>by
 unfold lM;rw[if_neg (by rw[hf];exact aoh)];rw[FN ha hg hj hv]
 cases c<;>cases g
 ·
  exact hk _ (ha.put hd undef)
 ·
  exact hk _ (ha.put hd undef)
 ·
  exact⟨v,h rfl a ha,hk _ (ha.put hd v)⟩
 ·
  exact hk _ (ha.put hd undef)
theorem uF{x:Operand}{c g:Bool}{v u:Value}(hc:c=true)(h:ev env x=some (if(c&&g)=true then v else u)):ev env x=some (if g=true then v else u):=by subst hc;simpa using h
theorem aw{x:Operand}{g:Bool}{v u:Value}(hg:g=true)(h:ev env x=some (if g=true then v else u)):ev env x=some v:=by rw[h,if_pos hg]
variable {d:Option Tmp} {ty:TypeId} {ps:String} {af:Array Edge}
theorem mE{o:Oper}(hg:o.guard=none)(hd:cL N o.dst=true)
  (h: ∀a w,cm N env a->Mem w0 L w-> ∃v w' L',(execOp a.eval o).run P w= .ok (.value v) w'/\Mem w0 L' w'/\Sq P N w0 l Q rest (bZ env o.dst v) L'):Sq P N w0 l Q (o::rest) env L:=fun a w ha hw=>by
 unfold wpList;rw[if_pos (oh hg)];obtain⟨v,w',L',h1,h2,h3⟩:=h a w ha hw;refine .inl ?_;unfold Oper.wp;rw[h1];exact h3 _ _ (ha.put hd v) h2
theorem CC{o:Oper}(hg:o.guard=none)(hd:o.dst=none)
  (h: ∀a w,cm N env a->Mem w0 L w-> ∃w' L',(execOp a.eval o).run P w= .ok .skip w'/\Mem w0 L' w'/\Sq P N w0 l Q rest env L'):Sq P N w0 l Q (o::rest) env L:=fun a w ha hw=>by
 unfold wpList;rw[if_pos (oh hg)];obtain⟨w',L',h1,h2,h3⟩:=h a w ha hw;refine .inl ?_;unfold Oper.wp;rw[h1];show wpList P l.toArray Q rest (a.put o.dst undef) w';rw[hd];exact h3 _ _ ha h2
theorem FP{t:TypeId}{x:Operand}{v:Value}(hx:ev env x=some v)(hk: ∀b,Sq P N w0 l Q rest (bZ env d (.pointer (some ⟨b,0,none⟩))) (an b v.cells t::L))(hd:cL N d=true:=by rfl):
  Sq P N w0 l Q (⟨d, .box t x,ty,ps,af,none⟩::rest) env L:=
 mE rfl hd fun a w ha hw=>⟨_,_,_,by simp only[execOp,ha.ev hx,Instr.box,newVar,newRow,Sem.run_bind,newObj,Sem.run,Result.andThen,Sem.run_pure];rfl,hw.alloc v.cells t,hk _⟩
theorem KE{t:TypeId}{z:Value}[hz:dB P t z](hk: ∀b,Sq P N w0 l Q rest (bZ env d (.pointer (some ⟨b,0,none⟩))) (an b z.cells t::L))(hd:cL N d=true:=by rfl):
  Sq P N w0 l Q (⟨d, .alloc t,ty,ps,af,none⟩::rest) env L:=
 mE rfl hd fun a w ha hw=>⟨_,_,_,by simp only[execOp,Instr.alloc,newVar,newRow,Sem.run_bind,Cz w hz,newObj,Sem.run,Result.andThen,Sem.run_pure];rfl,hw.alloc z.cells t,hk _⟩
theorem bx{t:TypeId}{x:Operand}{cs:Array Value}(hx:ev env x=some (.agg cs))(hk: ∀b,Sq P N w0 l Q rest (bZ env d (.pointer (some ⟨b,0,none⟩))) (an b cs t::L))(hd:cL N d=true:=by rfl):
  Sq P N w0 l Q (⟨d, .box t x,ty,ps,af,none⟩::rest) env L:=FP hx hk hd
theorem ba{t:TypeId}{cs:Array Value}[hz:dB P t (.agg cs)](hk: ∀b,Sq P N w0 l Q rest (bZ env d (.pointer (some ⟨b,0,none⟩))) (an b cs t::L))(hd:cL N d=true:=by rfl):
  Sq P N w0 l Q (⟨d, .alloc t,ty,ps,af,none⟩::rest) env L:=KE (z:= .agg cs) hk hd
theorem SG{cs:Array Value}(h:cs.all (·.oneCell')=true)(a b:Nat):(cs.extract a b).all (·.oneCell')=true:=by
 rw[anS]at h⊢;intro v hv;have:v∈(cs.extract a b).toList:=Array.mem_toList_iff.2 hv;rw[Array.toList_extract]at this;simp only[List.extract]at this;exact h v (by simpa using List.mem_of_mem_drop (apj this))
theorem dN{t:TypeId}{x y:Operand}{i b o:Nat}{cs:Array Value}{T:TypeId}{v:Value}(hx:ev env x=some (.pointer (some ⟨b,o,none⟩)))(hy:ev env y=some v)[ht:eY P t][hh:Has L b cs T i](ho:o<cs.size)(hv:v.oneCell'=true){cs':Array Value}{L':List ai}(gv:cs.setIfInBounds o v=cs')[hu:eM L i (an b cs' T) L'](hk:Sq P N w0 l Q rest env L'):
  Sq P N w0 l Q (⟨none, .store t x y,ty,ps,af,none⟩::rest) env L:=
 CC rfl rfl fun a w ha hw=>by
  have hi:=hh.h;have hb:=hw.block hi;have hc:w.cell? ⟨b,o,none⟩=some cs[o]:=by rw[hw.cell hi];simp[ho]
  have hf:w.frozen? ⟨b,o,none⟩=false:=frozen_of_row w b o cs T hb;subst gv;refine⟨w.setCell ⟨b,o,none⟩ v,_,?_,?_,hk⟩
  ·
   have h1:(storeCells ⟨b,o,none⟩ [v]).run P w= .ok () (w.setCell ⟨b,o,none⟩ v):=by
    have:=run_storeCells_at (P:=P) b o T [v] 0 cs w hb (by simp;omega) (by simpa using hv);rw[this,setCell_eq_setRow w b o cs T (0,0) v hb];congr 2;apply apI;simp[List.set_eq_take_append_cons_drop,ho]
   have gv:v.cells= #[v]:=by cases v<;>simp_all[Value.oneCell',Value.cells]
   simp only[execOp,ha.ev hx,ha.ev hy,Instr.storeAt,Instr.sureAddr,storeVar,Sem.run_bind,Sem.run_pure,Result.andThen,ki w ht.size,gv];simp[h1]
  ·
   rw[setCell_eq_setRow w b o cs T (0,0) v hb];rw[←hu.h];exact hw.setRow hi _
def over(cs:Array Value)(o:Nat)(vs:Array Value):Array Value:=(cs.toList.take o++vs.toList++cs.toList.drop (o+vs.size)).toArray
theorem Ak{t:TypeId}{x y:Operand}{i b o n:Nat}{cs vs:Array Value}{T:TypeId}(hx:ev env x=some (.pointer (some ⟨b,o,none⟩)))(hy:ev env y=some (.agg vs))[ht:eu P t n][hh:Has L b cs T i][hs:eZ vs n](ho:o+n<=cs.size){cs':Array Value}{L':List ai}(gv:over cs o vs=cs')[hu:eM L i (an b cs' T) L'](hk:Sq P N w0 l Q rest env L'):
  Sq P N w0 l Q (⟨none, .store t x y,ty,ps,af,none⟩::rest) env L:=
 CC rfl rfl fun a w ha hw=>by
  have hi:=hh.h;have hn:=hs.h;have hv:=hs.one;have hb:=hw.block hi;subst gv;refine⟨_,_,?_,by rw[←hu.h];exact hw.setRow hi _,hk⟩;have h1:=run_storeCells_at (P:=P) b o T vs.toList 0 cs w hb (by simp;omega) (fun v kp=>(anS.1 hv) v (by simpa using kp));simp only[execOp,ha.ev hx,ha.ev hy,Instr.storeAt,Instr.sureAddr,storeVar,Value.cells,Sem.run_bind,Sem.run_pure,Result.andThen,ki w ht.size,hn];simp[h1,over]
theorem q9{t:TypeId}{x y:Operand}{i b n:Nat}{cs vs:Array Value}{T:TypeId}(hx:ev env x=some (.pointer (some ⟨b,0,none⟩)))(hy:ev env y=some (.agg vs))[ht:eu P t n][hh:Has L b cs T i][hs:eZ vs n][hc:eZ cs n]{L':List ai}[hu:eM L i (an b vs T) L'](hk:Sq P N w0 l Q rest env L'):
  Sq P N w0 l Q (⟨none, .store t x y,ty,ps,af,none⟩::rest) env L:=by
 have hn:=hs.h;have SH:=hc.h;refine Ak hx hy (by omega) (?_:over cs 0 vs=vs) hk;apply apI;simp[over];omega
theorem FQ{x y:Operand}{tx fD e:TypeId}{i b o dl dc sl sc:Nat}{a:Addr}{cs vs:Array Value}{T:TypeId}(hx:ev env x=some (.slice (some ⟨b,o,none⟩) dl dc))(hy:ev env y=some (.slice (some a) sl sc))
  [ht:ez P tx e 1] [hh:Has L b cs T i] (hn:vs.size=Nat.min sl dl) (qf: ∀w,Mem w0 L w-> ∀j,j<vs.size->w.cell? (a.add j)=vs[j]?) (hv:vs.all (·.oneCell')=true) (ho:o+vs.size<=cs.size)
  {cs':Array Value} {L':List ai} (gv:over cs o vs=cs') [hu:eM L i (an b cs' T) L'] (hk:Sq P N w0 l Q rest (bZ env d (.int .i64 vs.size)) L') (hd:cL N d=true:=by rfl):
  Sq P N w0 l Q (⟨d, .call {callee:= .builtin .copy,args:= #[x,y],argTypes:= #[tx,fD]},ty,ps,af,none⟩::rest) env L:=
 mE rfl hd fun aa w ha hw=>by
  have hi:=hh.h;have hb:=hw.block hi;subst gv;have fC:=run_copy_row (P:=P) w tx fD ty e b o dl dc a sl sc cs T vs.toList ht.dU ht.size hb (by simpa using hn)
   (fun j v kp=>by
    have hj:j<vs.size:=by simpa using(ad2.1 kp).1
    rw[qf w hw j hj];simpa using kp) (by simpa using ho) (fun v kp=>(anS.1 hv) v (by simpa using kp))
  refine⟨_,w.setRow b (over cs o vs),_,?_,by rw[←hu.h];exact hw.setRow hi _,hk⟩;simp[execOp,ha.ev hx,ha.ev hy,resolve,invoke,builtin,fC,Result.andThen,goInt,over]
end
section
variable {P:Program} {N:bO} {w0:World} {env:Env} {L Lq:List ai} {l:List Oper} {n j:Nat} {js:List Nat} {Q:Exit->Act->World->Prop} {d:Option Tmp} {ty:TypeId} {ps:String} {af:Array Edge}
theorem SI{X:Type}{val:X->Value}{L':X->List ai}{pr:X->Prop}{f:FuncId}{xs:List Operand}{ts:Array TypeId}{vs:List Value}(hj:l[j]? =some ⟨d, .call {callee:= .value (.func f),args:=xs.toArray,argTypes:=ts},ty,ps,af,none⟩)[hf:aD P f](hx:ff env xs=some vs)
  (hc: ∀w,Mem w0 L w->Calls P f vs.toArray w fun e w'=> ∃x,e= .returned (val x)/\pr x/\Mem w0 (L' x) w') (hL: ∀x w,Mem w0 (L' x) w->Mem w0 Lq w) (hk: ∀x,pr x->Fr P N w0 Lq l n Q js (bZ env d (val x)) (L' x)) (hd:cL N d=true:=by rfl):
  Fr P N w0 Lq l n Q (j::js) env L:=fun _ a ha=>
 ⟨_,hj,rfl,fun w hw=>by
  rw[x7 hf w rfl,ha.ff hx];exact⟨rfl,(hc w hw).mono fun e w' ⟨x,he,hp,hm⟩=>⟨val x,L' x,he,hm,hL x,hk x hp (hL x) _ (ha.put hd _)⟩⟩⟩
end
section
variable {P:Program} {N:bO} {w0:World} {env:Env} {L:List ai} {Q:Exit->Act->World->Prop}
def Cw(P:Program)(N:bO)(w0:World)(Q:Exit->Act->World->Prop)(c:Code)(env:Env)(L:List ai):Prop:= ∀a w,cm N env a->Mem w0 L w->c.wpIn (gQ N.ro) 0 P Q a w
theorem cH{x y:Code}(h:Cw P N w0 (Exit.then (y.wpIn (gQ N.ro) 0 P Q) Q) x env L):Cw P N w0 Q (.seq x y) env L:=fun a w ha hw=>wpIn_seq (h a w ha hw)
theorem cS{id:Nat}{l:List Oper}[ir Q](h:Sq P N w0 l Q l env L)(ca:n8 l=true:=by kernel_rfl):Cw P N w0 Q (.region id l.toArray false) env L:=fun a w ha hw=>Se ca (h a w ha hw)
theorem FR{ops:Array Oper}{C:World->Prop}{F:Act->Prop}(hC: ∀w w',C w->Mem w [] w'->C w'): ∀(rest:List Oper) (k:Nat) (a:Act),lM P ops [] C F k rest a->wpQuiet P ops C F rest a
 |[],_,_,h=>h
 |o::rest,k,a,h=>by
  unfold lM at h;rw[if_neg (by simp)]at h;unfold wpQuiet;split
  ·
   rename_i hw;rw[if_pos hw]at h;obtain⟨v,h1,h2⟩:=h;refine⟨v,fun w CD=>?_,FR hC rest (k+1) _ h2⟩;have h3:=h1 w CD;unfold Oper.quietAt at h3⊢;generalize(execOp a.eval o).run P w=r at h3;unfold Oper.quietUpon at h3⊢;split at h3
   ·
    exact h3
   ·
    exact h3
   ·
    exact⟨h3.1,by obtain⟨rfl,sH⟩:=h3;exact sH.mono fun e ob ⟨he,hm⟩=>⟨he,hC _ _ CD hm⟩⟩
   exact h3.elim
  rename_i hw;rw[if_neg hw]at h;exact FR hC rest (k+1) _ h
theorem eS{id:Nat}{l:List Oper}[ir Q](hm:P.follows .mixedOrders=true)(hB:Region.lexB .any l.toArray=true)(h:Qt P N w0 l [] (fun a'=> ∀w',Mem w0 L w'->Q .normal a' w') 0 l env L)(ca:n8 l=true:=by kernel_rfl):Cw P N w0 Q (.region id l.toArray true) env L:=fun a _ ha hw=>
 Sf ca (C:=Mem w0 L) hm hB hw.Ci (by simpa using FR (fun w w' CD fB=>by simpa using CD.call fB) l 0 a (h a ha))
theorem KF{id:Nat}{l:List Oper}[ir Q](n:Nat)(fs:List Nat)(Lq:List ai)(hq: ∀w,Mem w0 L w->Mem w0 Lq w)(hm:P.follows .mixedOrders=true)(hB:Cu l fs n=true)(h:Qt P N w0 l fs (fun a'=>sG P l n Q w0 Lq fs a' L) 0 (l.take n) env Lq)(ca:n8 l=true:=by kernel_rfl):Cw P N w0 Q (.region id l.toArray true) env L:=fun a _ ha hw=>
 Ss n ca hm hB hw.Ci hq (h a ha)
theorem wo{id:Nat}{l:List Oper}[ir Q](n:Nat)(fs:List Nat)(hm:P.follows .mixedOrders=true)(hB:Cu l fs n=true)(h:Qt P N w0 l fs (fun a'=>sG P l n Q w0 L fs a' L) 0 (l.take n) env L)(ca:n8 l=true:=by kernel_rfl):Cw P N w0 Q (.region id l.toArray true) env L:=
 KF n fs L (fun _ h=>h) hm hB h ca
theorem dJ{c:Operand}{x y:Code}{g:Bool}(hc:ev env c=some (.bool g))(hx:g=true->Cw P N w0 Q x env L)(hy:g=false->Cw P N w0 Q y env L):Cw P N w0 Q (.cond c x y) env L:=fun a w ha hw=>
 wpIn_cond_split (ha.ev hc) (fun h=>hx h a w ha hw) (fun h=>hy h a w ha hw)
theorem px{id:Nat}{c:Code}(h:Cw P N w0 (Exit.inBlock id Q) c env L):Cw P N w0 Q (.block id c) env L:=fun a w ha hw=>wpIn_block (h a w ha hw)
theorem nG(h:Ex N w0 Q .normal env L):Cw P N w0 Q .skip env L:=fun a w ha hw=>wpIn_skip (h a w ha hw)
theorem ye{id:Nat}(h:Ex N w0 Q (.exit id) env L):Cw P N w0 Q (.exit id) env L:=fun a w ha hw=>wpIn_exit (h a w ha hw)
theorem om(h:Ex N w0 Q .ret env L):Cw P N w0 Q .ret env L:=fun a w ha hw=>wpIn_ret (h a w ha hw)
theorem bI{c:Code}{X:Type}(jk:X->Env)(LI:X->List ai)(inv:X->Prop)(m:X->Nat)(x0:X)(h0:inv x0)(hs:Sub (jk x0) env)(hL: ∀w,Mem w0 L w->Mem w0 (LI x0) w)
  (round: ∀x,inv x->Cw P N w0 (Exit.then (fun a w=> ∃x',inv x'/\m x'<m x/\cm N (jk x') a/\Mem w0 (LI x') w) Q) c (jk x) (LI x)):Cw P N w0 Q (.loop c) env L:=by
 intro a0 w1 FT oo b k cs FU hb hr;have key: ∀n x,m x=n->inv x-> ∀a w,cm N (jk x) a->Mem w0 (LI x) w->
   ∃e a' w',Q e a' w'/\ArrivesIn (Machine.fenced P (gQ N.ro)) P (lone (b.atR a (.code c:: .inLoop c::k)) cs w) b k cs e a' w':=by
  intro n
  induction n using Nat.strongRecOn with
  |_ n ih=>
   intro x hm hI a w ha hw;obtain⟨e,oq,ot,hq,ll⟩:=round x hI a w ha hw b (.inLoop c::k) cs FU hb hr
   cases e with
   |normal=>
    obtain⟨x',FW,aZ,yf,fB⟩:=hq;obtain⟨FX,FY,FZ,F0,F1⟩:=ih (m x') (hm▸aZ) x' rfl FW oq ot yf fB;exact⟨FX,FY,FZ,F0, .of_steps (StepsIn.trans ll (.one (fenced_calm hb hr rfl) stepR_inLoop)) F1⟩
   |exit id=>exact⟨_,oq,ot,hq, .pass (x:= .inLoop c) rfl (fun _ _=> .inl (by simp)) ll⟩
   |goto l=>exact⟨_,oq,ot,hq, .pass (x:= .inLoop c) rfl (fun _ _=> .inl (by simp)) ll⟩
   |ret=>exact⟨_,oq,ot,hq, .pass (x:= .inLoop c) rfl (fun _ _=> .inl (by simp)) ll⟩
   |panic ch=>exact⟨_,oq,ot,hq, .pass (x:= .inLoop c) rfl (fun _ _=> .inl (by simp)) ll⟩
   |outgrown=>exact⟨_,oq,ot,hq, .pass (x:= .inLoop c) rfl (fun _ _=> .inl (by simp)) ll⟩
 obtain⟨e,a',w',hq,ll⟩:=key _ x0 rfl h0 a0 w1 (FT.sub hs) (hL w1 oo);exact⟨e,a',w',hq, .of_steps (.one (fenced_calm hb hr rfl) stepR_loop) ll⟩
theorem CE{x y:Code}{X:Type}(Al:X->Env)(LJ:X->List ai)(J:X->Prop)
  (h:Cw P N w0 (Exit.then (fun a w=> ∃s,J s/\cm N (Al s) a/\Mem w0 (LJ s) w) Q) x env L) (hy: ∀s,J s->Cw P N w0 Q y (Al s) (LJ s)):Cw P N w0 Q (.seq x y) env L:=fun a w ha hw=>
 wpIn_seq (wpIn_mono (h a w ha hw) fun e a' w' hq=>by
  cases e with
  |normal=>obtain⟨s,hs,hr,hm⟩:=hq;exact hy s hs a' w' hr hm
  |exit id=>exact hq
  |goto l=>exact hq
  |ret=>exact hq
  |panic ch=>exact hq
  |outgrown=>exact hq)
theorem cn{y:Code}{Q':Exit->Act->World->Prop}(h:Cw P N w0 Q y env L):Ex N w0 (Exit.then (y.wpIn (gQ N.ro) 0 P Q) Q') .normal env L:=h
theorem uG{X:Type}{Al:X->Env}{LJ:X->List ai}{J:X->Prop}(s:X)(hJ:J s)(hs:Sub (Al s) env)(hL: ∀w,Mem w0 L w->Mem w0 (LJ s) w):
  Ex N w0 (Exit.then (fun a w=> ∃s,J s/\cm N (Al s) a/\Mem w0 (LJ s) w) Q) .normal env L:=fun _ w ha hw=>⟨s,hJ,ha.sub hs,hL w hw⟩
theorem bb{X:Type}{jk:X->Env}{LI:X->List ai}{inv:X->Prop}{m:X->Nat}{x:X}(x':X)(hI:inv x')(hm:m x'<m x)(hs:Sub (jk x') env)(hL: ∀w,Mem w0 L w->Mem w0 (LI x') w):
  Ex N w0 (Exit.then (fun a w=> ∃x',inv x'/\m x'<m x/\cm N (jk x') a/\Mem w0 (LI x') w) Q) .normal env L:=fun _ w ha hw=>⟨x',hI,hm,ha.sub hs,hL w hw⟩
theorem ra{K:Act->World->Prop}{id:Nat}(h:Ex N w0 Q (.exit id) env L):Ex N w0 (Exit.then K Q) (.exit id) env L:=h
theorem uH{K:Act->World->Prop}(h:Ex N w0 Q .ret env L):Ex N w0 (Exit.then K Q) .ret env L:=h
theorem qg{id:Nat}(h:Ex N w0 Q .normal env L):Ex N w0 (Exit.inBlock id Q) .normal env L:=h
theorem yg{id:Nat}(h:Ex N w0 Q .normal env L):Ex N w0 (Exit.inBlock id Q) (.exit id) env L:=fun a w ha hw=>by
 simp only[Exit.inBlock,if_true];exact h a w ha hw
theorem KG{id CF:Nat}(cc:Nat.beq CF id=false)(h:Ex N w0 Q (.exit CF) env L):Ex N w0 (Exit.inBlock id Q) (.exit CF) env L:=fun a w ha hw=>by
 have: ¬CF=id:=fun e=>by subst e;simp at cc
 simp only[Exit.inBlock,this,if_false];exact h a w ha hw
theorem yh{id:Nat}(h:Ex N w0 Q .ret env L):Ex N w0 (Exit.inBlock id Q) .ret env L:=h
variable {fn:Func} {R:Ending->World->Prop}
theorem dn{n:Nat}{e:Exit}(he:e= .ret\/e= .normal){v:Value}(hr: ∀a w,cm ⟨n,[],none⟩ env a->Mem w0 L w->(results fn a.tmps).run P w= .ok v w)(h: ∀w,Mem w0 L w->R (.returned v) w):Ex ⟨n,[],none⟩ w0 (n9 P fn R) e env L:=fun a w ha hw=>by
 have key:LeavesInM (gQ none) 0 P fn a.tmps R a.defers .returning w:=by
  rw[ha.defers];exact⟨v,hr a w ha hw,h w hw⟩
 rcases he with rfl|rfl
 ·
  exact⟨.inr rfl,key⟩
 exact⟨.inl rfl,key⟩
theorem fT{t:Nat}{v:Value}(hf:fn.results= #[.tmp t])(hv:look env t=some v): ∀a w,cm N env a->Mem w0 L w->(results fn a.tmps).run P w= .ok v w:=fun a w ha _=>by
 have:=ha.get _ _ hv;simp[results,hf,this]
theorem CG{t:Nat}{T T':TypeId}{b i n:Nat}{cs:Array Value}(hf:fn.results= #[.cell t T])(hv:look env t=some (.pointer (some ⟨b,0,none⟩)))[ht:eu P T n][hi:Has L b cs T' i][hn:eZ cs n]:
  ∀a w,cm N env a->Mem w0 L w->(results fn a.tmps).run P w= .ok (.agg cs) w:=fun a w ha hw=>by
 have h1:=ha.get _ _ hv;have h2:(loadVar T ⟨b,0,none⟩).run P w= .ok (.agg cs) w:=FJ w ht hn.h fun j _=>by rw[Addr.fS,hw.cell hi.h,anG]
 simp[results,hf,h1,asAddr,h2]
theorem ou{N:Nat}{f:FuncId}{c:Code}{args:List Value}{w:World}(hf:P.funcs[f]? =some fn)(hb:fn.body=some c)(hN:fn.ntmps=N)(hle:Nat.ble args.length N=true)
  (h:Cw P ⟨N,[],none⟩ w (n9 P fn R) c (args.zipIdx.map fun p=>(p.2,p.1)) []):Calls P f args.toArray w R:=
 Kj hf hb (h _ _ (by rw[hN];exact cm.enter args N (Nat.le_of_ble_eq_true hle)) (Mem.init w))
end
theorem Z0(a b:Bool):((a&&b)=true)=(a=true/\b=true):=anc a b
theorem Z1(a b:Bool):((a||b)=true)=(a=true\/b=true):=aog a b
theorem Z2{x y:Bool}:(x&&y)=false↔x=false\/y=false:=Bool.and_eq_false_iff
theorem Z3{x y:Bool}:(x||y)=false↔x=false/\y=false:=Bool.or_eq_false_iff
theorem Z4(b:Bool):((!b)=true)=(b=false):=aov b
theorem Z5(b:Bool):((!b)=false)=(b=true):=Bool.not_eq_false' b
theorem Z6{p:Prop}[inst:Decidable p]:(decide p=true)=p:=decide_eq_true_eq
theorem Z7{p:Prop}{x:Decidable p}:decide p=false↔ ¬p:=decide_eq_false_iff_not
theorem Z8(b:Bool):(¬b=true)=(b=false):=apt b
theorem Z9(b:Bool):(¬b=false)=(b=true):=Bool.not_eq_false b
structure Sv where
  nil:Bool
  b:Nat
  o:Nat
  len:Nat
  cap:Nat
  sp:Option Nat
def Sv.val(s:Sv):Value:=match s.nil with
  |true=> .slice none 0 0
  |false=> .slice (some ⟨s.b,s.o,s.sp⟩) s.len s.cap
structure Sv.Ok(s:Sv):Prop where
  nil:s.nil=true->s.len=0/\s.cap=0
  le:s.len<=s.cap
  bd:s.len<=140737488355328
  sp:0<s.cap->s.sp=none
theorem Sv.Ok.some{s:Sv}(h:s.Ok)(hl:0<s.len):s.nil=false:=by
  cases hn:s.nil with
  |false=>rfl
  |true=>have:=h.nil hn;omega
theorem Sv.gT{s:Sv}(h:s.nil=false):s.val= .slice (some ⟨s.b,s.o,s.sp⟩) s.len s.cap:=by simp[Sv.val,h]
theorem Sv.rb{s:Sv}(h:s.nil=true):s.val= .slice none 0 0:=by simp[Sv.val,h]
def Sv.none:Sv:=⟨true,0,0,0,0, .none⟩
theorem Sv.Am:Sv.none.Ok:=⟨fun _=>⟨rfl,rfl⟩,anm _,anH _,fun _=>rfl⟩
theorem Sv.one(s:Sv):s.val.oneCell'=true:=by unfold Sv.val;split<;>rfl
def mF(h:Nat->Option Obj)(b o:Nat):Option Value:=match h b with
  |some (.cells cs _ _)=>cs[o]?
  |_=>none
abbrev hp(w:World):Nat->Option Obj:=fun k=>w.heap[k]?
theorem sN(w:World)(b o:Nat):w.cell? ⟨b,o,none⟩=mF (hp w) b o:=by
  unfold World.cell? mF;split<;>simp_all
class bo{α:Type}(enc:α->Array Value)(c:outParam Nat):Prop where
  size: ∀x,(enc x).size=c
  one: ∀x,(enc x).all (·.oneCell')=true
structure dq{α:Type}(enc:α->Array Value)(c:Nat)(h:Nat->Option Obj)(s:Sv)(xs:List α):Prop where
  ok:s.Ok
  len:s.len=xs.length
  row: ∀i x,xs[i]? =some x-> ∀j,j<c->mF h s.b (s.o+i*c+j)=(enc x)[j]?
theorem dq.some{α:Type}{enc:α->Array Value}{c:Nat}{h:Nat->Option Obj}{s:Sv}{xs:List α}(r:dq enc c h s xs){i:Nat}(hi:i<xs.length):s.nil=false:=r.ok.some (by rw[r.len];omega)
theorem dq.nil{α:Type}(enc:α->Array Value)(c:Nat)(h:Nat->Option Obj):dq enc c h Sv.none ([]:List α):=⟨Sv.Am,rfl,by simp⟩
theorem dq.bd{α:Type}{enc:α->Array Value}{c:Nat}{h:Nat->Option Obj}{s:Sv}{xs:List α}(r:dq enc c h s xs):xs.length<=140737488355328:=by have:=r.ok.bd;have:=r.len;omega
theorem dq.mono{α:Type}{enc:α->Array Value}{c:Nat}[he:bo enc c]{w w':World}{s:Sv}{xs:List α}(r:dq enc c (hp w) s xs)(hb:Below w.heap.size w w'):dq enc c (hp w') s xs:=
  ⟨r.ok,r.len,fun i x hi j hj=>by
    have h:=r.row i x hi j hj;rw[←h];have KH:((enc x)[j]?).isSome:=by rw[Array.getElem?_eq_getElem (by rw[he.size];exact hj)];rfl
    rw[←h]at KH;have aZ:s.b<w.heap.size:=by
      rcases anl s.b w.heap.size with h'|h'
      ·exact h'
      ·simp[mF,hp,aoF h']at KH
    have e:(hp w') s.b=(hp w) s.b:=hb.block s.b aZ;unfold mF;rw[e]⟩
def F2(n:Nat)(fz:Nat×Nat):Prop:= ∀j,j<n-> ¬(fz.1<=j/\j<fz.2)
theorem F3(n:Nat):F2 n (0,0):=fun j _ h=>by have:=h.2;simp at this
def own{α:Type}(enc:α->Array Value)(c:Nat)(s:Sv)(xs:List α):ai:=
  ⟨fun k=>s.nil=false/\k=s.b,fun h=>dq enc c h s xs/\(s.nil=false->s.sp= .none/\ ∃cs T fz,h s.b=some (.cells cs T fz)/\s.o+s.cap*c<=cs.size/\F2 cs.size fz/\(1<c->fz=(0,0))),
   fun h h' e st=>by
    cases hn:s.nil with
    |true=>
     refine⟨⟨st.1.ok,st.1.len,fun i x hi=>?_⟩,fun h=>by cases h⟩;have:=st.1.some (ad2.1 hi).1;rw[hn]at this;cases this
    |false=>
     have e1:=e s.b ⟨hn,rfl⟩;refine⟨⟨st.1.ok,st.1.len,fun i x hi j hj=>?_⟩,fun _=>?_⟩
     ·rw[←st.1.row i x hi j hj];unfold mF;rw[e1]
     ·rw[e1];exact st.2 hn⟩
section
variable {P:Program} {N:bO} {w0:World} {env:Env} {L:List ai} {d:Option Tmp} {ty:TypeId} {ps:String} {af:Array Edge} {gd:Option (Nat×Bool)}
variable {α:Type} {enc:α->Array Value} {c:Nat} {s:Sv} {xs:List α}
def Holds(w0:World)(L:List ai){α:Type}(enc:α->Array Value)(c:Nat)(s:Sv)(xs:List α):Prop:= ∀w,Mem w0 L w->dq enc c (hp w) s xs
theorem An[bo enc c](r:dq enc c (hp w0) s xs):Holds w0 L enc c s xs:=fun _ hw=>r.mono hw.below
class At(L:List ai)(e:ai)(i:outParam Nat):Prop where
  h:L[i]? =some e
instance (priority:=high) At.here {L:List ai}{e:ai}:At (e::L) e 0:=⟨rfl⟩
instance At.there{L:List ai}{e x:ai}{i:Nat}[q:At L e i]:At (x::L) e (i+1):=⟨by simpa using q.h⟩
theorem re{t e:TypeId}{x:Operand}{m n:Nat}[ht:ez P t e m](hx:ev env x=some s.val)(hs:s.Ok)(hn:s.len=n):
    Ry P N w0 env L ⟨d, .call {callee:= .builtin .len,args:= #[x],argTypes:= #[t]},ty,ps,af,gd⟩ (.int .i64 n):=by
  subst hn
  cases h:s.nil with
  |false=>rw[Sv.gT h]at hx;exact wj hx
  |true=>
   rw[Sv.rb h]at hx;rw[(hs.nil h).1];exact wj hx
theorem kP{t e:TypeId}{x ix:Operand}{m i:Nat}{k:IntKind}{j:Int}[ht:ez P t e m](hx:ev env x=some s.val)(hj:ev env ix=some (.int k j))(ej:j=(i:Int))(hs:s.Ok)(h1:i<s.len):
    Ry P N w0 env L ⟨d, .indexAddr t x ix,ty,ps,af,gd⟩ (.pointer (some ⟨s.b,s.o+i*m,none⟩)):=by
  subst ej;rw[Sv.gT (hs.some (by omega)),hs.sp (by have:=hs.le;omega)]at hx;have:=Ku (P:=P) (N:=N) (w0:=w0) (L:=L) (d:=d) (ty:=ty) (ps:=ps) (af:=af) (gd:=gd) (t:=t) hx hj (by omega) (by omega);simpa using this
theorem CH{t:TypeId}{x:Operand}{i p:Nat}{a:α}[ht:eu P t c][he:bo enc c](hx:ev env x=some (.pointer (some ⟨s.b,p,none⟩)))(hR:Holds w0 L enc c s xs)(hi:xs[i]? =some a)(fb:p=s.o+i*c):
    Ry P N w0 env L ⟨d, .load t x,ty,ps,af,gd⟩ (.agg (enc a)):=Ag ht hx (he.size a) fun w hw j hj=>by
  rw[Addr.fS,sN,fb,(hR w hw).row i a hi j hj]
theorem F4{t:TypeId}{x:Operand}{i p j:Nat}{a:α}{v:Value}[ht:eY P t](hx:ev env x=some (.pointer (some ⟨s.b,p,none⟩)))(hR:Holds w0 L enc c s xs)(hi:xs[i]? =some a)(fb:p=s.o+i*c+j)(hj:j<c)(hv:(enc a)[j]? =some v):
    Ry P N w0 env L ⟨d, .load t x,ty,ps,af,gd⟩ v:=xZ ht hx fun w hw=>by
  rw[sN,fb,(hR w hw).row i a hi j hj,hv]
theorem F5{t:TypeId}{x:Operand}{i p j n:Nat}{a:α}{sub:Array Value}[ht:eu P t n](hx:ev env x=some (.pointer (some ⟨s.b,p,none⟩)))(hR:Holds w0 L enc c s xs)(hi:xs[i]? =some a)(fb:p=s.o+i*c+j)(hj:j+n≤c)[hs:lQ (enc a) j n sub]:
    Ry P N w0 env L ⟨d, .load t x,ty,ps,af,gd⟩ (.agg sub):=Ag ht hx hs.size fun w hw k hk=>by
  rw[Addr.fS,sN,fb,aoD,(hR w hw).row i a hi (j+k) (by omega)];exact hs.h k hk
def Sv.sub(s:Sv)(c lo hi:Nat):Sv:=⟨s.nil,s.b,if s.cap=lo then s.o else s.o+lo*c,hi -lo,s.cap -lo,s.sp⟩
theorem Sv.Ok.sub{lo hi:Nat}(h:s.Ok)(h2:hi<=s.cap)(h3:hi<=s.len):(s.sub c lo hi).Ok:=
  ⟨fun hn=>by have:=h.nil hn;simp only[Sv.sub];omega,by simp only[Sv.sub];omega,by have:=h.bd;simp only[Sv.sub];omega,fun hc=>h.sp (by simp only[Sv.sub]at hc;omega)⟩
theorem dq.sub{h:Nat->Option Obj}(r:dq enc c h s xs){lo hi:Nat}(h1:lo<=hi)(h2:hi<=xs.length):dq enc c h (s.sub c lo hi) ((xs.drop lo).take (hi -lo)):=by
  have hl:=r.len;have hc:=r.ok.le;refine⟨r.ok.sub (by omega) (by omega),by simp[Sv.sub];omega,fun i x lO j hj=>?_⟩;have aZ:i<hi -lo:=by
    have:=(ad2.1 lO).1;simp at this;omega
  rw[apg,if_pos aZ,aom]at lO;have:=r.row (lo+i) x lO j hj;rw[←this];have e:(s.sub c lo hi).o=s.o+lo*c:=by
    simp only[Sv.sub];rw[if_neg (by omega)]
  rw[e,show(s.sub c lo hi).b=s.b from rfl];congr 1;rw[anF];omega
theorem Holds.sub(r:Holds w0 L enc c s xs){lo hi:Nat}(h1:lo<=hi)(h2:hi<=xs.length):Holds w0 L enc c (s.sub c lo hi) ((xs.drop lo).take (hi -lo)):=fun w hw=>(r w hw).sub h1 h2
theorem yi{t e:TypeId}(hu:P.underlying t=some (.slice e)):P.elem t=e:=by simp[Program.elem,hu]
theorem F6{lo hi:Nat}(hs:s.Ok)(h2:lo<=hi)(h:hi<=s.cap): ∀a len cap,s.val= .slice a len cap->len=s.len/\cap=s.cap/\sliced a lo hi cap c=(s.sub c lo hi).val:=by
  intro a len cap e
  cases hn:s.nil with
  |true=>
   rw[Sv.rb hn]at e;obtain⟨rfl,rfl,rfl⟩:=by simpa using e
   have:=hs.nil hn;have e2:(s.sub c lo hi).nil=true:=hn;rw[Sv.rb e2];have:lo=0:=by omega
   have:hi=0:=by omega
   subst lo hi;exact⟨by omega,by omega,by simp[sliced]⟩
  |false=>
   rw[Sv.gT hn]at e;obtain⟨rfl,rfl,rfl⟩:=by simpa using e
   have e2:(s.sub c lo hi).nil=false:=hn;rw[Sv.gT e2];refine⟨rfl,rfl,?_⟩;simp only[sliced,Sv.sub]
   by_cases hc:s.cap=lo
   ·simp[hc]
   ·have fU:=hs.sp (by omega)
    simp[hc,fU,Addr.fS]
theorem Sv.ex(s:Sv): ∃ad len cap,s.val= .slice ad len cap:=by unfold Sv.val;split<;>exact⟨_,_,_,rfl⟩
theorem CI{t e:TypeId}{x lo hi:Operand}{m l h:Nat}{k k':IntKind}{il ih:Int}[ht:ez P t e m](hx:ev env x=some s.val)(hl:ev env lo=some (.int k il))(hh:ev env hi=some (.int k' ih))(el:il=(l:Int))(eh:ih=(h:Int))(hs:s.Ok)(h1:l≤h)(h2:h≤s.cap):
    Ry P N w0 env L ⟨d, .slice t x (some lo) (some hi) none,ty,ps,af,gd⟩ (s.sub m l h).val:=fun a w ha _=>by
  subst el eh;have ee:=yi ht.dU;have hu:P.underlying t=some (.slice (P.elem t)):=by rw[ee];exact ht.dU
  obtain⟨ad,len,cap,mG⟩:=s.ex;obtain⟨e1,e2,e3⟩:=F6 (c:=m) hs h1 h2 ad len cap mG;have hr:=run_slice_lh (P:=P) (w:=w) t ad len cap hu k k' (l:Int) (h:Int) (by omega) (by omega) (by omega);rw[ee,ki w ht.size]at hr;simp only[Result.andThen,aoe,e3]at hr;simp only[execOp,ha.ev hx,ha.ev hl,ha.ev hh,mG,an8,Option.map_none,run_sliceAt_slice (h:=hu),hr,Sem.run_bind,Result.andThen,Sem.run_pure]
theorem uI{t e:TypeId}{x hi:Operand}{m h:Nat}{k':IntKind}{ih:Int}[ht:ez P t e m](hx:ev env x=some s.val)(hh:ev env hi=some (.int k' ih))(eh:ih=(h:Int))(hs:s.Ok)(h2:h≤s.cap):
    Ry P N w0 env L ⟨d, .slice t x none (some hi) none,ty,ps,af,gd⟩ (s.sub m 0 h).val:=fun a w ha _=>by
  subst eh;have ee:=yi ht.dU;have hu:P.underlying t=some (.slice (P.elem t)):=by rw[ee];exact ht.dU
  obtain⟨ad,len,cap,mG⟩:=s.ex;obtain⟨e1,e2,e3⟩:=F6 (c:=m) hs (anH h) h2 ad len cap mG;have hr:=run_slice_h (P:=P) (w:=w) t ad len cap hu k' (h:Int) (by omega) (by omega);rw[ee,ki w ht.size]at hr;simp only[Result.andThen,aoe,e3]at hr;simp only[execOp,ha.ev hx,ha.ev hh,mG,an8,Option.map_none,run_sliceAt_slice (h:=hu),hr,Sem.run_bind,Result.andThen,Sem.run_pure]
theorem rf{t e:TypeId}{x lo:Operand}{m l n:Nat}{k:IntKind}{il:Int}[ht:ez P t e m](hx:ev env x=some s.val)(hl:ev env lo=some (.int k il))(el:il=(l:Int))(hs:s.Ok)(hn:s.len=n)(h1:l≤n):
    Ry P N w0 env L ⟨d, .slice t x (some lo) none none,ty,ps,af,gd⟩ (s.sub m l n).val:=fun a w ha _=>by
  subst el hn;have ee:=yi ht.dU;have hu:P.underlying t=some (.slice (P.elem t)):=by rw[ee];exact ht.dU
  obtain⟨ad,len,cap,mG⟩:=s.ex;obtain⟨e1,e2,e3⟩:=F6 (c:=m) hs h1 hs.le ad len cap mG;have hle:=hs.le;have hr:=run_slice_l (P:=P) (w:=w) t ad len cap hu k (l:Int) (by omega) (by omega);rw[ee,ki w ht.size]at hr;simp only[Result.andThen,aoe,e1]at hr;rw[e1]at mG;rw[e3]at hr;simp only[execOp,ha.ev hx,ha.ev hl,mG,an8,Option.map_none,run_sliceAt_slice (h:=hu),hr,Sem.run_bind,Result.andThen,Sem.run_pure]
end
theorem set_perm(x:ai): ∀(L:List ai) (i:Nat),i<L.length->(x::L.eraseIdx i).Perm (L.set i x)
  |[],_,h=>by simp at h
  |_::_,0,_=>by simp
  |a::L,i+1,h=>by
   simp only[apO,List.set_cons_succ];exact(List.Perm.swap a x _).trans ((set_perm x L i (by simpa using h)).cons a)
theorem Mem.swap{w w':World}{E:ai}(h:Mem w0 L w){i:Nat}(hi:i<L.length)(h':Mem w [E] w'):Mem w0 (L.set i E) w':=
  ((h.call h').sub (L':=E::L.eraseIdx i) ((List.eraseIdx_sublist L i).cons_cons E)).perm (set_perm E L i hi)
theorem At.lt{L:List ai}{e:ai}{i:Nat}(h:L[i]? =some e):i<L.length:=(ad2.1 h).1
class eF(P:Program)(t:TypeId)(e:outParam TypeId)(c:outParam Nat)(ct:outParam Nat):Prop where
  dU:P.underlying t=some (.slice e)
  row:(P.info? e).map (fun i=>(i.zero.map (·.cells.size),i.size,i.bytes))=some (some c,c,ct)
theorem eF.info{P:Program}{t e:TypeId}{c ct:Nat}(h:eF P t e c ct): ∃i z,P.info? e=some i/\i.zero=some z/\i.size=c/\i.bytes=ct/\z.cells.size=c:=by
  have h:=h.row
  cases hi:P.info? e with
  |none=>simp[hi]at h
  |some i=>
   cases hz:i.zero with
   |none=>simp[hi,hz]at h
   |some z=>simp[hi,hz]at h;exact⟨i,z,rfl,hz,h.2.1,h.2.2,h.1⟩
theorem sO{cs vs:Array Value}{o j:Nat}(ho:o+vs.size<=cs.size):(over cs o vs)[j]? =if o<=j/\j<o+vs.size then vs[j -o]?else cs[j]? :=by
  unfold over;simp only[aol];rw[anv,List.getElem?_append];have e1:(List.take o cs.toList).length=o:=by simp;omega
  rw[e1]
  by_cases h1:j<o
  ·rw[if_pos h1,if_neg (by omega),apg,if_pos h1];simp
  ·rw[if_neg h1,List.getElem?_append]
   by_cases h2:j -o<vs.toList.length
   ·rw[if_pos h2,if_pos (by simp at h2;omega)];simp
   ·rw[if_neg h2,if_neg (by simp at h2;omega),aom]
    simp at h2⊢;congr 1;omega
theorem mH{cs vs:Array Value}{o:Nat}(ho:o+vs.size<=cs.size):(over cs o vs).size=cs.size:=by
  simp[over];omega
theorem Ao{P:Program}(g o:Nat)(t:TypeId)(fz:Nat×Nat): ∀(vs:List Value) (i:Nat) (cur:Array Value) (w:World),w.heap[g]? =some (.cells cur t fz)→F2 cur.size fz→o+i+vs.length≤cur.size→(∀v∈vs,v.oneCell'=true)→
    (storeCells ⟨g,o,none⟩ vs i).run P w= .ok () (w.setRow g (cur.toList.take (o+i)++vs++cur.toList.drop (o+i+vs.length)).toArray)
  |[],i,cur,w,hg,_,_,_=>by
   simp only[storeCells,anN,anh,an3,anO,Array.toArray_toList];rw[setRow_self w g cur t fz hg];rfl
  |v::rest,i,cur,w,hg,hf,hl,h1=>by
   have hi:o+i<cur.size:=by simp at hl;omega
   have SJ:(⟨g,o,none⟩:Addr).add i=⟨g,o+i,none⟩:=by unfold Addr.add;split<;>simp_all
   have SK:w.cell? ⟨g,o+i,none⟩=some cur[o+i]:=by simp[World.cell?,hg,hi]
   have SL:w.frozen? ⟨g,o+i,none⟩=false:=by
      have:=hf (o+i) hi;obtain⟨a,b⟩:=fz;simp only[World.frozen?,hg];simp only[Bool.and_eq_false_iff,decide_eq_false_iff_not];omega
   have bw:(store ((⟨g,o,none⟩:Addr).add i) v).run P w= .ok () (w.setRow g (cur.setIfInBounds (o+i) v)):=by
      rw[SJ,run_store P w _ v _ (h1 v (by simp)),SK];simp[SL,setCell_eq_setRow w g (o+i) cur t fz v hg]
   have ih:=Ao (P:=P) g o t fz rest (i+1) (cur.setIfInBounds (o+i) v) (w.setRow g (cur.setIfInBounds (o+i) v)) (setRow_heap w g cur _ t _ hg) (by simpa using hf) (by simp at hl⊢;omega) (fun x hx=>h1 x (by simp[hx]));simp only[storeCells,Sem.run_bind,bw,Result.andThen_ok,ih,setRow_setRow];congr 3;have e:=list_seg_step cur.toList (o+i) v rest (by simp at hl⊢;omega);simpa[Array.toList_setIfInBounds,aoD]using e
section
variable {α:Type} {enc:α->Array Value} {c:Nat}
def aI(enc:α->Array Value)(xs:List α):List Value:=xs.flatMap fun x=>(enc x).toList
theorem gE[he:bo enc c]: ∀xs:List α,(aI enc xs).length=xs.length*c
  |[]=>by simp[aI]
  |x::xs=>by
   have:=gE xs;simp only[aI,apZ,af0]at this⊢;rw[this,ao0,he.size,ang,anF];omega
theorem mI[he:bo enc c]: ∀(xs:List α) (i:Nat) (x:α),xs[i]? =some x-> ∀j,j<c->(aI enc xs)[i*c+j]? =(enc x)[j]?
  |[],i,x,h,_,_=>by simp at h
  |y::xs,0,x,h,j,hj=>by
   obtain rfl:y=x:=by simpa using h
   simp only[aI,apZ,Nat.zero_mul,anG];rw[ann (by rw[ao0,he.size];exact hj)];simp
  |y::xs,i+1,x,h,j,hj=>by
   have:=mI xs i x (by simpa using h) j hj;simp only[aI,apZ]at this⊢;rw[anr (by rw[ao0,he.size,anF];omega),ao0,he.size];rw[←this];congr 1;rw[anF];omega
theorem CJ(hc:0<c)[he:bo enc c]{xs:List α}{k:Nat}{v:Value}(h:(aI enc xs)[k]? =some v): ∃x,xs[k/c]? =some x/\(enc x)[k%c]? =some v:=by
  have hk:k<xs.length*c:=by
    have:=(ad2.1 h).1;rwa [gE]at this
  have hd:k/c<xs.length:=apJ (by rwa [an0]);refine⟨xs[k/c],by simp[hd],?_⟩;rw[←mI xs (k/c) xs[k/c] (by simp[hd]) (k%c) (aoP _ hc),←h];congr 1;rw[an0];exact aoW k c
theorem uJ[he:bo enc c](xs:List α): ∀u∈aI enc xs,u.oneCell'=true:=fun u hu=>by
  obtain⟨x,_,hx⟩:=List.mem_flatMap.1 hu;exact(anS.1 (he.one x)) u (by simpa using hx)
theorem uK{h:Nat→Option Obj}{s:Sv}{xs:List α}{cs:Array Value}{T:TypeId}{fz:Nat×Nat}(ok:s.Ok)(hl:s.len=xs.length)(hb:h s.b=some (.cells cs T fz))
    (hc: ∀i x,xs[i]? =some x-> ∀j,j<c->cs[s.o+i*c+j]? =(enc x)[j]?):dq enc c h s xs:=
  ⟨ok,hl,fun i x hi j hj=>by unfold mF;rw[hb];exact hc i x hi j hj⟩
theorem gF{P:Program}{tx e':TypeId}(hk:P.underlying tx=some (.slice e'))(hc:0<c)[he:bo enc c]{w:World}{s:Sv}{xs:List α}(r:dq enc c (hp w) s xs):Src P c tx s.val xs.length (aI enc xs) w:=by
  cases hn:s.nil with
  |true=>
   have:xs=[]:=by have:=(r.ok.nil hn).1;rw[r.len]at this;exact anB.1 this
   subst this;rw[Sv.rb hn];exact Src.ofNil w hk 0
  |false=>
   rw[Sv.gT hn,r.len];refine Src.ofSlice w hk _ _ _ _ (gE xs) (fun j u hu=>?_) (uJ xs);obtain⟨x,hx,F7⟩:=CJ hc hu;have fU:=r.ok.sp (by have h1:=ao6 (anH _) (ad2.1 hx).1;have:=r.len;have:=r.ok.le;omega);rw[fU,Addr.fS,sN,←F7,←r.row _ x hx (j%c) (aoP _ hc)];congr 1;have:=aoW j c;rw[an0]at this;omega
theorem F8{P:Program}{t tx ty e:TypeId}{ct:Nat}(ht:eF P t e c ct)(hc:0<c)[he:bo enc c]{w0 w:World}{L:List ai}{i:Nat}{s:Sv}{xs ys:List α}{x:Value}
    (hw:Mem w0 L w) (hi:L[i]? =some (own enc c s xs)) (hs:Src P c tx x ys.length (aI enc ys) w) (hb:(xs.length+ys.length)*ct<=140737488355328) (iG:xs.length+ys.length<=140737488355328):
    ∃s' w',(Builtin.append_ #[t,tx] ty #[s.val,x]).run P w= .ok (Sv.val s') w'/\s'.Ok/\s'.len=(xs++ys).length/\Mem w0 (L.set i (own enc c s' (xs++ys))) w':=by
  obtain⟨r,mJ⟩:=hw.get hi;obtain⟨i',z,aW,aB,bm,cJ,lT⟩:=ht.info;subst bm cJ;have hlen:=r.len;have hle:=r.ok.le
  have grow:s.cap<s.len+ys.length→ ∀(base:Option Addr),s.val= .slice base s.len s.cap→(Builtin.firstCells i'.size s.len (.slice base s.len s.cap)).run P w.drew= .ok (aI enc xs).toArray w.drew→
      ∃s' w',(Builtin.append_ #[t,tx] ty #[s.val,x]).run P w= .ok (Sv.val s') w'/\s'.Ok/\s'.len=(xs++ys).length/\Mem w0 (L.set i (own enc i'.size s' (xs++ys))) w':=by
    intro hg base hv hold;have yj:=nextslicecap_le hg;have iu:Builtin.nextslicecap (s.len+ys.length) s.cap*i'.bytes<=281474976710656:=by
      have h2:Builtin.nextslicecap (s.len+ys.length) s.cap*i'.bytes<=2*(s.len+ys.length)*i'.bytes:=anp _ yj;rw[Nat.mul_assoc,hlen]at h2;rw[hlen];omega
    have hr:=run_append_grow_src w t tx ty e i' z ht.dU aW aB base s.len s.cap (aI enc xs) hold x ys.length (aI enc ys) hs hg (by omega) iu;have rh:=grownCap_ge w (s.len+ys.length) s.cap e;generalize grownCap w (s.len+ys.length) s.cap e=C at hr rh;refine⟨⟨false,w.heap.size,0,s.len+ys.length,C,none⟩,_,by rw[hv,hr];rfl,⟨(fun h=>by cases h),rh,by simp only;omega,fun _=>rfl⟩,by simp[hlen],hw.swap (At.lt hi) ?_⟩;have hm:=(Mem.init w).drew.alloc ((aI enc xs++aI enc ys).toArray++Builtin.zeroCells z.cells (C -(s.len+ys.length))) e;refine⟨hm.below,fun q hq=>?_,fun q hq k hk=>?_,by simp⟩
    ·obtain rfl:=anE.1 hq
     have fm:hp (w.drew.alloc (.cells ((aI enc xs++aI enc ys).toArray++Builtin.zeroCells z.cells (C -(s.len+ys.length))) e)) w.heap.size=some (.cells ((aI enc xs++aI enc ys).toArray++Builtin.zeroCells z.cells (C -(s.len+ys.length))) e (0,0)):=Below.Cj w.drew _;have dD:aI enc xs++aI enc ys=aI enc (xs++ys):=by simp[aI]
     rw[dD]at fm;rw[dD];have eL:(aI enc (xs++ys)).length=(xs.length+ys.length)*i'.size:=by rw[gE];simp
     refine⟨uK (enc:=enc) (c:=i'.size) (xs:=xs++ys) ⟨(fun h=>by cases h),rh,by simp only;omega,fun _=>rfl⟩ (by simp[hlen]) fm fun k y hy j hj=>?_,fun _=>⟨rfl,_,_,_,fm,?_,F3 _,fun _=>rfl⟩⟩
     ·have wq:=mI (enc:=enc) (xs++ys) k y hy j hj
      have aZ:k*i'.size+j<(aI enc (xs++ys)).length:=by
          rw[eL];have h1:=(ad2.1 hy).1;rw[af0]at h1
          calc k*i'.size+j<k*i'.size+i'.size:=by omega
            _=(k+1)*i'.size:=by rw[anF];omega
            _<=_:=anp _ h1
      simp only[anG];rw[←wq,ape (by simpa using aZ)];simp
     ·have h3:=size_zeroCells z.cells (C -(s.len+ys.length))
      rw[lT]at h3;simp only[apF,an1,h3,eL,anG];rw[←anF,hlen];refine anp _ ?_;omega
    ·obtain rfl:=anE.1 hq
     obtain rfl:k=w.heap.size:=hk.2;simp
  cases hn:s.nil with
  |true=>
   have h0:=r.ok.nil hn;have dE:xs=[]:=by rw[hlen]at h0;exact anB.1 h0.1
   subst dE
   by_cases hy:ys.length=0
   ·have wu:ys=[]:=anB.1 hy
    subst wu;refine⟨s,w,?_,r.ok,by simpa using hlen,?_⟩
    ·rw[Sv.rb hn]
     have ov:=hs.cells;simp only[anh]at ov;rcases hs.kind with⟨e',hk⟩|hk<;>simp[Builtin.append_,run_underlying ht.dU,run_underlying hk,sizeOf,typeInfo,aW,hs.len,ov]
    ·have:L.set i (own enc i'.size s ([]++[]))=L:=by
          rw[anN];refine aok fun k=>?_;rw[aof]
          by_cases hk:i=k
          ·subst hk;rw[if_pos rfl,hi,if_pos (At.lt hi)]
          ·rw[if_neg hk]
     rw[this];exact hw
   ·refine grow (by omega) .none (by rw[Sv.rb hn,h0.1,h0.2]) ?_
    rw[h0.1,h0.2];exact run_firstCells_none w.drew _ _ _ _
  |false=>
   obtain⟨fU,cs,T,fz,fm,eL,ln,nH⟩:=mJ hn
   by_cases mK:s.len+ys.length<=s.cap
   ·have hmul:(s.len+ys.length)*i'.size<=s.cap*i'.size:=anp _ mK
    have dD:(aI enc ys).length=ys.length*i'.size:=gE ys
    have iu:s.o+s.len*i'.size+(aI enc ys).toArray.size≤cs.size:=by
        rw[an1,dD];rw[anF]at hmul;omega
    have bw:=Ao (P:=P) s.b (s.o+s.len*i'.size) T fz (aI enc ys) 0 cs w fm ln (by simpa using iu) hs.one
    have Ap:(storeCells ⟨s.b,s.o+s.len*i'.size,none⟩ (aI enc ys)).run P w= .ok () (w.setRow s.b (over cs (s.o+s.len*i'.size) (aI enc ys).toArray)):=by
        simpa[over]using bw
    refine⟨{s with len:=s.len+ys.length},w.setRow s.b (over cs (s.o+s.len*i'.size) (aI enc ys).toArray),?_,⟨(fun h=>by rw[hn]at h;cases h),mK,by simp only;omega,r.ok.sp⟩,by simp[hlen],?_⟩
    ·have kp:({s with len:=s.len+ys.length}:Sv).val= .slice (some ⟨s.b,s.o,s.sp⟩) (s.len+ys.length) s.cap:=Sv.gT (s:={s with len:=s.len+ys.length}) hn
     rw[Sv.gT hn,kp,fU];rcases hs.kind with⟨e',hk⟩|hk<;>simp[Builtin.append_,run_underlying ht.dU,run_underlying hk,sizeOf,typeInfo,aW,hs.len,mK,hs.cells,Addr.fS,Ap]
    ·have cN:hp (w.setRow s.b (over cs (s.o+s.len*i'.size) (aI enc ys).toArray)) s.b=some (.cells (over cs (s.o+s.len*i'.size) (aI enc ys).toArray) T fz):=setRow_heap w s.b cs _ T fz fm
     refine hw.change hi (fun k hk=>hk) (fun k hk=>?_) (by simp[World.setRow]) ⟨rfl,rfl,rfl⟩ ⟨uK ⟨(fun h=>by rw[hn]at h;cases h),mK,by simp only;omega,r.ok.sp⟩ (by simp[hlen]) cN fun k y hy j hj=>?_,fun _=>⟨fU,_,_,_,cN,?_,by rw[mH iu];exact ln,nH⟩⟩
     ·exact setRow_other w s.b k _ (fun e=>hk ⟨hn,e⟩)
     ·rw[sO iu]
      by_cases hk:k<xs.length
      ·rw[if_neg,←r.row k y (by rw[ann hk]at hy;exact hy) j hj]
       ·unfold mF;rw[fm]
       ·have:(k+1)*i'.size<=s.len*i'.size:=anp _ (by omega)
        rw[anF]at this;intro h;have:=h.1;simp only at this;omega
      ·rw[anr (by omega)]at hy
       have wq:=mI (enc:=enc) ys (k -xs.length) y hy j hj;have uL:s.len*i'.size+(k -xs.length)*i'.size=k*i'.size:=by rw[←anF];congr 1;omega
       have aZ:(k -xs.length+1)*i'.size<=ys.length*i'.size:=anp _ (by have:=(ad2.1 hy).1;omega);rw[anF]at aZ;rw[if_pos ⟨by simp only;omega,by rw[an1,dD];simp only;omega⟩,←wq];simp only[aol];congr 1;omega
     ·rw[mH iu];exact eL
   ·refine grow (by omega) _ (by rw[Sv.gT hn,fU]) ?_
    refine run_firstCells_some w.drew _ _ _ _ _ _ (by rw[gE,hlen]) fun j u hu=>?_;obtain⟨y,hy,F7⟩:=CJ hc hu;have:=r.row _ y hy (j%i'.size) (aoP _ hc);rw[F7]at this;rw[Addr.fS];show w.cell? _=_;rw[sN,←this];congr 1;have h9:=aoW j i'.size;rw[an0]at h9;omega
theorem KI(off:Nat): ∀(vs:List Value) (k:Nat) (cs:Array Value),off+k+vs.length≤cs.size→
    (vs.zipIdx k).foldl (fun cs (p:Value×Nat)=>cs.setIfInBounds (off+p.2) p.1) cs=(cs.toList.take (off+k)++vs++cs.toList.drop (off+k+vs.length)).toArray
  |[],k,cs,_=>by simp
  |v::vs,k,cs,h=>by
   simp only[List.zipIdx_cons,apS,ang]at h⊢;rw[KI off vs (k+1) _ (by simp;omega)];apply apI;have e1:(cs.setIfInBounds (off+k) v).toList=cs.toList.set (off+k) v:=by simp
   rw[e1];have aZ:off+k<cs.toList.length:=by simp;omega
   have e2:(cs.toList.set (off+k) v).take (off+(k+1))=cs.toList.take (off+k)++[v]:=by
      rw[←aoD,anq,apr (anm _),anK aZ];rfl
   have e3:(cs.toList.set (off+k) v).drop (off+(k+1)+vs.length)=cs.toList.drop (off+k+(vs.length+1)):=by
      rw[List.drop_set_of_lt (by omega)];congr 1;omega
   rw[e2,e3];simp
def idx(vals:List Value)(i:Nat):List (Nat×Value):=(vals.zipIdx i).map fun p=>(p.2,p.1)
theorem KJ[he:bo enc c]: ∀(xs:List α) (vals:List Value) (i:Nat) (cs:Array Value),vals.map Value.cells=xs.map enc→i*c+xs.length*c≤cs.size→
    Instr.fill (fun i=>some (i*c,c)) cs (idx vals i)=some (cs.toList.take (i*c)++aI enc xs++cs.toList.drop (i*c+xs.length*c)).toArray
  |[],[],i,cs,_,_=>by simp[idx,Instr.fill,aI]
  |[],_::_,_,_,h,_=>by simp at h
  |_::_,[],_,_,h,_=>by simp at h
  |x::xs,v::vals,i,cs,h,hs=>by
   simp only[anX,apC]at h;obtain⟨h1,h2⟩:=h;have eL:v.cells.size=c:=by rw[h1];exact he.size x
   rw[ang,anF,Nat.one_mul]at hs;simp only[idx,List.zipIdx_cons,anX,Instr.fill,eL];rw[if_neg (by simp;omega)]
   have ef:v.cells.zipIdx.foldl (fun cs (p:Value×Nat)=>cs.setIfInBounds (i*c+p.2) p.1) cs=(cs.toList.take (i*c)++v.cells.toList++cs.toList.drop (i*c+c)).toArray:=by
      have:=KI (i*c) v.cells.toList 0 cs (by simp;omega);simp only[an3]at this;rw[←Array.foldl_toList,Array.toList_zipIdx,this];simp[eL]
   have SM:(v.cells.zipIdx.foldl (fun cs (x:Value×Nat)=>match x with|(c',j)=>cs.setIfInBounds (i*c+j) c') cs)=(cs.toList.take (i*c)++v.cells.toList++cs.toList.drop (i*c+c)).toArray:=ef
   rw[SM];have py:(cs.toList.take (i*c)++v.cells.toList).length=(i+1)*c:=by simp[eL,anF];omega
   have:=KJ xs vals (i+1) (cs.toList.take (i*c)++v.cells.toList++cs.toList.drop (i*c+c)).toArray h2 (by simp[eL,anF];omega);unfold idx at this;rw[this];congr 1;apply apI;rw[List.take_left' py,←ap0 (j:=(i+1)*c) (i:=xs.length*c),List.drop_left' py];simp only[aI,apZ,h1,anv,List.append_cancel_left_eq];rw[ap0,ang,show i*c+c+xs.length*c=i*c+(xs.length+1)*c by rw[anF];omega]
end
section
variable {P:Program} {N:bO} {w0:World} {env:Env} {L:List ai} {l:List Oper} {Q:Exit->Act->World->Prop} {rest:List Oper} {d:Option Tmp} {ty:TypeId} {ps:String} {af:Array Edge}
variable {α:Type} {enc:α->Array Value} {c:Nat} {s:Sv} {xs ys:List α}
class dV(L:List ai)(s:Sv){α:outParam Type}(enc:outParam (α->Array Value))(c:outParam Nat)(xs:outParam (List α))(i:outParam Nat):Prop where
  h:L[i]? =some (own enc c s xs)
instance (priority:=high) dV.here {L:List ai}:dV (own enc c s xs::L) s enc c xs 0:=⟨rfl⟩
instance dV.there{L:List ai}{e:ai}{i:Nat}[q:dV L s enc c xs i]:dV (e::L) s enc c xs (i+1):=⟨by simpa using q.h⟩
theorem dV.holds{i:Nat}(q:dV L s enc c xs i):Holds w0 L enc c s xs:=fun _ hw=>(hw.get q.h).1
theorem Mem.cz{w:World}(enc:α->Array Value)(c:Nat)(h:Mem w0 L w):Mem w0 (own enc c Sv.none []::L) w:=
  h.call (E:=[own enc c Sv.none []]) ⟨Below.refl _ _,fun e he=>by
    obtain rfl:=anE.1 he;exact⟨dq.nil enc c _,(fun h=>by cases h)⟩,fun e he k hk=>by
    obtain rfl:=anE.1 he;exact absurd hk.1 (by simp[Sv.none]),by simp⟩
theorem iv{t tx e:TypeId}{x y:Operand}{yv:Value}{ct i:Nat}[ht:eF P t e c ct][he:bo enc c](hx:ev env x=some s.val)(hy:ev env y=some yv)[q:dV L s enc c xs i](hc:0<c)
    (hs: ∀w,Mem w0 L w->Src P c tx yv ys.length (aI enc ys) w) (hb:(xs.length+ys.length)*ct<=140737488355328) (iG:xs.length+ys.length<=140737488355328) {L':Sv->List ai} [hu: ∀s',eM L i (own enc c s' (xs++ys)) (L' s')]
    (hk: ∀s':Sv,s'.Ok->s'.len=(xs++ys).length->Sq P N w0 l Q rest (bZ env d s'.val) (L' s')) (hd:cL N d=true:=by rfl):
    Sq P N w0 l Q (⟨d, .call {callee:= .builtin .append,args:= #[x,y],argTypes:= #[t,tx]},ty,ps,af,none⟩::rest) env L:=
  mE rfl hd fun a w ha hw=>by
    obtain⟨s',w',h1,h2,h3,h4⟩:=F8 (ty:=ty) ht hc hw q.h (hs w hw) hb iG;refine⟨s'.val,w',L' s',?_,by rw[←(hu s').h];exact h4,hk s' h2 h3⟩;simp[execOp,ha.ev hx,ha.ev hy,resolve,invoke,builtin,h1,Result.andThen]
theorem wv{w:World}{b:Nat}{cs:Array Value}{e:TypeId}(hb:b=w.heap.size)(n cap:Nat)(hn:n=xs.length)(hle:n≤cap)(iG:n≤140737488355328)(eL:cap*c≤cs.size)(hc: ∀i x,xs[i]? =some x→ ∀j,j<c→cs[i*c+j]? =(enc x)[j]?):
    Mem w [own enc c ⟨false,b,0,n,cap,none⟩ xs] (w.alloc (.cells cs e)):=by
  subst hb;have hm:=(Mem.init w).alloc cs e;have fm:hp (w.alloc (.cells cs e)) w.heap.size=some (.cells cs e (0,0)):=Below.Cj w _;refine⟨hm.below,fun q hq=>?_,fun q hq k hk=>?_,by simp⟩
  ·obtain rfl:=anE.1 hq
   exact⟨uK ⟨(fun h=>by cases h),hle,iG,fun _=>rfl⟩ hn fm (by simpa using hc),fun _=>⟨rfl,_,_,_,fm,by simpa using eL,F3 _,fun _=>rfl⟩⟩
  ·obtain rfl:=anE.1 hq
   obtain rfl:k=w.heap.size:=hk.2;simp
theorem F9{n c:Nat}(h0:0<n*c)(h:n*c<=16777216):n<=140737488355328:=by
  have:n*1≤n*c:=apM _ (by rcases aor c with rfl|h';(simp at h0);exact h')
  omega
theorem Ga{t e:TypeId}{ct:Nat}(ht:eF P t e c ct)[he:bo enc c]{vals:List Value}(hv:vals.map Value.cells=xs.map enc)(hc:0<xs.length*c)(sP:xs.length*c≤16777216)(w:World):
    (Instr.buildSlice t xs.length (idx vals 0).toArray).run P w= .ok (.slice (some ⟨w.heap.size,0,none⟩) xs.length xs.length) (w.alloc (.cells (aI enc xs).toArray e)):=by
  obtain⟨i',z,aW,aB,bm,cJ,lT⟩:=ht.info;subst bm;have hf:=KJ (enc:=enc) (c:=i'.size) xs vals 0 ((Array.range (xs.length*i'.size)).map (z.cells[· %z.cells.size]!)) hv (by simp);have SN:((Array.range (xs.length*i'.size)).map (z.cells[· %z.cells.size]!)).toList.drop (0*i'.size+xs.length*i'.size)=[]:=by simp
  rw[SN]at hf;simp only[Nat.zero_mul,anP,anR,anN]at hf;have n1: ¬xs.length*i'.size>2^24:=by omega
  have n2: ¬xs.length*i'.size=0:=by omega
  simp[Instr.buildSlice,run_underlying ht.dU,sizeOf,typeInfo,zeroValue,aW,aB,n1,n2,hf,newRow,newObj,Sem.run,Result.andThen]
theorem iH{t e:TypeId}{ct n:Nat}[ht:eF P t e c ct][he:bo enc c]{ops:List (Nat×Operand)}{vals:List Value}(xs:List α)(hx:km env ops=some (idx vals 0))(hv:vals.map Value.cells=xs.map enc)(hn:xs.length=n)(hc:0<n*c)(sP:n*c≤16777216)
    (hk: ∀b,Sq P N w0 l Q rest (bZ env d (Sv.val ⟨false,b,0,n,n,none⟩)) (own enc c ⟨false,b,0,n,n,none⟩ xs::L)) (hd:cL N d=true:=by rfl):
    Sq P N w0 l Q (⟨d, .buildSlice t n ops.toArray,ty,ps,af,none⟩::rest) env L:=
  mE rfl hd fun a w ha hw=>by
    subst hn;have e1:(ops.toArray.map fun(p:Nat×Operand)=>match p with|(i,x)=>(i,a.eval x))=(idx vals 0).toArray:=by
      rw[←ha.km hx];simp
    refine⟨_,_,_,?_,hw.call (wv (enc:=enc) (c:=c) (xs:=xs) (cs:=(aI enc xs).toArray) (e:=e) rfl xs.length xs.length rfl (anm _) (F9 hc sP) (by simp[gE]) fun i x hx j hj=>by rw[←mI (enc:=enc) xs i x hx j hj];simp),hk _⟩;simp only[execOp,e1,Sem.run_bind,Ga ht hv hc sP w,Result.andThen,Sem.run_pure];rfl
theorem SO{zc:Array Value}(m n:Nat)(h:zc.size=c)(i j:Nat)(hi:i<n)(hj:j<c)(hm:n*c<=m):(madeCells zc m)[i*c+j]? =zc[j]? :=by
  have aZ:i*c+j<m:=by
    have:(i+1)*c<=n*c:=anp _ hi;rw[anF]at this;omega
  have e1:(i*c+j)%zc.size=j:=by rw[h,an0,Nat.mul_add_mod];exact anL hj
  have hz:j<zc.size:=by omega
  simp[madeCells,aZ,e1,hz]
theorem Gd{t e:TypeId}{ct n cap:Nat}{z:Value}(ht:eF P t e c ct)(hz:dB P e z){k k':IntKind}(x0:α)(h0:enc x0=z.cells)(hle:n≤cap)(hb:ct*cap≤281474976710656)(iG:cap≤140737488355328)(w:World):
    ∃w',(Instr.makeSlice t (.int k n) (.int k' cap)).run P w= .ok (Sv.val ⟨false,w.heap.size,0,n,cap,none⟩) w'/\Mem w [own enc c ⟨false,w.heap.size,0,n,cap,none⟩ (List.replicate n x0)] w':=by
  obtain⟨i',z',aW,aB,bm,cJ,lT⟩:=ht.info;obtain rfl:z'=z:=by
    have:=hz.zero;rw[aW,an8,aB]at this;exact ani (ani this)
  subst bm cJ;have cN:(i'.bytes:Int)*(cap:Int)<=281474976710656:=by
    have h:((i'.bytes*cap:Nat):Int)<=281474976710656:=by omega
    rwa [Int.natCast_mul]at h
  have hr:=run_make (P:=P) w t e i' _ ht.dU aW aB k k' n cap (by omega) (by omega) cN (by omega);simp only[aoe]at hr;refine⟨_,hr,wv rfl n cap (by simp) hle (by omega) (by simp[size_madeCells]) fun i x hx j hj=>?_⟩;have hi:i<n:=by
    have:=(ad2.1 hx).1;simpa using this
  obtain rfl:x0=x:=by rw[apq,if_pos hi]at hx;exact ani hx
  rw[h0];exact SO _ n lT i j hi hj (anp _ hle)
theorem ri{t e:TypeId}{ct n cap:Nat}{z:Value}{x y:Operand}{k k':IntKind}{ix iy:Int}[ht:eF P t e c ct][hz:dB P e z](x0:α)(h0:enc x0=z.cells)(hx:ev env x=some (.int k ix))(hy:ev env y=some (.int k' iy))(ex:ix=(n:Int))(ey:iy=(cap:Int))(hle:n≤cap)(hb:ct*cap≤281474976710656)(iG:cap≤140737488355328)
    (hk: ∀b,Sq P N w0 l Q rest (bZ env d (Sv.val ⟨false,b,0,n,cap,none⟩)) (own enc c ⟨false,b,0,n,cap,none⟩ (List.replicate n x0)::L)) (hd:cL N d=true:=by rfl):
    Sq P N w0 l Q (⟨d, .makeSlice t x y,ty,ps,af,none⟩::rest) env L:=
  mE rfl hd fun a w ha hw=>by
    subst ex ey;obtain⟨w',h1,h2⟩:=Gd ht hz (k:=k) (k':=k') (n:=n) x0 h0 hle hb iG w;exact⟨_,w',_,by simp only[execOp,ha.ev hx,ha.ev hy,Sem.run_bind,h1,Result.andThen,Sem.run_pure],hw.call h2,hk _⟩
theorem KK{w:World}{L':List ai}{i k j:Nat}{a a':α}{vs:Array Value}[he:bo enc c](hw:Mem w0 L w)(q:dV L s enc c xs i)(ha:xs[k]? =some a)(hv:vs.all (·.oneCell')=true)(hj:j+vs.size≤c)(ow:over (enc a) j vs=enc a')(hu:eM L i (own enc c s (xs.set k a')) L'):
    ∃w',(storeCells ⟨s.b,s.o+k*c+j,none⟩ vs.toList).run P w= .ok () w'/\Mem w0 L' w':=by
  obtain⟨r,mJ⟩:=hw.get q.h;have hk:k<xs.length:=(ad2.1 ha).1;have hn:=r.some hk;have hle:=r.ok.le;have hlen:=r.len;obtain⟨fU,cs,T,fz,fm,eL,ln,nH⟩:=mJ hn;have hmul:(k+1)*c<=s.cap*c:=anp _ (by omega);have aeh:=hmul;rw[anF]at hmul;have iu:s.o+k*c+j+vs.size<=cs.size:=by omega
  have bw:=Ao (P:=P) s.b (s.o+k*c+j) T fz vs.toList 0 cs w fm ln (by simpa using iu) (fun v kp=>(anS.1 hv) v (by simpa using kp));refine⟨w.setRow s.b (over cs (s.o+k*c+j) vs),by simpa[over]using bw,?_⟩;have cN:hp (w.setRow s.b (over cs (s.o+k*c+j) vs)) s.b=some (.cells (over cs (s.o+k*c+j) vs) T fz):=setRow_heap w s.b cs _ T fz fm;rw[←hu.h];refine hw.change q.h (fun k hk=>hk) (fun x hx=>setRow_other w s.b x _ (fun e=>hx ⟨hn,e⟩)) (by simp[World.setRow]) ⟨rfl,rfl,rfl⟩ ⟨uK r.ok (by simpa using hlen) cN fun x y hy p fb=>?_,fun _=>⟨fU,_,_,_,cN,by rw[mH iu];exact eL,by rw[mH iu];exact ln,nH⟩⟩;rw[sO iu]
  by_cases KL:x=k
  ·subst KL
   obtain rfl:a'=y:=by rw[anK hk]at hy;exact ani hy
   rw[←ow,sO (by rw[he.size];exact hj)]
   by_cases h1:j<=p/\p<j+vs.size
   ·rw[if_pos h1,if_pos (by omega)];congr 1;omega
   ·rw[if_neg h1,if_neg (by omega),←r.row x a ha p fb]
    unfold mF;rw[fm]
  ·rw[aox (by omega)]at hy
   rw[if_neg,←r.row x y hy p fb]
   ·unfold mF;rw[fm]
   ·intro h
    rcases apQ KL with h'|h'
    ·have:(x+1)*c<=k*c:=anp _ h'
     rw[anF]at this;omega
    ·have:(k+1)*c<=x*c:=anp _ h'
     rw[anF]at this;omega
theorem jy{t:TypeId}{x y:Operand}{i k j n p:Nat}{a a':α}{v:Value}(sz:(P.info? t).map (·.size)=some n)[he:bo enc c](hx:ev env x=some (.pointer (some ⟨s.b,p,none⟩)))(hy:ev env y=some v)[q:dV L s enc c xs i](fb:p=s.o+k*c+j)
    (ha:xs[k]? =some a) (hv:v.cells.all (·.oneCell')=true) (hn:v.cells.size=n) (hj:j+n<=c) (ow:over (enc a) j v.cells=enc a') {L':List ai} [hu:eM L i (own enc c s (xs.set k a')) L'] (hk:Sq P N w0 l Q rest env L'):
    Sq P N w0 l Q (⟨none, .store t x y,ty,ps,af,none⟩::rest) env L:=
  CC rfl rfl fun aa w Aq hw=>by
    subst fb hn;obtain⟨w',h1,h2⟩:=KK (P:=P) hw q ha hv hj ow hu;refine⟨w',_,?_,h2,hk⟩;simp only[execOp,Aq.ev hx,Aq.ev hy,Instr.storeAt,Instr.sureAddr,storeVar,Sem.run_bind,Sem.run_pure,Result.andThen,ki w sz];simp[h1]
theorem SP{X:Type}{val:X→Value}{L':X→List ai}{pr:X→Prop}{f:FuncId}{xs:List Operand}{ts:Array TypeId}{vs:List Value}[hf:aD P f](hx:ff env xs=some vs)
    (hc: ∀w,Mem w0 L w->Calls P f vs.toArray w fun e w'=> ∃x,e= .returned (val x)/\pr x/\Mem w0 (L' x) w') (hk: ∀x,pr x->Sq P N w0 l Q rest (bZ env d (val x)) (L' x)) (hd:cL N d=true:=by rfl):
    Sq P N w0 l Q (⟨d, .call {callee:= .value (.func f),args:=xs.toArray,argTypes:=ts},ty,ps,af,none⟩::rest) env L:=fun a w ha hw=>by
  unfold wpList;rw[if_pos (oh rfl)];refine .inl ?_;unfold Oper.wp;rw[x7 hf w rfl,ha.ff hx];exact(hc w hw).mono fun e w' ⟨x,he,hp,hm⟩=>by subst he;exact hk x hp _ _ (ha.put hd _) hm
theorem iI{N:Nat}{fn:Func}{R:Ending→World→Prop}{f:FuncId}{c:Code}{args:List Value}{w:World}(hf:P.funcs[f]? =some fn)(hb:fn.body=some c)(hN:fn.ntmps=N)(hle:Nat.ble args.length N=true)(hw:Mem w0 L w)
    (h:Cw P ⟨N,[],none⟩ w0 (n9 P fn R) c (args.zipIdx.map fun p=>(p.2,p.1)) L):Calls P f args.toArray w R:=
  Kj hf hb (h _ _ (by rw[hN];exact cm.enter args N (Nat.le_of_ble_eq_true hle)) hw)
theorem CK{b n i:Nat}{cs:Array Value}{T:TypeId}[hi:Has L b cs T i][he:bo enc c](gv:cs=(aI enc xs).toArray)(hn:xs.length=n)(iG:n<=140737488355328:=by decide):Holds w0 L enc c ⟨false,b,0,n,n,none⟩ xs:=fun w hw=>by
  have hb:=hw.block hi.h;exact uK ⟨(fun h=>by cases h),anm _,iG,fun _=>rfl⟩ hn.symm hb fun k x hx j hj=>by
    rw[←mI (enc:=enc) xs k x hx j hj,gv];simp
theorem SQ(enc:α->Array Value)(c:Nat)(h:Sq P N w0 l Q rest env (own enc c Sv.none []::L)):Sq P N w0 l Q rest env L:=fun a w ha hw=>h a w ha (hw.cz enc c)
def wx(tmps:Array Value)(r:ResultVar):Sem Value:=match r with
  | .tmp t=>pure (tmps.getD t undef)
  | .cell c t=>do loadVar t (←asAddr (tmps.getD c undef))
theorem Gj(fn:Func)(tmps:Array Value):results fn tmps=(do let vs←fn.results.mapM (wx tmps);pure (if h:vs.size=1 then vs[0]else .tuple vs)):=by
  have:(fun r=>wx tmps r)=(fun| .tmp t=>pure (tmps.getD t undef)| .cell a t=>do loadVar t (←asAddr (tmps.getD a undef)):ResultVar->Sem Value):=by
    funext r;cases r<;>rfl
  show _=(do let vs←fn.results.mapM (fun r=>wx tmps r);pure (if h:vs.size=1 then vs[0]else .tuple vs));rw[this];rfl
def RV(P:Program)(N:bO)(w0:World)(env:Env)(L:List ai)(r:ResultVar)(v:Value):Prop:= ∀a w,cm N env a->Mem w0 L w->(wx a.tmps r).run P w= .ok v w
theorem ox{t:Nat}{v:Value}(hv:look env t=some v):RV P N w0 env L (.tmp t) v:=fun a w ha _=>by
  have:=ha.get _ _ hv;simp[wx,this]
theorem uM{t b i n:Nat}{T T':TypeId}{cs:Array Value}(hv:look env t=some (.pointer (some ⟨b,0,none⟩)))[ht:eu P T n][hi:Has L b cs T' i][hn:eZ cs n]:RV P N w0 env L (.cell t T) (.agg cs):=fun a w ha hw=>by
  have h1:=ha.get _ _ hv;have h2:(loadVar T ⟨b,0,none⟩).run P w= .ok (.agg cs) w:=FJ w ht hn.h fun j _=>by rw[Addr.fS,hw.cell hi.h,anG]
  simp[wx,h1,asAddr,h2]
theorem KM{t b i:Nat}{T T':TypeId}{cs:Array Value}{v:Value}(hv:look env t=some (.pointer (some ⟨b,0,none⟩)))[ht:eY P T][hi:Has L b cs T' i](hc:cs[0]? =some v):RV P N w0 env L (.cell t T) v:=fun a w ha hw=>by
  have h1:=ha.get _ _ hv;have h2:(loadVar T ⟨b,0,none⟩).run P w= .ok v w:=Kt w ht (by rw[hw.cell hi.h];exact hc);simp[wx,h1,asAddr,h2]
variable {fn:Func} {r1 r2 r3:ResultVar} {v1 v2 v3:Value}
theorem SR{A B:Type}(f:A->Sem B)(x y:A):(#[x,y]:Array A).mapM f=(do let a←f x;let b←f y;pure #[a,b]):=by simp
theorem SS{A B:Type}(f:A->Sem B)(x y z:A):(#[x,y,z]:Array A).mapM f=(do let a←f x;let b←f y;let c←f z;pure #[a,b,c]):=by simp
theorem sQ(hf:fn.results= #[r1])(h1:RV P N w0 env L r1 v1): ∀a w,cm N env a->Mem w0 L w->(results fn a.tmps).run P w= .ok v1 w:=fun a w ha hw=>by
  have e1:=h1 a w ha hw;rw[Gj,hf];simp[e1]
theorem Gl(hf:fn.results= #[r1,r2])(h1:RV P N w0 env L r1 v1)(h2:RV P N w0 env L r2 v2): ∀a w,cm N env a->Mem w0 L w->(results fn a.tmps).run P w= .ok (.tuple #[v1,v2]) w:=fun a w ha hw=>by
  have e1:=h1 a w ha hw;have e2:=h2 a w ha hw;rw[Gj,hf,SR];simp[e1,e2]
theorem SU(hf:fn.results= #[r1,r2,r3])(h1:RV P N w0 env L r1 v1)(h2:RV P N w0 env L r2 v2)(h3:RV P N w0 env L r3 v3): ∀a w,cm N env a->Mem w0 L w->(results fn a.tmps).run P w= .ok (.tuple #[v1,v2,v3]) w:=fun a w ha hw=>by
  have e1:=h1 a w ha hw;have e2:=h2 a w ha hw;have e3:=h3 a w ha hw;rw[Gj,hf,SS];simp[e1,e2,e3]
end
def aP(b:UInt8):Array Value:= #[.int .u8 b.toNat]
instance:bo aP 1:=⟨fun _=>rfl,fun _=>by simp[aP,Value.oneCell']⟩
instance (b:UInt8):bT (aP b) 0 (.int .u8 b.toNat):=⟨rfl⟩
def rj(s:Sv):Array Value:= #[s.val]
instance:bo rj 1:=⟨fun _=>rfl,fun s=>by simp[rj,Sv.one]⟩
def b8(n:Nat):UInt8:=UInt8.ofNat n
theorem yk(n:Nat):(b8 n).toNat=n%256:=by simp[b8]
theorem SV(n:Nat):IntKind.u8.wrap (n:Int)=((b8 n).toNat:Int):=by
 rw[yk];simp[IntKind.wrap,IntKind.bits,IntKind.signed]
def be(n:Nat):Nat->List UInt8
 |0=>[]
 |k+1=>b8 (n/256^k)::be n k
theorem lq(n:Nat): ∀k,(be n k).length=k
 |0=>rfl
 |k+1=>by simp[be,lq n k]
def de(l:List UInt8):Nat:=l.foldl (fun a b=>a*256+b.toNat) 0
theorem KN{xs:List UInt8}{i:Nat}{b:UInt8}(h:xs[i]? =some b):de (xs.take (i+1))=de (xs.take i)*256+b.toNat:=by
 rw[anq,h];simp[de]
theorem Gm(xs:List UInt8): ∀i,i<=xs.length->de (xs.take i)<256^i
 |0,_=>by simp[de]
 |i+1,h=>by
  have:=Gm xs i (by omega);rw[KN (b:=xs[i]) (by simp),Nat.pow_succ];have:=xs[i].toNat_lt;omega
section
variable {P:Program} {N:bO} {w0:World} {env:Env} {L:List ai} {d:Option Tmp} {ty:TypeId} {ps:String} {af:Array Edge} {gd:Option (Nat×Bool)}
variable {x y:Operand} {k k':IntKind} {p q:Nat} {t u s:TypeId}
theorem KO{a b:Int}(hx:ev env x=some (.int k a))(hy:ev env y=some (.int k b))(ea:a=p)(eb:b=q)(hq:0<q):
  Ry P N w0 env L ⟨d, .binOp .rem t x y u,ty,ps,af,gd⟩ (.int k ((p%q:Nat):Int)):=cQ hx hy (by
 subst ea eb;rw[kh,if_neg (by omega),←Int.ofNat_tmod])
theorem SW{a b:Int}(hx:ev env x=some (.int k a))(hy:ev env y=some (.int k b))(ea:a=p)(eb:b=q)(h:p*q<2^nb k):
  Ry P N w0 env L ⟨d, .binOp .mul t x y u,ty,ps,af,gd⟩ (.int k ((p*q:Nat):Int)):=cQ hx hy (by
 subst ea eb;rw[kh,←Int.natCast_mul,og h])
theorem Ar{n:Nat}{a:Int}[hs:lP P s k'][ht:lP P t .u8](hx:ev env x=some (.int k' a))(ea:a=n):
  Ry P N w0 env L ⟨d, .convert s t x,ty,ps,af,gd⟩ (.int .u8 (b8 n).toNat):=sK hx (by subst ea;exact SV n)
theorem SX{e:TypeId}{sv:Sv}{xs:List UInt8}(hs:P.underlying s=some (.slice e))(he:P.underlying e=some (.int .u8))(hd:P.underlying t=some .string)(hx:ev env x=some sv.val)(hR:Holds w0 L aP 1 sv xs):
  Ry P N w0 env L ⟨d, .convert s t x,ty,ps,af,gd⟩ (.string ⟨xs.toArray⟩):=fun a w ha hw=>by
 have r:=hR w hw;have hr:(convert s t sv.val).run P w= .ok (.string ⟨xs.toArray⟩) w:=by
  cases hn:sv.nil with
  |true=>
   have:xs=[]:=by have:=(r.ok.nil hn).1;rw[r.len]at this;exact anB.1 this
   subst this;rw[Sv.rb hn,run_convert_bytes_string w s t e none 0 0 hs he hd];rfl
  |false=>
   rw[Sv.gT hn,r.len];refine run_convert_bytes_back w s t e _ _ xs hs he hd fun j hj=>?_;rw[r.ok.sp (by have:=r.len;have:=r.ok.le;omega)];rw[Addr.fS,sN];have:=r.row j xs[j] (by simp) 0 (by decide);simp only[aoy,an3]at this;rw[this];rfl
 simp only[execOp,ha.ev hx,Sem.run_bind,hr,Result.andThen,Sem.run_pure]
theorem SY{a b:ByteArray}(hx:ev env x=some (.string a))(hy:ev env y=some (.string b)):
  Ry P N w0 env L ⟨d, .binOp .eql t x y u,ty,ps,af,gd⟩ (.bool (a.toList==b.toList)):=fun aa w ha _=>by
 have h2:(eqGuard BinOp.eql t x y (.string a) (.string b)).run P w= .ok () w:=rfl;simp only[execOp,ha.ev hx,ha.ev hy,Sem.run_bind,h2,Result.andThen_ok,binOp_string_eql,Sem.run_pure]
end
section
variable {P:Program} {N:bO} {w0:World} {env:Env} {L:List ai} {l:List Oper} {Q:Exit->Act->World->Prop} {rest:List Oper} {d:Option Tmp} {ty:TypeId} {ps:String} {af:Array Edge}
end
def wy(b c:UInt8):UInt16:=UInt16.ofNat (b.toNat*256+c.toNat)
theorem SZ(b c:UInt8):(wy b c).toNat=b.toNat*256+c.toNat:=by
 have:=b.toNat_lt;have:=c.toNat_lt;simp[wy];omega
theorem KP(p q:Nat)(h:q<256):(p*256)|||q=p*256+q:=by
 have:=apx (i:=8) (b:=q) (by simpa using h) p;rw[show(2^8*p)=p*256 by rw[an0]]at this;exact this.symm
section
variable {P:Program} {N:bO} {w0:World} {env:Env} {L:List ai} {d:Option Tmp} {ty:TypeId} {ps:String} {af:Array Edge} {gd:Option (Nat×Bool)} {x y:Operand} {k:IntKind} {t u:TypeId}
theorem KQ{b:UInt8}{k':IntKind}(hx:ev env x=some (.int k b.toNat))(hy:ev env y=some (.int k' 8))(hk:k= .u16\/k= .i64:=by decide):
  Ry P N w0 env L ⟨d, .binOp .shl t x y u,ty,ps,af,gd⟩ (.int k ((b.toNat*256:Nat):Int)):=by
 have h:=CB (P:=P) (N:=N) (w0:=w0) (L:=L) (d:=d) (ty:=ty) (ps:=ps) (af:=af) (gd:=gd) (t:=t) (u:=u) hx hy (by decide);have hb:=b.toNat_lt;have e:k.wrap ((b.toNat:Int)*2^min (Int.toNat 8) k.bits)=((b.toNat*256:Nat):Int):=by
  rcases hk with rfl|rfl<;>simp[IntKind.wrap,IntKind.bits,IntKind.signed]<;>omega
 rw[e]at h;exact h
theorem KR{b c:UInt8}(hx:ev env x=some (.int k ((b.toNat*256:Nat):Int)))(hy:ev env y=some (.int k c.toNat))(hk:k= .u16\/k= .i64:=by decide):
  Ry P N w0 env L ⟨d, .binOp .or t x y u,ty,ps,af,gd⟩ (.int k ((wy b c).toNat:Nat)):=by
 have hb:=b.toNat_lt;have hc:=c.toNat_lt;rw[SZ,←KP _ _ hc];rcases hk with rfl|rfl
 ·
  exact yc hx hy rfl rfl (by simp only[nb];omega) (by simp only[nb];omega)
 ·
  exact yc hx hy rfl rfl (by simp only[nb];omega) (by simp only[nb];omega)
end
def ai.emp:ai:=⟨fun _=>False,fun _=>True,fun _ _ _ s=>s⟩
def ai.two(a b:ai):ai:=⟨fun k=>a.fp k\/b.fp k,fun h=>a.sat h/\b.sat h/\ ∀k,a.fp k-> ¬b.fp k,
  fun h h' e s=>⟨a.loc h h' (fun k hk=>e k (.inl hk)) s.1,b.loc h h' (fun k hk=>e k (.inr hk)) s.2.1,s.2.2⟩⟩
def ai.all:List ai->ai
  |[]=> .emp
  |e::r=> .two e (.all r)
theorem Mem.As{w0 w:World}{L:List ai}:Mem w0 (.emp::L) w↔Mem w0 L w:=
  ⟨fun h=>h.sub (anT _ _),fun h=>⟨h.below,fun e he=>by
    rcases ank.1 he with rfl|he
    ·exact trivial
    ·exact h.sat e he,fun e he k hk=>by
    rcases ank.1 he with rfl|he
    ·exact hk.elim
    ·exact h.iT e he k hk,anM.2 ⟨fun _ _ _ hk=>hk.elim,h.nD⟩⟩⟩
theorem Mem.wz{w0 w:World}{a b:ai}{L:List ai}:Mem w0 (.two a b::L) w↔Mem w0 (a::b::L) w:=by
  constructor
  ·intro h
   have hs:(a.sat fun k=>w.heap[k]?)/\(b.sat fun k=>w.heap[k]?)/\ ∀k,a.fp k-> ¬b.fp k:=h.sat (.two a b) (by simp);have hd:=anM.1 h.nD;refine⟨h.below,fun e he=>?_,fun e he k hk=>?_,?_⟩
   ·rcases ank.1 he with rfl|he
    ·exact hs.1
    ·rcases ank.1 he with rfl|he
     ·exact hs.2.1
     ·exact h.sat e (by simp[he])
   ·rcases ank.1 he with rfl|he
    ·exact h.iT (.two e b) (by simp) k (.inl hk)
    ·rcases ank.1 he with rfl|he
     ·exact h.iT (.two a e) (by simp) k (.inr hk)
     ·exact h.iT e (by simp[he]) k hk
   ·refine anM.2 ⟨fun x hx k hk=>?_,anM.2 ⟨fun x hx k hk=>hd.1 x hx k (.inr hk),hd.2⟩⟩
    rcases ank.1 hx with rfl|hx
    ·exact hs.2.2 k hk
    ·exact hd.1 x hx k (.inl hk)
  ·intro h
   have hd:=anM.1 h.nD;have Gn:=anM.1 hd.2;refine⟨h.below,fun e he=>?_,fun e he k hk=>?_,anM.2 ⟨fun x hx k hk=>?_,Gn.2⟩⟩
   ·rcases ank.1 he with rfl|he
    ·exact⟨h.sat a (by simp),h.sat b (by simp),fun k hk=>hd.1 b (by simp) k hk⟩
    ·exact h.sat e (by simp[he])
   ·rcases ank.1 he with rfl|he
    ·rcases hk with hk|hk
     ·exact h.iT a (by simp) k hk
     ·exact h.iT b (by simp) k hk
    ·exact h.iT e (by simp[he]) k hk
   ·rcases hk with hk|hk
    ·exact hd.1 x (by simp[hx]) k hk
    ·exact Gn.1 x hx k hk
theorem Mem.Au{w0 w:World}: ∀(es:List ai) {L:List ai},Mem w0 (.all es::L) w↔Mem w0 (es++L) w
  |[],_=>Mem.As
  |e::r,L=>by
   show Mem w0 (.two e (.all r)::L) w↔_;rw[Mem.wz];have sw: ∀(a b:ai) (K:List ai),Mem w0 (a::b::K) w↔Mem w0 (b::a::K) w:=fun a b K=>⟨fun h=>h.perm (List.Perm.swap _ _ _),fun h=>h.perm (List.Perm.swap _ _ _)⟩;rw[sw,Mem.Au r];exact⟨fun h=>h.perm (ao7),fun h=>h.perm (ao7).symm⟩
class Deep(τ:Type) where
  c:Nat
  cells:τ->Array Value
  size: ∀x,(cells x).size=c
  one: ∀x,(cells x).all (·.oneCell')=true
  dO:(Nat->Option Obj)->τ->Prop
  bU:τ->ai
  iW: ∀h x,(bU x).sat h->dO h x
  mono: ∀(w w':World) x,dO (hp w) x->Below w.heap.size w w'->dO (hp w') x
instance Deep.enc{τ:Type}[Deep τ]:bo (Deep.cells (τ:=τ)) (Deep.c τ):=⟨Deep.size,Deep.one⟩
@[reducible] def Deep.flat {τ:Type}(enc:τ->Array Value)(c:Nat)[he:bo enc c]:Deep τ:=⟨c,enc,he.size,he.one,fun _ _=>True,fun _=> .emp,fun _ _ _=>trivial,fun _ _ _ _ _=>trivial⟩
structure Sl(τ:Type) where
  sv:Sv
  xs:List τ
theorem ai.Av{h:Nat->Option Obj}: ∀{es:List ai},(ai.all es).sat h-> ∀e∈es,e.sat h
  |[],_,_,he=>by cases he
  |_::_,hs,e,he=>by
   rcases ank.1 he with rfl|he
   ·exact hs.1
   ·exact ai.Av hs.2.1 e he
instance Deep.slice{τ:Type}[d:Deep τ]:Deep (Sl τ) where
  c:=1
  cells a:=rj a.sv
  size _:=rfl
  one a:=bo.one (enc:=rj) (c:=1) a.sv
  dO h a:=dq (Deep.cells (τ:=τ)) (Deep.c τ) h a.sv a.xs/\ ∀x∈a.xs,d.dO h x
  bU a:= .two (own (Deep.cells (τ:=τ)) (Deep.c τ) a.sv a.xs) (.all (a.xs.map d.bU))
  iW h _ hs:=⟨hs.1.1,fun x hx=>d.iW h x (ai.Av hs.2.1 _ (an6 hx))⟩
  mono w w' _ hg hb:=⟨hg.1.mono hb,fun x hx=>d.mono w w' x (hg.2 x hx) hb⟩
theorem Mem.CL{τ:Type}[d:Deep τ]{w0 w:World}{L:List ai}{a:Sl τ}:Mem w0 (Deep.bU a::L) w↔Mem w0 (own (Deep.cells (τ:=τ)) (Deep.c τ) a.sv a.xs::a.xs.map d.bU++L) w:=by
  show Mem w0 (.two _ (.all _)::L) w↔_;rw[Mem.wz];have sw: ∀(a b:ai) (K:List ai),Mem w0 (a::b::K) w↔Mem w0 (b::a::K) w:=fun a b K=>⟨fun h=>h.perm (List.Perm.swap _ _ _),fun h=>h.perm (List.Perm.swap _ _ _)⟩;rw[sw,Mem.Au];exact⟨fun h=>h.perm (ao7),fun h=>h.perm (ao7).symm⟩
section
variable {w0:World} {L:List ai} {τ:Type}
class Hd(w0:World)(L:List ai)(s:Sv){α:outParam Type}(enc:outParam (α->Array Value))(c:outParam Nat)(xs:outParam (List α)):Prop where
  h:Holds w0 L enc c s xs
class Gv(w0:World)(s:Sv){α:outParam Type}(enc:outParam (α->Array Value))(c:outParam Nat)(xs:outParam (List α)):Prop where
  h:dq enc c (hp w0) s xs
instance (priority:=high) Hd.owned {s:Sv}{α:Type}{enc:α->Array Value}{c:Nat}{xs:List α}{i:Nat}[q:dV L s enc c xs i]:Hd w0 L s enc c xs:=⟨q.holds⟩
instance Hd.given{s:Sv}{α:Type}{enc:α->Array Value}{c:Nat}{xs:List α}[q:Gv w0 s enc c xs][bo enc c]:Hd w0 L s enc c xs:=⟨An q.h⟩
class Rg(lo hi n:Nat):Prop where
  h:lo<=hi/\hi<=n
instance Hd.sub{s:Sv}{α:Type}{enc:α->Array Value}{c:Nat}{xs:List α}{lo hi:Nat}[q:Hd w0 L s enc c xs][r:Rg lo hi xs.length]:Hd w0 L (s.sub c lo hi) enc c ((xs.drop lo).take (hi -lo)):=⟨q.h.sub r.h.1 r.h.2⟩
class cA(w0:World)(L:List ai){α:Type}(enc:α->Array Value)(c:Nat)(s:Sv)(xs:outParam (List α)):Prop where
  h:Holds w0 L enc c s xs
instance (priority:=high) cA.of {s:Sv}{α:Type}{enc:α->Array Value}{c:Nat}{xs:List α}[q:Hd w0 L s enc c xs]:cA w0 L enc c s xs:=⟨q.h⟩
instance cA.none{α:Type}{enc:α->Array Value}{c:Nat}:cA w0 L enc c Sv.none []:=⟨fun _ _=>dq.nil enc c _⟩
class aS(w0:World)(L:List ai){τ:Type}[Deep τ](a:τ):Prop where
  h: ∀w,Mem w0 L w->Deep.dO (hp w) a
class cl(w0:World){τ:Type}[Deep τ](a:τ):Prop where
  h:Deep.dO (hp w0) a
class Mb{τ:Type}(x:τ)(a:outParam (Sl τ)):Prop where
  h:x∈a.xs
instance aS.given[Deep τ]{a:τ}[q:cl w0 a]:aS w0 L a:=⟨fun _ hw=>Deep.mono w0 _ a q.h hw.below⟩
instance (priority:=high) aS.owned [Deep τ]{a:τ}{i:Nat}[q:At L (Deep.bU a) i]:aS w0 L a:=⟨fun _ hw=>Deep.iW _ a (hw.get q.h)⟩
instance (priority:=low) aS.elem [Deep τ]{a:Sl τ}{x:τ}[q:aS w0 L a][m:Mb x a]:aS w0 L x:=⟨fun w hw=>(q.h w hw).2 x m.h⟩
class fw(τ:Type)[Deep τ](enc:outParam (τ->Array Value))(c:outParam Nat):Prop where
  hc:Deep.c τ=c
  h: ∀x:τ,Deep.cells x=enc x
instance (priority:=low) Hd.deep [d:Deep τ]{enc:τ->Array Value}{c:Nat}[f:fw τ enc c]{a:Sl τ}[q:aS w0 L a]:Hd w0 L a.sv enc c a.xs:=⟨fun w hw=>by
  have h:=(q.h w hw).1;have e:Deep.cells (τ:=τ)=enc:=funext f.h;rw[←e,←f.hc];exact h⟩
end
section
variable {P:Program} {N:bO} {w0:World} {env:Env} {L:List ai} {d:Option Tmp} {ty:TypeId} {ps:String} {af:Array Edge} {gd:Option (Nat×Bool)}
variable {α:Type} {enc:α->Array Value} {c:Nat} {s:Sv} {xs:List α}
theorem oy{t e:TypeId}{x:Operand}{m:Nat}[ht:ez P t e m](hx:ev env x=some s.val)[q:Hd w0 L s enc c xs]:
    Ry P N w0 env L ⟨d, .call {callee:= .builtin .len,args:= #[x],argTypes:= #[t]},ty,ps,af,gd⟩ (.int .i64 (xs.length:Nat)):=fun a w ha hw=>
  re (P:=P) (N:=N) (w0:=w0) (L:=L) (d:=d) (ty:=ty) (ps:=ps) (af:=af) (gd:=gd) hx (q.h w hw).ok (q.h w hw).len a w ha hw
theorem aV{t e:TypeId}{x ix:Operand}{m:Nat}{k:IntKind}{j:Int}[ht:ez P t e m](hx:ev env x=some s.val)(hj:ev env ix=some (.int k j))[q:Hd w0 L s enc c xs](i:Nat)(ej:j=(i:Int))(h1:i<xs.length):
    Ry P N w0 env L ⟨d, .indexAddr t x ix,ty,ps,af,gd⟩ (.pointer (some ⟨s.b,s.o+i*m,none⟩)):=fun a w ha hw=>
  kP (P:=P) (N:=N) (w0:=w0) (L:=L) (d:=d) (ty:=ty) (ps:=ps) (af:=af) (gd:=gd) hx hj ej (q.h w hw).ok (by rw[(q.h w hw).len];exact h1) a w ha hw
theorem fo{t:TypeId}{x:Operand}{p:Nat}{a:α}[ht:eu P t c][he:bo enc c][q:Hd w0 L s enc c xs](hx:ev env x=some (.pointer (some ⟨s.b,p,none⟩)))(i:Nat)(hi:xs[i]? =some a)(fb:p=s.o+i*c):
    Ry P N w0 env L ⟨d, .load t x,ty,ps,af,gd⟩ (.agg (enc a)):=CH hx q.h hi fb
theorem bJ{t:TypeId}{x:Operand}{p j:Nat}{a:α}{v:Value}[ht:eY P t][q:Hd w0 L s enc c xs](hx:ev env x=some (.pointer (some ⟨s.b,p,none⟩)))(i:Nat)(hi:xs[i]? =some a)(fb:p=s.o+i*c+j)(hj:j<c)[hv:bT (enc a) j v]:
    Ry P N w0 env L ⟨d, .load t x,ty,ps,af,gd⟩ v:=F4 hx q.h hi fb hj hv.h
theorem KS{t:TypeId}{x:Operand}{p j n:Nat}{a:α}{sub:Array Value}[ht:eu P t n][q:Hd w0 L s enc c xs](hx:ev env x=some (.pointer (some ⟨s.b,p,none⟩)))(i:Nat)(hi:xs[i]? =some a)(fb:p=s.o+i*c+j)(hj:j+n≤c)[hs:lQ (enc a) j n sub]:
    Ry P N w0 env L ⟨d, .load t x,ty,ps,af,gd⟩ (.agg sub):=F5 hx q.h hi fb hj
theorem CM{t e:TypeId}{x lo hi:Operand}{k k':IntKind}{il ih:Int}[ht:ez P t e c](hx:ev env x=some s.val)(hl:ev env lo=some (.int k il))(hh:ev env hi=some (.int k' ih))[q:Hd w0 L s enc c xs](l h:Nat)(el:il=(l:Int))(eh:ih=(h:Int))(h1:l≤h)(h2:h≤xs.length):
    Ry P N w0 env L ⟨d, .slice t x (some lo) (some hi) none,ty,ps,af,gd⟩ (s.sub c l h).val:=fun a w ha hw=>
  CI (P:=P) (N:=N) (w0:=w0) (L:=L) (d:=d) (ty:=ty) (ps:=ps) (af:=af) (gd:=gd) hx hl hh el eh (q.h w hw).ok h1 (by have:=(q.h w hw).len;have:=(q.h w hw).ok.le;omega) a w ha hw
theorem KT{t e:TypeId}{x hi:Operand}{k':IntKind}{ih:Int}[ht:ez P t e c](hx:ev env x=some s.val)(hh:ev env hi=some (.int k' ih))[q:Hd w0 L s enc c xs](h:Nat)(eh:ih=(h:Int))(h2:h≤xs.length):
    Ry P N w0 env L ⟨d, .slice t x none (some hi) none,ty,ps,af,gd⟩ (s.sub c 0 h).val:=fun a w ha hw=>
  uI (P:=P) (N:=N) (w0:=w0) (L:=L) (d:=d) (ty:=ty) (ps:=ps) (af:=af) (gd:=gd) hx hh eh (q.h w hw).ok (by have:=(q.h w hw).len;have:=(q.h w hw).ok.le;omega) a w ha hw
theorem CN{t e:TypeId}{x lo:Operand}{k:IntKind}{il:Int}[ht:ez P t e c](hx:ev env x=some s.val)(hl:ev env lo=some (.int k il))[q:Hd w0 L s enc c xs](l:Nat)(el:il=(l:Int))(h1:l≤xs.length):
    Ry P N w0 env L ⟨d, .slice t x (some lo) none none,ty,ps,af,gd⟩ (s.sub c l xs.length).val:=fun a w ha hw=>
  rf (P:=P) (N:=N) (w0:=w0) (L:=L) (d:=d) (ty:=ty) (ps:=ps) (af:=af) (gd:=gd) hx hl el (q.h w hw).ok (q.h w hw).len h1 a w ha hw
theorem KU{t e tb:TypeId}{x:Operand}{xs:List UInt8}(hs:P.underlying tb=some (.slice e))(he:P.underlying e=some (.int .u8))(hd:P.underlying t=some .string)(hx:ev env x=some s.val)[q:Hd w0 L s aP 1 xs]:
    Ry P N w0 env L ⟨d, .convert tb t x,ty,ps,af,gd⟩ (.string ⟨xs.toArray⟩):=SX hs he hd hx q.h
theorem wA{s t:TypeId}{x:Operand}{k:IntKind}{b:UInt8}[hs:lP P s .u8][ht:lP P t k](hx:ev env x=some (.int .u8 b.toNat))(hk:8≤nb k:=by decide):
    Ry P N w0 env L ⟨d, .convert s t x,ty,ps,af,gd⟩ (.int k b.toNat):=lR hx (anW b.toNat_lt (an9 (by decide) hk))
end
section
variable {P:Program} {N:bO} {w0:World} {env:Env} {L:List ai} {l:List Oper} {Q:Exit->Act->World->Prop} {rest:List Oper} {d:Option Tmp} {ty:TypeId} {ps:String} {af:Array Edge} {gd:Option (Nat×Bool)}
class bW(P:Program)(f:FuncId)(w0:World)(L:List ai)(vs:List Value)(v:outParam Value)(pre:outParam Prop):Prop where
  h:pre-> ∀w,Mem w0 L w->Calls P f vs.toArray w fun e w'=>e= .returned v/\Mem w [] w'
class bK(P:Program)(f:FuncId)(w0:World)(L:List ai)(vs:List Value)(X:outParam Type)(val:outParam (X->Value))(L':outParam (X->List ai))(pr:outParam (X->Prop))(pre:outParam Prop):Prop where
  h:pre-> ∀w,Mem w0 L w->Calls P f vs.toArray w fun e w'=> ∃x,e= .returned (val x)/\pr x/\Mem w0 (L' x) w'
instance (priority:=high) bW.pure {f:FuncId}{vs:List Value}{v:Value}[h:jj P f vs v]:bW P f w0 L vs v True:=⟨fun _ w _=>h.h w⟩
theorem bF{f:FuncId}{xs:List Operand}{ts:Array TypeId}{vs:List Value}{v:Value}{pre:Prop}[hf:aD P f](hx:ff env xs=some vs)[hc:bW P f w0 L vs v pre](hp:pre):
    Yl P N w0 env L ⟨d, .call {callee:= .value (.func f),args:=xs.toArray,argTypes:=ts},ty,ps,af,gd⟩ v:=ya hx fun w hw=>hc.h hp w hw
theorem bf{X:Type}{val:X→Value}{L':X→List ai}{pr:X→Prop}{pre:Prop}{f:FuncId}{xs:List Operand}{ts:Array TypeId}{vs:List Value}[hf:aD P f](hx:ff env xs=some vs)
    [hc:bK P f w0 L vs X val L' pr pre] (hp:pre) (hk: ∀x,pr x->Sq P N w0 l Q rest (bZ env d (val x)) (L' x)) (hd:cL N d=true:=by rfl):
    Sq P N w0 l Q (⟨d, .call {callee:= .value (.func f),args:=xs.toArray,argTypes:=ts},ty,ps,af,none⟩::rest) env L:=SP hx (fun w hw=>hc.h hp w hw) hk hd
theorem S0{Lq:List ai}{n j:Nat}{js:List Nat}{X:Type}{val:X→Value}{L':X→List ai}{pr:X→Prop}{pre:Prop}{f:FuncId}{xs:List Operand}{ts:Array TypeId}{vs:List Value}(hj:l[j]? =some ⟨d, .call {callee:= .value (.func f),args:=xs.toArray,argTypes:=ts},ty,ps,af,none⟩)[hf:aD P f](hx:ff env xs=some vs)
    [hc:bK P f w0 L vs X val L' pr pre] (hp:pre) (hL: ∀x w,Mem w0 (L' x) w->Mem w0 Lq w) (hk: ∀x,pr x->Fr P N w0 Lq l n Q js (bZ env d (val x)) (L' x)) (hd:cL N d=true:=by rfl):
    Fr P N w0 Lq l n Q (j::js) env L:=SI hj hx (fun w hw=>hc.h hp w hw) hL hk hd
theorem aei{X:Type}{val:X→Value}{L':X→List ai}{pr:X→Prop}{pre:Prop}{f:FuncId}{xs:List Operand}{ts:Array TypeId}{vs:List Value}{j t:Nat}{g:Bool}[hf:aD P f](hj:(l[j]?).bind (·.dst)=some t)(hv:look env t=some (.bool g))(hx:g=true→ff env xs=some vs)
    [hc:bK P f w0 L vs X val L' pr pre] (hp:g=true->pre) (hk: ∀x,(g=true->pr x)->Sq P N w0 l Q rest (bZ env d (if g=true then val x else undef)) (if g=true then L' x else L)) (x0:X) (hd:cL N d=true:=by rfl):
    Sq P N w0 l Q (⟨d, .call {callee:= .value (.func f),args:=xs.toArray,argTypes:=ts},ty,ps,af,some (j,true)⟩::rest) env L:=by
  cases g
  ·intro a w ha hw
   unfold wpList;rw[q8 ha rfl hj hv];have:=hk x0 (fun h=>by cases h) (a.put d undef) w (by simpa using ha.put hd undef) (by simpa using hw);simpa using this
  ·intro a w ha hw
   unfold wpList;rw[q8 ha rfl hj hv];refine .inl ?_;unfold Oper.wp;rw[x7 hf w rfl,ha.ff (hx rfl)];exact(hc.h (hp rfl) w hw).mono fun e w' ⟨x,he,iw,hm⟩=>by subst he;exact hk x (fun _=>iw) _ _ (by simpa using ha.put hd _) (by simpa using hm)
end
class cI(L:List ai)(i:Nat)(R:outParam (List ai)):Prop where
  h:L.eraseIdx i=R
instance cI.here{e:ai}{L:List ai}:cI (e::L) 0 L:=⟨rfl⟩
instance cI.there{e:ai}{L R:List ai}{i:Nat}[q:cI L i R]:cI (e::L) (i+1) (e::R):=⟨by simp[q.h]⟩
class ag(L L':List ai):Prop where
  h: ∃R,L.Perm (L'++R)
instance (priority:=high) ag.nil {L:List ai}:ag L []:=⟨⟨L, .refl _⟩⟩
instance (priority:=high) ag.same {L:List ai}:ag L L:=⟨⟨[],by simp⟩⟩
theorem lU{e:ai}: ∀{L:List ai} {i:Nat},L[i]? =some e->L.Perm (e::L.eraseIdx i)
  |[],i,h=>by simp at h
  |x::L,0,h=>by obtain rfl:x=e:=by simpa using h
                simp
  |x::L,i+1,h=>by
   have:=lU (L:=L) (i:=i) (by simpa using h);rw[apO];exact(this.cons x).trans (.swap _ _ _)
instance ag.cons{L L' R:List ai}{e:ai}{i:Nat}[a:At L e i][b:cI L i R][k:ag R L']:ag L (e::L'):=⟨by
  obtain⟨S,hS⟩:=k.h;exact⟨S,(lU a.h).trans (by rw[b.h];exact hS.cons e)⟩⟩
theorem ag.mem{L L':List ai}[k:ag L L']{w0 w:World}(h:Mem w0 L w):Mem w0 L' w:=by
  obtain⟨R,hR⟩:=k.h;exact(h.perm hR).sub (List.sublist_append_left _ _)
theorem rk{P:Program}{N:bO}{w0:World}{env:Env}{L:List ai}{Q:Exit->Act->World->Prop}{c:Code}(L':List ai)(h: ∀w,Mem w0 L w->Mem w0 L' w)(hk:Cw P N w0 Q c env L'):Cw P N w0 Q c env L:=fun a w ha hw=>hk a w ha (h w hw)
theorem KV{P:Program}{N:bO}{w0:World}{env:Env}{L:List ai}{Q:Exit->Act->World->Prop}{c:Code}(s:Sv){α:Type}{enc:α->Array Value}{n:Nat}{xs:List α}[q:Hd w0 L s enc n xs](hk:xs.length<=140737488355328->Cw P N w0 Q c env L):Cw P N w0 Q c env L:=
  fun a w ha hw=>hk (q.h w hw).bd a w ha hw
theorem mL{α:Type}{xs:List α}{i:Nat}{d:α}(h:i<xs.length):xs[i]? =some (xs.getD i d):=by
  simp[List.getD,h]
section
variable {P:Program} {N:bO} {w0:World} {env:Env} {L:List ai} {l:List Oper} {Q:Exit->Act->World->Prop} {rest:List Oper} {d:Option Tmp} {ty:TypeId} {ps:String} {af:Array Edge} {gd:Option (Nat×Bool)}
variable {α:Type} {enc:α->Array Value} {c:Nat} {s:Sv} {xs:List α}
theorem KW{x y:Operand}{t u:TypeId}{a b:List UInt8}(hx:ev env x=some (.string ⟨a.toArray⟩))(hy:ev env y=some (.string ⟨b.toArray⟩)):
    Ry P N w0 env L ⟨d, .binOp .eql t x y u,ty,ps,af,gd⟩ (.bool (decide (a=b))):=by
  have e:((⟨a.toArray⟩:ByteArray).toList==(⟨b.toArray⟩:ByteArray).toList)=decide (a=b):=by
    rw[ByteArray.toList_mk,ByteArray.toList_mk,apk];simp
  rw[←e];exact SY hx hy
theorem sR{t e:TypeId}{x:Operand}{u:TypeId}(ht:P.underlying t=some (.slice e))(hx:ev env x=some s.val):
    Ry P N w0 env L ⟨d, .binOp .eql t x (.const (.slice none 0 0)) u,ty,ps,af,gd⟩ (.bool s.nil):=fun a w ha _=>by
  have h1:(eqGuard BinOp.eql t x (.const (.slice none 0 0)) s.val (.slice none 0 0)).run P w= .ok () w:=by
    unfold Sv.val;split<;>rfl
  have h3:(Op.equal t s.val (.slice none 0 0)).run P w= .ok s.nil w:=by
    unfold Sv.val;split<;>rename_i hn<;>rw[run_equal_slice_nil w t e _ _ _ ht,hn]<;>rfl
  have h2:(binOp .eql t s.val (.slice none 0 0)).run P w= .ok (.bool s.nil) w:=by
    have:binOp .eql t s.val (.slice none 0 0)=(do pure (.bool (←Op.equal t s.val (.slice none 0 0)))):=by unfold Sv.val;split<;>rfl
    rw[this,Sem.run_bind,h3];rfl
  simp only[execOp,ha.ev hx,show a.eval (.const (.slice none 0 0))= .slice none 0 0 from rfl,Sem.run_bind,h1,Result.andThen_ok,h2,Sem.run_pure]
theorem S1{t e:TypeId}{x:Operand}{u:TypeId}(ht:P.underlying t=some (.slice e))(hx:ev env x=some s.val):
    Ry P N w0 env L ⟨d, .binOp .neq t x (.const (.slice none 0 0)) u,ty,ps,af,gd⟩ (.bool (!s.nil)):=fun a w ha _=>by
  have h1:(eqGuard BinOp.neq t x (.const (.slice none 0 0)) s.val (.slice none 0 0)).run P w= .ok () w:=by
    unfold Sv.val;split<;>rfl
  have h3:(Op.equal t s.val (.slice none 0 0)).run P w= .ok s.nil w:=by
    unfold Sv.val;split<;>rename_i hn<;>rw[run_equal_slice_nil w t e _ _ _ ht,hn]<;>rfl
  have h2:(binOp .neq t s.val (.slice none 0 0)).run P w= .ok (.bool (!s.nil)) w:=by
    have:binOp .neq t s.val (.slice none 0 0)=(do pure (.bool (!(←Op.equal t s.val (.slice none 0 0))))):=by unfold Sv.val;split<;>rfl
    rw[this,Sem.run_bind,h3];rfl
  simp only[execOp,ha.ev hx,show a.eval (.const (.slice none 0 0))= .slice none 0 0 from rfl,Sem.run_bind,h1,Result.andThen_ok,h2,Sem.run_pure]
theorem S2{t e:TypeId}{ct:Nat}(ht:eF P t e c ct)(w:World):(Instr.buildSlice t 0 #[]).run P w= .ok (.slice (some ⟨w.heap.size,0,none⟩) 0 0) (w.alloc (.cells #[] e)):=by
  obtain⟨i',z,aW,aB,bm,cJ,lT⟩:=ht.info;have:(Array.range 0:Array Nat)= #[]:=by simp
  simp[Instr.buildSlice,run_underlying ht.dU,sizeOf,typeInfo,aW,Instr.fill,newRow,newObj,Sem.run,Result.andThen,this]
theorem uN{t e:TypeId}{ct:Nat}(enc:α→Array Value)[ht:eF P t e c ct][he:bo enc c](hk: ∀b,Sq P N w0 l Q rest (bZ env d (Sv.val ⟨false,b,0,0,0,none⟩)) (own enc c ⟨false,b,0,0,0,none⟩ []::L))(hd:cL N d=true:=by rfl):
    Sq P N w0 l Q (⟨d, .buildSlice t 0 #[],ty,ps,af,none⟩::rest) env L:=
  mE rfl hd fun a w _ hw=>by
    refine⟨_,_,_,?_,hw.call (wv (enc:=enc) (c:=c) (xs:=[]) (cs:= #[]) (e:=e) rfl 0 0 rfl (anm _) (anH _) (by simp) (by simp)),hk _⟩;simp only[execOp,Sem.run_bind,List.map_toArray,aou,S2 ht w,Result.andThen,Sem.run_pure];rfl
end
instance:Deep UInt8:=Deep.flat aP 1
instance:fw UInt8 aP 1:=⟨rfl,fun _=>rfl⟩
def bQ{τ:Type}(a:Sl τ):Array Value:= #[a.sv.val]
instance {τ:Type}:bo (bQ (τ:=τ)) 1:=⟨fun _=>rfl,fun a=>bo.one (enc:=rj) (c:=1) a.sv⟩
instance {τ:Type}[Deep τ]:fw (Sl τ) bQ 1:=⟨rfl,fun _=>rfl⟩
instance {τ:Type}(a:Sl τ):bT (bQ a) 0 a.sv.val:=⟨rfl⟩
def lx{τ:Type}(a:Sl (Sl τ)):List (List τ):=a.xs.map (·.xs)
theorem wB{τ:Type}(a:Sl (Sl τ)):(lx a).length=a.xs.length:=by simp[lx]
section
variable {L L' L1 L2 R R1 R2:List ai} {τ:Type}
def Tr(L L':List ai):Prop:= ∀(K:List ai) (w0 w:World),Mem w0 (L++K) w->Mem w0 (L'++K) w
theorem Tr.mem(h:Tr L L'){w0 w:World}(hw:Mem w0 L w):Mem w0 L' w:=by
  have:=h [] w0 w (by simpa using hw);simpa using this
theorem Tr.refl:Tr L L:=fun _ _ _ h=>h
theorem Tr.trans(h:Tr L L1)(h':Tr L1 L2):Tr L L2:=fun K w0 w hw=>h' K w0 w (h K w0 w hw)
theorem Tr.perm(h:L.Perm L'):Tr L L':=fun K _ _ hw=>Mem.perm hw (h.append_right K)
theorem Tr.left(h:Tr L L')(X:List ai):Tr (X++L) (X++L'):=fun K w0 w hw=>by
  have p: ∀Y:List ai,(X++Y++K).Perm (Y++(X++K)):=fun Y=>by
    rw[anv,←anv Y];refine(List.perm_append_comm_assoc X Y K).trans ?_;rw[anv]
  exact(h (X++K) w0 w (hw.perm (p L))).perm (p L').symm
theorem Tr.right(h:Tr L L')(X:List ai):Tr (L++X) (L'++X):=fun K w0 w hw=>by
  rw[anv]at hw⊢;exact h (X++K) w0 w hw
theorem Tr.cons(h:Tr L L')(x:ai):Tr (x::L) (x::L'):=h.left [x]
theorem Tr.sub(h:L'.Sublist L):Tr L L':=fun K _ _ hw=>Mem.sub hw (h.append (.refl K))
theorem Tr.front{e:ai}{i:Nat}(hi:L[i]? =some e):Tr L (e::L.eraseIdx i):= .perm (lU hi)
theorem Tr.back{e:ai}{i:Nat}(hi:L[i]? =some e):Tr (e::L.eraseIdx i) L:= .perm (lU hi).symm
theorem Tr.emp:Tr (.emp::L) L:=fun _ _ _ hw=>Mem.As.1 hw
theorem Tr.KX:Tr L (.emp::L):=fun _ _ _ hw=>Mem.As.2 hw
theorem Tr.two{a b:ai}:Tr (.two a b::L) (a::b::L):=fun _ _ _ hw=>Mem.wz.1 hw
theorem Tr.CL[d:Deep τ]{a:Sl τ}:Tr (Deep.bU a::L) (own (Deep.cells (τ:=τ)) (Deep.c τ) a.sv a.xs::a.xs.map d.bU++L):=fun K w0 w hw=>by
  have:=Mem.CL.1 hw;simpa using this
theorem Tr.S3[d:Deep τ]{a:Sl τ}:Tr (own (Deep.cells (τ:=τ)) (Deep.c τ) a.sv a.xs::a.xs.map d.bU++L) (Deep.bU a::L):=fun K w0 w hw=>by
  refine Mem.CL.2 ?_;simpa using hw
class Plain(τ:Type)[Deep τ]:Prop where
  h: ∀x:τ,Deep.bU x= .emp
theorem Tr.plain[Deep τ][p:Plain τ]: ∀{xs:List τ},Tr (xs.map Deep.bU++L) L
  |[]=> .refl
  |x::xs=>by
   rw[anX,p.h];exact Tr.emp.trans Tr.plain
theorem Tr.KY[Deep τ][p:Plain τ]: ∀{xs:List τ},Tr L (xs.map Deep.bU++L)
  |[]=> .refl
  |x::xs=>by
   rw[anX,p.h];exact(Tr.KY (xs:=xs)).trans Tr.KX
theorem KZ[Deep τ]{enc:τ->Array Value}{c:Nat}[f:fw τ enc c](s:Sv)(xs:List τ):own (Deep.cells (τ:=τ)) (Deep.c τ) s xs=own enc c s xs:=by
  have e:Deep.cells (τ:=τ)=enc:=funext f.h;rw[e,f.hc]
theorem Tr.Gp[d:Deep τ]{enc:τ->Array Value}{c:Nat}[f:fw τ enc c]{a:Sl τ}:Tr (Deep.bU a::L) (own enc c a.sv a.xs::(a.xs.map d.bU++L)):=by
  rw[←KZ];exact Tr.CL
theorem Tr.Aw[d:Deep τ]{enc:τ->Array Value}{c:Nat}[f:fw τ enc c]{a:Sl τ}:Tr (own enc c a.sv a.xs::(a.xs.map d.bU++L)) (Deep.bU a::L):=by
  rw[←KZ];exact Tr.S3
theorem Tr.S4[d:Deep τ]{enc:τ->Array Value}{c:Nat}[f:fw τ enc c][Plain τ]{a:Sl τ}:Tr (Deep.bU a::L) (own enc c a.sv a.xs::L):=Tr.Gp.trans (Tr.plain.cons _)
theorem Tr.CO[d:Deep τ]{enc:τ->Array Value}{c:Nat}[f:fw τ enc c][Plain τ]{a:Sl τ}:Tr (own enc c a.sv a.xs::L) (Deep.bU a::L):=(Tr.KY.cons _).trans Tr.Aw
theorem K0{α β:Type}(f:α->β){xs:List α}{i:Nat}{x:α}(hx:xs[i]? =some x):(xs.map f).Perm (f x::(xs.eraseIdx i).map f):=by
  have h1:=(K1 hx).map f;exact h1
where K1 {α:Type}: ∀{L:List α} {i:Nat} {e:α},L[i]? =some e->L.Perm (e::L.eraseIdx i)
  |[],i,e,h=>by simp at h
  |x::L,0,e,h=>by obtain rfl:x=e:=by simpa using h
                  simp
  |x::L,i+1,e,h=>by
   have:=K1 (L:=L) (i:=i) (e:=e) (by simpa using h);rw[apO];exact(this.cons x).trans (.swap _ _ _)
theorem Tr.pick[d:Deep τ]{enc:τ→Array Value}{c:Nat}[f:fw τ enc c]{a:Sl τ}{i:Nat}{x:τ}(hx:a.xs[i]? =some x):
    Tr (Deep.bU a::L) (own enc c a.sv a.xs::Deep.bU x::((a.xs.eraseIdx i).map d.bU++L)):=
  Tr.Gp.trans (Tr.cons (Tr.right (Tr.perm (K0 d.bU hx)) L) _)
theorem K2{α:Type}: ∀(xs:List α) (i:Nat) (y:α),(xs.set i y).eraseIdx i=xs.eraseIdx i
  |[],_,_=>by simp
  |_::_,0,_=>by simp
  |_::xs,i+1,y=>by simp[K2 xs i y]
theorem Tr.lay[d:Deep τ]{enc:τ→Array Value}{c:Nat}[f:fw τ enc c]{s:Sv}{xs:List τ}{i:Nat}{y:τ}(hi:i<xs.length):
    Tr (own enc c s (xs.set i y)::Deep.bU y::((xs.eraseIdx i).map d.bU++L)) (Deep.bU (⟨s,xs.set i y⟩:Sl τ)::L):=by
  have hy:(xs.set i y)[i]? =some y:=by simp[hi]
  have:=(K0 d.bU hy).symm;rw[K2]at this;exact(Tr.cons (Tr.right (Tr.perm this) L) _).trans (Tr.Aw (a:=⟨s,xs.set i y⟩))
class Take(L:List ai){τ:Type}[Deep τ](x:τ)(R:outParam (List ai)):Prop where
  h:Tr L (Deep.bU x::R)
class ym(L:List ai){τ:Type}[Deep τ](xs:List τ)(R:outParam (List ai)):Prop where
  h:Tr L (xs.map Deep.bU++R)
instance (priority:=high) Take.at [Deep τ]{x:τ}{i:Nat}[a:At L (Deep.bU x) i][d:cI L i R]:Take L x R:=⟨by
  have:=Tr.front a.h;rwa [d.h]at this⟩
instance (priority:=low) Take.plain [Deep τ][p:Plain τ]{x:τ}:Take L x L:=⟨by rw[p.h];exact Tr.KX⟩
instance Take.own[Deep τ][p:Plain τ]{enc:τ->Array Value}{c:Nat}[f:fw τ enc c]{s:Sv}{xs:List τ}{i:Nat}[a:At L (own enc c s xs) i][d:cI L i R]:Take L (⟨s,xs⟩:Sl τ) R:=⟨by
  have:=Tr.front a.h;rw[d.h]at this;exact this.trans (Tr.CO (a:=⟨s,xs⟩))⟩
instance ym.nil[Deep τ]:ym L ([]:List τ) L:=⟨.refl⟩
instance ym.cons[Deep τ]{x:τ}{xs:List τ}[a:Take L x R1][b:ym R1 xs R2]:ym L (x::xs) R2:=⟨a.h.trans (b.h.cons _)⟩
instance:Plain UInt8:=⟨fun _=>rfl⟩
end
section
variable {P:Program} {N:bO} {w0:World} {env:Env} {L R R1 R2:List ai} {l:List Oper} {Q:Exit->Act->World->Prop} {rest:List Oper} {d:Option Tmp} {ty:TypeId} {ps:String} {af:Array Edge}
variable {τ:Type} [dp:Deep τ] {enc:τ->Array Value} {c:Nat}
theorem S5{α:Type}{enc:α→Array Value}{c:Nat}{s:Sv}{xs ys:List α}{t tx e:TypeId}{x y:Operand}{yv:Value}{ct:Nat}[ht:eF P t e c ct][he:bo enc c](R:List ai)(hx:ev env x=some s.val)(hy:ev env y=some yv)
    (ho: ∀w,Mem w0 L w->Mem w0 (own enc c s xs::R) w) (hc:0<c) (hs: ∀w,Mem w0 L w->Src P c tx yv ys.length (aI enc ys) w) (hb:(xs.length+ys.length)*ct<=140737488355328) (iG:xs.length+ys.length<=140737488355328)
    (hk: ∀s':Sv,Sq P N w0 l Q rest (bZ env d s'.val) (own enc c s' (xs++ys)::R)) (hd:cL N d=true:=by rfl):
    Sq P N w0 l Q (⟨d, .call {callee:= .builtin .append,args:= #[x,y],argTypes:= #[t,tx]},ty,ps,af,none⟩::rest) env L:=
  mE rfl hd fun a w ha hw=>by
    obtain⟨s',w',h1,h2,h3,h4⟩:=F8 (i:=0) (ty:=ty) ht hc (ho w hw) rfl (hs w hw) hb iG;refine⟨s'.val,w',_,?_,by simpa using h4,hk s'⟩;simp[execOp,ha.ev hx,ha.ev hy,resolve,invoke,builtin,h1,Result.andThen]
theorem S6{s:Sv}{t tx e e':TypeId}{x y:Operand}{ct m:Nat}[f:fw τ enc c][ht:eF P t e c ct][S7:ez P tx e' m][he:bo enc c](a:Sl τ)(ys:List τ)(hx:ev env x=some a.sv.val)(hy:ev env y=some s.val)[q:Hd w0 L s enc c ys]
    [k1:Take L a R1] [k2:ym R1 ys R2] (hc:0<c) (hb:(a.xs.length+ys.length)*ct<=140737488355328) (iG:a.xs.length+ys.length<=140737488355328)
    (hk: ∀a':Sl τ,a'.xs=a.xs++ys->Sq P N w0 l Q rest (bZ env d a'.sv.val) (Deep.bU a'::R2)) (hd:cL N d=true:=by rfl):
    Sq P N w0 l Q (⟨d, .call {callee:= .builtin .append,args:= #[x,y],argTypes:= #[t,tx]},ty,ps,af,none⟩::rest) env L:=
  S5 (enc:=enc) (c:=c) (xs:=a.xs) (ys:=ys) (a.xs.map dp.bU++(ys.map dp.bU++R2)) hx hy (fun w hw=>((k1.h.trans (k2.h.cons _)).trans Tr.Gp).mem hw) hc (fun w hw=>gF S7.dU hc (q.h w hw)) hb iG
    (fun s' aa w ha hw=>hk ⟨s',a.xs++ys⟩ rfl aa w ha (by
      have t1:Tr (own enc c s' (a.xs++ys)::(a.xs.map dp.bU++(ys.map dp.bU++R2))) (Deep.bU (⟨s',a.xs++ys⟩:Sl τ)::R2):=by
        have:=Tr.Aw (enc:=enc) (c:=c) (a:=(⟨s',a.xs++ys⟩:Sl τ)) (L:=R2);simpa using this
      exact t1.mem hw)) hd
theorem Mem.yn{w:World}[f:fw τ enc c](h:Mem w0 L w):Mem w0 (Deep.bU (⟨Sv.none,[]⟩:Sl τ)::L) w:=
  (Tr.Aw (enc:=enc) (c:=c) (a:=(⟨Sv.none,[]⟩:Sl τ)) (L:=L)).mem (by simpa using h.cz enc c)
def rl{τ:Type}(s:Sl (Sl τ))(i:Nat):Sl τ:=s.xs.getD i ⟨Sv.none,[]⟩
theorem CP{τ:Type}{s:Sl (Sl τ)}{i:Nat}{x:Sl τ}(h:s.xs[i]? =some x):rl s i=x:=by simp[rl,h]
theorem CQ{τ:Type}{s:Sl (Sl τ)}{i:Nat}(h:s.xs.length<=i):rl s i=⟨Sv.none,[]⟩:=by simp[rl,h]
theorem Ax{τ:Type}(s:Sl (Sl τ))(i:Nat):(rl s i).xs=(lx s).getD i []:=by
  rcases anl i s.xs.length with h|h
  ·have:s.xs[i]? =some s.xs[i]:=by simp[h]
   simp[CP this,lx,h]
  ·rw[CQ h];simp[lx,h]
theorem wC{h:Nat->Option Obj}:Deep.dO h (⟨Sv.none,[]⟩:Sl τ):=⟨dq.nil _ _ _,fun _ hx=>by cases hx⟩
def Sl.nil{τ:Type}:Sl τ:=⟨Sv.none,[]⟩
instance aS.none:aS w0 L (Sl.nil:Sl τ):=⟨fun _ _=>wC⟩
instance aS.rl{s:Sl (Sl τ)}{i:Nat}[q:aS w0 L s]:aS w0 L (rl s i):=⟨fun w hw=>by
  rcases anl i s.xs.length with h|h
  ·have hx:s.xs[i]? =some s.xs[i]:=by simp[h]
   rw[CP hx];exact(q.h w hw).2 _ (alM hx)
  ·rw[CQ h];exact wC⟩
theorem Tr.K3{L:List ai}[f:fw τ enc c]: ∀n,Tr L ((List.replicate n (⟨Sv.none,[]⟩:Sl τ)).map Deep.bU++L)
  |0=> .refl
  |n+1=>by
   rw[apN,anX];exact(Tr.K3 n).trans fun K w0 w hw=>Mem.yn (enc:=enc) (c:=c) hw
theorem S8{t e:TypeId}{ct n cap:Nat}{x y:Operand}{k k':IntKind}{ix iy:Int}[f:fw τ enc c][ht:eF P t e 1 ct][hz:dB P e (.slice none 0 0)](hx:ev env x=some (.int k ix))(hy:ev env y=some (.int k' iy))(ex:ix=(n:Int))(ey:iy=(cap:Int))(hle:n≤cap)(hb:ct*cap≤281474976710656)(iG:cap≤140737488355328)
    (hk: ∀a:Sl (Sl τ),a.xs=List.replicate n ⟨Sv.none,[]⟩->Sq P N w0 l Q rest (bZ env d a.sv.val) (Deep.bU a::L)) (hd:cL N d=true:=by rfl):
    Sq P N w0 l Q (⟨d, .makeSlice t x y,ty,ps,af,none⟩::rest) env L:=
  ri (enc:=bQ (τ:=τ)) (n:=n) (cap:=cap) (⟨Sv.none,[]⟩:Sl τ) rfl hx hy ex ey hle hb iG (fun b a w ha hw=>hk ⟨⟨false,b,0,n,cap,none⟩,List.replicate n ⟨Sv.none,[]⟩⟩ rfl a w ha
    (((Tr.K3 (enc:=enc) (c:=c) n).cons _|>.trans (Tr.Aw (enc:=bQ) (c:=1) (a:=(⟨⟨false,b,0,n,cap,none⟩,List.replicate n ⟨Sv.none,[]⟩⟩:Sl (Sl τ))))).mem hw)) hd
end
section
variable {P:Program} {N:bO} {w0:World} {env:Env} {L:List ai} {l:List Oper} {Q:Exit->Act->World->Prop} {rest:List Oper} {d:Option Tmp} {ty:TypeId} {ps:String} {af:Array Edge}
end
theorem Sv.iz(s:Sv):s.val.cells= #[s.val]:=by unfold Sv.val;split<;>rfl
theorem Tr.S9{τ:Type}[Deep τ][Plain τ]{enc:τ→Array Value}{c:Nat}[fw τ enc c]{a:Sl (Sl τ)}{x:Sl τ}{i:Nat}{B:List ai}(hx:a.xs[i]? =some x):
    Tr (B++[Deep.bU a]) (own bQ 1 a.sv a.xs::own enc c x.sv x.xs::(B++(a.xs.eraseIdx i).map Deep.bU)):=by
  refine(Tr.perm (List.perm_append_comm (l₁:=B) (l₂:=[Deep.bU a]))).trans ?_;refine(Tr.pick (L:=B) hx).trans (Tr.cons (Tr.S4.trans (Tr.cons (Tr.perm List.perm_append_comm) _)) _)
theorem Tr.Ta{τ:Type}[Deep τ][Plain τ]{enc:τ→Array Value}{c:Nat}[fw τ enc c]{s y:Sv}{xs:List (Sl τ)}{ys:List τ}{i:Nat}{B:List ai}(hi:i<xs.length):
    Tr (own bQ 1 s (xs.set i ⟨y,ys⟩)::own enc c y ys::(B++(xs.eraseIdx i).map Deep.bU)) (Deep.bU (⟨s,xs.set i ⟨y,ys⟩⟩:Sl (Sl τ))::B):=by
  refine Tr.trans ?_ (Tr.lay (L:=B) hi);exact Tr.cons ((Tr.CO (a:=(⟨y,ys⟩:Sl τ))).trans (Tr.cons (Tr.perm List.perm_append_comm) _)) _
theorem CR{P:Program}{N:bO}{w0:World}{env:Env}{L:List ai}{l:List Oper}{Q:Exit→Act→World→Prop}{rest:List Oper}{ty:TypeId}{ps:String}{af:Array Edge}{τ:Type}{t:TypeId}{x y:Operand}{i k p:Nat}{s:Sv}{xs:List (Sl τ)}{a:Sl τ}(a':Sl τ)
    (sz:(P.info? t).map (·.size)=some 1) (hx:ev env x=some (.pointer (some ⟨s.b,p,none⟩))) (hy:ev env y=some a'.sv.val) [q:dV L s (bQ (τ:=τ)) 1 xs i] (fb:p=s.o+k*1) (ha:xs[k]? =some a) {L':List ai} [hu:eM L i (own bQ 1 s (xs.set k a')) L'] (hk:Sq P N w0 l Q rest env L'):
    Sq P N w0 l Q (⟨none, .store t x y,ty,ps,af,none⟩::rest) env L:=
  jy (j:=0) (a':=a') sz hx hy (q:=q) fb ha (by rw[Sv.iz];simp[Sv.one]) (by rw[Sv.iz];rfl) (by decide) (by rw[Sv.iz];rfl) hk
section
variable {P:Program} {N:bO} {w0:World} {env:Env} {L:List ai} {l:List Oper} {Q:Exit->Act->World->Prop} {rest:List Oper} {d:Option Tmp} {ty:TypeId} {ps:String} {af:Array Edge} {gd:Option (Nat×Bool)}
variable {fs:List Nat} {F:Act->Prop} {k:Nat}
theorem jT{o:Oper}{v:Value}{j t:Nat}{b g:Bool}(hg:o.guard=some (j,b))(hj:(l[j]?).bind (·.dst)=some t)(hv:look env t=some (.bool g))(ht:g=b)(h:Yl P N w0 env L o v)
    (hk:Sq P N w0 l Q rest (bZ env o.dst v) L) (hd:cL N o.dst=true:=by rfl):Sq P N w0 l Q (o::rest) env L:=fun a w ha hw=>by
  unfold wpList;rw[q8 ha hg hj hv,ht,beq_self_eq_true,if_pos rfl];exact .inl (yd ha hw h fun w' fB=>hk _ _ (ha.put hd v) fB)
theorem Tb{X:Type}{val:X→Value}{L':X→List ai}{pr:X→Prop}{pre:Prop}{f:FuncId}{xs:List Operand}{ts:Array TypeId}{vs:List Value}{j t:Nat}{b g:Bool}(hj:(l[j]?).bind (·.dst)=some t)(hv:look env t=some (.bool g))(ht:g=b)[hf:aD P f](hx:ff env xs=some vs)
    [hc:bK P f w0 L vs X val L' pr pre] (hp:pre) (hk: ∀x,pr x->Sq P N w0 l Q rest (bZ env d (val x)) (L' x)) (hd:cL N d=true:=by rfl):
    Sq P N w0 l Q (⟨d, .call {callee:= .value (.func f),args:=xs.toArray,argTypes:=ts},ty,ps,af,some (j,b)⟩::rest) env L:=fun a w ha hw=>by
  unfold wpList;rw[q8 ha rfl hj hv,ht,beq_self_eq_true,if_pos rfl];refine .inl ?_;unfold Oper.wp;rw[x7 hf w rfl,ha.ff hx];exact(hc.h hp w hw).mono fun e w' ⟨x,he,iw,hm⟩=>by subst he;exact hk x iw _ _ (ha.put hd _) hm
end
theorem uO{P:Program}{N:bO}{w0:World}{env:Env}{L:List ai}{d:Option Tmp}{ty:TypeId}{ps:String}{af:Array Edge}{gd:Option (Nat×Bool)}{c x y:Operand}{g:Bool}{v:Value}(hc:ev env c=some (.bool g))(ht:g=true)(hx:ev env x=some v)(hy:ev env y=some (.bool false)):
    Ry P N w0 env L ⟨d, .pick c x y,ty,ps,af,gd⟩ v:=by
  subst ht;have h:=Cy (P:=P) (N:=N) (w0:=w0) (L:=L) (d:=d) (ty:=ty) (ps:=ps) (af:=af) (gd:=gd) hc hx hy;simpa using h
theorem Tc{P:Program}{N:bO}{w0:World}{env:Env}{L:List ai}{d:Option Tmp}{ty:TypeId}{ps:String}{af:Array Edge}{gd:Option (Nat×Bool)}{c x y:Operand}{g:Bool}{v:Value}(hc:ev env c=some (.bool g))(ht:g=false)(hx:ev env x=some (.bool true))(hy:ev env y=some v):
    Ry P N w0 env L ⟨d, .pick c x y,ty,ps,af,gd⟩ v:=by
  subst ht;have h:=Cy (P:=P) (N:=N) (w0:=w0) (L:=L) (d:=d) (ty:=ty) (ps:=ps) (af:=af) (gd:=gd) hc hx hy;simpa using h
abbrev bR:=List UInt8
def dec(n:Nat):bR:=Lib.decDigits n
variable {n top:Nat} {s t:bR} {c:UInt8}
theorem uP(h:n<10):dec n=[UInt8.ofNat (48+n)]:=by rw[dec,Lib.decDigits,dif_pos h]
theorem yo(h:10<=n):dec n=dec (n/10)++[UInt8.ofNat (48+n%10)]:=by
 rw[dec,Lib.decDigits,dif_neg (by omega)];rfl
def kr(c:UInt8):Bool:=decide (48<=c.toNat/\c.toNat<=57)
def val(s:bR):Nat:=s.foldl (fun a c=>10*a+(c.toNat -48)) 0
theorem CS:val (s++[c])=10*val s+(c.toNat -48):=by simp[val,apo]
theorem Ay{d:Nat}(h:d<10):(UInt8.ofNat (48+d)).toNat=48+d:=by
 rw[UInt8.toNat_ofNat'];omega
theorem Gt: ∀n,(dec n).all kr=true:=by
 intro n
 induction n using Nat.strongRecOn with
 |_ n ih=>
  rcases anl n 10 with h|h
  ·
   rw[uP h];have:=Ay h;simp[kr,this];omega
  rw[yo h,List.all_append,ih (n/10) (by omega)];have:=Ay (aoP n (show 0<10 by decide));simp[kr,this];omega
theorem Gu: ∀n,val (dec n)=n:=by
 intro n
 induction n using Nat.strongRecOn with
 |_ n ih=>
  rcases anl n 10 with h|h
  ·
   rw[uP h];have:=Ay h;simp[val];omega
  rw[yo h,CS,ih (n/10) (by omega),Ay (aoP n (by decide))];omega
theorem K4:dec n≠[]:=by
 rcases anl n 10 with h|h
 ·
  rw[uP h];simp
 rw[yo h];simp
def CT(s:bR):Prop:=s≠[]/\(s.length<=1\/s.head?≠some 48)
theorem Td: ∀n,0<n->(dec n).head?≠some 48:=by
 intro n
 induction n using Nat.strongRecOn with
 |_ n ih=>
  intro hn;rcases anl n 10 with h|h
  ·
   rw[uP h];intro e;simp only[List.head?_cons,aoM]at e;have h2:=congrArg UInt8.toNat e;rw[Ay h]at h2;have:(48:UInt8).toNat=48:=rfl;omega
  rw[yo h,List.head?_append]
  cases hd:(dec (n/10)).head? with
  |none=>exact absurd (List.head?_eq_none_iff.1 hd) K4
  |some x=>
   have:=ih (n/10) (by omega) (by omega);rw[hd]at this;simpa using this
theorem Gw(n:Nat):CT (dec n):=by
 refine⟨K4,?_⟩;rcases aor n with rfl|h
 ·
  left;rw[uP (by decide)];simp
 exact .inr (Td n h)
theorem Te: ∀{s:bR},CT s->s.all kr=true->dec (val s)=s:=by
 intro s;have key: ∀k (s:bR),s.length=k->CT s->s.all kr=true->dec (val s)=s:=by
  intro k
  induction k with
  |zero=>intro s hl hp _;exact absurd (anB.1 hl) hp.1
  |succ k ih=>
   intro s hl hp hd;obtain⟨t,c,rfl⟩: ∃t c,s=t++[c]:=by
    rcases List.eq_nil_or_concat s with h|⟨t,c,h⟩
    ·
     exact absurd h hp.1
    exact⟨t,c,by simpa using h⟩
   rw[List.all_append,anc]at hd;have hc:48<=c.toNat/\c.toNat<=57:=by
    have:=hd.2;simpa[kr]using this
   have K5:UInt8.ofNat (48+(c.toNat -48))=c:=by
    rw[show 48+(c.toNat -48)=c.toNat by omega];exact UInt8.ofNat_toNat
   rw[CS]
   by_cases ht:t=[]
   ·
    subst ht;rw[show val []=0 from rfl,Nat.mul_zero,anG,uP (by omega),K5];rfl
   have aZ:t.length=k:=by simpa using hl
   have Tf:CT t:=by
    refine⟨ht,?_⟩;rcases hp.2 with h|h
    ·
     left;simp only[af0,ang,anh]at h;omega
    right;rw[List.head?_append]at h
    cases Cq:t.head? with
    |none=>simp
    |some x=>rw[Cq]at h;simpa using h
   have Gx:=ih t aZ Tf hd.1;have hv:0<val t:=by
    rcases aor (val t)with h0|h0
    ·
     exfalso;rw[h0,uP (by decide)]at Gx;rcases hp.2 with h|h
     ·
      simp only[af0,ang,anh]at h;have:=apd.2 ht;omega
     rw[←Gx]at h;exact h rfl
    exact h0
   rw[yo (by omega),show(10*val t+(c.toNat -48))/10=val t by omega,Gx,show(10*val t+(c.toNat -48))%10=c.toNat -48 by omega,K5]
 exact key s.length s rfl
def cB(s:bR)(top:Nat):Option Nat:=if(s≠[]/\(s.length<=1\/s.head?≠some 48)/\s.all kr=true/\val s<=top)then some (val s)else none
theorem kt:cB s top=some n↔s=dec n/\n<=top:=by
 unfold cB;constructor
 ·
  intro h;split at h
  ·
   rename_i h1;obtain⟨h2,h3,h4,h5⟩:=h1;obtain rfl:=ani h;exact⟨(Te ⟨h2,h3⟩ h4).symm,h5⟩
  cases h
 rintro⟨rfl,h⟩;obtain⟨h1,h2⟩:=Gw n;rw[if_pos ⟨h1,h2,Gt n,by rw[Gu];exact h⟩,Gu]
theorem Gy(h:n<=top):cB (dec n) top=some n:=kt.2 ⟨rfl,h⟩
theorem Tg: ∀k n,n<10^k->0<k->(dec n).length<=k:=by
 intro k
 induction k with
 |zero=>intro n _ h;omega
 |succ k ih=>
  intro n h _;rcases anl n 10 with h1|h1
  ·
   rw[uP h1];simp
  rw[yo h1,af0];have hk:0<k:=by
   rcases aor k with rfl|hk
   ·
    simp at h;omega
   exact hk
  have:=ih (n/10) (by rw[Nat.pow_succ]at h;omega) hk;simpa using this
theorem K6(h:kr c=false):c∉dec n:=fun hc=>by
 have:=anw.1 (Gt n) c hc;rw[h]at this;cases this
def cw(c:UInt8):bR->List bR
 |[]=>[[]]
 |x::s=>if x=c then[]::cw c s else match cw c s with
  |[]=>[[x]]
  |p::r=>(x::p)::r
theorem GA: ∀s,cw c s≠[]
 |[]=>by simp[cw]
 |x::s=>by
  rw[cw];split
  ·
   simp
  split<;>simp
theorem GB(h:c∉s):cw c s=[s]:=by
 induction s with
 |nil=>rfl
 |cons x s ih=>
  rw[cw,if_neg (fun e=>h (by simp[e])),ih (fun hc=>h (anI _ hc))]
theorem CU(h:c∉s):cw c (s++c::t)=s::cw c t:=by
 induction s with
 |nil=>rw[anR,cw,if_pos rfl]
 |cons x s ih=>
  rw[aoq,cw,if_neg (fun e=>h (by simp[e])),ih (fun hc=>h (anI _ hc))]
theorem yp: ∀(s:bR),(c∉s/\cw c s=[s])\/ ∃a b,s=a++c::b/\c∉a/\cw c s=a::cw c b
 |[]=> .inl ⟨by simp,rfl⟩
 |x::s=>by
  by_cases hx:x=c
  ·
   subst hx;exact .inr ⟨[],s,rfl,by simp,by rw[cw,if_pos rfl]⟩
  rcases yp s with⟨h1,h2⟩|⟨a,b,h1,h2,h3⟩
  ·
   left;have:c∉x::s:=fun h=>(ank.1 h).elim (fun e=>hx e.symm) h1;exact⟨this,GB this⟩
  right;have:c∉x::a:=fun h=>(ank.1 h).elim (fun e=>hx e.symm) h2;exact⟨x::a,b,by rw[h1];rfl,this,by rw[h1,←aoq,CU this]⟩
theorem Th{a:bR}(h:cw c s=[a]):s=a/\c∉s:=by
 rcases yp (c:=c) s with⟨h1,h2⟩|⟨x,y,h1,h2,h3⟩
 ·
  rw[h2]at h;exact⟨(ap7 h).1,h1⟩
 rw[h3]at h;exact absurd (ap7 h).2 (GA y)
theorem GC{a b:bR}{r:List bR}(h:cw c s=a::b::r): ∃u,s=a++c::u/\c∉a/\cw c u=b::r:=by
 rcases yp (c:=c) s with⟨h1,h2⟩|⟨x,y,h1,h2,h3⟩
 ·
  rw[h2]at h;cases(ap7 h).2
 rw[h3]at h;obtain⟨e1,e2⟩:=ap7 h;subst e1;exact⟨y,h1,h2,e2⟩
def Az(s:bR):Array Value:= #[.string ⟨s.toArray⟩]
instance (s:bR):bT (Az s) 0 (.string ⟨s.toArray⟩):=⟨rfl⟩
theorem yq(s:bR):(⟨s.toArray⟩:ByteArray).size=s.length:=by simp[ByteArray.size]
theorem Ti(s:bR)(i:Nat):(⟨s.toArray⟩:ByteArray)[i]? =s[i]? :=by
 by_cases h:i<s.length
 ·
  rw[ByteArray.getElem?_lt' _ _ (by rw[yq];exact h),anC h];rfl
 rw[ByteArray.getElem?_ge' _ _ (by rw[yq];exact h),ans (by omega)]
theorem Tj(s:ByteArray):s=⟨s.data.toList.toArray⟩:=by cases s;simp
theorem K7(c:UInt8): ∀s:bR,(cw c s).length<=s.length+1
 |[]=>by simp[cw]
 |x::s=>by
  have ih:=K7 c s;rw[cw];split
  ·
   simp;omega
  split
  ·
   simp
  rename_i p r h;rw[h]at ih;simp at ih⊢;omega
section
variable {P:Program} {N:bO} {w0:World} {env:Env} {L:List ai} {d:Option Tmp} {ty t u:TypeId} {ps:String} {af:Array Edge} {gd:Option (Nat×Bool)} {x y lo hi:Operand} {k k':IntKind} {a b s:bR}
theorem qh(ht:P.underlying t=some .string)(hx:ev env x=some (.string ⟨s.toArray⟩)):
  Ry P N w0 env L ⟨d, .call {callee:= .builtin .len,args:= #[x],argTypes:= #[t]},ty,ps,af,gd⟩ (.int .i64 (s.length:Nat)):=fun aa w ha _=>by
 have h:(Builtin.len_ #[t] ty #[.string ⟨s.toArray⟩]).run P w= .ok (goInt s.length) w:=by
  rw[run_len_string w t ty _ ht,yq]
 simp[execOp,ha.ev hx,resolve,invoke,builtin,h,Result.andThen,goInt]
theorem sS{j:Int}(i:Nat)(hu:P.underlying t=some .string)(hx:ev env x=some (.string ⟨s.toArray⟩))(hj:ev env y=some (.int k j))(ej:j=(i:Int))(h:i<s.length):
  Ry P N w0 env L ⟨d, .index t x y,ty,ps,af,gd⟩ (.int .u8 ((s.getD i 0).toNat:Nat)):=KC hu hx hj (by omega) (by
 subst ej;rw[Ti,aoe,anC h];simp[List.getD,h])
theorem Ry.as{o:Oper}{v v':Value}(h:Ry P N w0 env L o v)(e:v=v'):Ry P N w0 env L o v':=e▸h
theorem Tk{p:Nat}{v1 v2:Int}(hx:ev env x=some (.int .u8 v1))(hy:ev env y=some (.int k' v2))(ea:v1=p)(hp:p<16)(eb:v2=4:=by rfl):
  Ry P N w0 env L ⟨d, .binOp .shl t x y u,ty,ps,af,gd⟩ (.int .u8 ((p*16:Nat):Int)):=by
 subst ea eb;refine Ry.as (CB hx hy (by decide)) (congrArg (Value.int .u8) ?_);have e:((p:Int)*2^min (4:Int).toNat IntKind.u8.bits)=((p*16:Nat):Int):=by
  rw[show(2:Int)^min (4:Int).toNat IntKind.u8.bits=16 by decide];omega
 rw[e];exact og (by simp only[nb];omega)
theorem CW{p q:Nat}{v1 v2:Int}(hx:ev env x=some (.int k v1))(hy:ev env y=some (.int k v2))(ea:v1=p)(eb:v2=q)(h:q<=p)(h2:p<2^nb k:=by first|(simp only[nb];omega)|exact(UInt8.toNat_lt _)):
  Ry P N w0 env L ⟨d, .binOp .sub t x y u,ty,ps,af,gd⟩ (.int k ((p -q:Nat):Int)):=cQ hx hy (by
 subst ea eb;rw[kh,show(p:Int) -(q:Int)=((p -q:Nat):Int) by omega,og (by omega)])
end
variable {s a b:bR} {c:UInt8}
theorem K8(h:c∉s):Lib.index s [c]= -1:=by
 induction s with
 |nil=>rfl
 |cons x s ih=>
  have hx:x≠c:=fun e=>h (by simp[e]);have hp:([c]:bR).isPrefixOf (x::s)=false:=by
   simp only[List.isPrefixOf,Bool.and_true];simpa using fun e=>hx e.symm
  rw[Lib.index,hp,ih (fun hc=>h (anI _ hc))];rfl
theorem K9(h:c∉a):Lib.index (a++c::b) [c]=(a.length:Int):=by
 induction a with
 |nil=>
  rw[anR,Lib.index,if_pos (by simp[List.isPrefixOf])];rfl
 |cons x a ih=>
  have hx:x≠c:=fun e=>h (by simp[e]);have hp:([c]:bR).isPrefixOf (x::(a++c::b))=false:=by
   simp only[List.isPrefixOf,Bool.and_true];simpa using fun e=>hx e.symm
  rw[aoq,Lib.index,hp,ih (fun hc=>h (anI _ hc)),if_neg (by simp),if_neg (by simp only[beq_iff_eq];omega)];simp
def dF(c:UInt8)(s:bR):bR×bR×Bool:=Lib.cut s [c]
theorem Tl(h:c∉s):dF c s=(s,[],false):=by
 rw[dF,Lib.cut,K8 h,if_neg (by decide)]
theorem Tm(h:c∉a):dF c (a++c::b)=(a,b,true):=by
 rw[dF,Lib.cut,K9 h,if_pos (by omega)];simp
theorem La(c:UInt8): ∀(n:Nat) (s:ByteArray),s.size<=n->(Lib.splitB ⟨#[c]⟩ 0 (Lib.countB s ⟨#[c]⟩) s).map (·.data.toList)=cw c s.data.toList:=by
 intro n
 induction n with
 |zero=>
  intro s hs;have hz:s.data.toList=[]:=by
   apply anB.1;have:=Lib.size_eq s;omega
  have hi:Lib.indexB s ⟨#[c]⟩= -1:=by
   show Lib.index s.data.toList [c]= -1;rw[hz];rfl
  rw[Lib.splitB_miss _ _ _ _ hi,hz];simp[hz,cw]
 |succ n ih=>
  intro s hs;rcases yp (c:=c) s.data.toList with⟨h1,h2⟩|⟨a,b,h1,h2,h3⟩
  ·
   have hi:Lib.indexB s ⟨#[c]⟩= -1:=K8 h1;rw[Lib.splitB_miss _ _ _ _ hi,h2];rfl
  have hi:Lib.indexB s ⟨#[c]⟩=(a.length:Int):=by
   show Lib.index s.data.toList [c]=_;rw[h1];exact K9 h2
  have eL:(⟨#[c]⟩:ByteArray).size=1:=rfl;have hlen:s.size=a.length+(b.length+1):=by rw[Lib.size_eq,h1];simp
  rw[Lib.countB_hit s _ a.length (by rw[eL];decide) hi,Nat.add_comm 1,Lib.splitB,if_neg (by rw[hi];simp only[beq_iff_eq];omega),hi,h3];have e1:((a.length:Int)).toNat=a.length:=by omega
  rw[e1,anX];have ed: ∀x y:Nat,(s.extract x y).data.toList=(s.data.toList.drop x).take (y -x):=fun x y=>Lib.extract_data s x y;have e2:(s.extract 0 (a.length+0)).data.toList=a:=by rw[ed,h1];simp
  have e3:(s.extract (a.length+(⟨#[c]⟩:ByteArray).size) s.size).data.toList=b:=by
   rw[ed,h1,eL,hlen];simp;exact anx (by omega)
  rw[e2,ih _ (by have:=Lib.size_eq (s.extract (a.length+(⟨#[c]⟩:ByteArray).size) s.size);rw[e3]at this;omega),e3]
theorem Tn(c:UInt8)(s:ByteArray):Lib.countB s ⟨#[c]⟩+1=(cw c s.data.toList).length:=by
 rw[←La c s.size s (anm _),anJ,Lib.splitB_all _ (anm _) 0 _ s rfl]
end Go.au
namespace Go.Kb
abbrev Key:=BitVec 128
def aU(k:Key)(i:Nat):Nat:=k.toNat/2^(8*(15 -i))%2^8
theorem fE(k:Key)(i:Nat):aU k i<256:=aoP _ (by decide)
theorem To(k:Key)(i j:Nat)(hj:j<8):(aU k i).testBit j=k.toNat.testBit (8*(15 -i)+j):=by
 unfold aU;rw[Nat.testBit_mod_two_pow,apa];simp[hj,Nat.add_comm]
theorem CX(k:Key)(n:Nat)(h:n<128):k.getMsbD n=k.toNat.testBit (127 -n):=by
 simp only[BitVec.getMsbD,BitVec.getLsbD,h,decide_true,aos]
theorem mM(k:Key)(n:Nat)(h:n<128):k.getMsbD n=(aU k (n/8)).testBit (7 -n%8):=by
 rw[CX k n h,To k (n/8) (7 -n%8) (by omega)];congr 1;omega
theorem GD(k:Key)(n:Nat)(h:128<=n):k.getMsbD n=false:=by
 simp only[BitVec.getMsbD];simp;omega
theorem rn{a b:Key}(h: ∀n,n<128->a.getMsbD n=b.getMsbD n):a=b:=BitVec.eq_of_getMsbD_eq fun i hi=>h i hi
theorem Tp{x y:Nat}(hx:x<256)(hy:y<256)(h: ∀j,j<8->x.testBit j=y.testBit j):x=y:=by
 refine aoY fun j=>?_;rcases anl j 8 with hj|hj
 ·
  exact h j hj
 have hp:2^8<=2^j:=an9 (by decide) hj;rw[aoz (anW hx hp),aoz (anW hy hp)]
theorem rp{a b:Key}(h: ∀i,i<16->aU a i=aU b i):a=b:=
 rn fun n hn=>by rw[mM a n hn,mM b n hn,h (n/8) (by omega)]
theorem Tq{k:Key}{i x:Nat}(hi:i<16)(hx:x<256)(h: ∀m,m<8->k.getMsbD (8*i+m)=x.testBit (7 -m)):aU k i=x:=
 Tp (fE k i) hx fun j hj=>by
  have:=h (7 -j) (by omega);rw[mM k _ (by omega),show(8*i+(7 -j))/8=i by omega,show 7 -(8*i+(7 -j))%8=j by omega,show 7 -(7 -j)=j by omega]at this;exact this
def nI(f:Nat->Nat):Key:=BitVec.ofNat 128 ((List.range 16).foldl (fun a i=>a*2^8+f i%2^8) 0)
theorem CY(f:Nat->Nat): ∀n,(List.range n).foldl (fun a i=>a*2^8+f i%2^8) 0<2^(8*n)
 |0=>by simp
 |n+1=>by
  rw[aoV,apo];have:=CY f n;have h2:f n%2^8<2^8:=aoP _ (by decide);simp only[apS,List.foldl_nil];rw[Nat.mul_add,aoy,apU];omega
theorem Lb(f:Nat->Nat): ∀n i,i<n->(List.range n).foldl (fun a i=>a*2^8+f i%2^8) 0/2^(8*(n -1 -i))%2^8=f i%2^8
 |0,i,h=>by omega
 |n+1,i,h=>by
  rw[aoV,apo];simp only[apS,List.foldl_nil];generalize hF:(List.range n).foldl (fun a i=>a*2^8+f i%2^8) 0=F
  by_cases hi:i=n
  ·
   subst hi;rw[show i+1 -1 -i=0 by omega];simp
  have ih:=Lb f n i (by omega);rw[hF]at ih;rw[show 8*(n+1 -1 -i)=8+8*(n -1 -i) by omega,apU,←Nat.div_div_eq_div_mul];have:(F*2^8+f n%2^8)/2^8=F:=by
   have h2:f n%2^8<2^8:=aoP _ (by decide);omega
  rw[this];exact ih
theorem sU(f:Nat->Nat)(i:Nat)(h:i<16):aU (nI f) i=f i%2^8:=by
 unfold aU nI;have e:((List.range 16).foldl (fun a i=>a*2^8+f i%2^8) 0)%2^128=(List.range 16).foldl (fun a i=>a*2^8+f i%2^8) 0:=anL (CY f 16);rw[aoB,e];exact Lb f 16 i h
def wD(k:Key)(i x:Nat):Key:=nI fun j=>if j=i then x else aU k j
theorem CZ(k:Key)(i x j:Nat)(hj:j<16)(hx:x<256):aU (wD k i x) j=if j=i then x else aU k j:=by
 unfold wD;rw[sU _ j hj];split
 ·
  omega
 have:=fE k j;omega
def aY(k:Key):Array Value:=((List.range 16).map fun i=>Value.int .u8 (aU k i)).toArray
theorem fg(k:Key):(aY k).size=16:=by unfold aY;simp
theorem gU(k:Key)(i:Nat)(h:i<16):(aY k)[i]? =some (.int .u8 (aU k i)):=by unfold aY;simp[h]
theorem Lc(k:Key)(i:Nat)(h:16<=i):(aY k)[i]? =none:=by unfold aY;simp;omega
theorem GF{A:Array Value}{k:Key}(hs:A.size=16)(h: ∀i,i<16->A[i]? =some (.int .u8 (aU k i))):A=aY k:=by
 apply aoG;intro i;rcases anl i 16 with hi|hi
 ·
  rw[h i hi,gU k i hi]
 rw[Lc k i hi];simp;omega
theorem Ld(k:Key)(i x:Nat)(hi:i<16)(hx:x<256):(aY k).setIfInBounds i (.int .u8 x)=aY (wD k i x):=by
 refine GF (by simp[fg]) fun j hj=>?_;rw[anY,CZ k i x j hj hx]
 by_cases h:i=j
 ·
  subst h;simp[fg,hi]
 rw[if_neg h,if_neg (fun e=>h e.symm),gU k j hj]
theorem Le{a b:Key}(h:aY a=aY b):a=b:=rp fun i hi=>by
 have h1:=gU a i hi;rw[h,gU b i hi]at h1;simp at h1;omega
def bA(k:Key)(n:Int):Key:=if n<1 then 0#128 else(k>>>(128 -n.toNat))<<<(128 -n.toNat)
theorem mN(k:Key)(n:Int)(i:Nat):(bA k n).getMsbD i=(decide ((i:Int)<n)&&k.getMsbD i):=by
 unfold bA;split
 ·
  have: ¬((i:Int)<n):=by omega
  simp[this]
 rcases anl i 128 with hi|hi
 ·
  rw[BitVec.getMsbD_shiftLeft,BitVec.getMsbD_ushiftRight]
  by_cases hn:(i:Int)<n
  ·
   have h1:i+(128 -n.toNat)<128:=by omega
   have h2:i+(128 -n.toNat) -(128 -n.toNat)=i:=by omega
   simp[hn,h1,h2]
  have h1: ¬i+(128 -n.toNat)<128:=by omega
  simp[hn,h1]
 rw[GD _ _ hi,GD _ _ hi];simp
theorem Lf(k:Key)(n:Int)(h:128<=n):bA k n=k:=rn fun i hi=>by
 rw[mN];have:(i:Int)<n:=by omega
 simp[this]
theorem AA(k:Key)(n:Int)(h:n<1):bA k n=0#128:=by unfold bA;rw[if_pos h]
theorem C0(k:Key)(n m:Int):bA (bA k n) m=bA k (min n m):=rn fun i _=>by
 rw[mN,mN,mN,←Bool.and_assoc];congr 1;rw[←Bool.decide_and,decide_eq_decide];omega
theorem Ts(k q:Key)(n:Int):bA k n=bA q n↔ ∀i:Nat,i<128->(i:Int)<n->k.getMsbD i=q.getMsbD i:=by
 constructor
 ·
  intro h i _ hn;have h1:=congrArg (·.getMsbD i) h;simpa[mN,hn]using h1
 intro h;refine rn fun i hi=>?_;rw[mN,mN]
 by_cases hn:(i:Int)<n
 ·
  simp[hn,h i hi hn]
 simp[hn]
theorem wE(k:Key)(n:Int):bA k n=k↔ ∀i:Nat,i<128->n<=(i:Int)->k.getMsbD i=false:=by
 constructor
 ·
  intro h i hi hn;rw[←h,mN];have: ¬(i:Int)<n:=by omega
  simp[this]
 intro h;refine rn fun i hi=>?_;rw[mN]
 by_cases hn:(i:Int)<n
 ·
  simp[hn]
 rw[h i hi (by omega)];simp
theorem AB(k:Key)(n:Nat)(i:Nat)(hi:i<16):aU (bA k n) i=if 8*i+8<=n then aU k i else if 8*i<=n then aU k i/2^(8 -(n -8*i))*2^(8 -(n -8*i))else 0:=by
 have hb:=fE k i;have aZ:(if 8*i+8<=n then aU k i else if 8*i<=n then aU k i/2^(8 -(n -8*i))*2^(8 -(n -8*i))else 0)<256:=by
  split
  ·
   exact hb
  split
  ·
   exact ao6 (Nat.div_mul_le_self _ _) hb
  omega
 refine Tq hi aZ fun m hm=>?_;rw[mN,mM k _ (by omega),show(8*i+m)/8=i by omega,show 7 -(8*i+m)%8=7 -m by omega];split
 ·
  have:((8*i+m:Nat):Int)<(n:Int):=by omega
  simp only[this,decide_true,aos]
 split
 ·
  generalize ht:8 -(n -8*i)=t;rw[Nat.testBit_mul_two_pow,apa]
  by_cases aZ:((8*i+m:Nat):Int)<(n:Int)
  ·
   have h1:t<=7 -m:=by omega
   simp only[aZ,h1,decide_true,aos];rw[show 7 -m -t+t=7 -m by omega]
  have h1: ¬t<=7 -m:=by omega
  simp only[aZ,h1,decide_false,ao9]
 have: ¬((8*i+m:Nat):Int)<(n:Int):=by omega
 simp only[this,decide_false,ao9,Nat.zero_testBit]
def pz(k:Key)(n:Int):Int:=if 0<=n/\n<128 then(if k.getMsbD n.toNat then 1 else 0)else 0
theorem Tt(x j:Nat):((x/2^j%2:Nat):Int)=if x.testBit j then 1 else 0:=by
 rw[Nat.testBit_eq_decide_div_mod_eq]
 by_cases h:x/2^j%2=1
 ·
  simp[h]
 have:x/2^j%2=0:=by omega
 simp[this]
theorem Tu(k:Key)(n:Int)(h0:0<=n)(h1:n<128):pz k n=((aU k (n/8).toNat/2^(7 -n%8).toNat%2:Nat):Int):=by
 unfold pz;rw[if_pos ⟨h0,h1⟩,Tt,mM k n.toNat (by omega)];rw[show(n/8).toNat=n.toNat/8 by omega,show(7 -n%8).toNat=7 -n.toNat%8 by omega]
theorem uQ(k:Key)(n:Int):0<=pz k n/\pz k n<=1:=by unfold pz;split<;>(try split)<;>omega
theorem C1(k:Key)(n:Nat):pz k n=if k.getMsbD n then 1 else 0:=by
 unfold pz;rcases anl n 128 with h|h
 ·
  rw[if_pos (by omega)];simp
 rw[if_neg (by omega),GD k n h];simp
def uR(a b:Key):Int:=(((List.range 128).find? fun n=>a.getMsbD n !=b.getMsbD n).getD 128:Nat)
theorem Lg(a b:Key): ∃m:Nat,uR a b=m/\m<=128/\(∀n,n<m->a.getMsbD n=b.getMsbD n)/\(m<128->a.getMsbD m≠b.getMsbD m):=by
 unfold uR
 cases h:(List.range 128).find? fun n=>a.getMsbD n !=b.getMsbD n with
 |none=>
  refine⟨128,rfl,anm _,fun n hn=>?_,fun h=>absurd h (by omega)⟩;have:=aph.1 h n (an5.2 hn);simpa using this
 |some m=>
  obtain⟨h1,C2,bs,h2,h3⟩:=List.find?_eq_some_iff_append.1 h;have hm:C2.length=m:=by
   have h4:=congrArg (·[C2.length]?) h2;simp at h4;have hl:C2.length<128:=by
    have:=congrArg List.length h2;simp at this;omega
   rw[aoK hl]at h4;simpa using h4
  have aZ:m<128:=by
   have:=congrArg List.length h2;simp at this;omega
  refine⟨m,rfl,by omega,fun n hn=>?_,fun _=>by simpa using h1⟩;have h4:C2[n]? =some n:=by
   have h5:=congrArg (·[n]?) h2;simp only[aoK (show n<128 by omega)]at h5;rw[ann (by omega)]at h5;exact h5.symm
  have:=h3 n (alM h4);simpa using this
theorem Lh{a b:Key}{m:Nat}(h0:m<=128)(h1: ∀n,n<m->a.getMsbD n=b.getMsbD n)(h2:m<128->a.getMsbD m≠b.getMsbD m):uR a b=m:=by
 obtain⟨q,e,q0,q1,q2⟩:=Lg a b;rw[e];rcases apb q m with h|h|h
 ·
  exact absurd (h1 q h) (q2 (by omega))
 ·
  omega
 exact absurd (q1 m h) (h2 (by omega))
theorem Tw{a b:Key}{n:Int}(hn:n<=128):n<=uR a b↔bA a n=bA b n:=by
 obtain⟨q,e,q0,q1,q2⟩:=Lg a b;rw[e,Ts];constructor
 ·
  intro h i _ iF;exact q1 i (by omega)
 intro h
 by_cases hq:n<=(q:Int)
 ·
  exact hq
 exact absurd (h q (by omega) (by omega)) (q2 (by omega))
def len8(x:Nat):Nat:=if x=0 then 0 else x.log2+1
theorem C3(x:Nat)(h:x<256):len8 x<=8:=by
 unfold len8;split
 ·
  omega
 rename_i h0;have:=(Nat.log2_lt h0 (k:=8)).2 h;omega
theorem Tx(x:Nat)(h0:x≠0)(h:x<256):x.testBit (7 -(8 -len8 x))=true/\ ∀m,m<8 -len8 x->x.testBit (7 -m)=false:=by
 have h8:len8 x=x.log2+1:=by unfold len8;rw[if_neg h0]
 have hl:x.log2<8:=(Nat.log2_lt h0).2 h;refine⟨?_,fun m hm=>?_⟩
 ·
  rw[h8,show 7 -(8 -(x.log2+1))=x.log2 by omega];exact Nat.testBit_log2 h0
 refine aoz ?_;exact(Nat.log2_lt h0).1 (by omega)
theorem Ty{a b:Key}{i:Nat}(hi:i<16)(hs: ∀j,j<i->aU a j=aU b j)(hd:aU a i≠aU b i):uR a b=8*i+(8 -len8 (aU a i^^^aU b i)):=by
 have ha:=fE a i;have hb:=fE b i;have hx:aU a i^^^aU b i<256:=ao5 (n:=8) ha hb;have h0:aU a i^^^aU b i≠0:=fun e=>hd (aoY fun j=>by
  have:=congrArg (·.testBit j) e;simp[Nat.testBit_xor]at this;exact this)
 obtain⟨h1,h2⟩:=Tx _ h0 hx;have hl:len8 (aU a i^^^aU b i)<=8:=C3 _ hx;have Li:1<=len8 (aU a i^^^aU b i):=by unfold len8;rw[if_neg h0];omega
 generalize hL:len8 (aU a i^^^aU b i)=L at*;have:=Lh (a:=a) (b:=b) (m:=8*i+(8 -L)) (by omega) (fun n hn=>?_) (fun _=>?_)
 ·
  rw[this];omega
 ·
  rw[mM a n (by omega),mM b n (by omega)]
  by_cases Lj:n/8=i
  ·
   have h3:=h2 (n%8) (by omega);rw[Nat.testBit_xor]at h3;rw[Lj];simpa using h3
  rw[hs (n/8) (by omega)]
 rw[mM a _ (by omega),mM b _ (by omega),show(8*i+(8 -L))/8=i by omega,show(8*i+(8 -L))%8=8 -L by omega];rw[Nat.testBit_xor]at h1;simpa using h1
theorem Tz{a b:Key}(hs: ∀j,j<16->aU a j=aU b j):uR a b=128:=by
 rw[rp hs];exact Lh (m:=128) (by omega) (fun _ _=>rfl) (fun h=>absurd h (by omega))
def hO(k:Key)(n:Int):Int:=if 0<=n/\n<32 then 8*pz k (4*n)+4*pz k (4*n+1)+2*pz k (4*n+2)+pz k (4*n+3)else 0
theorem TA(k:Key)(n:Int)(h:n<0\/32<=n):hO k n=0:=by unfold hO;rw[if_neg (by omega)]
theorem uS(k:Key)(i j:Nat)(hi:i<16)(hj:j<8):pz k ((8*i+j:Nat):Int)=((aU k i/2^(7 -j)%2:Nat):Int):=by
 rw[Tu k _ (by omega) (by omega)];rw[show(((8*i+j:Nat):Int)/8).toNat=i by omega,show(7 -((8*i+j:Nat):Int)%8).toNat=7 -j by omega]
theorem TB(b:Nat)(h:b<256):8*(b/2^7%2)+4*(b/2^6%2)+2*(b/2^5%2)+b/2^4%2=b/2^4:=by
 simp only[Nat.reducePow];omega
theorem TC(b:Nat):8*(b/2^3%2)+4*(b/2^2%2)+2*(b/2^1%2)+b/2^0%2=b%16:=by
 simp only[Nat.reducePow];omega
theorem TD(k:Key)(n:Int)(h0:0<=n)(h1:n<32)(he:n%2=0):hO k n=((aU k (n/2).toNat/2^4:Nat):Int):=by
 unfold hO;rw[if_pos ⟨h0,h1⟩];generalize hi:(n/2).toNat=i;have e0:4*n=((8*i+0:Nat):Int):=by omega
 have e1:4*n+1=((8*i+1:Nat):Int):=by omega
 have e2:4*n+2=((8*i+2:Nat):Int):=by omega
 have e3:4*n+3=((8*i+3:Nat):Int):=by omega
 rw[e1,e2,e3,e0,uS k i 0 (by omega) (by omega),uS k i 1 (by omega) (by omega),uS k i 2 (by omega) (by omega),uS k i 3 (by omega) (by omega)];have:=TB (aU k i) (fE k i);simp only[Nat.reduceSub]at*;omega
theorem TE(k:Key)(n:Int)(h0:0<=n)(h1:n<32)(he:n%2=1):hO k n=((aU k (n/2).toNat%16:Nat):Int):=by
 unfold hO;rw[if_pos ⟨h0,h1⟩];generalize hi:(n/2).toNat=i;have e0:4*n=((8*i+4:Nat):Int):=by omega
 have e1:4*n+1=((8*i+5:Nat):Int):=by omega
 have e2:4*n+2=((8*i+6:Nat):Int):=by omega
 have e3:4*n+3=((8*i+7:Nat):Int):=by omega
 rw[e1,e2,e3,e0,uS k i 4 (by omega) (by omega),uS k i 5 (by omega) (by omega),uS k i 6 (by omega) (by omega),uS k i 7 (by omega) (by omega)];have:=TC (aU k i);simp only[Nat.reduceSub]at*;omega
structure aJ where
 bits:Int
 len:Int
 key:Key
 deriving DecidableEq
def bg(p:aJ):Bool:=decide (p.bits=32\/p.bits=128)&&decide (0<=p.len)&&decide (p.len<=p.bits)&&decide (bA p.key p.len=p.key)
theorem dW(p:aJ):bg p=true↔(p.bits=32\/p.bits=128)/\0<=p.len/\p.len<=p.bits/\bA p.key p.len=p.key:=by
 unfold bg;simp[and_assoc]
def lu(p:aJ)(k:Key):Bool:=bg p&&decide (bA k p.bits=k)&&decide (bA k p.len=p.key)
def iX(p q:aJ):Bool:=bg p&&bg q&&decide (p.bits=q.bits)&&decide (p.len<=q.len)&&decide (bA q.key p.len=p.key)
def dr(p q:aJ):Bool:=bg p&&bg q&&(if p.bits≠q.bits then decide (p.bits=32)else if p.key≠q.key then decide (p.key.toNat<q.key.toNat)else decide (p.len<q.len))
def aT(p:aJ):Array Value:= #[.int .i64 p.bits, .int .i64 p.len]++aY p.key
theorem ku(p:aJ):(aT p).size=18:=by unfold aT;rw[apF,fg];rfl
theorem wF(p:aJ):(aT p)[0]? =some (.int .i64 p.bits):=by unfold aT;rw[Array.getElem?_append];rfl
theorem wG(p:aJ):(aT p)[1]? =some (.int .i64 p.len):=by unfold aT;rw[Array.getElem?_append];rfl
theorem pA(p:aJ)(j:Nat):(aT p)[2+j]? =(aY p.key)[j]? :=by
 unfold aT;rw[Array.getElem?_append,if_neg (by simp)];congr 1;simp
theorem Lk{a b:aJ}(h:aT a=aT b):a=b:=by
 have h0:=wF a;rw[h,wF]at h0;have h1:=wG a;rw[h,wG]at h1;have h2:a.key=b.key:=Le (aoG fun i=>by rw[←pA,←pA,h])
 cases a;cases b
 simp at h0 h1 h2⊢;exact⟨h0.symm,h1.symm,h2⟩
theorem Ll(k:Key):nI (aU k)=k:=rp fun i hi=>by
 rw[sU _ i hi];have:=fE k i;omega
theorem Lm{a b:Key}{i:Nat}(hi:i<16)(hs: ∀j,j<i->aU a j=aU b j)(hd:aU a i<aU b i):a.toNat<b.toNat:=by
 have key: ∀n,n<=16->i<n->(List.range n).foldl (fun x j=>x*2^8+aU a j%2^8) 0<(List.range n).foldl (fun x j=>x*2^8+aU b j%2^8) 0:=by
  intro n
  induction n with
  |zero=>intro _ h;omega
  |succ n ih=>
   intro hn iF;rw[aoV,apo,apo];simp only[apS,List.foldl_nil];have ha:=fE a n;have hb:=fE b n
   by_cases h:i=n
   ·
    subst h;have e:(List.range i).foldl (fun x j=>x*2^8+aU a j%2^8) 0=(List.range i).foldl (fun x j=>x*2^8+aU b j%2^8) 0:=by
     have aux: ∀(l:List Nat) (z:Nat),(∀j∈l,aU a j=aU b j)->l.foldl (fun x j=>x*2^8+aU a j%2^8) z=l.foldl (fun x j=>x*2^8+aU b j%2^8) z:=by
      intro l
      induction l with
      |nil=>intro z _;rfl
      |cons x l ih=>intro z hl;simp only[apS];rw[hl x (by simp)];exact ih _ fun j hj=>hl j (by simp[hj])
     exact aux _ _ fun j hj=>hs j (an5.1 hj)
    rw[e];omega
   have:=ih (by omega) (by omega);omega
 have Lo:=key 16 (anm _) hi;have ea:a.toNat=(List.range 16).foldl (fun x j=>x*2^8+aU a j%2^8) 0:=by
  conv=>lhs;rw[←Ll a]
  unfold nI;rw[aoB];exact anL (CY (aU a) 16)
 have eb:b.toNat=(List.range 16).foldl (fun x j=>x*2^8+aU b j%2^8) 0:=by
  conv=>lhs;rw[←Ll b]
  unfold nI;rw[aoB];exact anL (CY (aU b) 16)
 rw[ea,eb];exact Lo
def lv(a b:Key):Int:=if a.toNat<b.toNat then -1 else if b.toNat<a.toNat then 1 else 0
theorem Lp(a b:Key):lv a b=0↔a=b:=by
 unfold lv;constructor
 ·
  intro h;split at h
  ·
   omega
  split at h
  ·
   omega
  exact ao3 (by omega)
 rintro rfl;simp
theorem C4(a b:Key):lv a b<0↔a.toNat<b.toNat:=by
 unfold lv;split
 ·
  simp[*]
 split<;>simp[*]
theorem kv(p:aJ)(k:Key):lu p k=true↔bg p=true/\bA k p.bits=k/\bA k p.len=p.key:=by
 unfold lu;simp[and_assoc]
theorem oz(p q:aJ):iX p q=true↔bg p=true/\bg q=true/\p.bits=q.bits/\p.len<=q.len/\bA q.key p.len=p.key:=by
 unfold iX;simp[and_assoc]
theorem C5(p:aJ):bg p=true↔(p.bits=32\/p.bits=128)/\0<=p.len/\p.len<=p.bits/\ ∀i:Nat,i<128->p.len<=(i:Int)->p.key.getMsbD i=false:=by
 rw[dW,wE]
theorem Lr{p q:aJ}{k:Key}(h:iX p q=true)(hq:lu q k=true):lu p k=true:=by
 obtain⟨h1,h2,h3,h4,h5⟩:=(oz p q).1 h;obtain⟨_,q2,q3⟩:=(kv q k).1 hq;refine(kv p k).2 ⟨h1,by rw[h3];exact q2,?_⟩;rw[←h5,←q3,C0];congr 1;omega
theorem mO{p q:aJ}(hp:bg p=true)(hq:bg q=true):dr p q=true↔p.bits<q.bits\/(p.bits=q.bits/\(p.key.toNat<q.key.toNat\/(p.key.toNat=q.key.toNat/\p.len<q.len))):=by
 obtain⟨p1,_⟩:=(dW p).1 hp;obtain⟨q1,_⟩:=(dW q).1 hq;have ek:p.key=q.key↔p.key.toNat=q.key.toNat:=⟨fun h=>by rw[h],ao3⟩;unfold dr;rw[hp,hq,aos,aos]
 by_cases hb:p.bits=q.bits
 ·
  rw[if_neg (by simpa using hb)]
  by_cases hk:p.key=q.key
  ·
   rw[if_neg (by simpa using hk)];rw[ek]at hk;simp;omega
  rw[if_pos hk];rw[ek]at hk;simp;omega
 rw[if_pos hb];simp;omega
theorem TF{p q:aJ}:p=q↔p.bits=q.bits/\p.key.toNat=q.key.toNat/\p.len=q.len:=by
 constructor
 ·
  rintro rfl;exact⟨rfl,rfl,rfl⟩
 rintro⟨h1,h2,h3⟩;have:=ao3 h2
 cases p;cases q;simp_all
structure Rt where
 p:aJ
 hop:UInt16
 deriving DecidableEq
def c8:Rt:=⟨⟨0,0,0#128⟩,0⟩
def ao(r:Rt):Array Value:=aT r.p++ #[.int .u16 r.hop.toNat]
theorem jU(r:Rt):(ao r).size=19:=by unfold ao;rw[apF,ku];rfl
theorem nJ(r:Rt)(j:Nat)(h:j<18):(ao r)[j]? =(aT r.p)[j]? :=by
 unfold ao;rw[ape (by rw[ku];exact h)]
theorem yr(r:Rt):(ao r)[18]? =some (.int .u16 r.hop.toNat):=by
 unfold ao;rw[Array.getElem?_append_right (by rw[ku];omega),ku];rfl
def qi(xs:List Rt)(i:Nat):Bool:=match xs[i]?with
 |none=>true
 |some r=>bg r.p&&match i with
  |0=>true
  |j+1=>match xs[j]?with
   |none=>true
   |some q=>dr q.p r.p
def rr(xs:List Rt)(n:Nat):Bool:=(List.range n).all (qi xs)
def bM(xs:List Rt):Bool:=decide (xs.length<=256)&&rr xs xs.length
theorem TG(xs:List Rt):rr xs 0=true:=rfl
theorem Ls(xs:List Rt)(n:Nat):rr xs (n+1)=(rr xs n&&qi xs n):=by
 simp[rr,aoV]
theorem GG{xs:List Rt}(h:256<xs.length):bM xs=false:=by
 simp[bM];omega
theorem C6{xs:List Rt}{i:Nat}(hi:i<xs.length)(h:qi xs i=false):bM xs=false:=by
 have:rr xs xs.length=false:=by
  rw[rr,List.all_eq_false];exact⟨i,an5.2 hi,by simp[h]⟩
 simp[bM,this]
theorem Lt{xs:List Rt}(h:xs.length<=256)(ho:rr xs xs.length=true):bM xs=true:=by simp[bM,h,ho]
theorem Lu{xs:List Rt}{i:Nat}{r:Rt}(hi:xs[i]? =some r)(h:bg r.p=false):qi xs i=false:=by simp[qi,hi,h]
theorem Lv{xs:List Rt}{r:Rt}(hi:xs[0]? =some r):qi xs 0=bg r.p:=by simp[qi,hi]
theorem GH{xs:List Rt}{i:Nat}{q r:Rt}(hi:xs[i+1]? =some r)(hq:xs[i]? =some q):qi xs (i+1)=(bg r.p&&dr q.p r.p):=by simp[qi,hi,hq]
theorem TH{xs:List Rt}{i:Nat}{q r:Rt}(h0:0<i)(hi:xs[i]? =some r)(hq:xs[i -1]? =some q):qi xs i=(bg r.p&&dr q.p r.p):=by
 obtain⟨j,rfl⟩: ∃j,i=j+1:=⟨i -1,by omega⟩;exact GH hi (by simpa using hq)
theorem Lw{xs:List Rt}{i:Nat}{q r:Rt}(hi:xs[i]? =some r)(hq:xs[i -1]? =some q):qi xs i=(bg r.p&& !(decide (0<(i:Int))&& !dr q.p r.p)):=by
 rcases aor i with h|h
 ·
  subst h;rw[Lv hi];simp
 rw[TH h hi hq];simp[h]
theorem get_some{α:Type}{xs:List α}{i:Nat}(h:i<xs.length): ∃r,xs[i]? =some r:=⟨xs[i],by simp[h]⟩
theorem TI{a b:Rt}(h:ao a=ao b):a=b:=by
 have hp:aT a.p=aT b.p:=aoG fun j=>by
  rcases anl j 18 with hj|hj
  ·
   rw[←nJ a j hj,←nJ b j hj,h]
  rw[aoF (by rw[ku];exact hj),aoF (by rw[ku];exact hj)]
 have hh:=yr a;rw[h,yr b]at hh;have e1:b.hop=a.hop:=by
  apply UInt16.toNat_inj.1;simp only[aoM,Value.int.injEq,true_and]at hh;omega
 obtain⟨p,q⟩:=a;obtain⟨p',q'⟩:=b;simp only at e1 hp;rw[Lk hp,e1]
theorem TJ{α:Type}{xs ys:List α}{i:Nat}{a b:α}(ha:xs[i]? =some a)(hb:ys[i]? =some b)(h: ¬a=b): ¬xs=ys:=fun e=>by
 rw[e,hb]at ha;exact h (ani ha).symm
theorem TK{α:Type}{xs ys:List α}(hl:xs.length=ys.length)(h: ∀j,j<xs.length->xs[j]? =ys[j]?):xs=ys:=aok fun j=>by
 rcases anl j xs.length with hj|hj
 ·
  exact h j hj
 rw[ans hj,ans (by omega)]
open Go.au
variable {s:bR} {c:UInt8} {k:Key}
def wH(n:Nat):UInt8:=if n<10 then UInt8.ofNat (48+n)else UInt8.ofNat (87+n)
def jV(c:UInt8):Option Nat:=if 48<=c.toNat/\c.toNat<=57 then some (c.toNat -48)else if 97<=c.toNat/\c.toNat<=102 then some (c.toNat -87)else none
theorem TL{n:Nat}(h:n<16):(wH n).toNat=if n<10 then 48+n else 87+n:=by
 unfold wH;split
 ·
  rw[UInt8.toNat_ofNat'];omega
 rw[UInt8.toNat_ofNat'];omega
theorem C7{n:Nat}(h:n<16):jV c=some n↔c=wH n:=by
 have ht:=TL h;constructor
 ·
  intro h1;apply apl.1;rw[ht];unfold jV at h1;split at h1
  ·
   have:=ani h1;split<;>omega
  split at h1
  ·
   have:=ani h1;split<;>omega
  cases h1
 rintro rfl;unfold jV;rw[ht];split
 ·
  rw[if_pos (by omega)];congr 1;omega
 rw[if_neg (by omega),if_pos (by omega)];congr 1;omega
theorem GI{n:Nat}(h:jV c=some n):n<16:=by
 unfold jV at h;split at h
 ·
  have:=ani h;omega
 split at h
 ·
  have:=ani h;omega
 cases h
theorem TM{n:Nat}(h:n<16){c:UInt8}(hc:jV c=none):wH n≠c:=fun e=>by
 have:=(C7 h).2 e.symm;rw[hc]at this;cases this
def yt(k:Key):bR:=dec (aU k 0)++46::(dec (aU k 1)++46::(dec (aU k 2)++46::dec (aU k 3)))
def qj(k:Key)(i:Nat):Nat:=if i%2=0 then aU k (i/2)/16 else aU k (i/2)%16
theorem GJ(k:Key)(i:Nat):qj k i<16:=by
 have:=fE k (i/2);unfold qj;split<;>omega
def qk(k:Key):bR:=(List.range 32).map fun i=>wH (qj k i)
def AD(k:Key)(bits:Int):bR:=if bits=32 then yt k else qk k
def four(a b c d:Nat):Key:=nI fun i=>if i=0 then a else if i=1 then b else if i=2 then c else if i=3 then d else 0
def jz(s:bR):Option Key:=match cw 46 s with
 |[a,b,c,d]=>match cB a 255,cB b 255,cB c 255,cB d 255 with
  |some a,some b,some c,some d=>some (four a b c d)
  |_,_,_,_=>none
 |_=>none
def C8(s:bR):Bool:=s.all fun c=>(jV c).isSome
def jW(s:bR)(i:Nat):Nat:=(jV (s.getD i 0)).getD 0
def yu(s:bR):Key:=nI fun i=>16*jW s (2*i)+jW s (2*i+1)
def ly(s:bR):Option Key:=if s.length=32/\C8 s=true then some (yu s)else none
def lV(s:bR):Option (Key×Int):=match jz s with
 |some k=>some (k,32)
 |none=>(ly s).map fun k=>(k,128)
theorem wI{a b c d:Nat}(ha:a<=255)(hb:b<=255)(hc:c<=255)(hd:d<=255){i:Nat}(hi:i<16):aU (four a b c d) i=if i=0 then a else if i=1 then b else if i=2 then c else if i=3 then d else 0:=by
 rw[four,sU _ _ hi];split
 ·
  omega
 split
 ·
  omega
 split
 ·
  omega
 split<;>omega
theorem Ly:bA k 32=k↔ ∀i,4<=i->i<16->aU k i=0:=by
 constructor
 ·
  intro h i h1 h2;have:=AB k 32 i h2;rw[show bA k ((32:Nat):Int)=k from h]at this;rw[this,if_neg (by omega)];split
  ·
   have hb:=fE k i;obtain rfl:i=4:=by omega
   rw[show(8 -(32 -8*4))=8 by decide];omega
  rfl
 intro h;refine rp fun i hi=>?_;rw[show bA k 32=bA k ((32:Nat):Int)from rfl,AB k 32 i hi];split
 ·
  rfl
 have:=h i (by omega) hi;rw[this];split<;>simp
theorem Lz:jz s=some k↔bA k 32=k/\s=yt k:=by
 constructor
 ·
  intro h;unfold jz at h;split at h
  ·
   rename_i a b c d hs;obtain⟨u1,e1,_,h1⟩:=GC hs;obtain⟨u2,e2,_,h2⟩:=GC h1;obtain⟨u3,e3,_,h3⟩:=GC h2;obtain⟨e4,_⟩:=Th h3;split at h
   ·
    rename_i na nb nc nd ha hb hc hd;obtain⟨ea,la⟩:=kt.1 ha;obtain⟨eb,lb⟩:=kt.1 hb;obtain⟨ec,lc⟩:=kt.1 hc;obtain⟨ed,ld⟩:=kt.1 hd;obtain rfl:=ani h;refine⟨Ly.2 fun i h1 h2=>?_,?_⟩
    ·
     rw[wI la lb lc ld h2,if_neg (by omega),if_neg (by omega),if_neg (by omega),if_neg (by omega)]
    rw[yt,wI la lb lc ld (by decide),wI la lb lc ld (by decide),wI la lb lc ld (by decide),wI la lb lc ld (by decide)];simp only[if_true,Nat.one_ne_zero,if_false,(by decide:(2:Nat)≠0),(by decide:(2:Nat)≠1),(by decide:(3:Nat)≠0),(by decide:(3:Nat)≠1),(by decide:(3:Nat)≠2)];rw[e1,e2,e3,e4,ea,eb,ec,ed]
   cases h
  cases h
 rintro⟨h,rfl⟩;have hn: ∀n,(46:UInt8)∉dec n:=fun n=>K6 (by decide);have hs:cw 46 (yt k)=[dec (aU k 0),dec (aU k 1),dec (aU k 2),dec (aU k 3)]:=by
  rw[yt,CU (hn _),CU (hn _),CU (hn _),GB (hn _)]
 have hl: ∀i,aU k i<=255:=fun i=>by have:=fE k i;omega
 have e:jz (yt k)=some (four (aU k 0) (aU k 1) (aU k 2) (aU k 3)):=by
  unfold jz;rw[hs];simp only[Gy (hl _)]
 rw[e];refine congrArg some (rp fun i hi=>?_);rw[wI (hl _) (hl _) (hl _) (hl _) hi];rcases anl i 4 with h4|h4
 ·
  have:i=0\/i=1\/i=2\/i=3:=by omega
  rcases this with rfl|rfl|rfl|rfl<;>simp
 rw[if_neg (by omega),if_neg (by omega),if_neg (by omega),if_neg (by omega),Ly.1 h i h4 hi]
theorem LA(k:Key){i:Nat}(h:i<32):(qk k)[i]? =some (wH (qj k i)):=by simp[qk,h]
theorem LB(k:Key):(qk k).length=32:=by simp[qk]
theorem LC(k:Key){i:Nat}(h:i<32):jW (qk k) i=qj k i:=by
 unfold jW;rw[List.getD,LA k h,apu,(C7 (GJ k i)).2 rfl];rfl
theorem TN(k:Key):C8 (qk k)=true:=by
 unfold C8 qk;rw[List.all_map,anw];intro i _;simp only[Function.comp];rw[(C7 (GJ k i)).2 rfl];rfl
theorem LD:ly s=some k↔s=qk k:=by
 constructor
 ·
  intro h;unfold ly at h;split at h
  ·
   rename_i h1;obtain⟨hl,ha⟩:=h1;obtain rfl:=ani h;have hh: ∀i,i<32-> ∃n,n<16/\s[i]? =some (wH n)/\jW s i=n:=fun i hi=>by
    have dP:i<s.length:=by omega
    have hm:s[i]? =some (s.getD i 0):=by simp[List.getD,dP]
    have:=anw.1 ha _ (alM hm);obtain⟨n,hn⟩:=an4.1 this;have aZ:=GI hn;exact⟨n,aZ,by rw[hm,(C7 aZ).1 hn],by rw[jW,hn];rfl⟩
   have hb: ∀j,j<16->aU (yu s) j=16*jW s (2*j)+jW s (2*j+1):=fun j hj=>by
    obtain⟨n,h1,_,h2⟩:=hh (2*j) (by omega);obtain⟨m,h3,_,h4⟩:=hh (2*j+1) (by omega);rw[yu,sU _ _ hj];omega
   refine aok fun i=>?_;rcases anl i 32 with hi|hi
   ·
    obtain⟨n,h1,h2,h3⟩:=hh i hi;rw[h2,LA _ hi];have hn:qj (yu s) i=n:=by
     unfold qj;rw[hb (i/2) (by omega)];have uT:=fun j (hj:j<32)=>hh j hj;split
     ·
      rename_i he;obtain⟨m,h5,_,h6⟩:=hh (2*(i/2)+1) (by omega);rw[show 2*(i/2)=i by omega,h3,show i+1=2*(i/2)+1 by omega,h6];omega
     rename_i he;obtain⟨m,h5,_,h6⟩:=hh (2*(i/2)) (by omega);rw[show 2*(i/2)+1=i by omega,h3,h6];omega
    rw[hn]
   rw[ans (by omega),ans (by rw[LB];omega)]
  cases h
 rintro rfl;unfold ly;rw[if_pos ⟨LB k,TN k⟩];congr 1;refine rp fun j hj=>?_;rw[yu,sU _ _ hj,LC k (by omega),LC k (by omega)];have hb:=fE k j;have e1:qj k (2*j)=aU k j/16:=by unfold qj;rw[if_pos (by omega),show 2*j/2=j by omega]
 have e2:qj k (2*j+1)=aU k j%16:=by unfold qj;rw[if_neg (by omega),show(2*j+1)/2=j by omega]
 rw[e1,e2];omega
theorem TO(k:Key){c:UInt8}(hc:jV c=none):c∉qk k:=fun h=>by
 obtain⟨i,_,hi⟩:=aoC.1 h;exact TM (GJ k i) hc hi
theorem TP(k:Key):jz (qk k)=none:=by
 unfold jz;rw[GB (TO k (by decide))]
theorem TQ{b:Int}:lV s=some (k,b)↔bg ⟨b,b,k⟩=true/\s=AD k b:=by
 rw[dW];simp only;constructor
 ·
  intro h;unfold lV at h;split at h
  ·
   rename_i k' hk;obtain⟨rfl,rfl⟩:=Prod.mk.inj (ani h);obtain⟨h1,h2⟩:=Lz.1 hk;exact⟨⟨.inl rfl,by decide,aop _,h1⟩,by rw[AD,if_pos rfl];exact h2⟩
  obtain⟨k',hk,he⟩:=apv.1 h;obtain⟨rfl,rfl⟩:=Prod.mk.inj he;exact⟨⟨.inr rfl,by decide,aop _,Lf _ _ (aop _)⟩,by rw[AD,if_neg (by decide)];exact LD.1 hk⟩
 rintro⟨⟨h1,_,_,h2⟩,rfl⟩;rcases h1 with rfl|rfl
 ·
  rw[AD,if_pos rfl,lV,Lz.2 ⟨h2,rfl⟩]
 rw[AD,if_neg (by decide),lV,TP,LD.2 rfl];rfl
def lz(s:bR):Option aJ:=match cw 47 s with
 |[a,b]=>match lV a,cB b 128 with
  |some (k,bits),some n=>if bg ⟨bits,(n:Int),k⟩=true then some ⟨bits,(n:Int),k⟩else none
  |_,_=>none
 |_=>none
def ru(s:bR):Option Rt:=match cw 32 s with
 |[a,b]=>match lz a,cB b 65535 with
  |some p,some n=>some ⟨p,UInt16.ofNat n⟩
  |_,_=>none
 |_=>none
end Go.Kb

/- Laws and walks by which the law LabWhole is proved, each with its own conditions. -/
import Derived.WalkKit
import Derived.Deep.Quiet
import Derived.RangeFuncRecord
import Derived.RangeFuncCalls
import Derived.OrdersIn
import Derived.StillTail
import Derived.Deep.MidRow
import Derived.Deep.AppendSrc
import Derived.Laws.Cover3
import Derived.Lib.ItoaNum
import Derived.Laws.DeepStrings4
import Derived.Lib.Strings
import Derived.Lib.SplitLaws
set_option maxRecDepth 20000
set_option linter.unusedSimpArgs false
set_option linter.unusedVariables false
theorem zz:type_of% @List.getElem?_eq_some_iff:=List.getElem?_eq_some_iff
theorem adr:type_of% @List.length_append:=List.length_append
theorem ad2:type_of% @Bool.and_eq_true:=Bool.and_eq_true
theorem af0:type_of% @List.length_cons:=List.length_cons
theorem alM:type_of% @List.mem_of_getElem?:=List.mem_of_getElem?
theorem anc:type_of% @List.length_nil:=List.length_nil
theorem atl:type_of% @Option.some.inj:=Option.some.inj
theorem atp:type_of% @List.getElem?_eq_getElem:=List.getElem?_eq_getElem
theorem atq:type_of% @List.length_take:=List.length_take
theorem atr:type_of% @List.take_add_one:=List.take_add_one
theorem att:type_of% @Nat.le_refl:=Nat.le_refl
theorem atu:type_of% @List.mem_append:=List.mem_append
theorem atv:type_of% @List.mem_cons:=List.mem_cons
theorem atw:type_of% @List.append_assoc:=List.append_assoc
theorem atx:type_of% @List.getElem?_map:=List.getElem?_map
theorem aty:type_of% @List.all_eq_true:=List.all_eq_true
theorem atz:type_of% @List.getElem?_append_right:=List.getElem?_append_right
theorem atA:type_of% @Nat.lt_or_ge:=Nat.lt_or_ge
theorem atB:type_of% @List.getElem?_eq_none:=List.getElem?_eq_none
theorem atC:type_of% @List.take_of_length_le:=List.take_of_length_le
theorem atD:type_of% @List.length_drop:=List.length_drop
theorem atE:type_of% @List.getElem?_set_self:=List.getElem?_set_self
theorem atF:type_of% @List.mem_cons_of_mem:=List.mem_cons_of_mem
theorem atG:type_of% @Nat.mul_le_mul_right:=Nat.mul_le_mul_right
theorem atH:type_of% @List.getElem?_of_mem:=List.getElem?_of_mem
theorem atI:type_of% @List.map_cons:=List.map_cons
theorem atJ:type_of% @List.length_eq_zero_iff:=List.length_eq_zero_iff
theorem atK:type_of% @List.mem_map_of_mem:=List.mem_map_of_mem
theorem atL:type_of% @Nat.zero_le:=Nat.zero_le
theorem atM:type_of% @List.length_map:=List.length_map
theorem atN:type_of% @List.getElem?_append_left:=List.getElem?_append_left
theorem atO:type_of% @Classical.byContradiction:=Classical.byContradiction
theorem atP:type_of% @List.take_length:=List.take_length
theorem atQ:type_of% @Array.getElem?_eq_none:=Array.getElem?_eq_none
theorem atS:type_of% @List.map_append:=List.map_append
theorem atT:type_of% @List.mem_append_left:=List.mem_append_left
theorem atU:type_of% @Nat.add_mul:=Nat.add_mul
theorem atV:type_of% @List.length_set:=List.length_set
theorem atW:type_of% @List.take_zero:=List.take_zero
theorem atX:type_of% @List.mem_range:=List.mem_range
theorem atY:type_of% @List.mem_filter:=List.mem_filter
theorem atZ:type_of% @List.getElem?_set_ne:=List.getElem?_set_ne
theorem at0:type_of% @List.mem_or_eq_of_mem_set:=List.mem_or_eq_of_mem_set
theorem at1:type_of% @Bool.false_eq_true:=Bool.false_eq_true
theorem at2:type_of% @List.mem_cons_self:=List.mem_cons_self
theorem at3:type_of% @Option.map_some:=Option.map_some
theorem at4:type_of% @Array.all_eq_true_iff_forall_mem:=Array.all_eq_true_iff_forall_mem
theorem at5:type_of% @Nat.mod_eq_of_lt:=Nat.mod_eq_of_lt
theorem at6:type_of% @Option.isSome_iff_exists:=Option.isSome_iff_exists
theorem at7:type_of% @List.mem_singleton:=List.mem_singleton
theorem aua:type_of% @Nat.add_sub_cancel_left:=Nat.add_sub_cancel_left
theorem aub:type_of% @Array.getElem?_setIfInBounds:=Array.getElem?_setIfInBounds
theorem auc:type_of% @List.take_append_drop:=List.take_append_drop
theorem aud:type_of% @Array.size_append:=Array.size_append
theorem aue:type_of% @List.length_replicate:=List.length_replicate
theorem auf:type_of% @Nat.zero_add:=Nat.zero_add
theorem aug:type_of% @List.nil_append:=List.nil_append
theorem auh:type_of% @List.append_nil:=List.append_nil
theorem aui:type_of% @List.pairwise_cons:=List.pairwise_cons
theorem auj:type_of% @List.size_toArray:=List.size_toArray
theorem auk:type_of% @Array.getElem?_append_left:=Array.getElem?_append_left
theorem aul:type_of% @Int.le_refl:=Int.le_refl
theorem aum:type_of% @Int.ediv_eq_zero_of_lt:=Int.ediv_eq_zero_of_lt
theorem aun:type_of% @Int.toNat_of_nonneg:=Int.toNat_of_nonneg
theorem auo:type_of% @List.getElem?_set:=List.getElem?_set
theorem aup:type_of% @Bool.true_and:=Bool.true_and
theorem auq:type_of% @List.mem_map:=List.mem_map
theorem aur:type_of% @List.nil_sublist:=List.nil_sublist
theorem aus:type_of% @Bool.not_eq_true':=Bool.not_eq_true'
theorem aut:type_of% @Array.ext_getElem?:=Array.ext_getElem?
theorem auu:type_of% @List.filter_cons:=List.filter_cons
theorem auv:type_of% @List.map_nil:=List.map_nil
theorem auw:type_of% @List.map_congr_left:=List.map_congr_left
theorem auy:type_of% @Int.toNat_natCast:=Int.toNat_natCast
theorem auz:type_of% @List.ext_getElem?:=List.ext_getElem?
theorem auA:type_of% @Bool.or_eq_true:=Bool.or_eq_true
theorem auB:type_of% @Bool.false_ne_true:=Bool.false_ne_true
theorem auC:type_of% @List.getElem?_drop:=List.getElem?_drop
theorem auD:type_of% @List.take_succ_cons:=List.take_succ_cons
theorem auE:type_of% @Int.add_mul_ediv_right:=Int.add_mul_ediv_right
theorem auF:type_of% @List.range_succ:=List.range_succ
theorem auG:type_of% @List.filter_append:=List.filter_append
theorem auH:type_of% @Nat.add_zero:=Nat.add_zero
theorem auI:type_of% @List.drop_zero:=List.drop_zero
theorem auJ:type_of% @List.contains_iff_mem:=List.contains_iff_mem
theorem auK:type_of% @List.sublist_cons_self:=List.sublist_cons_self
theorem auL:type_of% @List.cons_append:=List.cons_append
theorem auM:type_of% @List.flatten_cons:=List.flatten_cons
theorem auN:type_of% @List.set_cons_zero:=List.set_cons_zero
theorem auO:type_of% @List.mem_append_right:=List.mem_append_right
theorem auP:type_of% @Nat.mul_comm:=Nat.mul_comm
theorem auQ:type_of% @List.foldl_cons:=List.foldl_cons
theorem auR:type_of% @Nat.pow_le_pow_right:=Nat.pow_le_pow_right
theorem auS:type_of% @Int.add_sub_cancel:=Int.add_sub_cancel
theorem auT:type_of% @List.getElem?_toArray:=List.getElem?_toArray
theorem auU:type_of% @List.getElem?_range:=List.getElem?_range
theorem auV:type_of% @List.length_pos_iff:=List.length_pos_iff
theorem auW:type_of% @Nat.add_assoc:=Nat.add_assoc
theorem auX:type_of% @List.not_mem_nil:=List.not_mem_nil
theorem auY:type_of% @Option.some.injEq:=Option.some.injEq
theorem auZ:type_of% @List.pairwise_iff_getElem:=List.pairwise_iff_getElem
theorem au0:type_of% @Nat.lt_of_lt_of_le:=Nat.lt_of_lt_of_le
theorem au1:type_of% @Option.map_eq_some_iff:=Option.map_eq_some_iff
theorem au2:type_of% @Nat.lt_trans:=Nat.lt_trans
theorem au3:type_of% @List.drop_succ_cons:=List.drop_succ_cons
theorem au4:type_of% @Bool.and_self:=Bool.and_self
theorem au5:type_of% @Array.getElem?_eq_some_iff:=Array.getElem?_eq_some_iff
theorem au6:type_of% @Int.mul_nonneg:=Int.mul_nonneg
theorem au7:type_of% @BitVec.toNat_ofNat:=BitVec.toNat_ofNat
theorem au8:type_of% @Nat.lt_of_le_of_lt:=Nat.lt_of_le_of_lt
theorem au9:type_of% @Bool.true_eq_false:=Bool.true_eq_false
theorem ava:type_of% @List.getElem_mem:=List.getElem_mem
theorem avb:type_of% @Option.getD_some:=Option.getD_some
theorem avc:type_of% @List.all_toArray:=List.all_toArray
theorem avd:type_of% @List.nodup_append:=List.nodup_append
theorem ave:type_of% @Nat.mod_lt:=Nat.mod_lt
theorem avf:type_of% @List.foldl_append:=List.foldl_append
theorem avg:type_of% @List.mem_iff_getElem?:=List.mem_iff_getElem?
theorem avh:type_of% @List.set_append_right:=List.set_append_right
theorem avi:type_of% @Int.add_comm:=Int.add_comm
theorem avj:type_of% @List.getElem?_take:=List.getElem?_take
theorem avk:type_of% @List.mem_of_mem_take:=List.mem_of_mem_take
theorem avl:type_of% @List.all_cons:=List.all_cons
theorem avm:type_of% @Nat.sub_self:=Nat.sub_self
theorem avn:type_of% @Int.zero_add:=Int.zero_add
theorem avo:type_of% @Bool.not_false:=Bool.not_false
theorem avp:type_of% @List.drop_drop:=List.drop_drop
theorem avq:type_of% @Array.length_toList:=Array.length_toList
theorem avr:type_of% @List.drop_eq_getElem_cons:=List.drop_eq_getElem_cons
theorem avs:type_of% @Int.ediv_nonneg:=Int.ediv_nonneg
theorem avt:type_of% @Int.emod_nonneg:=Int.emod_nonneg
theorem avu:type_of% @Nat.eq_zero_or_pos:=Nat.eq_zero_or_pos
theorem avv:type_of% @List.perm_middle:=List.perm_middle
theorem avw:type_of% @List.all_nil:=List.all_nil
theorem avx:type_of% @Int.emod_lt_of_pos:=Int.emod_lt_of_pos
theorem avy:type_of% @Nat.mul_one:=Nat.mul_one
theorem avz:type_of% @List.pairwise_append:=List.pairwise_append
theorem avA:type_of% @List.nodup_cons:=List.nodup_cons
theorem avB:type_of% @List.filter_nil:=List.filter_nil
theorem avC:type_of% @UInt8.toNat_inj:=UInt8.toNat_inj
theorem avD:type_of% @Array.getElem?_append_right:=Array.getElem?_append_right
theorem avE:type_of% @UInt16.toNat_lt:=UInt16.toNat_lt
theorem avF:type_of% @List.map_set:=List.map_set
theorem avG:type_of% @List.drop_length:=List.drop_length
theorem avH:type_of% @List.set_cons_succ:=List.set_cons_succ
theorem avI:type_of% @List.append_of_mem:=List.append_of_mem
theorem avJ:type_of% @List.length_filter_le:=List.length_filter_le
theorem avK:type_of% @List.mem_of_find?_eq_some:=List.mem_of_find?_eq_some
theorem avL:type_of% @Bool.eq_iff_iff:=Bool.eq_iff_iff
theorem avM:type_of% @List.set_set:=List.set_set
theorem avN:type_of% @List.getElem?_replicate:=List.getElem?_replicate
theorem avO:type_of% @List.take_set_of_le:=List.take_set_of_le
theorem avP:type_of% @List.filter_sublist:=List.filter_sublist
theorem avQ:type_of% @UInt8.toNat_lt:=UInt8.toNat_lt
theorem avR:type_of% @Bool.false_and:=Bool.false_and
theorem avS:type_of% @Bool.and_false:=Bool.and_false
theorem avT:type_of% @Nat.add_comm:=Nat.add_comm
theorem avU:type_of% @Nat.le_trans:=Nat.le_trans
theorem avV:type_of% @List.map_map:=List.map_map
theorem avW:type_of% @Int.add_mul_emod_self_right:=Int.add_mul_emod_self_right
theorem avX:type_of% @Nat.min_eq_left:=Nat.min_eq_left
theorem avY:type_of% @Nat.div_add_mod:=Nat.div_add_mod
theorem avZ:type_of% @List.cons.injEq:=List.cons.injEq
theorem av0:type_of% @List.getD_eq_getElem?_getD:=List.getD_eq_getElem?_getD
theorem av1:type_of% @List.sum_cons:=List.sum_cons
theorem av2:type_of% @Int.ediv_neg_of_neg_of_pos:=Int.ediv_neg_of_neg_of_pos
theorem av3:type_of% @List.flatMap_cons:=List.flatMap_cons
theorem av4:type_of% @Int.emod_eq_of_lt:=Int.emod_eq_of_lt
theorem av5:type_of% @List.mem_of_mem_drop:=List.mem_of_mem_drop
theorem av6:type_of% @Array.ext':=Array.ext'
theorem av7:type_of% @List.contains_eq_mem:=List.contains_eq_mem
theorem av8:type_of% @Option.bind_some:=Option.bind_some
theorem av9:type_of% @Array.all_append:=Array.all_append
theorem awa:type_of% @List.getElem_of_mem:=List.getElem_of_mem
theorem awb:type_of% @List.replicate_succ:=List.replicate_succ
theorem awc:type_of% @List.eraseIdx_cons_succ:=List.eraseIdx_cons_succ
theorem awd:type_of% @Bool.false_or:=Bool.false_or
theorem awe:type_of% @Nat.xor_lt_two_pow:=Nat.xor_lt_two_pow
theorem awf:type_of% @Option.toList_some:=Option.toList_some
theorem awg:type_of% @List.sum_append:=List.sum_append
theorem awh:type_of% @List.drop_eq_nil_of_le:=List.drop_eq_nil_of_le
theorem awi:type_of% @Nat.le_succ:=Nat.le_succ
theorem awj:type_of% @List.length_range:=List.length_range
theorem awk:type_of% @Classical.not_not:=Classical.not_not
theorem awl:type_of% @Int.mul_le_mul:=Int.mul_le_mul
theorem awm:type_of% @List.mem_reverse:=List.mem_reverse
theorem awn:type_of% @List.flatten_nil:=List.flatten_nil
theorem awo:type_of% @Prod.mk.injEq:=Prod.mk.injEq
namespace Go.ax
open Go.RowKit
structure ai where
 fp:Nat->Prop
 sat:(Nat->Option Obj)->Prop
 loc: ∀h h':Nat->Option Obj,(∀k,fp k->h' k=h k)->sat h->sat h'
def aq(b:Nat)(cs:Array Value)(T:TypeId):ai:=⟨fun k=>k=b,fun h=>h b=some (.cells cs T (0,0)),fun _ _ e s=>by rw[e b rfl];exact s⟩
structure Mem(w0:World)(L:List ai)(w:World):Prop where
 below:Below w0.heap.size w0 w
 sat: ∀e∈L,e.sat fun k=>w.heap[k]?
 j8: ∀e∈L,∀k,e.fp k->w0.heap.size<=k/\k<w.heap.size
 qa:L.Pairwise fun a b=> ∀k,a.fp k-> ¬b.fp k
theorem Mem.init(w:World):Mem w [] w:=⟨Below.refl _ _,by simp,by simp,by simp⟩
theorem Mem.BP{w w':World}(h:Below w.heap.size w w'):Mem w [] w':=⟨h,by simp,by simp,by simp⟩
variable {w0:World}{L:List ai}
theorem Mem.le{w:World}(h:Mem w0 L w):w0.heap.size<=w.heap.size:=h.below.size
theorem Mem.call{w0:World}{L E:List ai}{w w':World}(h:Mem w0 L w)(h':Mem w E w'):Mem w0 (E++L) w':=by
 refine⟨h.below.trans (h'.below.mono h.le),fun e he=>?_,fun e he k hk=>?_,?_⟩
 ·
  rcases atu.1 he with he|he
  ·
   exact h'.sat e he
  exact e.loc _ _ (fun k hk=>h'.below.block k (h.j8 e he k hk).2) (h.sat e he)
 ·
  rcases atu.1 he with he|he
  ·
   have:=h'.j8 e he k hk;have:=h.le;omega
  have:=h.j8 e he k hk;have:=h'.below.size;omega
 refine avz.2 ⟨h'.qa,h.qa,fun a ha b hb k hk kB=>?_⟩;have:=h'.j8 a ha k hk;have:=h.j8 b hb k kB;omega
theorem Mem.step{w w':World}(h:Mem w0 L w)(h':Below w.heap.size w w'):Mem w0 L w':=h.call (E:=[]) (.BP h')
theorem Mem.drew{w:World}(h:Mem w0 L w):Mem w0 L w.drew:=h.step ((Below.refl _ _).drew)
theorem Mem.EB{w:World}(h:Mem w0 L w):Mem w0 L {w with drawn:=w.drawn+1}:=h.step ((Below.refl _ _).drew)
theorem Mem.sub{w0:World}{L L':List ai}{w:World}(h:Mem w0 L w)(s:L'.Sublist L):Mem w0 L' w:=
 ⟨h.below,fun e he=>h.sat e (s.subset he),fun e he=>h.j8 e (s.subset he),h.qa.sublist s⟩
theorem Mem.perm{w0:World}{L L':List ai}{w:World}(h:Mem w0 L w)(s:L.Perm L'):Mem w0 L' w:=
 ⟨h.below,fun e he=>h.sat e (s.mem_iff.2 he),fun e he=>h.j8 e (s.mem_iff.2 he),s.pairwise h.qa (fun EC k hk kB=>EC k kB hk)⟩
theorem Mem.get{w:World}(h:Mem w0 L w){i:Nat}{e:ai}(hi:L[i]? =some e):e.sat fun k=>w.heap[k]? :=h.sat e (alM hi)
theorem Below.BQ(w:World)(o:Obj):(w.alloc o).heap[w.heap.size]? =some o:=by
 show(w.heap.push o)[w.heap.size]? =some o;simp
theorem Mem.alloc{w:World}(h:Mem w0 L w)(cs:Array Value)(T:TypeId):Mem w0 (aq w.heap.size cs T::L) (w.alloc (.cells cs T)):=by
 refine h.call (E:=[aq w.heap.size cs T]) ⟨(Below.refl _ _).alloc (att _) _,fun e he=>?_,fun e he k hk=>?_,by simp⟩
 ·
  simp at he;subst he;exact Below.BQ w _
 simp at he;subst he;have:k=w.heap.size:=hk;subst this;simp
theorem Mem.change{w w':World}(h:Mem w0 L w){i:Nat}{e e':ai}(hi:L[i]? =some e)(vg: ∀k,e'.fp k->e.fp k)
  (hB: ∀k,¬e.fp k->w'.heap[k]? =w.heap[k]?) (hs:w'.heap.size=w.heap.size) (ho:w'.os=w.os/\w'.tape=w.tape/\w'.output=w.output)
  (IB:e'.sat fun k=>w'.heap[k]?):Mem w0 (L.set i e') w':=by
 have ED:i<L.length:=by
  rcases atA i L.length with h'|h'
  ·
   exact h'
  ·
   simp[atB h']at hi
 have EE:L[i]=e:=by simpa[atp ED]using hi
 have NW:e∈L:=EE▸ava ED;refine⟨⟨ho.1.trans h.below.os,ho.2.1.trans h.below.tape,ho.2.2.trans h.below.output,hs▸h.below.size,fun k hk=>?_⟩,fun x hx=>?_,fun x hx k hk=>?_,?_⟩
 ·
  rw[hB k (fun hf=>by have:=h.j8 e NW k hf;omega)];exact h.below.block k hk
 ·
  obtain⟨j,hj,rz⟩:=awa hx;rw[List.getElem_set]at rz;split at rz
  ·
   subst rz;exact IB
  ·
   rename_i cd;have j9:j<L.length:=by simpa using hj
   subst rz;have hd:=h.qa;rw[auZ]at hd;refine(L[j]).loc _ _ (fun k hk=>hB k (fun hf=>?_)) (h.sat _ (ava j9));rw[←EE]at hf;rcases Nat.lt_or_gt_of_ne cd with bn|bn
   ·
    exact hd i j ED j9 bn k hf hk
   ·
    exact hd j i j9 ED bn k hk hf
 ·
  rw[hs];obtain⟨j,hj,rz⟩:=awa hx;rw[List.getElem_set]at rz;split at rz
  ·
   subst rz;exact h.j8 e NW k (vg k hk)
  ·
   subst rz;exact h.j8 _ (ava _) k hk
 ·
  rw[auZ];intro p q hp hq zJ k hk kB;have hd:=h.qa;rw[auZ]at hd;rw[List.getElem_set]at hk kB;have ca:p<L.length:=by simpa using hp
  have yi:q<L.length:=by simpa using hq
  have:=hd p q ca yi zJ k;split at hk<;>split at kB
  ·
   omega
  ·
   rename_i h1 h2;subst h1;exact this (by rw[EE];exact vg k hk) kB
  ·
   rename_i h1 h2;subst h2;exact this hk (by rw[EE];exact vg k kB)
  ·
   exact this hk kB
theorem Mem.cell{w:World}(h:Mem w0 L w){i b:Nat}{cs:Array Value}{T:TypeId}(hi:L[i]? =some (aq b cs T))(o:Nat):w.cell? ⟨b,o,none⟩=cs[o]? :=by
 have:w.heap[b]? =some (.cells cs T (0,0)):=h.get hi;simp[World.cell?,this]
theorem Mem.block{w:World}(h:Mem w0 L w){i b:Nat}{cs:Array Value}{T:TypeId}(hi:L[i]? =some (aq b cs T)):w.heap[b]? =some (.cells cs T (0,0)):=h.get hi
theorem Mem.setRow{w:World}(h:Mem w0 L w){i b:Nat}{cs:Array Value}{T:TypeId}(hi:L[i]? =some (aq b cs T))(cs':Array Value):Mem w0 (L.set i (aq b cs' T)) (w.setRow b cs'):=by
 have hb:=h.block hi;refine h.change hi (fun k hk=>hk) (fun k hk=>?_) (by simp[World.setRow]) ⟨rfl,rfl,rfl⟩ ?_
 ·
  exact setRow_other w b k cs' (fun e=>hk e)
 exact setRow_heap w b cs cs' T (0,0) hb
def mW(ro:Option Nat):Fence:={fn:=fun _=>True,depth:=none,alive:=false,round:=ro}
def qL(l:List Oper):Bool:=l.all fun o=>match o.op with
 | .defer _=>false
 |_=>true
theorem NX{l:List Oper}(h:qL l=true){i:Nat}{o:Oper}(hi:l.toArray[i]? =some o): ∀c,o.op≠ .defer c:=fun c e=>by
 have hm:o∈l:=by simpa using Array.mem_of_getElem? hi
 have:=aty.1 h o hm;rw[e]at this;cases this
class kW(Q:Exit->Act->World->Prop):Prop where
 h: ∀a w,¬Q .outgrown a w
instance kW.then{K:Act->World->Prop}{Q:Exit->Act->World->Prop}[q:kW Q]:kW (Exit.then K Q):=⟨fun a w h=>q.h a w h⟩
instance kW.block{id:Nat}{Q:Exit->Act->World->Prop}[q:kW Q]:kW (Exit.inBlock id Q):=⟨fun a w h=>q.h a w h⟩
variable {P:Program} {ro:Option Nat}
theorem XE{f:FuncId}{args:Array Value}{w:World}{R:Ending->World->Prop}(h:Calls P f args w R):CallsIn (mW ro) 0 P f args w R:=by
 have h':CallsIn Fence.wide 0 P f args w R:=callsIn_wide.2 h
 cases ro with
 |none=>exact h'
 |some l=>exact h'.inRound l
theorem XF{row:String}{args:Array Value}{w:World}{R:Value->World->Prop}(h:Rows P row args w R):RowsIn (mW ro) 0 P row args w R:=fun c cs _=>by
 obtain⟨v,w',hR,hs⟩:=h c cs;refine⟨v,w',hR,?_⟩;have h':StepsIn (Machine.fenced P Fence.wide) P _ _:=stepsIn_wide.2 hs;exact h'
theorem XG{o:Oper}{a:Act}{w:World}{K:Act->World->Prop}{Q:Exit->Act->World->Prop}(cI: ∀c,o.op≠ .defer c)(h:o.wp P a w K Q):o.wpIn (mW ro) 0 P a w K Q:=by
 refine⟨fun _ _=>trivial,?_⟩;rw[Oper.semAt_eq _ _ _ cI];unfold Oper.wp at h;generalize(execOp a.eval o).run P w=r at h⊢;unfold Oper.upon at h;unfold Oper.uponIn;split at h
 ·
  exact h
 ·
  exact h
 ·
  exact h
 ·
  exact⟨fun e=>(by cases e),XE h⟩
 ·
  exact⟨fun e=>(by cases e),XF h⟩
 ·
  exact h
 exact h.elim
theorem BR{ops:Array Oper}{Q:Exit->Act->World->Prop}[q:kW Q](cI: ∀(i:Nat) (o:Oper),ops[i]? =some o-> ∀c,o.op≠ .defer c): ∀(l:List Nat) (a:Act) (w:World),wpOps P ops Q l a w->wpOpsIn (mW ro) 0 P ops Q l a w
 |[],_,_,h=>h
 |i::rest,a,w,h=>by
  unfold wpOps at h;unfold wpOpsIn;split at h
  ·
   rename_i ho;simp only[ho];exact BR cI rest a w h
  rename_i o ho;simp only[ho];split at h
  ·
   rename_i hw;rw[if_pos hw];rcases h with h|⟨_,a',w',h⟩
   ·
    exact Oper.wpIn_mono (fun a w h=>BR cI rest a w h) (XG (cI i o ho) h)
   exact absurd h (q.h a' w')
  rename_i hw;rw[if_neg hw];exact⟨fun _ _=>trivial,BR cI rest _ w h⟩
theorem XH{id:Nat}{l:List Oper}{Q:Exit->Act->World->Prop}{a:Act}{w:World}[kW Q](cI:qL l=true)(h:wpList P l.toArray Q l a w):(Code.region id l.toArray false).wpIn (mW ro) 0 P Q a w:=
 wpIn_region (BR (fun _ _ hi=>NX cI hi) _ a w (by rw[List.range_eq_range',←avq,wpOps_eq_wpList l.toArray.toList 0 (by simp)];exact h))
theorem IC{id:Nat}{l:List Oper}{Q:Exit->Act->World->Prop}{a:Act}{w:World}[kW Q](cI:qL l=true)(hm:P.follows .mixedOrders=true)
  (h:wpAny P .any l.toArray Q l.toArray.size (Array.replicate l.toArray.size false) a {w with drawn:=w.drawn+1}):(Code.region id l.toArray true).wpIn (mW ro) 0 P Q a w:=
 wpIn_region_draw fun t=>BR (fun _ _ hi=>NX cI hi) _ a _ (by
  simp only[Region.schedule,hm,Bool.true_or,if_true];exact wpAny_sound l.toArray.size t _ a _ h)
theorem XI{id:Nat}{l:List Oper}{C:World->Prop}{Q:Exit->Act->World->Prop}{a:Act}{w:World}[kW Q](cI:qL l=true)(hm:P.follows .mixedOrders=true)(hB:Region.lexB .any l.toArray=true)(hC:C {w with drawn:=w.drawn+1})
  (h:wpQuiet P l.toArray C (fun a'=> ∀w',C w'->Q .normal a' w') l a):(Code.region id l.toArray true).wpIn (mW ro) 0 P Q a w:=by
 simp only[Region.lexB,ad2]at hB;refine IC cI hm (wpAny_of_quiet (Q:=fun a'=> ∀w',C w'->Q .normal a' w') (fun _ w' gR h=>h w' gR) _ _ _ _ hC ?_);have:=wpAnyQ_lex (C:=C) (md:= .any) hB.1 l 0 (Array.replicate l.toArray.size false) a (by simp) (by simpa using hB.2) h;simpa using this
def mark(D:Nat):Deferred:={target:= .collected D,args:= #[]}
def rA(P:Program)(fn:Func)(R:Ending->World->Prop):Exit->Act->World->Prop:=fun e a w=>(e= .normal\/e= .ret)/\bodyPostM (mW none) 0 P fn R e a w
instance kW.end{fn:Func}{R:Ending->World->Prop}:kW (rA P fn R):=⟨fun a w h=>by rcases h.1 with h|h<;>cases h⟩
theorem NY{f:FuncId}{fn:Func}{c:Code}{args:Array Value}{w:World}{R:Ending->World->Prop}(hf:P.funcs[f]? =some fn)(hb:fn.body=some c)
  (h:c.wpIn (mW none) 0 P (rA P fn R) {tmps:=args++Array.replicate (fn.ntmps -args.size) undef,defers:=[]} w):Calls P f args w R:=
 callsIn_wide.1 (callsIn_of_wp_marks (F:=mW none) (n:=0) hf hb trivial (wpIn_mono h fun _ _ _ h=>h.2))
section
variable {P:Program} {l:List Oper} {C:World->Prop} {Q:Exit->Act->World->Prop} {n:Nat} {fs:List Nat}
def fr(l:List Oper)(fs:List Nat)(v:Nat->Value)(a0:Act):Nat->Act
 |0=>a0
 |k+1=>if fs.contains k=true then fr l fs v a0 k else match l[k]?with
  |some o=>(fr l fs v a0 k).put o.dst (v k)
  |none=>fr l fs v a0 k
def dX(l:List Oper)(j:Nat):Option Tmp:=(l[j]?).bind (·.dst)
theorem ka(a:Act)(d:Option Tmp)(v:Value)(t:Nat)(h:d≠some t):(a.put d v).tmps[t]? =a.tmps[t]? :=by
 cases d with
 |none=>rfl
 |some d=>
  have:d≠t:=fun e=>h (by rw[e]);simp[Act.put,this]
theorem tL(a:Act)(d:Option Tmp)(v:Value):(a.put d v).tmps.size=a.tmps.size:=by cases d<;>simp[Act.put]
theorem tM(a:Act)(d:Option Tmp)(v:Value):(a.put d v).defers=a.defers:=by cases d<;>rfl
theorem NZ(a b:Act)(d:Nat)(v:Value)(h:a.tmps.size=b.tmps.size):(a.put (some d) v).tmps[d]? =(b.put (some d) v).tmps[d]? :=by
 simp[Act.put,aub,h]
theorem yj{v:Nat->Value}{a0:Act}{k:Nat}{o:Oper}(hf:fs.contains k=false)(h:l[k]? =some o):fr l fs v a0 (k+1)=(fr l fs v a0 k).put o.dst (v k):=by
 show(if fs.contains k=true then _ else match l[k]?with|some o=>(fr l fs v a0 k).put o.dst (v k)|none=>fr l fs v a0 k)=_;rw[hf,h];rfl
theorem zK{v:Nat->Value}{a0:Act}{k:Nat}(hf:fs.contains k=true):fr l fs v a0 (k+1)=fr l fs v a0 k:=by
 show(if fs.contains k=true then _ else match l[k]?with|some o=>(fr l fs v a0 k).put o.dst (v k)|none=>fr l fs v a0 k)=_;rw[hf];rfl
theorem BS{v:Nat->Value}{a0:Act}{k:Nat}(h:l[k]? =none):fr l fs v a0 (k+1)=fr l fs v a0 k:=by
 show(if fs.contains k=true then _ else match l[k]?with|some o=>(fr l fs v a0 k).put o.dst (v k)|none=>fr l fs v a0 k)=_;rw[h];split<;>rfl
theorem BT(v:Nat->Value)(a0:Act): ∀k,(fr l fs v a0 k).tmps.size=a0.tmps.size
 |0=>rfl
 |k+1=>by
  cases hf:fs.contains k with
  |true=>rw[zK hf];exact BT v a0 k
  |false=>
   cases ho:l[k]?with
   |none=>rw[BS ho];exact BT v a0 k
   |some o=>rw[yj hf ho,tL];exact BT v a0 k
theorem EF(v:Nat->Value)(a0:Act): ∀k,(fr l fs v a0 k).defers=a0.defers
 |0=>rfl
 |k+1=>by
  cases hf:fs.contains k with
  |true=>rw[zK hf];exact EF v a0 k
  |false=>
   cases ho:l[k]?with
   |none=>rw[BS ho];exact EF v a0 k
   |some o=>rw[yj hf ho,tM];exact EF v a0 k
theorem yk(v:Nat->Value)(a0:Act)(t k:Nat): ∀m,k<=m->(∀j,k<=j->j<m->fs.contains j=false->dX l j≠some t)->(fr l fs v a0 m).tmps[t]? =(fr l fs v a0 k).tmps[t]?
 |0,h,_=>by obtain rfl:k=0:=by omega
            rfl
 |m+1,h,hn=>by
  by_cases e:k=m+1
  ·
   subst e;rfl
  have ih:=yk v a0 t k m (by omega) fun j h1 h2=>hn j h1 (by omega);rw[←ih]
  cases hf:fs.contains m with
  |true=>rw[zK hf]
  |false=>
   cases ho:l[m]?with
   |none=>rw[BS ho]
   |some o=>
    rw[yj hf ho];exact ka _ _ _ _ (by simpa[dX,ho]using hn m (by omega) (by omega) hf)
def BU(l:List Oper)(fs:List Nat)(n:Nat):Bool:=
 (List.range n).all fun k=>match l[k]?with
  |none=>false
  |some o=>
   (match o.op with| .select .. =>false|_=>true)&&
   (o.after.all fun e=> !Region.binds .any e||decide (e.on<k))&&
   (List.range n).all fun j=>match dX l j with
    |none=>true
    |some d=>(!(o.looksAt l.toArray).contains d||(decide (j<k)&&(!fs.contains j||fs.contains k)&&o.after.any fun e=>Region.binds .any e&&e.on==j))&&(j==k||o.dst !=some d)
structure BW(l:List Oper)(fs:List Nat)(n k:Nat)(o:Oper):Prop where
 wG: ∀cs b,o.op≠ .select cs b
 back: ∀e∈o.after,Region.binds .any e=true->e.on<k
 reads: ∀j d,j<n->dX l j=some d->d∈o.looksAt l.toArray->j<k/\(fs.contains j=true->fs.contains k=true)/\ ∃e∈o.after,Region.binds .any e=true/\e.on=j
 one: ∀j d,j<n->dX l j=some d->j≠k->o.dst≠some d
theorem EG(h:BU l fs n=true)(k:Nat)(hk:k<n): ∃o,l[k]? =some o/\BW l fs n k o:=by
 have:=aty.1 h k (atX.2 hk)
 cases ho:l[k]?with
 |none=>simp[ho]at this
 |some o=>
  rw[ho]at this;simp only[ad2]at this;obtain⟨⟨h1,h2⟩,h3⟩:=this;refine⟨o,rfl,⟨fun cs b e=>by rw[e]at h1;simp at h1,fun e he hb=>?_,fun j d hj hd hl=>?_,fun j d hj hd cd=>?_⟩⟩
  ·
   have:=(at4.1 h2) e he;simpa[hb]using this
  ·
   have:=aty.1 h3 j (atX.2 hj);rw[hd]at this;simp only[ad2,auA,aus,decide_eq_true_eq]at this;rcases this.1 with h4|h4
   ·
    exact absurd hl (by simpa using h4)
   obtain⟨⟨h5,h6⟩,h7⟩:=h4;obtain⟨e,he,hb⟩:=Array.any_eq_true'.1 h7;simp only[ad2,beq_iff_eq]at hb;exact⟨h5,fun jg=>h6.elim (fun h=>by rw[h]at jg;cases jg) id,e,he,hb.1,hb.2⟩
  have:=aty.1 h3 j (atX.2 hj);rw[hd]at this;simp only[ad2,auA,beq_iff_eq]at this;rcases this.2 with h4|h4
  ·
   exact absurd h4 cd
  simpa using h4
def vh(P:Program)(o:Oper)(a:Act)(C:World->Prop)(v:Value):Prop:= ∀w,C w->o.quietAt P a (Mem w []) w v
def ID(P:Program)(l:List Oper)(fs:List Nat)(C:World->Prop)(v:Nat->Value)(a0:Act)(k:Nat):Prop:=
 ∀o,l[k]? =some o->(Region.wanted o (yielded l.toArray (fr l fs v a0 k).tmps)=true->vh P o (fr l fs v a0 k) C (v k))/\
  (Region.wanted o (yielded l.toArray (fr l fs v a0 k).tmps)=false->v k=undef)
def n7(P:Program)(ops:Array Oper)(fs:List Nat)(C:World->Prop)(F:Act->Prop):Nat->List Oper->Act->Prop
 |_,[],a=>F a
 |k,o::rest,a=>if fs.contains k=true then n7 P ops fs C F (k+1) rest a
  else if Region.wanted o (yielded ops a.tmps)=true then∃v,vh P o a C v/\n7 P ops fs C F (k+1) rest (a.put o.dst v)else n7 P ops fs C F (k+1) rest (a.put o.dst undef)
theorem IE{F:Act->Prop}: ∀(m k:Nat) (a0:Act) (v0:Nat->Value),k+m<=l.length->n7 P l.toArray fs C F k ((l.drop k).take m) (fr l fs v0 a0 k)->
  ∃v,(∀j,j<k->v j=v0 j)/\(∀j,k<=j->j<k+m->fs.contains j=false->ID P l fs C v a0 j)/\F (fr l fs v a0 (k+m))
 |0,k,a0,v0,_,h=>⟨v0,fun _ _=>rfl,fun j h1 h2=>by omega,by simpa[n7]using h⟩
 |m+1,k,a0,v0,hle,h=>by
  have hk:k<l.length:=by omega
  have ed:l.drop k=l[k]::l.drop (k+1):=avr hk;rw[ed,auD]at h;have N1:l[k]? =some l[k]:=atp hk;have agree: ∀v v':Nat->Value,∀j,(∀i,i<j->v i=v' i)->fr l fs v a0 j=fr l fs v' a0 j:=by
   intro v v' j
   induction j with
   |zero=>intro _;rfl
   |succ j ih=>
    intro hh;have e:=ih fun i hi=>hh i (by omega)
    cases hf:fs.contains j with
    |true=>rw[zK hf,zK hf,e]
    |false=>
     cases ho:l[j]?with
     |none=>rw[BS ho,BS ho,e]
     |some o=>rw[yj hf ho,yj hf ho,e,hh j (by omega)]
  unfold n7 at h
  cases ym:fs.contains k with
  |true=>
   rw[if_pos ym]at h;obtain⟨v,g1,g2,g3⟩:=IE m (k+1) a0 v0 (by omega) (by rw[zK ym];exact h);refine⟨v,fun j hj=>g1 j (by omega),fun j h3 h4 h5=>?_,by rw[show k+(m+1)=k+1+m by omega];exact g3⟩
   by_cases hj:j=k
   ·
    subst hj;rw[ym]at h5;cases h5
   ·
    exact g2 j (by omega) (by omega) h5
  |false=>
   rw[if_neg (by rw[ym];exact auB)]at h;have step: ∀u:Value,n7 P l.toArray fs C F (k+1) ((l.drop (k+1)).take m) ((fr l fs v0 a0 k).put l[k].dst u)->
     ((Region.wanted l[k] (yielded l.toArray (fr l fs v0 a0 k).tmps)=true->vh P l[k] (fr l fs v0 a0 k) C u)/\(Region.wanted l[k] (yielded l.toArray (fr l fs v0 a0 k).tmps)=false->u=undef))->
     ∃v,(∀j,j<k->v j=v0 j)/\(∀j,k<=j->j<k+(m+1)->fs.contains j=false->ID P l fs C v a0 j)/\F (fr l fs v a0 (k+(m+1))):=by
    intro u h2 hu
    let v1:Nat->Value:=fun j=>if j=k then u else v0 j
    have e1:fr l fs v1 a0 k=fr l fs v0 a0 k:=agree _ _ k fun i hi=>by simp[v1,show i≠k by omega]
    have e2:fr l fs v1 a0 (k+1)=(fr l fs v0 a0 k).put l[k].dst u:=by
     rw[yj ym N1,e1];simp[v1]
    obtain⟨v,g1,g2,g3⟩:=IE m (k+1) a0 v1 (by omega) (by rw[e2];exact h2);have e3:fr l fs v a0 k=fr l fs v0 a0 k:=agree _ _ k fun i hi=>by rw[g1 i (by omega)];simp[v1,show i≠k by omega]
    have e4:v k=u:=by rw[g1 k (by omega)];simp[v1]
    refine⟨v,fun j hj=>by rw[g1 j (by omega)];simp[v1,show j≠k by omega],fun j h3 h4 h5=>?_,by rw[show k+(m+1)=k+1+m by omega];exact g3⟩
    by_cases hj:j=k
    ·
     subst hj;intro o ho;rw[N1]at ho;cases ho;rw[e3,e4];exact hu
    ·
     exact g2 j (by omega) (by omega) h5
   split at h
   ·
    rename_i hw;obtain⟨u,h1,h2⟩:=h;exact step u h2 ⟨fun _=>h1,fun hf=>by rw[hw]at hf;cases hf⟩
   ·
    rename_i hw;exact step undef h ⟨fun ht=>absurd ht hw,fun _=>rfl⟩
def N2(P:Program)(w:World)(R:Value->World->List ai->Prop):Result Next->Prop
 | .ok (.value v) w'=> ∃E,R v w' E
 | .ok (.enter f args) w'=>w'=w/\Calls P f args w fun e qM=> ∃v E,e= .returned v/\R v qM E
 |_=>False
def vi(P:Program)(l:List Oper)(n:Nat)(Q:Exit->Act->World->Prop)(w0:World)(Lq:List ai):List Nat->Act->List ai->Prop
 |[],af,L=> ∀w,Mem w0 L w->wpList P l.toArray Q (l.drop n) af w
 |j::js,af,L=> ∃o,l[j]? =some o/\o.guard=none/\ ∀w,Mem w0 L w->N2 P w (fun v w' L'=>Mem w0 L' w'/\(∀w,Mem w0 L' w->Mem w0 Lq w)/\vi P l n Q w0 Lq js (af.put o.dst v) L') ((execOp af.eval o).run P w)
def tN(l:List Oper):List Nat->Bool
 |j::k::r=>(match l[k]?with|some o=>o.after.any fun e=>Region.binds .any e&&e.on==j|none=>false)&&tN l (k::r)
 |_=>true
theorem N3: ∀(rs:List Nat) (j0:Nat),tN l (j0::rs)=true-> ∀i∈rs,∃p∈j0::rs,∃o,l[i]? =some o/\ ∃e∈o.after,Region.binds .any e=true/\e.on=p
 |[],_,_,i,hi=>by cases hi
 |k::r,j0,h,i,hi=>by
  simp only[tN,ad2]at h;rcases atv.1 hi with rfl|hi
  ·
   cases ho:l[i]?with
   |none=>rw[ho]at h;simp at h
   |some o=>
    rw[ho]at h;obtain⟨e,he,hb⟩:=Array.any_eq_true'.1 h.1;simp only[ad2,beq_iff_eq]at hb;exact⟨j0,by simp,o,rfl,e,he,hb.1,hb.2⟩
  obtain⟨p,hp,o,ho,e,he,hb⟩:=N3 r k h.2 i hi;exact⟨p,atF _ hp,o,ho,e,he,hb⟩
structure wH(P:Program)(l:List Oper)(fs:List Nat)(Q:Exit->Act->World->Prop)(w0:World)(L0:List ai)(n:Nat)(v:Nat->Value)(a0:Act)(rs:List Nat)(af:Act)(listed:Array Bool)(a:Act)(w:World):Prop where
 inv:HeadInv .any l.toArray n listed
 mem: ∃L,Mem w0 L w/\(∀w,Mem w0 L w->Mem w0 L0 w)/\vi P l n Q w0 L0 rs af L
 size:a.tmps.size=a0.tmps.size
 rB:af.tmps.size=a0.tmps.size
 defers:a.defers=a0.defers
 tO:af.defers=a0.defers
 iv: ∃ds,fs=ds++rs
 todo: ∀j,j<n->fs.contains j=true->(listed.getD j true=false↔j∈rs)
 done: ∀j d,j<n->listed.getD j true=true->dX l j=some d->a.tmps[d]? =af.tmps[d]?
 rest: ∀d,(∀j,j<n->listed.getD j true=true->dX l j≠some d)->a.tmps[d]? =a0.tmps[d]?
 full: ∀d,(∀j,j<n->fs.contains j=true->listed.getD j true=true->dX l j≠some d)->af.tmps[d]? =(fr l fs v a0 n).tmps[d]?
variable {w0:World} {L0:List ai}
theorem IF{listed:Array Bool}{i:Nat}(h:listed.getD i true=false):i<listed.size:=by
 rcases atA i listed.size with h'|h'
 ·
  exact h'
 simp[atQ h']at h
theorem N4{v:Nat->Value}{a0 a af:Act}{rs:List Nat}{listed:Array Bool}{w:World}(H:wH P l fs Q w0 L0 n v a0 rs af listed a w){k:Nat}{o:Oper}(ho:BW l fs n k o)
  (rC: ∀e∈o.after,Region.binds .any e=true->listed.getD e.on false=true) (t:Nat) (ht:t∈o.looksAt l.toArray):a.tmps[t]? =af.tmps[t]? :=by
 by_cases hw: ∃j,j<n/\dX l j=some t
 ·
  obtain⟨j,hj,hd⟩:=hw;obtain⟨_,_,e,he,hb,fN⟩:=ho.reads j t hj hd ht;have hl:=rC e he hb;rw[fN]at hl;have XJ:listed.getD j true=true:=by
   have BX:j<listed.size:=by
    rcases atA j listed.size with h|h
    ·
     exact h
    ·
     simp[atQ h]at hl
   simp[BX]at hl⊢;exact hl
  exact H.done j t hj XJ hd
 ·
  have h1: ∀j,j<n->dX l j≠some t:=fun j hj hd=>hw ⟨j,hj,hd⟩;rw[H.rest t fun j hj _=>h1 j hj,H.full t fun j hj _ _=>h1 j hj];exact(yk v a0 t 0 n (by omega) fun j _ h2 _=>h1 j h2).symm
theorem XK{v:Nat->Value}{a0 a af:Act}{rs:List Nat}{listed:Array Bool}{w:World}(H:wH P l fs Q w0 L0 n v a0 rs af listed a w){k:Nat}{o:Oper}(hk:k<n)(ym:fs.contains k=false)(ho:BW l fs n k o)(hB:BU l fs n=true)
  (rC: ∀e∈o.after,Region.binds .any e=true->listed.getD e.on false=true) (t:Nat) (ht:t∈o.looksAt l.toArray):a.tmps[t]? =(fr l fs v a0 k).tmps[t]? :=by
 rw[N4 H ho rC t ht]
 by_cases hw: ∃j,j<n/\dX l j=some t
 ·
  obtain⟨j,hj,hd⟩:=hw;obtain⟨EH,XL,_⟩:=ho.reads j t hj hd ht;have uniq: ∀i,i<n->i≠j->dX l i≠some t:=fun i hi o8 he=>by
   obtain⟨oi,wI,qb⟩:=EG hB i hi;exact qb.one j t hj hd (Ne.symm o8) (by simpa[dX,wI]using he)
  rw[H.full t fun i hi hf _ he=>?_]
  ·
   exact yk v a0 t k n (by omega) fun i h1 h2 _=>uniq i h2 (by omega)
  ·
   by_cases o8:i=j
   ·
    subst o8;have:=XL hf;rw[ym]at this;cases this
   ·
    exact uniq i hi o8 he
 ·
  have h1: ∀j,j<n->dX l j≠some t:=fun j hj hd=>hw ⟨j,hj,hd⟩;rw[H.full t fun j hj _ _=>h1 j hj,yk v a0 t 0 n (by omega) fun j _ h2 _=>h1 j h2];exact(yk v a0 t 0 k (by omega) fun j _ h2 _=>h1 j (by omega)).symm
theorem IG{a b:Act}{o:Oper}{ops:Array Oper}(h: ∀t∈o.looksAt ops,a.tmps[t]? =b.tmps[t]?): ∀x∈o.op.operands,a.eval x=b.eval x:=by
 intro x hx
 cases x with
 |tmp t=>
  have:t∈o.looksAt ops:=by
   unfold Oper.looksAt;refine atT _ (List.mem_filterMap.2 ⟨.tmp t,by simpa using hx,rfl⟩)
  simp[Act.eval,h t this]
 |_=>rfl
theorem N5{a b:Act}{o:Oper}{ops:Array Oper}(h: ∀t∈o.looksAt ops,a.tmps[t]? =b.tmps[t]?):Region.wanted o (yielded ops a.tmps)=Region.wanted o (yielded ops b.tmps):=by
 unfold Region.wanted
 cases hg:o.guard with
 |none=>rfl
 |some p=>
  obtain⟨j,b'⟩:=p;have:yielded ops a.tmps j=yielded ops b.tmps j:=by
   unfold yielded
   cases hd:(ops[j]?).bind (·.dst)with
   |none=>rfl
   |some d=>
    have hm:d∈o.looksAt ops:=by unfold Oper.looksAt;rw[hg];simp[hd]
    simp[h d hm]
  simp[this]
def zL(size n:Nat):Array Bool:=((List.range size).map fun i=>decide (i<n)).toArray
theorem XM{v:Nat->Value}{a0 a af:Act}{rs:List Nat}{listed:Array Bool}{w w':World}(H:wH P l fs Q w0 L0 n v a0 rs af listed a w){i:Nat}{o:Oper}(hi:i<n)(kb:fs.contains i=false)(yn:l[i]? =some o)(ho:BW l fs n i o)(hB:BU l fs n=true)
  (hr:i∈Region.ready .any l.toArray listed) (gR:Mem w [] w'):wH P l fs Q w0 L0 n v a0 rs af (listed.setIfInBounds i true) (a.put o.dst (v i)) w':=by
 have iX:=(mem_ready.1 hr).1;have lM:dX l i=o.dst:=by simp[dX,yn]
 have bn:=IF iX;have iw: ∀j,j≠i->(listed.setIfInBounds i true).getD j true=listed.getD j true:=fun j cF=>getD_set_ne true (Ne.symm cF);have qN:(listed.setIfInBounds i true).getD i true=true:=by simp[bn]
 obtain⟨L,hL,nB,hF⟩:=H.mem;have uniq: ∀d,dX l i=some d-> ∀j,j<n->j≠i->dX l j≠some d:=fun d hd j hj cF he=>by
  obtain⟨oj,XN,jg⟩:=EG hB j hj;exact jg.one i d hi hd (Ne.symm cF) (by simpa[dX,XN]using he)
 refine⟨H.inv.set hr hi,⟨L,by simpa using hL.call gR,nB,hF⟩,by rw[tL];exact H.size,H.rB,by rw[tM];exact H.defers,H.tO,H.iv,fun j hj hf=>?_,fun j d hj hl hd=>?_,fun d hd=>?_,fun d hd=>?_⟩
 ·
  rw[iw j (fun e=>by subst e;rw[kb]at hf;cases hf)];exact H.todo j hj hf
 ·
  by_cases cF:j=i
  ·
   subst cF;have EI:=hd;rw[lM]at hd;rw[hd,H.full d fun j' jg sr _=>uniq d EI j' jg (fun e=>by subst e;rw[kb]at sr;cases sr)];have e1:(fr l fs v a0 n).tmps[d]? =(fr l fs v a0 (j+1)).tmps[d]? :=yk v a0 d (j+1) n (by omega) fun i' h1 h2 _=>uniq d EI i' h2 (by omega);rw[e1,yj kb yn,hd];exact NZ _ _ _ _ (by rw[H.size,BT])
  ·
   rw[iw j cF]at hl;rw[ka _ _ _ _ (ho.one j d hj hd cF)];exact H.done j d hj hl hd
 ·
  have h1:o.dst≠some d:=by
   have:=hd i hi qN;rwa [lM]at this
  rw[ka _ _ _ _ h1];refine H.rest d fun j hj hl=>?_
  by_cases cF:j=i
  ·
   subst cF;rw[lM];exact h1
  ·
   exact hd j hj (by rw[iw j cF];exact hl)
 ·
  refine H.full d fun j hj hf hl=>?_;exact hd j hj hf (by rw[iw j (fun e=>by subst e;rw[kb]at hf;cases hf)];exact hl)
theorem XO{v:Nat->Value}{a0 a af:Act}{i:Nat}{rs:List Nat}{listed:Array Bool}{w w':World}(H:wH P l fs Q w0 L0 n v a0 (i::rs) af listed a w){o:Oper}(hi:i<n)(kb:fs.contains i=true)(cI:fs.Nodup)(yn:l[i]? =some o)(ho:BW l fs n i o)
  (hr:i∈Region.ready .any l.toArray listed) {u:Value} {L':List ai} (gR:Mem w0 L' w') (nB: ∀w,Mem w0 L' w->Mem w0 L0 w) (hF:vi P l n Q w0 L0 rs (af.put o.dst u) L'):
  wH P l fs Q w0 L0 n v a0 rs (af.put o.dst u) (listed.setIfInBounds i true) (a.put o.dst u) w':=by
 have iX:=(mem_ready.1 hr).1;have lM:dX l i=o.dst:=by simp[dX,yn]
 have bn:=IF iX;have iw: ∀j,j≠i->(listed.setIfInBounds i true).getD j true=listed.getD j true:=fun j cF=>getD_set_ne true (Ne.symm cF);have qN:(listed.setIfInBounds i true).getD i true=true:=by simp[bn]
 obtain⟨ds,yo⟩:=H.iv;have EJ:i∉rs:=fun h=>by
  rw[yo]at cI;have:=(avd.1 cI).2.1;exact(avA.1 this).1 h
 refine⟨H.inv.set hr hi,⟨L',gR,nB,hF⟩,by rw[tL];exact H.size,by rw[tL];exact H.rB,by rw[tM];exact H.defers,by rw[tM];exact H.tO,⟨ds++[i],by rw[yo];simp⟩,fun j hj hf=>?_,fun j d hj hl hd=>?_,fun d hd=>?_,fun d hd=>?_⟩
 ·
  by_cases cF:j=i
  ·
   subst cF;rw[qN];simp[EJ]
  ·
   rw[iw j cF,H.todo j hj hf];simp[cF]
 ·
  by_cases cF:j=i
  ·
   subst cF;rw[lM]at hd;rw[hd];exact NZ _ _ _ _ (by rw[H.size,H.rB])
  ·
   rw[iw j cF]at hl;rw[ka _ _ _ _ (ho.one j d hj hd cF),ka _ _ _ _ (ho.one j d hj hd cF)];exact H.done j d hj hl hd
 ·
  have h1:o.dst≠some d:=by
   have:=hd i hi qN;rwa [lM]at this
  rw[ka _ _ _ _ h1];refine H.rest d fun j hj hl=>?_
  by_cases cF:j=i
  ·
   subst cF;rw[lM];exact h1
  ·
   exact hd j hj (by rw[iw j cF];exact hl)
 ·
  have h1:o.dst≠some d:=by
   have:=hd i hi kb qN;rwa [lM]at this
  rw[ka _ _ _ _ h1];refine H.full d fun j hj hf hl=>?_
  by_cases cF:j=i
  ·
   subst cF;rw[lM];exact h1
  ·
   exact hd j hj hf (by rw[iw j cF];exact hl)
theorem XP{v:Nat->Value}{a0 a af:Act}{rs:List Nat}{listed:Array Bool}{w:World}(H:wH P l fs Q w0 L0 n v a0 rs af listed a w)(iY: ∀j,j<n->listed.getD j true=true):a=af:=by
 have:a.tmps=af.tmps:=by
  apply aut;intro d
  by_cases hw: ∃j,j<n/\dX l j=some d
  ·
   obtain⟨j,hj,hd⟩:=hw;exact H.done j d hj (iY j hj) hd
  have h1: ∀j,j<n->dX l j≠some d:=fun j hj hd=>hw ⟨j,hj,hd⟩;rw[H.rest d fun j hj _=>h1 j hj,H.full d fun j hj _ _=>h1 j hj];exact(yk v a0 d 0 n (by omega) fun j _ h2 _=>h1 j h2).symm
 have h2:a.defers=af.defers:=by rw[H.defers,H.tO]
 cases a;cases af
 simp_all
def left(n:Nat)(listed:Array Bool):Nat:=((List.range n).filter fun i=> !listed.getD i true).length
theorem N6{listed:Array Bool}{i:Nat}(hi:i<n)(iX:listed.getD i true=false):left n listed=left n (listed.setIfInBounds i true)+1:=by
 have bn:=IF iX;have key: ∀m,i<m->((List.range m).filter fun j=> !listed.getD j true).length=((List.range m).filter fun j=> !(listed.setIfInBounds i true).getD j true).length+1:=by
  intro m
  induction m with
  |zero=>intro h;omega
  |succ m ih=>
   intro h;rw[auF,auG,auG,adr,adr]
   by_cases e:i=m
   ·
    subst e;have h1:((List.range i).filter fun j=> !listed.getD j true)=((List.range i).filter fun j=> !(listed.setIfInBounds i true).getD j true):=by
     apply List.filter_congr;intro j hj;rw[getD_set_ne true (by have:=atX.1 hj;omega)]
    rw[h1];simp only[auu,iX,avo,if_true,avB,af0,anc];simp[bn]
   have:=ih (by omega);have h2:(listed.setIfInBounds i true).getD m true=listed.getD m true:=getD_set_ne true e;simp only[auu,h2,avB];omega
 exact key n hi
theorem IH{v:Nat->Value}{a0:Act}(hB:BU l fs n=true)(hn:n<l.length)(hs:Region.sinkB .any l.toArray n=true)(hc:Region.chainB .any l.toArray n=true)
  (II:Region.seqB .any l.toArray (l.length -n) n (zL l.length n)=true) (cI:fs.Nodup) (bn: ∀j∈fs,j<n) (pa:tN l fs=true) (hq: ∀k,k<n->fs.contains k=false->ID P l fs (Mem w0 L0) v a0 k):
  ∀(m:Nat) (rs:List Nat) (af:Act) (listed:Array Bool) (a:Act) (w:World),left n listed=m->wH P l fs Q w0 L0 n v a0 rs af listed a w->wpAny P .any l.toArray Q (m+(l.length -n)) listed a w
 |0,rs,af,listed,a,w,hm,H=>by
  have iY: ∀j,j<n->listed.getD j true=true:=fun j hj=>by
   cases h:listed.getD j true with
   |true=>rfl
   |false=>
    have:j∈(List.range n).filter fun i=> !listed.getD i true:=atY.2 ⟨List.mem_range.2 hj,by rw[h];rfl⟩;rw[atJ.1 hm]at this
    cases this
  have e1:=XP H iY;have e2:listed=zL l.length n:=by
   apply aut;intro j;have eI:listed.size=l.length:=by simpa using H.inv.size
   by_cases hj:j<l.length
   ·
    have BX:j<listed.size:=by omega
    simp only[zL,auT,atx,auU hj,at3,Array.getElem?_eq_getElem BX]
    by_cases wJ:j<n
    ·
     have:=iY j wJ;simp[BX]at this;simp[this,wJ]
    ·
     have:=H.inv.tail j (by omega) (by simpa using hj);simp[BX]at this;simp[this,wJ]
   ·
    simp[zL,show ¬j<l.length from hj];omega
  have e3:rs=[]:=by
   cases rs with
   |nil=>rfl
   |cons r yp=>
    obtain⟨ds,yo⟩:=H.iv;have hr:r∈fs:=by rw[yo];simp
    have:=(H.todo r (bn r hr) (by simpa using hr)).2 (by simp);rw[iY r (bn r hr)]at this;cases this
  subst e1 e2 e3;obtain⟨L,hL,_,hF⟩:=H.mem;have:=wpAny_of_seq (P:=P) (md:= .any) (Q':=Q) (l.drop n) n (zL l.length n) a w (fun j=>by simp[auC]) (by rw[atD];exact II) (hF w hL);rw[atD]at this;rw[auf];exact this
 |m+1,rs,af,listed,a,w,hm,H=>by
  rw[show m+1+(l.length -n)=(m+(l.length -n))+1 by omega];obtain⟨i0,BY,EK,BZ⟩: ∃i,i<n/\listed.getD i true=false/\ ∀j,j<i->listed.getD j true=true:=by
   have cd: ∃i,i<n/\listed.getD i true=false:=by
    cases hf:(List.range n).filter fun i=> !listed.getD i true with
    |nil=>rw[left,hf]at hm;cases hm
    |cons i r=>
     have:i∈(List.range n).filter fun i=> !listed.getD i true:=by rw[hf];simp
     obtain⟨h1,h2⟩:=atY.1 this;exact⟨i,atX.1 h1,by simpa using h2⟩
   obtain⟨i,h1,h2⟩:=cd
   induction i using Nat.strongRecOn with
   |_ i ih=>
    by_cases h: ∃j,j<i/\listed.getD j true=false
    ·
     obtain⟨j,hj,dD⟩:=h;exact ih j hj (by omega) dD
    ·
     refine⟨i,h1,h2,fun j hj=>?_⟩
     cases hh:listed.getD j true with
     |true=>rfl
     |false=>exact absurd ⟨j,hj,hh⟩ h
  have eI:listed.size=l.length:=by simpa using H.inv.size
  have B2:i0∈Region.ready .any l.toArray listed:=by
   obtain⟨o,ho,bN⟩:=EG hB i0 BY;refine mem_ready.2 ⟨EK,o,by simpa using ho,fun e he hb=>?_⟩;have h1:=bN.back e he hb;have h2:=BZ e.on h1;have h3:e.on<listed.size:=by omega
   simp[h3]at h2⊢;exact h2
  refine⟨fun h=>(by rw[h]at B2;cases B2),fun i hi=>?_⟩;have iH:i<n:=by
   rcases atA i n with h|h
   ·
    exact h
   ·
    exact absurd hi (tail_waits hs hc (by simpa using hn) H.inv _ i0 rfl BY EK i h)
  obtain⟨o,ho,bN⟩:=EG hB i iH;obtain⟨iX,o',qc,rC⟩:=mem_ready.1 hi;have:o'=o:=by simpa[ho]using qc.symm
  subst this;have tP:left n (listed.setIfInBounds i true)=m:=by have:=N6 iH iX;omega
  obtain⟨L,hL,nB,hF⟩:=H.mem
  cases kb:fs.contains i with
  |false=>
   have EL:=XK H iH kb bN hB rC;have ew:=N5 (ops:=l.toArray) EL;have ee:execOp a.eval o'=execOp (fr l fs v a0 i).eval o':=execOp_congr o' bN.wG (IG EL);obtain⟨N7,XQ⟩:=hq i iH kb o' ho;have next: ∀w',Mem w [] w'->wpAny P .any l.toArray Q (m+(l.length -n)) (listed.setIfInBounds i true) (a.put o'.dst (v i)) w':=fun w' gR=>
    IH hB hn hs hc II cI bn pa hq m rs af _ _ w' tP (XM H iH kb ho bN hB hi gR)
   unfold wpOp;simp only[qc];rw[ew];split
   ·
    rename_i rD;have h1:=N7 rD w (nB w hL);refine .inl ?_;unfold Oper.wp;rw[ee];unfold Oper.quietAt at h1;generalize(execOp (fr l fs v a0 i).eval o').run P w=r at h1;unfold Oper.quietUpon at h1;split at h1
    ·
     obtain⟨rfl,rfl⟩:=h1;exact next _ (Mem.init _)
    ·
     obtain⟨rfl,e⟩:=h1;rw[e]at next;exact next _ (Mem.init _)
    ·
     obtain⟨rfl,vj⟩:=h1;exact vj.mono fun e qM ⟨he,hm⟩=>by subst he;exact next _ hm
    ·
     exact h1.elim
   ·
    rename_i rD;have:=XQ (by simpa using rD);rw[this]at next;exact next w (Mem.init _)
  |true=>
   have EJ:i∈rs:=(H.todo i iH kb).1 iX
   cases rs with
   |nil=>cases EJ
   |cons r yp=>
    have B3:i=r:=by
     rcases atv.1 EJ with h|h
     ·
      exact h
     ·
      exfalso;obtain⟨ds,yo⟩:=H.iv;have XR:tN l (r::yp)=true:=by
       rw[yo]at pa;have key: ∀ds:List Nat,tN l (ds++r::yp)=true->tN l (r::yp)=true:=by
        intro ds
        induction ds with
        |nil=>exact id
        |cons d ds ih=>
         intro hh
         cases ds with
         |nil=>simp only[auL,aug,tN,ad2]at hh;exact hh.2
         |cons d' ds'=>simp only[auL,tN,ad2]at hh;exact ih hh.2
       exact key ds pa
      obtain⟨p,hp,op,dN,e,he,hb,fN⟩:=N3 yp r XR i h;have:op=o':=by rw[ho]at dN;exact(atl dN).symm
      subst this;have hl:=rC e he hb;rw[fN]at hl;have N8:p∈fs:=by rw[yo];exact auO _ hp
      have h1:=(H.todo p (bn p N8) (by simpa using N8)).2 hp;rw[getD_both h1]at hl
      cases hl
    subst B3;obtain⟨of,rE,hg,gK⟩:=hF;have:of=o':=by rw[ho]at rE;exact(atl rE).symm
    subst this;have EL:=N4 H bN rC;have ee:execOp a.eval of=execOp af.eval of:=execOp_congr of bN.wG (IG EL);have h1:=gK w hL;have next: ∀u w' E,(Mem w0 E w'/\(∀w,Mem w0 E w->Mem w0 L0 w)/\vi P l n Q w0 L0 yp (af.put of.dst u) E)->wpAny P .any l.toArray Q (m+(l.length -n)) (listed.setIfInBounds i true) (a.put of.dst u) w':=fun u w' E ⟨gR,XS,XT⟩=>
     IH hB hn hs hc II cI bn pa hq m yp (af.put of.dst u) _ _ w' tP (XO H iH kb cI ho bN hi gR XS XT)
    unfold wpOp;simp only[qc];rw[if_pos (by simp[Region.wanted,hg])];refine .inl ?_;unfold Oper.wp;rw[ee];generalize(execOp af.eval of).run P w=r at h1;unfold N2 at h1;split at h1
    ·
     obtain⟨E,hR⟩:=h1;exact next _ _ E hR
    ·
     obtain⟨rfl,vj⟩:=h1;exact vj.mono fun e qM ⟨u,E,he,hR⟩=>by subst he;exact next u _ E hR
    ·
     exact h1.elim
def EM(l:List Oper)(fs:List Nat)(n:Nat):Bool:=
 BU l fs n&&decide (n<l.length)&&Region.sinkB .any l.toArray n&&Region.chainB .any l.toArray n&&Region.seqB .any l.toArray (l.length -n) n (zL l.length n)&&
  decide fs.Nodup&&(fs.all fun j=>decide (j<n))&&tN l fs
theorem XU{id:Nat}{ro:Option Nat}[kW Q]{a:Act}{w:World}(n:Nat)(cI:qL l=true)(hm:P.follows .mixedOrders=true)(hB:EM l fs n=true){L:List ai}(hC:Mem w0 L {w with drawn:=w.drawn+1})(nB: ∀w,Mem w0 L w->Mem w0 L0 w)
  (h:n7 P l.toArray fs (Mem w0 L0) (fun a'=>vi P l n Q w0 L0 fs a' L) 0 (l.take n) a):(Code.region id l.toArray true).wpIn (mW ro) 0 P Q a w:=by
 simp only[EM,ad2,decide_eq_true_eq]at hB;obtain⟨⟨⟨⟨⟨⟨⟨h1,h2⟩,h3⟩,h4⟩,h5⟩,h6⟩,h7⟩,h8⟩:=hB;have XV: ∀j∈fs,j<n:=fun j hj=>by have:=aty.1 h7 j hj;simpa using this
 obtain⟨v,_,g2,g3⟩:=IE (P:=P) (C:=Mem w0 L0) (l:=l) (fs:=fs) n 0 a (fun _=>undef) (by omega) (by simpa[fr]using h);refine IC cI hm ?_;have IJ:HeadInv .any l.toArray n (Array.replicate l.toArray.size false):=
  ⟨by simp,fun j oj _ hl=>(by rw[getD_replicate_false]at hl;cases hl),fun t _ ht=>getD_in (by simpa using ht) (getD_replicate_false _ _)⟩
 have tP:left n (Array.replicate l.toArray.size false)=n:=by
  unfold left;rw[List.filter_eq_self.2 (fun j hj=>?_),awj];have jg:=atX.1 hj;simp[show j<l.length by omega]
 rw[auf]at g3;have:=IH (P:=P) (Q:=Q) (w0:=w0) (L0:=L0) (v:=v) (a0:=a) h1 h2 h3 h4 h5 h6 XV h8 (fun k hk hf=>g2 k (by omega) (by omega) hf) n fs (fr l fs v a n) (Array.replicate l.toArray.size false) a _ tP
  ⟨IJ,⟨L,hC,nB,g3⟩,rfl,BT v a n,rfl,EF v a n,⟨[],rfl⟩,fun j hj hf=>?_,fun j d hj hl=>?_,fun _ _=>rfl,fun _ _=>rfl⟩
 ·
  rw[show n+(l.length -n)=l.toArray.size by simp;omega]at this;exact this
 ·
  have:j∈fs:=by simpa using hf
  simp[show j<l.length by omega,this]
 ·
  simp[show j<l.length by omega]at hl
end
abbrev Env:=List (Nat×Value)
theorem IK{a b:Nat}(h: ¬a=b):Nat.beq a b=false:=by
 cases hb:Nat.beq a b with
 |false=>rfl
 |true=>exact absurd (Nat.eq_of_beq_eq_true hb) h
def look:Env->Nat->Option Value
 |[],_=>none
 |(k,v)::r,d=>match Nat.beq k d with
  |true=>some v
  |false=>look r d
structure cC where
 n:Nat
 ds:List Nat
 ro:Option Nat
structure dw(N:cC)(env:Env)(a:Act):Prop where
 size:a.tmps.size=N.n
 get: ∀d v,look env d=some v->a.tmps[d]? =some v
 defers:a.defers=N.ds.map mark
def ev(env:Env):Operand->Option Value
 | .tmp t=>look env t
 | .const v=>some v
 | .global g=>some (.pointer (some ⟨g,0,none⟩))
 | .func f=>some (.func (.func f) #[] #[])
theorem dw.ev{N:cC}{env:Env}{a:Act}(h:dw N env a){x:Operand}{v:Value}(e:ev env x=some v):a.eval x=v:=by
 match x,e with
 | .tmp t,e=>
  have:=h.get t v e;simp[Act.eval,this]
 | .const u,e=>simpa[ax.ev,Act.eval]using e
 | .global g,e=>simpa[ax.ev,Act.eval]using e
 | .func f,e=>simpa[ax.ev,Act.eval]using e
def iz(env:Env):List Operand->Option (List Value)
 |[]=>some []
 |x::r=>match ev env x,iz env r with
  |some v,some vs=>some (v::vs)
  |_,_=>none
theorem dw.iz{N:cC}{env:Env}{a:Act}(h:dw N env a): ∀{xs:List Operand} {vs:List Value},iz env xs=some vs->xs.map a.eval=vs
 |[],vs,e=>by simp[ax.iz]at e;simp[e]
 |x::r,vs,e=>by
  unfold ax.iz at e;split at e
  ·
   rename_i v XW hv zM;simp only[auY]at e;subst e;simp[h.ev hv,h.iz zM]
  simp at e
theorem iZ{env:Env}:iz env []=some []:=rfl
theorem fa{env:Env}{x:Operand}{r:List Operand}{v:Value}{vs:List Value}(h:ev env x=some v)(h':iz env r=some vs):iz env (x::r)=some (v::vs):=by
 simp[iz,h,h']
def cy(env:Env):Option Tmp->Value->Env
 |some d,v=>(d,v)::env
 |none,_=>env
def dx(N:cC):Option Tmp->Bool
 |some d=>Nat.ble (d+1) N.n
 |none=>true
theorem dw.put{N:cC}{env:Env}{a:Act}(h:dw N env a){dst:Option Tmp}(hd:dx N dst=true)(v:Value):dw N (cy env dst v) (a.put dst v):=by
 cases dst with
 |none=>exact h
 |some d=>
  have bn:d<N.n:=Nat.le_of_ble_eq_true hd;refine⟨by simp[Act.put,h.size],fun d' v' hv=>?_,h.defers⟩;simp only[cy,look]at hv;simp only[Act.put,aub]
  by_cases he:d=d'
  ·
   subst he;simp at hv;simp[hv,h.size,bn]
  have:Nat.beq d d'=false:=IK he;rw[this]at hv;rw[if_neg he];exact h.get d' v' hv
def Sub(EN env:Env):Prop:= ∀d v,look EN d=some v->look env d=some v
theorem Sub.refl(env:Env):Sub env env:=fun _ _ h=>h
theorem Sub.nil(env:Env):Sub [] env:=fun _ _ h=>by simp[look]at h
theorem Sub.cons{r env:Env}{d:Nat}{v:Value}(hv:look env d=some v)(h:Sub r env):Sub ((d,v)::r) env:=fun d' v' h'=>by
 simp only[look]at h'
 by_cases he:d=d'
 ·
  subst he;simp at h';rw[←h'];exact hv
 have:Nat.beq d d'=false:=IK he;rw[this]at h';exact h d' v' h'
theorem dw.sub{N:cC}{env EN:Env}{a:Act}(h:dw N env a)(s:Sub EN env):dw N EN a:=⟨h.size,fun d v e=>h.get d v (s d v e),h.defers⟩
theorem dw.enter(args:List Value)(N:Nat)(h:args.length<=N):dw ⟨N,[],none⟩ (args.zipIdx.map fun p=>(p.2,p.1)) {tmps:=args.toArray++Array.replicate (N -args.toArray.size) undef,defers:=[]}:=by
 refine⟨by simp;omega,fun d v e=>?_,rfl⟩;have key: ∀(l:List Value) (k:Nat),look ((l.zipIdx k).map fun p=>(p.2,p.1)) d=some v->k<=d/\l[d -k]? =some v:=by
  intro l
  induction l with
  |nil=>intro k h;simp[look]at h
  |cons x r ih=>
   intro k h;simp only[List.zipIdx_cons,atI,look]at h
   by_cases he:k=d
   ·
    subst he;simp at h;simp[h]
   have:Nat.beq k d=false:=IK he;rw[this]at h;obtain⟨h1,h2⟩:=ih (k+1) h;refine⟨by omega,?_⟩;rw[show d -k=(d -(k+1))+1 by omega,List.getElem?_cons_succ];exact h2
 have hh:=(key args 0 e).2;rw[Nat.sub_zero]at hh;have bn:d<args.length:=by
  rcases atA d args.length with h'|h'
  ·
   exact h'
  simp[atB h']at hh
 rw[auk (by simpa using bn)];simpa using hh
section
variable {P:Program} {N:cC} {w0:World} {env:Env} {L:List ai} {d:Option Tmp} {ty:TypeId} {ps:String} {af:Array Edge} {gd:Option (Nat×Bool)}
def Ry(P:Program)(N:cC)(w0:World)(env:Env)(L:List ai)(o:Oper)(v:Value):Prop:=
 ∀a w,dw N env a->Mem w0 L w->(execOp a.eval o).run P w= .ok (.value v) w
def Yl(P:Program)(N:cC)(w0:World)(env:Env)(L:List ai)(o:Oper)(v:Value):Prop:=
 ∀a,dw N env a->vh P o a (Mem w0 L) v
theorem Ry.yl{o:Oper}{v:Value}(h:Ry P N w0 env L o v):Yl P N w0 env L o v:=fun a ha w hw=>by
 unfold Oper.quietAt;rw[h a w ha hw];exact⟨rfl,rfl⟩
theorem bo{x:Operand}{v:Value}(hx:ev env x=some v):Ry P N w0 env L ⟨d, .move x,ty,ps,af,gd⟩ v:=fun a w ha _=>by
 simp only[execOp,ha.ev hx,Sem.run_pure]
theorem gS{x:Operand}{v:Value}(hx:ev env x=some v):Ry P N w0 env L ⟨d, .assign x,ty,ps,af,gd⟩ v:=fun a w ha _=>by
 simp only[execOp,ha.ev hx,Sem.run_pure]
theorem IL{c x y:Operand}{g:Bool}{vx vy:Value}(hc:ev env c=some (.bool g))(hx:ev env x=some vx)(hy:ev env y=some vy):
  Ry P N w0 env L ⟨d, .pick c x y,ty,ps,af,gd⟩ (if g=true then vx else vy):=fun a w ha _=>by
 simp only[execOp,ha.ev hx,ha.ev hc,ha.ev hy,Sem.run_bind,Sem.run_pure,asBool,Result.andThen]
theorem zN{c x y:Operand}{g b:Bool}(hc:ev env c=some (.bool g))(hx:ev env x=some (if g=true then .bool b else undef))(hy:ev env y=some (.bool false)):
  Ry P N w0 env L ⟨d, .pick c x y,ty,ps,af,gd⟩ (.bool (g&&b)):=by
 have h:=IL (P:=P) (N:=N) (w0:=w0) (L:=L) (d:=d) (ty:=ty) (ps:=ps) (af:=af) (gd:=gd) hc hx hy
 cases g<;>simpa using h
theorem zO{c x y:Operand}{g b:Bool}(hc:ev env c=some (.bool g))(hx:ev env x=some (.bool true))(hy:ev env y=some (if(!g)=true then .bool b else undef)):
  Ry P N w0 env L ⟨d, .pick c x y,ty,ps,af,gd⟩ (.bool (g||b)):=by
 have h:=IL (P:=P) (N:=N) (w0:=w0) (L:=L) (d:=d) (ty:=ty) (ps:=ps) (af:=af) (gd:=gd) hc hx hy
 cases g<;>simpa using h
theorem nC{x:Operand}{g:Bool}{t:TypeId}(hx:ev env x=some (.bool g)):Ry P N w0 env L ⟨d, .unOp .not t x,ty,ps,af,gd⟩ (.bool (!g)):=fun a w ha _=>by
 simp only[execOp,ha.ev hx,Op.unary,Sem.run_bind,Sem.run_pure,Result.andThen]
theorem aE{x:Operand}{vs:Array Value}{i:Nat}{v:Value}(hx:ev env x=some (.tuple vs))(hv:vs[i]? =some v):Ry P N w0 env L ⟨d, .extract x i,ty,ps,af,gd⟩ v:=fun a w ha _=>by
 simp only[execOp,ha.ev hx,Instr.extract,hv,Sem.run_bind,Sem.run_pure,Result.andThen]
def mX(op:BinOp)(k:IntKind)(a b:Int):Option Value:=
 match op with
 | .add=>some (.int k (k.wrap (a+b)))
 | .sub=>some (.int k (k.wrap (a -b)))
 | .mul=>some (.int k (k.wrap (a*b)))
 | .quo=>if b=0 then none else some (.int k (k.wrap (a.tdiv b)))
 | .rem=>if b=0 then none else some (.int k (a.tmod b))
 | .and=>some (.int k (k.wrap (BitVec.ofInt k.bits a&&&BitVec.ofInt k.bits b).toNat))
 | .or=>some (.int k (k.wrap (BitVec.ofInt k.bits a|||BitVec.ofInt k.bits b).toNat))
 | .xor=>some (.int k (k.wrap (BitVec.ofInt k.bits a^^^BitVec.ofInt k.bits b).toNat))
 | .andNot=>some (.int k (k.wrap (BitVec.ofInt k.bits a&&& ~~~BitVec.ofInt k.bits b).toNat))
 | .eql=>some (.bool (decide (a=b)))
 | .neq=>some (.bool (!decide (a=b)))
 | .lss=>some (.bool (decide (a<b)))
 | .leq=>some (.bool (decide (a<=b)))
 | .gtr=>some (.bool (decide (b<a)))
 | .geq=>some (.bool (decide (b<=a)))
 |_=>none
theorem IM(op:BinOp)(t:TypeId)(x y:Operand)(k k':IntKind)(a b:Int)(w:World):(eqGuard op t x y (.int k a) (.int k' b)).run P w= .ok () w:=by
 cases op<;>rfl
theorem XX{op:BinOp}{k:IntKind}{a b:Int}{v:Value}(t:TypeId)(h:mX op k a b=some v)(w:World):(binOp op t (.int k a) (.int k b)).run P w= .ok v w:=by
 cases op<;>simp only[mX,auY,reduceCtorEq]at h<;>(try split at h)<;>(try simp only[auY,reduceCtorEq]at h)<;>(try subst h)<;>
  simp_all[binOp,Op.intArith,Op.intDiv,Op.intBits,Op.intCmp]<;>rfl
theorem fE{op:BinOp}{k:IntKind}{x y:Operand}{a b:Int}{v:Value}{t u:TypeId}(hx:ev env x=some (.int k a))(hy:ev env y=some (.int k b))(h:mX op k a b=some v):
  Ry P N w0 env L ⟨d, .binOp op t x y u,ty,ps,af,gd⟩ v:=fun a w ha _=>by
 simp only[execOp,ha.ev hx,ha.ev hy,Sem.run_bind,IM,XX t h,Sem.run_pure,Result.andThen]
end
def wK:TypeDesc->Bool
 | .struct _| .array _ _=>true
 |_=>false
class gC(P:Program)(t:TypeId)(n:outParam Nat):Prop where
 row: ∃d,P.underlying t=some d/\wK d=true
 size:(P.info? t).map (·.size)=some n
class gL(P:Program)(t:TypeId):Prop where
 one: ∃d,P.underlying t=some d/\wK d=false
 size:(P.info? t).map (·.size)=some 1
class dn(P:Program)(s:TypeId)(i:Nat)(off:outParam Nat):Prop where
 XY: ∃fs f m,P.underlying s=some (.struct fs)/\fs[i]? =some f/\f.offset=off/\(P.info? f.type).map (·.size)=some (m+1)
class wL(P:Program)(t:TypeId)(n m:outParam Nat):Prop where
 arr: ∃e,P.underlying t=some (.array n e)/\(P.info? e).map (·.size)=some m
class fA(P:Program)(t:TypeId)(e:outParam TypeId)(m:outParam Nat):Prop where
 fc:P.underlying t=some (.slice e)
 size:(P.info? e).map (·.size)=some m
class mo(P:Program)(t:TypeId)(k:outParam IntKind):Prop where
 fc:P.underlying t=some (.int k)
class eP(P:Program)(t:TypeId)(v:outParam Value):Prop where
 zero:(P.info? t).map (·.zero)=some (some v)
class aI(P:Program)(f:FuncId):Prop where
 fn: ∃fn,P.funcs[f]? =some fn∧fn.body.isNone=false∧(fn.name== "runtime.NumGoroutine")=false
class Has(L:List ai)(b:Nat)(cs:outParam (Array Value))(T:outParam TypeId)(i:outParam Nat):Prop where
 h:L[i]? =some (aq b cs T)
instance (priority:=high) Has.here {L:List ai}{b:Nat}{cs:Array Value}{T:TypeId}:Has (aq b cs T::L) b cs T 0:=⟨rfl⟩
instance Has.there{L:List ai}{e:ai}{b:Nat}{cs:Array Value}{T:TypeId}{i:Nat}[q:Has L b cs T i]:Has (e::L) b cs T (i+1):=⟨by simpa using q.h⟩
class fO(L:List ai)(i:Nat)(e:ai)(L':outParam (List ai)):Prop where
 h:L.set i e=L'
instance fO.here{L:List ai}{x e:ai}:fO (x::L) 0 e (e::L):=⟨rfl⟩
instance fO.there{L L':List ai}{x e:ai}{i:Nat}[q:fO L i e L']:fO (x::L) (i+1) e (x::L'):=⟨by simp[q.h]⟩
class bQ(cs:Array Value)(o:Nat)(v:outParam Value):Prop where
 h:cs[o]? =some v
class mY(cs:Array Value)(o n:Nat)(sub:outParam (Array Value)):Prop where
 size:sub.size=n
 h: ∀j,j<n->cs[o+j]? =sub[j]?
class gn(cs:Array Value)(n:outParam Nat):Prop where
 h:cs.size=n
 one:cs.all (·.oneCell')=true
class rF(P:Program)(f:FuncId)(vs:List Value)(v:outParam Value):Prop where
 h: ∀w,Calls P f vs.toArray w fun e w'=>e= .returned v/\Mem w [] w'
class yq(P:Program)(t:TypeId)(x y:Value)(r:outParam Bool):Prop where
 h: ∀w,(Op.equalIn 10000 t x y).run P w= .ok r w
 plain:P.eqGuardType P.depth t=false
 agg: ∃xs ys,x= .agg xs/\y= .agg ys
section
variable {P:Program} (w:World)
theorem N9{t:TypeId}{i:TypeInfo}(h:P.info? t=some i):(typeInfo t).run P w= .ok i w:=by
 simp[typeInfo,h]
theorem lN{t:TypeId}{n:Nat}(h:(P.info? t).map (·.size)=some n):(sizeOf t).run P w= .ok n w:=by
 cases hi:P.info? t with
 |none=>simp[hi]at h
 |some i=>simp[hi]at h;simp[sizeOf,N9 w hi,h]
theorem EO{t:TypeId}{v:Value}(h:eP P t v):(zeroValue t).run P w= .ok v w:=by
 have h:=h.zero
 cases hi:P.info? t with
 |none=>simp[hi]at h
 |some i=>simp[hi]at h;simp[zeroValue,N9 w hi,h]
theorem B4{t:TypeId}{d:TypeDesc}(h:P.underlying t=some d):(isAgg t).run P w= .ok (wK d) w:=by
 cases d<;>simp[isAgg,run_underlying h,wK]
theorem XZ{t:TypeId}(h:gL P t){a:Addr}{v:Value}(hc:w.cell? a=some v):(loadVar t a).run P w= .ok v w:=by
 obtain⟨d,hu,hd⟩:=h.one;simp[loadVar,B4 w hu,hd,hc]
theorem IN{t:TypeId}{n:Nat}(h:gC P t n){a:Addr}{cs:Array Value}(hn:cs.size=n)(hc: ∀j,j<n->w.cell? (a.add j)=cs[j]?):(loadVar t a).run P w= .ok (.agg cs) w:=by
 obtain⟨d,hu,hd⟩:=h.row;have hl:(loadCells a n).run P w= .ok cs w:=by
  have:=run_loadCells_list (P:=P) w a cs.toList (fun j v hv=>by
   have hj:j<n:=by
    have:=(zz.1 hv).1;simpa[hn]using this
   rw[hc j hj];simpa using hv)
  simpa[hn]using this
 simp[loadVar,B4 w hu,hd,lN w h.size,hl]
end
section
variable {P:Program} {N:cC} {w0:World} {env:Env} {L:List ai} {d:Option Tmp} {ty:TypeId} {ps:String} {af:Array Edge} {gd:Option (Nat×Bool)}
theorem Addr.gT(b o j:Nat):(⟨b,o,none⟩:Addr).add j=⟨b,o+j,none⟩:=by
 unfold Addr.add;split<;>simp_all
theorem zP{t:TypeId}{x:Operand}{p:Addr}{v:Value}(ht:gL P t)(hx:ev env x=some (.pointer (some p)))(hc: ∀w,Mem w0 L w->w.cell? p=some v):
  Ry P N w0 env L ⟨d, .load t x,ty,ps,af,gd⟩ v:=fun a w ha hw=>by
 simp only[execOp,ha.ev hx,Instr.loadAt,Instr.sureAddr,Sem.run_bind,Sem.run_pure,Result.andThen,XZ w ht (hc w hw)]
theorem B5{t:TypeId}{x:Operand}{p:Addr}{n:Nat}{cs:Array Value}(ht:gC P t n)(hx:ev env x=some (.pointer (some p)))(hn:cs.size=n)(hc: ∀w,Mem w0 L w-> ∀j,j<n->w.cell? (p.add j)=cs[j]?):
  Ry P N w0 env L ⟨d, .load t x,ty,ps,af,gd⟩ (.agg cs):=fun a w ha hw=>by
 simp only[execOp,ha.ev hx,Instr.loadAt,Instr.sureAddr,Sem.run_bind,Sem.run_pure,Result.andThen,IN w ht hn (hc w hw)]
theorem zQ{t:TypeId}{x:Operand}{i b o:Nat}{cs:Array Value}{T:TypeId}{v:Value}(hx:ev env x=some (.pointer (some ⟨b,o,none⟩)))[ht:gL P t][hi:Has L b cs T i](hc:cs[o]? =some v):
  Ry P N w0 env L ⟨d, .load t x,ty,ps,af,gd⟩ v:=zP ht hx fun w hw=>by rw[hw.cell hi.h];exact hc
theorem bI{t:TypeId}{x:Operand}{i b o:Nat}{cs:Array Value}{T:TypeId}{v:Value}(hx:ev env x=some (.pointer (some ⟨b,o,none⟩)))[ht:gL P t][hi:Has L b cs T i][hc:bQ cs o v]:
  Ry P N w0 env L ⟨d, .load t x,ty,ps,af,gd⟩ v:=zQ hx hc.h
theorem kC{t:TypeId}{x:Operand}{i b n:Nat}{cs:Array Value}{T:TypeId}(hx:ev env x=some (.pointer (some ⟨b,0,none⟩)))[ht:gC P t n][hi:Has L b cs T i][hn:gn cs n]:
  Ry P N w0 env L ⟨d, .load t x,ty,ps,af,gd⟩ (.agg cs):=B5 ht hx hn.h fun w hw j _=>by rw[Addr.gT,hw.cell hi.h,auf]
theorem fW{t:TypeId}{x:Operand}{i b o n:Nat}{cs sub:Array Value}{T:TypeId}(hx:ev env x=some (.pointer (some ⟨b,o,none⟩)))[ht:gC P t n][hi:Has L b cs T i][hs:mY cs o n sub]:
  Ry P N w0 env L ⟨d, .load t x,ty,ps,af,gd⟩ (.agg sub):=B5 ht hx hs.size fun w hw j hj=>by rw[Addr.gT,hw.cell hi.h];exact hs.h j hj
theorem aN{s:TypeId}{x:Operand}{fi off b o o':Nat}[hf:dn P s fi off](hx:ev env x=some (.pointer (some ⟨b,o,none⟩)))(ho:Nat.add o off=o'):
  Ry P N w0 env L ⟨d, .fieldAddr s x fi,ty,ps,af,gd⟩ (.pointer (some ⟨b,o',none⟩)):=fun a w ha _=>by
 obtain⟨fs,f,m,hu,kb,rE,eI⟩:=hf.XY;subst ho rE;simp only[execOp,ha.ev hx,Instr.fieldAt,Sem.run_bind,run_underlying hu,Result.andThen,kb,Instr.sureAddr,Sem.run_pure,fieldPlace,lN w eI,Nat.succ_ne_zero,if_false,Addr.gT,Nat.add_eq]
theorem X0{t:TypeId}{x ix:Operand}{n m b o:Nat}{k:IntKind}{j:Int}[ht:wL P t n m](hx:ev env x=some (.pointer (some ⟨b,o,none⟩)))(hj:ev env ix=some (.int k j))(h0:0<=j)(h1:j<n):
  Ry P N w0 env L ⟨d, .indexAddr t x ix,ty,ps,af,gd⟩ (.pointer (some ⟨b,o+j.toNat*m,none⟩)):=fun a w ha _=>by
 obtain⟨e,hu,eI⟩:=ht.arr;simp only[execOp,ha.ev hx,ha.ev hj,Instr.indexAt,asIntOf,Sem.run_bind,run_underlying hu,Result.andThen,Instr.sureAddr,Sem.run_pure,lN w eI,h0,h1,and_self,if_true,Addr.gT]
theorem n8{t:TypeId}{x ix:Operand}{n b:Nat}{k:IntKind}{j:Int}[ht:wL P t n 1](hx:ev env x=some (.pointer (some ⟨b,0,none⟩)))(hj:ev env ix=some (.int k j))(h0:0<=j)(h1:j<n):
  Ry P N w0 env L ⟨d, .indexAddr t x ix,ty,ps,af,gd⟩ (.pointer (some ⟨b,j.toNat,none⟩)):=by
 have:=X0 (P:=P) (t:=t) (N:=N) (w0:=w0) (L:=L) (d:=d) (ty:=ty) (ps:=ps) (af:=af) (gd:=gd) hx hj h0 h1;simpa using this
theorem Oa{t e:TypeId}{x ix:Operand}{m b o len cap:Nat}{k:IntKind}{j:Int}[ht:fA P t e m](hx:ev env x=some (.slice (some ⟨b,o,none⟩) len cap))(hj:ev env ix=some (.int k j))(h0:0<=j)(h1:j<len):
  Ry P N w0 env L ⟨d, .indexAddr t x ix,ty,ps,af,gd⟩ (.pointer (some ⟨b,o+j.toNat*m,none⟩)):=fun a w ha _=>by
 simp only[execOp,ha.ev hx,ha.ev hj,Instr.indexAt,asIntOf,Sem.run_bind,run_underlying ht.fc,Result.andThen,Sem.run_pure,lN w ht.size,h0,h1,and_self,if_true,Addr.gT]
theorem vk{s t:TypeId}{x:Operand}{k k':IntKind}{n m:Int}[hs:mo P s k'][ht:mo P t k](hx:ev env x=some (.int k' n))(hm:k.wrap n=m):
  Ry P N w0 env L ⟨d, .convert s t x,ty,ps,af,gd⟩ (.int k m):=fun a w ha _=>by
 subst hm;simp only[execOp,ha.ev hx,convert,Sem.run_bind,run_underlying hs.fc,run_underlying ht.fc,Result.andThen,Conv.intToInt,Sem.run_pure]
theorem yr{t e:TypeId}{x:Operand}{m len cap:Nat}{p:Option Addr}[ht:fA P t e m](hx:ev env x=some (.slice p len cap)):
  Ry P N w0 env L ⟨d, .call {callee:= .builtin .len,args:= #[x],argTypes:= #[t]},ty,ps,af,gd⟩ (.int .i64 len):=fun a w ha _=>by
 simp[execOp,ha.ev hx,resolve,invoke,builtin,Builtin.len_,run_underlying ht.fc,goInt,Result.andThen]
theorem EP{f:FuncId}(hf:aI P f){ρ:Operand->Value}{xs:List Operand}{ts:Array TypeId}(w:World)(X1:ρ (.func f)= .func (.func f) #[] #[]):
  (execOp ρ ⟨d, .call {callee:= .value (.func f),args:=xs.toArray,argTypes:=ts},ty,ps,af,gd⟩).run P w= .ok (.enter f (xs.map ρ).toArray) w:=by
 obtain⟨fn,h1,h2,h3⟩:=hf.fn;have IP: ¬fn.body=none:=fun e=>by simp[e]at h2
 have zR: ¬fn.name= "runtime.NumGoroutine" :=by simpa using h3
 simp[execOp,resolve,X1,Deferred.ofValue,invoke,callFunc,h1,IP,zR,Result.andThen]
theorem B6{f:FuncId}{xs:List Operand}{ts:Array TypeId}{vs:List Value}{v:Value}[hf:aI P f](hx:iz env xs=some vs)
  (hc: ∀w,Mem w0 L w->Calls P f vs.toArray w fun e w'=>e= .returned v/\Mem w [] w'):
  Yl P N w0 env L ⟨d, .call {callee:= .value (.func f),args:=xs.toArray,argTypes:=ts},ty,ps,af,gd⟩ v:=fun a ha w hw=>by
 unfold Oper.quietAt;rw[EP hf w rfl,ha.iz hx];exact⟨rfl,hc w hw⟩
theorem zS{f:FuncId}{xs:List Operand}{ts:Array TypeId}{vs:List Value}{v:Value}[hf:aI P f](hx:iz env xs=some vs)[hc:rF P f vs v]:
  Yl P N w0 env L ⟨d, .call {callee:= .value (.func f),args:=xs.toArray,argTypes:=ts},ty,ps,af,gd⟩ v:=B6 hx fun w _=>hc.h w
theorem Ob{op:BinOp}{t:TypeId}(hm:P.eqGuardType P.depth t=false)(x y:Operand)(xs ys:Array Value)(w:World):(eqGuard op t x y (.agg xs) (.agg ys)).run P w= .ok () w:=run_eqGuard_agg w op t x y xs ys hm
theorem IQ{x y:Operand}{t u:TypeId}{vx vy:Value}{r:Bool}(hx:ev env x=some vx)(hy:ev env y=some vy)[h:yq P t vx vy r]:
  Ry P N w0 env L ⟨d, .binOp .eql t x y u,ty,ps,af,gd⟩ (.bool r):=fun a w ha _=>by
 obtain⟨xs,ys,e1,e2⟩:=h.agg;subst e1 e2;simp only[execOp,ha.ev hx,ha.ev hy,Sem.run_bind,Ob h.plain,Result.andThen,run_eql_struct,h.h,Sem.run_pure]
theorem IS{x y:Operand}{t u:TypeId}{vx vy:Value}{r:Bool}(hx:ev env x=some vx)(hy:ev env y=some vy)[h:yq P t vx vy r]:
  Ry P N w0 env L ⟨d, .binOp .neq t x y u,ty,ps,af,gd⟩ (.bool (!r)):=fun a w ha _=>by
 obtain⟨xs,ys,e1,e2⟩:=h.agg;subst e1 e2;simp only[execOp,ha.ev hx,ha.ev hy,Sem.run_bind,Ob h.plain,Result.andThen,run_neq_struct,h.h,Sem.run_pure]
theorem X2{x y:Operand}{t u:TypeId}{a b:Bool}(hx:ev env x=some (.bool a))(hy:ev env y=some (.bool b))(ht:P.underlying t=some .bool):
  Ry P N w0 env L ⟨d, .binOp .eql t x y u,ty,ps,af,gd⟩ (.bool (a==b)):=fun aa w ha _=>by
 have h1:(Op.equal t (.bool a) (.bool b)).run P w= .ok (a==b) w:=run_equalIn_bool' w 9999 t a b ht;have h2:(eqGuard BinOp.eql t x y (.bool a) (.bool b)).run P w= .ok () w:=rfl;simp only[execOp,ha.ev hx,ha.ev hy,Sem.run_bind,h2,Result.andThen_ok,binOp,h1,Sem.run_pure]
theorem wrap64_in{n:Int}(h: -9223372036854775808<=n/\n<=9223372036854775807):IntKind.i64.wrap n=n:=IntWalk.i64_in n h
theorem yt{x y:Operand}{a b:Int}{t u:TypeId}(hx:ev env x=some (.int .i64 a))(hy:ev env y=some (.int .i64 b))(h: -9223372036854775808<=a+b/\a+b<=9223372036854775807):
  Ry P N w0 env L ⟨d, .binOp .add t x y u,ty,ps,af,gd⟩ (.int .i64 (a+b)):=fE hx hy (by rw[mX,wrap64_in h])
theorem zT{x y:Operand}{a b:Int}{t u:TypeId}(hx:ev env x=some (.int .i64 a))(hy:ev env y=some (.int .i64 b))(h: -9223372036854775808<=a -b/\a -b<=9223372036854775807):
  Ry P N w0 env L ⟨d, .binOp .sub t x y u,ty,ps,af,gd⟩ (.int .i64 (a -b)):=fE hx hy (by rw[mX,wrap64_in h])
theorem vl{x y:Operand}{a b:Int}{t u:TypeId}(hx:ev env x=some (.int .i64 a))(hy:ev env y=some (.int .i64 b))(h: -9223372036854775808<=a*b/\a*b<=9223372036854775807):
  Ry P N w0 env L ⟨d, .binOp .mul t x y u,ty,ps,af,gd⟩ (.int .i64 (a*b)):=fE hx hy (by rw[mX,wrap64_in h])
theorem n9{x y:Operand}{a b:Int}{t u:TypeId}(hx:ev env x=some (.int .i64 a))(hy:ev env y=some (.int .i64 b))(h:0<=a/\a<=9223372036854775807)(hb:0<b):
  Ry P N w0 env L ⟨d, .binOp .quo t x y u,ty,ps,af,gd⟩ (.int .i64 (a/b)):=fE hx hy (by
 have h2:a/b<=a:=Int.ediv_le_self _ h.1;have h3:0<=a/b:=avs h.1 (by omega);rw[mX,if_neg (by omega),Int.tdiv_eq_ediv_of_nonneg h.1,wrap64_in (by omega)])
theorem B7{x y:Operand}{a b:Int}{k:IntKind}{t u:TypeId}(hx:ev env x=some (.int k a))(hy:ev env y=some (.int k b))(h:0<=a)(hb:0<b):
  Ry P N w0 env L ⟨d, .binOp .rem t x y u,ty,ps,af,gd⟩ (.int k (a%b)):=fE hx hy (by
 rw[mX,if_neg (by omega),Int.tmod_eq_emod_of_nonneg h])
def ke(env:Env):List (Nat×Operand)->Option (List (Nat×Value))
 |[]=>some []
 |(i,x)::r=>match ev env x,ke env r with
  |some v,some vs=>some ((i,v)::vs)
  |_,_=>none
theorem Oc:ke env []=some []:=rfl
theorem B8{i:Nat}{x:Operand}{r:List (Nat×Operand)}{v:Value}{vs:List (Nat×Value)}(h:ev env x=some v)(h':ke env r=some vs):ke env ((i,x)::r)=some ((i,v)::vs):=by
 simp[ke,h,h']
theorem dw.ke{a:Act}(h:dw N env a): ∀{xs:List (Nat×Operand)} {vs:List (Nat×Value)},ke env xs=some vs->(xs.map fun p=>(p.1,a.eval p.2))=vs
 |[],vs,e=>by simp[ax.ke]at e;simp[e]
 |(i,x)::r,vs,e=>by
  unfold ax.ke at e;split at e
  ·
   rename_i v XW hv zM;simp only[auY]at e;subst e;simp[h.ev hv,h.ke zM]
  simp at e
class su(P:Program)(t:TypeId)(vs:List (Nat×Value))(v:outParam Value):Prop where
 h: ∀w,(Instr.build t vs.toArray).run P w= .ok v w
theorem cV{t:TypeId}{xs:List (Nat×Operand)}{vs:List (Nat×Value)}{v:Value}(hx:ke env xs=some vs)(hb: ∀w,(Instr.build t vs.toArray).run P w= .ok v w):
  Ry P N w0 env L ⟨d, .build t xs.toArray,ty,ps,af,gd⟩ v:=fun a w ha _=>by
 have e:(xs.toArray.map fun(p:Nat×Operand)=>match p with|(i,x)=>(i,a.eval x))=vs.toArray:=by
  rw[←ha.ke hx];simp
 simp only[execOp,e,Sem.run_bind,hb w,Result.andThen,Sem.run_pure]
theorem fP{t:TypeId}{xs:List (Nat×Operand)}{vs:List (Nat×Value)}{v:Value}(hx:ke env xs=some vs)[hb:su P t vs v]:
  Ry P N w0 env L ⟨d, .build t xs.toArray,ty,ps,af,gd⟩ v:=cV hx hb.h
theorem Od{k:IntKind}{i:Int}{y:Nat}(h0:0<=i)(h1:i<=y)(c:BoundsCode)(w:World):(Instr.sliceBound (.int k i) y c).run P w= .ok i.toNat w:=by
 simp[Instr.sliceBound,asIntOf,h0,h1]
theorem IT{t:TypeId}{x hi:Operand}{n m b o:Nat}{k:IntKind}{h:Int}[ht:wL P t n m](hx:ev env x=some (.pointer (some ⟨b,o,none⟩)))(hh:ev env hi=some (.int k h))(h0:0<=h)(h1:h<=n):
  Ry P N w0 env L ⟨d, .slice t x none (some hi) none,ty,ps,af,gd⟩ (.slice (some ⟨b,o,none⟩) h.toNat n):=fun a w ha _=>by
 obtain⟨e,hu,eI⟩:=ht.arr;have e0:(⟨b,o,none⟩:Addr).add 0=⟨b,o,none⟩:=rfl;simp[execOp,ha.ev hx,ha.ev hh,Instr.sliceAt,run_underlying hu,Instr.sureAddr,Instr.sliceBounds,Od h0 h1,lN w eI,Result.andThen,e0]
theorem yu{t:TypeId}{x:Operand}{n m b o:Nat}[ht:wL P t n m](hx:ev env x=some (.pointer (some ⟨b,o,none⟩))):
  Ry P N w0 env L ⟨d, .slice t x none none none,ty,ps,af,gd⟩ (.slice (some ⟨b,o,none⟩) n n):=fun a w ha _=>by
 obtain⟨e,hu,eI⟩:=ht.arr;have e0:(⟨b,o,none⟩:Addr).add 0=⟨b,o,none⟩:=rfl;simp[execOp,ha.ev hx,Instr.sliceAt,run_underlying hu,Instr.sureAddr,Instr.sliceBounds,lN w eI,Result.andThen,e0]
theorem Oe{t:TypeId}{x lo:Operand}{n m b o:Nat}{k:IntKind}{l:Int}[ht:wL P t n m](hx:ev env x=some (.pointer (some ⟨b,o,none⟩)))(hl:ev env lo=some (.int k l))(h0:0<=l)(h1:l<n):
  Ry P N w0 env L ⟨d, .slice t x (some lo) none none,ty,ps,af,gd⟩ (.slice (some ⟨b,o+l.toNat*m,none⟩) (n -l.toNat) (n -l.toNat)):=fun a w ha _=>by
 obtain⟨e,hu,eI⟩:=ht.arr;have e0:(if n=l.toNat then(⟨b,o,none⟩:Addr)else(⟨b,o,none⟩:Addr).add (l.toNat*m))=⟨b,o+l.toNat*m,none⟩:=by rw[if_neg (by omega),Addr.gT]
 simp[execOp,ha.ev hx,ha.ev hl,Instr.sliceAt,run_underlying hu,Instr.sureAddr,Instr.sliceBounds,Od h0 (Int.le_of_lt h1),lN w eI,Result.andThen,e0]
def nb:IntKind->Nat
 | .i8=>7| .i16=>15| .i32=>31| .i64=>63| .u8=>8| .u16=>16| .u32=>32| .u64=>64
theorem X3(k:IntKind):nb k<=k.bits:=by cases k<;>decide
theorem qO{k:IntKind}{n:Nat}(h:n<2^nb k):k.wrap (n:Int)=n:=by
 cases k<;>simp[IntKind.wrap,IntKind.bits,IntKind.signed,nb]at* <;>omega
theorem zU(b n:Nat):BitVec.ofInt b (n:Int)=BitVec.ofNat b n:=by
 apply BitVec.eq_of_toNat_eq;simp
theorem rG{k:IntKind}{n:Nat}(h:n<2^nb k):n<2^k.bits:=au0 h (auR (by decide) (X3 k))
variable {x y:Operand} {k k':IntKind} {p q:Nat} {t u:TypeId}
theorem Of{a b:Int}(hx:ev env x=some (.int k a))(hy:ev env y=some (.int k b))(ea:a=p)(eb:b=q)(hp:p<2^nb k)(hq:q<2^nb k):
  Ry P N w0 env L ⟨d, .binOp .and t x y u,ty,ps,af,gd⟩ (.int k ((p&&&q:Nat):Int)):=fE hx hy (by
 subst ea eb;simp only[mX,zU,BitVec.toNat_and,au7,at5 (rG hp),at5 (rG hq)];rw[qO (Nat.and_lt_two_pow _ hq)])
theorem B9{a b:Int}(hx:ev env x=some (.int k a))(hy:ev env y=some (.int k b))(ea:a=p)(eb:b=q)(hp:p<2^nb k)(hq:q<2^nb k):
  Ry P N w0 env L ⟨d, .binOp .or t x y u,ty,ps,af,gd⟩ (.int k ((p|||q:Nat):Int)):=fE hx hy (by
 subst ea eb;simp only[mX,zU,BitVec.toNat_or,au7,at5 (rG hp),at5 (rG hq)];rw[qO (Nat.or_lt_two_pow hp hq)])
theorem Og{a b:Int}(hx:ev env x=some (.int k a))(hy:ev env y=some (.int k b))(ea:a=p)(eb:b=q)(hp:p<2^nb k)(hq:q<2^nb k):
  Ry P N w0 env L ⟨d, .binOp .xor t x y u,ty,ps,af,gd⟩ (.int k ((p^^^q:Nat):Int)):=fE hx hy (by
 subst ea eb;simp only[mX,zU,BitVec.toNat_xor,au7,at5 (rG hp),at5 (rG hq)];rw[qO (awe hp hq)])
theorem X4(hp:p<2^nb k)(hq:q<2^nb k):mX .andNot k p q=some (.int k ((p&&&(2^k.bits -1 -q):Nat):Int)):=by
 simp only[mX,zU,BitVec.toNat_and,BitVec.toNat_not,au7,at5 (rG hp),at5 (rG hq)];rw[qO (au8 Nat.and_le_left hp)]
theorem X5{a b:Int}(h:0<=b)(w:World):(binOp .shr t (.int k a) (.int k' b)).run P w= .ok (.int k (a.fdiv (2^min b.toNat k.bits))) w:=by
 simp[binOp,Op.shift,show ¬b<0 by omega]
theorem X6{a b:Int}(h:0<=b)(w:World):(binOp .shl t (.int k a) (.int k' b)).run P w= .ok (.int k (k.wrap (a*2^min b.toNat k.bits))) w:=by
 simp[binOp,Op.shift,show ¬b<0 by omega]
theorem Ca{a b:Int}(hx:ev env x=some (.int k a))(hy:ev env y=some (.int k b))(ea:a=p)(eb:b=q)(h:p+q<2^nb k):
  Ry P N w0 env L ⟨d, .binOp .add t x y u,ty,ps,af,gd⟩ (.int k ((p+q:Nat):Int)):=fE hx hy (by
 subst ea eb;rw[mX,←Int.natCast_add,qO h])
theorem IU{a b:Int}{ts:Array TypeId}(hx:ev env x=some (.int k a))(hy:ev env y=some (.int k b)):
  Ry P N w0 env L ⟨d, .call {callee:= .builtin .min,args:= #[x,y],argTypes:=ts},ty,ps,af,gd⟩ (.int k (min a b)):=fun aa w ha _=>by
 have e:(if b<a then b else a)=min a b:=by rw[Int.min_def];split<;>split<;>omega
 simp[execOp,ha.ev hx,ha.ev hy,resolve,invoke,builtin,Builtin.min_,Builtin.min2,e]
theorem yw{a b:Int}{ts:Array TypeId}(hx:ev env x=some (.int k a))(hy:ev env y=some (.int k b)):
  Ry P N w0 env L ⟨d, .call {callee:= .builtin .max,args:= #[x,y],argTypes:=ts},ty,ps,af,gd⟩ (.int k (max a b)):=fun aa w ha _=>by
 have e:(if a<b then b else a)=max a b:=by rw[Int.max_def];split<;>split<;>omega
 simp[execOp,ha.ev hx,ha.ev hy,resolve,invoke,builtin,Builtin.max_,Builtin.max2,e]
theorem IV{ix:Operand}{s:ByteArray}{j:Int}{v:Nat}(hu:P.underlying t=some .string)(hx:ev env x=some (.string s))(hj:ev env ix=some (.int k j))(h0:0<=j)(hv:(s[j.toNat]?).map (·.toNat)=some v):
  Ry P N w0 env L ⟨d, .index t x ix,ty,ps,af,gd⟩ (.int .u8 v):=fun a w ha _=>by
 cases hs:s[j.toNat]?with
 |none=>simp[hs]at hv
 |some b=>
  simp[hs]at hv;simp[execOp,ha.ev hx,ha.ev hj,Instr.index,asIntOf,run_underlying hu,h0,hs,hv,Result.andThen]
theorem kX{s:TypeId}{n:Nat}[hs:mo P s k'][ht:mo P t k](hx:ev env x=some (.int k' n))(hn:n<2^nb k):
  Ry P N w0 env L ⟨d, .convert s t x,ty,ps,af,gd⟩ (.int k n):=vk hx (qO hn)
theorem IW{s:TypeId}{n:Int}[hs:mo P s k'][ht:mo P t k](hx:ev env x=some (.int k' n))(h0:0<=n)(hn:n.toNat<2^nb k):
  Ry P N w0 env L ⟨d, .convert s t x,ty,ps,af,gd⟩ (.int k n):=vk hx (by
 have:=qO hn;rwa [aun h0]at this)
theorem wM{b:Int}(hx:ev env x=some (.int k p))(hy:ev env y=some (.int k' b))(hp:p<2^nb k)(hb:0<=b):
  Ry P N w0 env L ⟨d, .binOp .shr t x y u,ty,ps,af,gd⟩ (.int k ((p/2^b.toNat:Nat):Int)):=fun a w ha _=>by
 have e:((p:Int).fdiv (2^min b.toNat k.bits))=((p/2^b.toNat:Nat):Int):=by
  rw[Int.fdiv_eq_ediv_of_nonneg _ (Int.pow_nonneg (by decide)),show((2:Int)^min b.toNat k.bits)=((2^min b.toNat k.bits:Nat):Int) by simp,←Int.natCast_ediv];congr 1
  by_cases h:b.toNat<=k.bits
  ·
   rw[avX h]
  ·
   rw[Nat.min_eq_right (by omega),Nat.div_eq_of_lt (rG hp),Nat.div_eq_of_lt (au0 (rG hp) (auR (by decide) (by omega)))]
 simp only[execOp,ha.ev hx,ha.ev hy,Sem.run_bind,IM,X5 hb,e,Sem.run_pure,Result.andThen]
theorem IX{a b:Int}(hx:ev env x=some (.int k a))(hy:ev env y=some (.int k' b))(hb:0<=b):
  Ry P N w0 env L ⟨d, .binOp .shl t x y u,ty,ps,af,gd⟩ (.int k (k.wrap (a*2^min b.toNat k.bits))):=fun aa w ha _=>by
 simp only[execOp,ha.ev hx,ha.ev hy,Sem.run_bind,IM,X6 hb,Sem.run_pure,Result.andThen]
end
section
variable {P:Program} {N:cC} {w0:World} {env:Env} {L:List ai} {l:List Oper} {Q:Exit->Act->World->Prop} {F:Act->Prop} {fs:List Nat} {k:Nat} {rest:List Oper}
def Ex(N:cC)(w0:World)(Q:Exit->Act->World->Prop)(e:Exit)(env:Env)(L:List ai):Prop:= ∀a w,dw N env a->Mem w0 L w->Q e a w
def Sq(P:Program)(N:cC)(w0:World)(l:List Oper)(Q:Exit->Act->World->Prop)(rest:List Oper)(env:Env)(L:List ai):Prop:=
 ∀a w,dw N env a->Mem w0 L w->wpList P l.toArray Q rest a w
def Qt(P:Program)(N:cC)(w0:World)(l:List Oper)(fs:List Nat)(F:Act->Prop)(k:Nat)(rest:List Oper)(env:Env)(L:List ai):Prop:=
 ∀a,dw N env a->n7 P l.toArray fs (Mem w0 L) F k rest a
theorem ER(h:Ex N w0 Q .normal env L):Sq P N w0 l Q [] env L:=h
theorem Oh(h:Ex N w0 Q .normal env L):Qt P N w0 l fs (fun a'=> ∀w',Mem w0 L w'->Q .normal a' w') k [] env L:=fun a ha w' gR=>h a w' ha gR
def Fr(P:Program)(N:cC)(w0:World)(Lq:List ai)(l:List Oper)(n:Nat)(Q:Exit->Act->World->Prop)(fs:List Nat)(env:Env)(L:List ai):Prop:=
 (∀w,Mem w0 L w->Mem w0 Lq w)-> ∀a,dw N env a->vi P l n Q w0 Lq fs a L
theorem vm{n:Nat}{gs:List Nat}{L':List ai}(h:Fr P N w0 L l n Q gs env L')(hq: ∀w,Mem w0 L' w->Mem w0 L w:=by exact fun _ h=>h):Qt P N w0 l fs (fun a'=>vi P l n Q w0 L gs a' L') k [] env L:=fun a ha=>h hq a ha
theorem vn{n:Nat}{Lq:List ai}(h:Sq P N w0 l Q (l.drop n) env L):Fr P N w0 Lq l n Q [] env L:=fun _ a ha w hw=>h a w ha hw
theorem Oi{o:Oper}(hk:Qt P N w0 l fs F (k+1) rest env L)(hf:fs.contains k=true:=by rfl):Qt P N w0 l fs F k (o::rest) env L:=fun a ha=>by
 unfold n7;rw[if_pos hf];exact hk a ha
theorem sA{o:Oper}{y:Nat->Option Bool}(h:o.guard=none):Region.wanted o y=true:=by simp[Region.wanted,h]
theorem yx{o:Oper}{a:Act}{j t:Nat}{b g:Bool}(ha:dw N env a)(h:o.guard=some (j,b))(hj:(l[j]?).bind (·.dst)=some t)(hv:look env t=some (.bool g)):
  Region.wanted o (yielded l.toArray a.tmps)=(g==b):=by
 have:=ha.get _ _ hv;simp[Region.wanted,h,yielded,hj,this]
theorem IY{o:Oper}{a:Act}{j t:Nat}{b c g:Bool}(ha:dw N env a)(h:o.guard=some (j,b))(hj:(l[j]?).bind (·.dst)=some t)(hv:look env t=some (if c=true then .bool g else undef)):
  Region.wanted o (yielded l.toArray a.tmps)=(c&&(g==b)):=by
 have:=ha.get _ _ hv
 cases c
 ·
  simp only[at1,if_false]at this;simp[Region.wanted,h,yielded,hj,this,undef]
 ·
  simp only[if_true]at this;simp[Region.wanted,h,yielded,hj,this]
theorem zV{o:Oper}{a:Act}{w:World}{v:Value}{K:Act->World->Prop}(ha:dw N env a)(hw:Mem w0 L w)(h:Yl P N w0 env L o v)(hk: ∀w',Mem w0 L w'->K (a.put o.dst v) w'):o.wp P a w K Q:=by
 have h1:=h a ha w hw;unfold Oper.quietAt at h1;unfold Oper.wp;generalize(execOp a.eval o).run P w=r at h1;unfold Oper.quietUpon at h1;split at h1
 ·
  obtain⟨rfl,rfl⟩:=h1;exact hk _ hw
 ·
  obtain⟨rfl,rfl⟩:=h1;exact hk _ hw
 ·
  obtain⟨rfl,hc⟩:=h1;exact hc.mono fun e qM ⟨he,hm⟩=>by subst he;exact hk _ (by simpa using hw.call hm)
 exact h1.elim
theorem cO{o:Oper}{v:Value}(h:Yl P N w0 env L o v)(hk:Sq P N w0 l Q rest (cy env o.dst v) L)(hg:o.guard=none:=by rfl)(hd:dx N o.dst=true:=by rfl):Sq P N w0 l Q (o::rest) env L:=fun a w ha hw=>by
 unfold wpList;rw[if_pos (sA hg)];exact .inl (zV ha hw h fun w' gR=>hk _ _ (ha.put hd v) gR)
theorem ag{o:Oper}{v:Value}(h:Ry P N w0 env L o v)(hk:Sq P N w0 l Q rest (cy env o.dst v) L)(hg:o.guard=none:=by rfl)(hd:dx N o.dst=true:=by rfl):Sq P N w0 l Q (o::rest) env L:=cO h.yl hk hg hd
theorem wN{o:Oper}{v:Value}(h:Yl P N w0 env L o v)(hk:Qt P N w0 l fs F (k+1) rest (cy env o.dst v) L)(hg:o.guard=none:=by rfl)(hd:dx N o.dst=true:=by rfl)(hf:fs.contains k=false:=by rfl):Qt P N w0 l fs F k (o::rest) env L:=fun a ha=>by
 unfold n7;rw[if_neg (by rw[hf];exact auB)];rw[if_pos (sA hg)];exact⟨v,h a ha,hk _ (ha.put hd v)⟩
theorem cr{o:Oper}{v:Value}(h:Ry P N w0 env L o v)(hk:Qt P N w0 l fs F (k+1) rest (cy env o.dst v) L)(hg:o.guard=none:=by rfl)(hd:dx N o.dst=true:=by rfl)(hf:fs.contains k=false:=by rfl):Qt P N w0 l fs F k (o::rest) env L:=wN h.yl hk hg hd hf
theorem look_eq{t:Nat}{u v:Value}(h:look env t=some u)(e:u=v):look env t=some v:=by rw[h,e]
theorem jw{o:Oper}{v:Value}{j t:Nat}{g:Bool}(hg:o.guard=some (j,true))(hj:(l[j]?).bind (·.dst)=some t)(hv:look env t=some (.bool g))(h:g=true->Yl P N w0 env L o v)
  (hk:Sq P N w0 l Q rest (cy env o.dst (if g=true then v else undef)) L) (hd:dx N o.dst=true:=by rfl):Sq P N w0 l Q (o::rest) env L:=fun a w ha hw=>by
 unfold wpList;rw[yx ha hg hj hv]
 cases g
 ·
  exact hk _ _ (ha.put hd undef) hw
 ·
  exact .inl (zV ha hw (h rfl) fun w' gR=>hk _ _ (ha.put hd v) gR)
theorem gp{o:Oper}{v:Value}{j t:Nat}{g:Bool}(hg:o.guard=some (j,true))(hj:(l[j]?).bind (·.dst)=some t)(hv:look env t=some (.bool g))(h:g=true->Yl P N w0 env L o v)
  (hk:Qt P N w0 l fs F (k+1) rest (cy env o.dst (if g=true then v else undef)) L) (hd:dx N o.dst=true:=by rfl) (hf:fs.contains k=false:=by rfl):Qt P N w0 l fs F k (o::rest) env L:=fun a ha=>by
 unfold n7;rw[if_neg (by rw[hf];exact auB)];rw[yx ha hg hj hv]
 cases g
 ·
  exact hk _ (ha.put hd undef)
 ·
  exact⟨v,h rfl a ha,hk _ (ha.put hd v)⟩
theorem bJ{o:Oper}{v:Value}{j t:Nat}{g:Bool}(hg:o.guard=some (j,false))(hj:(l[j]?).bind (·.dst)=some t)(hv:look env t=some (.bool g))(h:(!g)=true->Yl P N w0 env L o v)
  (hk:Sq P N w0 l Q rest (cy env o.dst (if(!g)=true then v else undef)) L) (hd:dx N o.dst=true:=by rfl):Sq P N w0 l Q (o::rest) env L:=fun a w ha hw=>by
 unfold wpList;rw[yx ha hg hj hv]
 cases g
 ·
  exact .inl (zV ha hw (h rfl) fun w' gR=>hk _ _ (ha.put hd v) gR)
 ·
  exact hk _ _ (ha.put hd undef) hw
theorem jx{o:Oper}{v:Value}{j t:Nat}{g:Bool}(hg:o.guard=some (j,false))(hj:(l[j]?).bind (·.dst)=some t)(hv:look env t=some (.bool g))(h:(!g)=true->Yl P N w0 env L o v)
  (hk:Qt P N w0 l fs F (k+1) rest (cy env o.dst (if(!g)=true then v else undef)) L) (hd:dx N o.dst=true:=by rfl) (hf:fs.contains k=false:=by rfl):Qt P N w0 l fs F k (o::rest) env L:=fun a ha=>by
 unfold n7;rw[if_neg (by rw[hf];exact auB)];rw[yx ha hg hj hv]
 cases g
 ·
  exact⟨v,h rfl a ha,hk _ (ha.put hd v)⟩
 ·
  exact hk _ (ha.put hd undef)
theorem pc{o:Oper}{v:Value}{j t:Nat}{c g:Bool}(hg:o.guard=some (j,true))(hj:(l[j]?).bind (·.dst)=some t)(hv:look env t=some (if c=true then .bool g else undef))(h:(c&&g)=true->Yl P N w0 env L o v)
  (hk:Sq P N w0 l Q rest (cy env o.dst (if(c&&g)=true then v else undef)) L) (hd:dx N o.dst=true:=by rfl):Sq P N w0 l Q (o::rest) env L:=fun a w ha hw=>by
 unfold wpList;rw[IY ha hg hj hv]
 cases c<;>cases g
 ·
  exact hk _ _ (ha.put hd undef) hw
 ·
  exact hk _ _ (ha.put hd undef) hw
 ·
  exact hk _ _ (ha.put hd undef) hw
 ·
  exact .inl (zV ha hw (h rfl) fun w' gR=>hk _ _ (ha.put hd v) gR)
theorem vo{o:Oper}{v:Value}{j t:Nat}{c g:Bool}(hg:o.guard=some (j,false))(hj:(l[j]?).bind (·.dst)=some t)(hv:look env t=some (if c=true then .bool g else undef))(h:(c&& !g)=true->Yl P N w0 env L o v)
  (hk:Sq P N w0 l Q rest (cy env o.dst (if(c&& !g)=true then v else undef)) L) (hd:dx N o.dst=true:=by rfl):Sq P N w0 l Q (o::rest) env L:=fun a w ha hw=>by
 unfold wpList;rw[IY ha hg hj hv]
 cases c<;>cases g
 ·
  exact hk _ _ (ha.put hd undef) hw
 ·
  exact hk _ _ (ha.put hd undef) hw
 ·
  exact .inl (zV ha hw (h rfl) fun w' gR=>hk _ _ (ha.put hd v) gR)
 ·
  exact hk _ _ (ha.put hd undef) hw
theorem IZ{o:Oper}{v:Value}{j t:Nat}{c g:Bool}(hg:o.guard=some (j,false))(hj:(l[j]?).bind (·.dst)=some t)(hv:look env t=some (if c=true then .bool g else undef))(h:(c&& !g)=true->Yl P N w0 env L o v)
  (hk:Qt P N w0 l fs F (k+1) rest (cy env o.dst (if(c&& !g)=true then v else undef)) L) (hd:dx N o.dst=true:=by rfl) (hf:fs.contains k=false:=by rfl):Qt P N w0 l fs F k (o::rest) env L:=fun a ha=>by
 unfold n7;rw[if_neg (by rw[hf];exact auB)];rw[IY ha hg hj hv]
 cases c<;>cases g
 ·
  exact hk _ (ha.put hd undef)
 ·
  exact hk _ (ha.put hd undef)
 ·
  exact⟨v,h rfl a ha,hk _ (ha.put hd v)⟩
 ·
  exact hk _ (ha.put hd undef)
theorem yy{x:Operand}{c g:Bool}{v u:Value}(hc:c=true)(h:ev env x=some (if(c&&g)=true then v else u)):ev env x=some (if g=true then v else u):=by subst hc;simpa using h
theorem aF{x:Operand}{g:Bool}{v u:Value}(hg:g=true)(h:ev env x=some (if g=true then v else u)):ev env x=some v:=by rw[h,if_pos hg]
variable {d:Option Tmp} {ty:TypeId} {ps:String} {af:Array Edge}
theorem nD{o:Oper}(hg:o.guard=none)(hd:dx N o.dst=true)
  (h: ∀a w,dw N env a->Mem w0 L w-> ∃v w' L',(execOp a.eval o).run P w= .ok (.value v) w'/\Mem w0 L' w'/\Sq P N w0 l Q rest (cy env o.dst v) L'):Sq P N w0 l Q (o::rest) env L:=fun a w ha hw=>by
 unfold wpList;rw[if_pos (sA hg)];obtain⟨v,w',L',h1,h2,h3⟩:=h a w ha hw;refine .inl ?_;unfold Oper.wp;rw[h1];exact h3 _ _ (ha.put hd v) h2
theorem ES{o:Oper}(hg:o.guard=none)(hd:o.dst=none)
  (h: ∀a w,dw N env a->Mem w0 L w-> ∃w' L',(execOp a.eval o).run P w= .ok .skip w'/\Mem w0 L' w'/\Sq P N w0 l Q rest env L'):Sq P N w0 l Q (o::rest) env L:=fun a w ha hw=>by
 unfold wpList;rw[if_pos (sA hg)];obtain⟨w',L',h1,h2,h3⟩:=h a w ha hw;refine .inl ?_;unfold Oper.wp;rw[h1];show wpList P l.toArray Q rest (a.put o.dst undef) w';rw[hd];exact h3 _ _ ha h2
theorem I0{t:TypeId}{x:Operand}{v:Value}(hx:ev env x=some v)(hk: ∀b,Sq P N w0 l Q rest (cy env d (.pointer (some ⟨b,0,none⟩))) (aq b v.cells t::L))(hd:dx N d=true:=by rfl):
  Sq P N w0 l Q (⟨d, .box t x,ty,ps,af,none⟩::rest) env L:=
 nD rfl hd fun a w ha hw=>⟨_,_,_,by simp only[execOp,ha.ev hx,Instr.box,newVar,newRow,Sem.run_bind,newObj,Sem.run,Result.andThen,Sem.run_pure];rfl,hw.alloc v.cells t,hk _⟩
theorem Oj{t:TypeId}{z:Value}[hz:eP P t z](hk: ∀b,Sq P N w0 l Q rest (cy env d (.pointer (some ⟨b,0,none⟩))) (aq b z.cells t::L))(hd:dx N d=true:=by rfl):
  Sq P N w0 l Q (⟨d, .alloc t,ty,ps,af,none⟩::rest) env L:=
 nD rfl hd fun a w ha hw=>⟨_,_,_,by simp only[execOp,Instr.alloc,newVar,newRow,Sem.run_bind,EO w hz,newObj,Sem.run,Result.andThen,Sem.run_pure];rfl,hw.alloc z.cells t,hk _⟩
theorem cm{t:TypeId}{x:Operand}{cs:Array Value}(hx:ev env x=some (.agg cs))(hk: ∀b,Sq P N w0 l Q rest (cy env d (.pointer (some ⟨b,0,none⟩))) (aq b cs t::L))(hd:dx N d=true:=by rfl):
  Sq P N w0 l Q (⟨d, .box t x,ty,ps,af,none⟩::rest) env L:=I0 hx hk hd
theorem bt{t:TypeId}{cs:Array Value}[hz:eP P t (.agg cs)](hk: ∀b,Sq P N w0 l Q rest (cy env d (.pointer (some ⟨b,0,none⟩))) (aq b cs t::L))(hd:dx N d=true:=by rfl):
  Sq P N w0 l Q (⟨d, .alloc t,ty,ps,af,none⟩::rest) env L:=Oj (z:= .agg cs) hk hd
theorem X7{cs:Array Value}(h:cs.all (·.oneCell')=true)(a b:Nat):(cs.extract a b).all (·.oneCell')=true:=by
 rw[at4]at h⊢;intro v hv;have:v∈(cs.extract a b).toList:=Array.mem_toList_iff.2 hv;rw[Array.toList_extract]at this;simp only[List.extract]at this;exact h v (by simpa using av5 (avk this))
theorem dO{t:TypeId}{x y:Operand}{i b o:Nat}{cs:Array Value}{T:TypeId}{v:Value}(hx:ev env x=some (.pointer (some ⟨b,o,none⟩)))(hy:ev env y=some v)[ht:gL P t][hh:Has L b cs T i](ho:o<cs.size)(hv:v.oneCell'=true){cs':Array Value}{L':List ai}(gU:cs.setIfInBounds o v=cs')[hu:fO L i (aq b cs' T) L'](hk:Sq P N w0 l Q rest env L'):
  Sq P N w0 l Q (⟨none, .store t x y,ty,ps,af,none⟩::rest) env L:=
 ES rfl rfl fun a w ha hw=>by
  have hi:=hh.h;have hb:=hw.block hi;have hc:w.cell? ⟨b,o,none⟩=some cs[o]:=by rw[hw.cell hi];simp[ho]
  have hf:w.frozen? ⟨b,o,none⟩=false:=frozen_of_row w b o cs T hb;subst gU;refine⟨w.setCell ⟨b,o,none⟩ v,_,?_,?_,hk⟩
  ·
   have h1:(storeCells ⟨b,o,none⟩ [v]).run P w= .ok () (w.setCell ⟨b,o,none⟩ v):=by
    have:=run_storeCells_at (P:=P) b o T [v] 0 cs w hb (by simp;omega) (by simpa using hv);rw[this,setCell_eq_setRow w b o cs T (0,0) v hb];congr 2;apply av6;simp[List.set_eq_take_append_cons_drop,ho]
   have gU:v.cells= #[v]:=by cases v<;>simp_all[Value.oneCell',Value.cells]
   simp only[execOp,ha.ev hx,ha.ev hy,Instr.storeAt,Instr.sureAddr,storeVar,Sem.run_bind,Sem.run_pure,Result.andThen,lN w ht.size,gU];simp[h1]
  ·
   rw[setCell_eq_setRow w b o cs T (0,0) v hb];rw[←hu.h];exact hw.setRow hi _
def over(cs:Array Value)(o:Nat)(vs:Array Value):Array Value:=(cs.toList.take o++vs.toList++cs.toList.drop (o+vs.size)).toArray
theorem qP{t:TypeId}{x y:Operand}{i b o n:Nat}{cs vs:Array Value}{T:TypeId}(hx:ev env x=some (.pointer (some ⟨b,o,none⟩)))(hy:ev env y=some (.agg vs))[ht:gC P t n][hh:Has L b cs T i][hs:gn vs n](ho:o+n<=cs.size){cs':Array Value}{L':List ai}(gU:over cs o vs=cs')[hu:fO L i (aq b cs' T) L'](hk:Sq P N w0 l Q rest env L'):
  Sq P N w0 l Q (⟨none, .store t x y,ty,ps,af,none⟩::rest) env L:=
 ES rfl rfl fun a w ha hw=>by
  have hi:=hh.h;have hn:=hs.h;have hv:=hs.one;have hb:=hw.block hi;subst gU;refine⟨_,_,?_,by rw[←hu.h];exact hw.setRow hi _,hk⟩;have h1:=run_storeCells_at (P:=P) b o T vs.toList 0 cs w hb (by simp;omega) (fun v mq=>(at4.1 hv) v (by simpa using mq));simp only[execOp,ha.ev hx,ha.ev hy,Instr.storeAt,Instr.sureAddr,storeVar,Value.cells,Sem.run_bind,Sem.run_pure,Result.andThen,lN w ht.size,hn];simp[h1,over]
theorem X8{t:TypeId}{x y:Operand}{i b n:Nat}{cs vs:Array Value}{T:TypeId}(hx:ev env x=some (.pointer (some ⟨b,0,none⟩)))(hy:ev env y=some (.agg vs))[ht:gC P t n][hh:Has L b cs T i][hs:gn vs n][hc:gn cs n]{L':List ai}[hu:fO L i (aq b vs T) L'](hk:Sq P N w0 l Q rest env L'):
  Sq P N w0 l Q (⟨none, .store t x y,ty,ps,af,none⟩::rest) env L:=by
 have hn:=hs.h;have X9:=hc.h;refine qP hx hy (by omega) (?_:over cs 0 vs=vs) hk;apply av6;simp[over];omega
theorem I1{x y:Operand}{tx gM e:TypeId}{i b o dl dc sl sc:Nat}{a:Addr}{cs vs:Array Value}{T:TypeId}(hx:ev env x=some (.slice (some ⟨b,o,none⟩) dl dc))(hy:ev env y=some (.slice (some a) sl sc))
  [ht:fA P tx e 1] [hh:Has L b cs T i] (hn:vs.size=Nat.min sl dl) (nE: ∀w,Mem w0 L w-> ∀j,j<vs.size->w.cell? (a.add j)=vs[j]?) (hv:vs.all (·.oneCell')=true) (ho:o+vs.size<=cs.size)
  {cs':Array Value} {L':List ai} (gU:over cs o vs=cs') [hu:fO L i (aq b cs' T) L'] (hk:Sq P N w0 l Q rest (cy env d (.int .i64 vs.size)) L') (hd:dx N d=true:=by rfl):
  Sq P N w0 l Q (⟨d, .call {callee:= .builtin .copy,args:= #[x,y],argTypes:= #[tx,gM]},ty,ps,af,none⟩::rest) env L:=
 nD rfl hd fun aa w ha hw=>by
  have hi:=hh.h;have hb:=hw.block hi;subst gU;have gK:=run_copy_row (P:=P) w tx gM ty e b o dl dc a sl sc cs T vs.toList ht.fc ht.size hb (by simpa using hn)
   (fun j v mq=>by
    have hj:j<vs.size:=by simpa using(zz.1 mq).1
    rw[nE w hw j hj];simpa using mq) (by simpa using ho) (fun v mq=>(at4.1 hv) v (by simpa using mq))
  refine⟨_,w.setRow b (over cs o vs),_,?_,by rw[←hu.h];exact hw.setRow hi _,hk⟩;simp[execOp,ha.ev hx,ha.ev hy,resolve,invoke,builtin,gK,Result.andThen,goInt,over]
end
section
variable {P:Program} {N:cC} {w0:World} {env:Env} {L Lq:List ai} {l:List Oper} {n j:Nat} {js:List Nat} {Q:Exit->Act->World->Prop} {d:Option Tmp} {ty:TypeId} {ps:String} {af:Array Edge}
theorem Ya{o:Oper}(hj:l[j]? =some o)(hg:o.guard=none)(hd:dx N o.dst=true)
  (h: ∀a w,dw N env a->Mem w0 L w-> ∃v w' E,(execOp a.eval o).run P w= .ok (.value v) w'/\Mem w E w'/\Fr P N w0 Lq l n Q js (cy env o.dst v) (E++L)):Fr P N w0 Lq l n Q (j::js) env L:=fun hq a ha=>
 ⟨o,hj,hg,fun w hw=>by
  obtain⟨v,w',E,h1,h2,h3⟩:=h a w ha hw;rw[h1];have Ol: ∀w,Mem w0 (E++L) w->Mem w0 Lq w:=fun w h=>hq w (h.sub (List.sublist_append_right _ _));exact⟨E++L,hw.call h2,Ol,h3 Ol _ (ha.put hd v)⟩⟩
theorem Yb{X:Type}{val:X->Value}{L':X->List ai}{pr:X->Prop}{f:FuncId}{xs:List Operand}{ts:Array TypeId}{vs:List Value}(hj:l[j]? =some ⟨d, .call {callee:= .value (.func f),args:=xs.toArray,argTypes:=ts},ty,ps,af,none⟩)[hf:aI P f](hx:iz env xs=some vs)
  (hc: ∀w,Mem w0 L w->Calls P f vs.toArray w fun e w'=> ∃x,e= .returned (val x)/\pr x/\Mem w0 (L' x) w') (hL: ∀x w,Mem w0 (L' x) w->Mem w0 Lq w) (hk: ∀x,pr x->Fr P N w0 Lq l n Q js (cy env d (val x)) (L' x)) (hd:dx N d=true:=by rfl):
  Fr P N w0 Lq l n Q (j::js) env L:=fun _ a ha=>
 ⟨_,hj,rfl,fun w hw=>by
  rw[EP hf w rfl,ha.iz hx];exact⟨rfl,(hc w hw).mono fun e w' ⟨x,he,hp,hm⟩=>⟨val x,L' x,he,hm,hL x,hk x hp (hL x) _ (ha.put hd _)⟩⟩⟩
end
section
variable {P:Program} {N:cC} {w0:World} {env:Env} {L:List ai} {Q:Exit->Act->World->Prop}
def Cw(P:Program)(N:cC)(w0:World)(Q:Exit->Act->World->Prop)(c:Code)(env:Env)(L:List ai):Prop:= ∀a w,dw N env a->Mem w0 L w->c.wpIn (mW N.ro) 0 P Q a w
theorem ET{x y:Code}(h:Cw P N w0 (Exit.then (y.wpIn (mW N.ro) 0 P Q) Q) x env L):Cw P N w0 Q (.seq x y) env L:=fun a w ha hw=>wpIn_seq (h a w ha hw)
theorem EU{id:Nat}{l:List Oper}[kW Q](h:Sq P N w0 l Q l env L)(cI:qL l=true:=by kernel_rfl):Cw P N w0 Q (.region id l.toArray false) env L:=fun a w ha hw=>XH cI (h a w ha hw)
theorem I2{ops:Array Oper}{C:World->Prop}{F:Act->Prop}(hC: ∀w w',C w->Mem w [] w'->C w'): ∀(rest:List Oper) (k:Nat) (a:Act),n7 P ops [] C F k rest a->wpQuiet P ops C F rest a
 |[],_,_,h=>h
 |o::rest,k,a,h=>by
  unfold n7 at h;rw[if_neg (by simp)]at h;unfold wpQuiet;split
  ·
   rename_i hw;rw[if_pos hw]at h;obtain⟨v,h1,h2⟩:=h;refine⟨v,fun w EV=>?_,I2 hC rest (k+1) _ h2⟩;have h3:=h1 w EV;unfold Oper.quietAt at h3⊢;generalize(execOp a.eval o).run P w=r at h3;unfold Oper.quietUpon at h3⊢;split at h3
   ·
    exact h3
   ·
    exact h3
   ·
    exact⟨h3.1,by obtain⟨rfl,vj⟩:=h3;exact vj.mono fun e qM ⟨he,hm⟩=>⟨he,hC _ _ EV hm⟩⟩
   exact h3.elim
  rename_i hw;rw[if_neg hw]at h;exact I2 hC rest (k+1) _ h
theorem kf{id:Nat}{l:List Oper}[kW Q](hm:P.follows .mixedOrders=true)(hB:Region.lexB .any l.toArray=true)(h:Qt P N w0 l [] (fun a'=> ∀w',Mem w0 L w'->Q .normal a' w') 0 l env L)(cI:qL l=true:=by kernel_rfl):Cw P N w0 Q (.region id l.toArray true) env L:=fun a _ ha hw=>
 XI cI (C:=Mem w0 L) hm hB hw.EB (by simpa using I2 (fun w w' EV gR=>by simpa using EV.call gR) l 0 a (h a ha))
theorem Om{id:Nat}{l:List Oper}[kW Q](n:Nat)(fs:List Nat)(Lq:List ai)(hq: ∀w,Mem w0 L w->Mem w0 Lq w)(hm:P.follows .mixedOrders=true)(hB:EM l fs n=true)(h:Qt P N w0 l fs (fun a'=>vi P l n Q w0 Lq fs a' L) 0 (l.take n) env Lq)(cI:qL l=true:=by kernel_rfl):Cw P N w0 Q (.region id l.toArray true) env L:=fun a _ ha hw=>
 XU n cI hm hB hw.EB hq (h a ha)
theorem wO{id:Nat}{l:List Oper}[kW Q](n:Nat)(fs:List Nat)(hm:P.follows .mixedOrders=true)(hB:EM l fs n=true)(h:Qt P N w0 l fs (fun a'=>vi P l n Q w0 L fs a' L) 0 (l.take n) env L)(cI:qL l=true:=by kernel_rfl):Cw P N w0 Q (.region id l.toArray true) env L:=
 Om n fs L (fun _ h=>h) hm hB h cI
theorem lO{c:Operand}{x y:Code}{g:Bool}(hc:ev env c=some (.bool g))(hx:g=true->Cw P N w0 Q x env L)(hy:g=false->Cw P N w0 Q y env L):Cw P N w0 Q (.cond c x y) env L:=fun a w ha hw=>
 wpIn_cond_split (ha.ev hc) (fun h=>hx h a w ha hw) (fun h=>hy h a w ha hw)
theorem On{id:Nat}{c:Code}(h:Cw P N w0 (Exit.inBlock id Q) c env L):Cw P N w0 Q (.block id c) env L:=fun a w ha hw=>wpIn_block (h a w ha hw)
theorem Oo(h:Ex N w0 Q .normal env L):Cw P N w0 Q .skip env L:=fun a w ha hw=>wpIn_skip (h a w ha hw)
theorem Oq{id:Nat}(h:Ex N w0 Q (.exit id) env L):Cw P N w0 Q (.exit id) env L:=fun a w ha hw=>wpIn_exit (h a w ha hw)
theorem I3(h:Ex N w0 Q .ret env L):Cw P N w0 Q .ret env L:=fun a w ha hw=>wpIn_ret (h a w ha hw)
theorem ck{c:Code}{X:Type}(yz:X->Env)(LI:X->List ai)(inv:X->Prop)(m:X->Nat)(x0:X)(h0:inv x0)(hs:Sub (yz x0) env)(hL: ∀w,Mem w0 L w->Mem w0 (LI x0) w)
  (round: ∀x,inv x->Cw P N w0 (Exit.then (fun a w=> ∃x',inv x'/\m x'<m x/\dw N (yz x') a/\Mem w0 (LI x') w) Q) c (yz x) (LI x)):Cw P N w0 Q (.loop c) env L:=by
 intro a0 w1 Yc mr b k cs nF hb hr;have key: ∀n x,m x=n->inv x-> ∀a w,dw N (yz x) a->Mem w0 (LI x) w->
   ∃e a' w',Q e a' w'/\ArrivesIn (Machine.fenced P (mW N.ro)) P (lone (b.atR a (.code c:: .inLoop c::k)) cs w) b k cs e a' w':=by
  intro n
  induction n using Nat.strongRecOn with
  |_ n ih=>
   intro x hm hI a w ha hw;obtain⟨e,zW,zX,hq,wP⟩:=round x hI a w ha hw b (.inLoop c::k) cs nF hb hr
   cases e with
   |normal=>
    obtain⟨x',Yd,bn,Ye,gR⟩:=hq;obtain⟨Yf,Yg,Yh,Yi,Yj⟩:=ih (m x') (hm▸bn) x' rfl Yd zW zX Ye gR;exact⟨Yf,Yg,Yh,Yi, .of_steps (StepsIn.trans wP (.one (fenced_calm hb hr rfl) stepR_inLoop)) Yj⟩
   |exit id=>exact⟨_,zW,zX,hq, .pass (x:= .inLoop c) rfl (fun _ _=> .inl (by simp)) wP⟩
   |goto l=>exact⟨_,zW,zX,hq, .pass (x:= .inLoop c) rfl (fun _ _=> .inl (by simp)) wP⟩
   |ret=>exact⟨_,zW,zX,hq, .pass (x:= .inLoop c) rfl (fun _ _=> .inl (by simp)) wP⟩
   |panic ch=>exact⟨_,zW,zX,hq, .pass (x:= .inLoop c) rfl (fun _ _=> .inl (by simp)) wP⟩
   |outgrown=>exact⟨_,zW,zX,hq, .pass (x:= .inLoop c) rfl (fun _ _=> .inl (by simp)) wP⟩
 obtain⟨e,a',w',hq,wP⟩:=key _ x0 rfl h0 a0 w1 (Yc.sub hs) (hL w1 mr);exact⟨e,a',w',hq, .of_steps (.one (fenced_calm hb hr rfl) stepR_loop) wP⟩
theorem sB{x y:Code}{X:Type}(Cb:X->Env)(LJ:X->List ai)(J:X->Prop)
  (h:Cw P N w0 (Exit.then (fun a w=> ∃s,J s/\dw N (Cb s) a/\Mem w0 (LJ s) w) Q) x env L) (hy: ∀s,J s->Cw P N w0 Q y (Cb s) (LJ s)):Cw P N w0 Q (.seq x y) env L:=fun a w ha hw=>
 wpIn_seq (wpIn_mono (h a w ha hw) fun e a' w' hq=>by
  cases e with
  |normal=>obtain⟨s,hs,hr,hm⟩:=hq;exact hy s hs a' w' hr hm
  |exit id=>exact hq
  |goto l=>exact hq
  |ret=>exact hq
  |panic ch=>exact hq
  |outgrown=>exact hq)
theorem EW{y:Code}{Q':Exit->Act->World->Prop}(h:Cw P N w0 Q y env L):Ex N w0 (Exit.then (y.wpIn (mW N.ro) 0 P Q) Q') .normal env L:=h
theorem hY{X:Type}{Cb:X->Env}{LJ:X->List ai}{J:X->Prop}(s:X)(hJ:J s)(hs:Sub (Cb s) env)(hL: ∀w,Mem w0 L w->Mem w0 (LJ s) w):
  Ex N w0 (Exit.then (fun a w=> ∃s,J s/\dw N (Cb s) a/\Mem w0 (LJ s) w) Q) .normal env L:=fun _ w ha hw=>⟨s,hJ,ha.sub hs,hL w hw⟩
theorem bw{X:Type}{yz:X->Env}{LI:X->List ai}{inv:X->Prop}{m:X->Nat}{x:X}(x':X)(hI:inv x')(hm:m x'<m x)(hs:Sub (yz x') env)(hL: ∀w,Mem w0 L w->Mem w0 (LI x') w):
  Ex N w0 (Exit.then (fun a w=> ∃x',inv x'/\m x'<m x/\dw N (yz x') a/\Mem w0 (LI x') w) Q) .normal env L:=fun _ w ha hw=>⟨x',hI,hm,ha.sub hs,hL w hw⟩
theorem Ot{K:Act->World->Prop}{id:Nat}(h:Ex N w0 Q (.exit id) env L):Ex N w0 (Exit.then K Q) (.exit id) env L:=h
theorem Ou{K:Act->World->Prop}(h:Ex N w0 Q .ret env L):Ex N w0 (Exit.then K Q) .ret env L:=h
theorem Ov{id:Nat}(h:Ex N w0 Q .normal env L):Ex N w0 (Exit.inBlock id Q) .normal env L:=h
theorem Ow{id:Nat}(h:Ex N w0 Q .normal env L):Ex N w0 (Exit.inBlock id Q) (.exit id) env L:=fun a w ha hw=>by
 simp only[Exit.inBlock,if_true];exact h a w ha hw
theorem Yk{id EX:Nat}(cd:Nat.beq EX id=false)(h:Ex N w0 Q (.exit EX) env L):Ex N w0 (Exit.inBlock id Q) (.exit EX) env L:=fun a w ha hw=>by
 have: ¬EX=id:=fun e=>by subst e;simp at cd
 simp only[Exit.inBlock,this,if_false];exact h a w ha hw
theorem Ox{id:Nat}(h:Ex N w0 Q .ret env L):Ex N w0 (Exit.inBlock id Q) .ret env L:=h
variable {fn:Func} {R:Ending->World->Prop}
theorem ez{n:Nat}{e:Exit}(he:e= .ret\/e= .normal){v:Value}(hr: ∀a w,dw ⟨n,[],none⟩ env a->Mem w0 L w->(results fn a.tmps).run P w= .ok v w)(h: ∀w,Mem w0 L w->R (.returned v) w):Ex ⟨n,[],none⟩ w0 (rA P fn R) e env L:=fun a w ha hw=>by
 have key:LeavesInM (mW none) 0 P fn a.tmps R a.defers .returning w:=by
  rw[ha.defers];exact⟨v,hr a w ha hw,h w hw⟩
 rcases he with rfl|rfl
 ·
  exact⟨.inr rfl,key⟩
 exact⟨.inl rfl,key⟩
theorem ob{t:Nat}{v:Value}(hf:fn.results= #[.tmp t])(hv:look env t=some v): ∀a w,dw N env a->Mem w0 L w->(results fn a.tmps).run P w= .ok v w:=fun a w ha _=>by
 have:=ha.get _ _ hv;simp[results,hf,this]
theorem EY{t:Nat}{T T':TypeId}{b i n:Nat}{cs:Array Value}(hf:fn.results= #[.cell t T])(hv:look env t=some (.pointer (some ⟨b,0,none⟩)))[ht:gC P T n][hi:Has L b cs T' i][hn:gn cs n]:
  ∀a w,dw N env a->Mem w0 L w->(results fn a.tmps).run P w= .ok (.agg cs) w:=fun a w ha hw=>by
 have h1:=ha.get _ _ hv;have h2:(loadVar T ⟨b,0,none⟩).run P w= .ok (.agg cs) w:=IN w ht hn.h fun j _=>by rw[Addr.gT,hw.cell hi.h,auf]
 simp[results,hf,h1,asAddr,h2]
theorem yA{N:Nat}{f:FuncId}{c:Code}{args:List Value}{w:World}(hf:P.funcs[f]? =some fn)(hb:fn.body=some c)(hN:fn.ntmps=N)(hle:Nat.ble args.length N=true)
  (h:Cw P ⟨N,[],none⟩ w (rA P fn R) c (args.zipIdx.map fun p=>(p.2,p.1)) []):Calls P f args.toArray w R:=
 NY hf hb (h _ _ (by rw[hN];exact dw.enter args N (Nat.le_of_ble_eq_true hle)) (Mem.init w))
end
theorem Z0(a b:Bool):((a&&b)=true)=(a=true/\b=true):=ad2 a b
theorem Z1(a b:Bool):((a||b)=true)=(a=true\/b=true):=auA a b
theorem Z2{x y:Bool}:(x&&y)=false↔x=false\/y=false:=Bool.and_eq_false_iff
theorem Z3{x y:Bool}:(x||y)=false↔x=false/\y=false:=Bool.or_eq_false_iff
theorem Z4(b:Bool):((!b)=true)=(b=false):=aus b
theorem Z5(b:Bool):((!b)=false)=(b=true):=Bool.not_eq_false' b
theorem Z6{p:Prop}[inst:Decidable p]:(decide p=true)=p:=decide_eq_true_eq
theorem Z7{p:Prop}{x:Decidable p}:decide p=false↔ ¬p:=decide_eq_false_iff_not
theorem Z8(b:Bool):(¬b=true)=(b=false):=Bool.not_eq_true b
theorem Z9(b:Bool):(¬b=false)=(b=true):=Bool.not_eq_false b
structure Sv where
  nil:Bool
  b:Nat
  o:Nat
  len:Nat
  cap:Nat
  sp:Option Nat
def Sv.val(s:Sv):Value:=match s.nil with
  |true=> .slice none 0 0
  |false=> .slice (some ⟨s.b,s.o,s.sp⟩) s.len s.cap
structure Sv.Ok(s:Sv):Prop where
  nil:s.nil=true->s.len=0/\s.cap=0
  le:s.len<=s.cap
  bd:s.len<=140737488355328
  sp:0<s.cap->s.sp=none
theorem Sv.Ok.some{s:Sv}(h:s.Ok)(hl:0<s.len):s.nil=false:=by
  cases hn:s.nil with
  |false=>rfl
  |true=>have:=h.nil hn;omega
theorem Sv.iA{s:Sv}(h:s.nil=false):s.val= .slice (some ⟨s.b,s.o,s.sp⟩) s.len s.cap:=by simp[Sv.val,h]
theorem Sv.sC{s:Sv}(h:s.nil=true):s.val= .slice none 0 0:=by simp[Sv.val,h]
def Sv.none:Sv:=⟨true,0,0,0,0, .none⟩
theorem Sv.Cc:Sv.none.Ok:=⟨fun _=>⟨rfl,rfl⟩,att _,atL _,fun _=>rfl⟩
theorem Sv.one(s:Sv):s.val.oneCell'=true:=by unfold Sv.val;split<;>rfl
def nG(h:Nat->Option Obj)(b o:Nat):Option Value:=match h b with
  |some (.cells cs _ _)=>cs[o]?
  |_=>none
abbrev hp(w:World):Nat->Option Obj:=fun k=>w.heap[k]?
theorem rH(w:World)(b o:Nat):w.cell? ⟨b,o,none⟩=nG (hp w) b o:=by
  unfold World.cell? nG;split<;>simp_all
class bp{α:Type}(enc:α->Array Value)(c:outParam Nat):Prop where
  size: ∀x,(enc x).size=c
  one: ∀x,(enc x).all (·.oneCell')=true
structure eJ{α:Type}(enc:α->Array Value)(c:Nat)(h:Nat->Option Obj)(s:Sv)(xs:List α):Prop where
  ok:s.Ok
  len:s.len=xs.length
  row: ∀i x,xs[i]? =some x-> ∀j,j<c->nG h s.b (s.o+i*c+j)=(enc x)[j]?
theorem eJ.some{α:Type}{enc:α->Array Value}{c:Nat}{h:Nat->Option Obj}{s:Sv}{xs:List α}(r:eJ enc c h s xs){i:Nat}(hi:i<xs.length):s.nil=false:=r.ok.some (by rw[r.len];omega)
theorem eJ.nil{α:Type}(enc:α->Array Value)(c:Nat)(h:Nat->Option Obj):eJ enc c h Sv.none ([]:List α):=⟨Sv.Cc,rfl,by simp⟩
theorem eJ.bd{α:Type}{enc:α->Array Value}{c:Nat}{h:Nat->Option Obj}{s:Sv}{xs:List α}(r:eJ enc c h s xs):xs.length<=140737488355328:=by have:=r.ok.bd;have:=r.len;omega
theorem eJ.mono{α:Type}{enc:α->Array Value}{c:Nat}[he:bp enc c]{w w':World}{s:Sv}{xs:List α}(r:eJ enc c (hp w) s xs)(hb:Below w.heap.size w w'):eJ enc c (hp w') s xs:=
  ⟨r.ok,r.len,fun i x hi j hj=>by
    have h:=r.row i x hi j hj;rw[←h];have Oy:((enc x)[j]?).isSome:=by rw[Array.getElem?_eq_getElem (by rw[he.size];exact hj)];rfl
    rw[←h]at Oy;have bn:s.b<w.heap.size:=by
      rcases atA s.b w.heap.size with h'|h'
      ·exact h'
      ·simp[nG,hp,atQ h']at Oy
    have e:(hp w') s.b=(hp w) s.b:=hb.block s.b bn;unfold nG;rw[e]⟩
def I4(n:Nat)(fz:Nat×Nat):Prop:= ∀j,j<n-> ¬(fz.1<=j/\j<fz.2)
theorem I5(n:Nat):I4 n (0,0):=fun j _ h=>by have:=h.2;simp at this
def own{α:Type}(enc:α->Array Value)(c:Nat)(s:Sv)(xs:List α):ai:=
  ⟨fun k=>s.nil=false/\k=s.b,fun h=>eJ enc c h s xs/\(s.nil=false->s.sp= .none/\ ∃cs T fz,h s.b=some (.cells cs T fz)/\s.o+s.cap*c<=cs.size/\I4 cs.size fz/\(1<c->fz=(0,0))),
   fun h h' e st=>by
    cases hn:s.nil with
    |true=>
     refine⟨⟨st.1.ok,st.1.len,fun i x hi=>?_⟩,fun h=>by cases h⟩;have:=st.1.some (zz.1 hi).1;rw[hn]at this;cases this
    |false=>
     have e1:=e s.b ⟨hn,rfl⟩;refine⟨⟨st.1.ok,st.1.len,fun i x hi j hj=>?_⟩,fun _=>?_⟩
     ·rw[←st.1.row i x hi j hj];unfold nG;rw[e1]
     ·rw[e1];exact st.2 hn⟩
section
variable {P:Program} {N:cC} {w0:World} {env:Env} {L:List ai} {d:Option Tmp} {ty:TypeId} {ps:String} {af:Array Edge} {gd:Option (Nat×Bool)}
variable {α:Type} {enc:α->Array Value} {c:Nat} {s:Sv} {xs:List α}
def Holds(w0:World)(L:List ai){α:Type}(enc:α->Array Value)(c:Nat)(s:Sv)(xs:List α):Prop:= ∀w,Mem w0 L w->eJ enc c (hp w) s xs
theorem I6[bp enc c](r:eJ enc c (hp w0) s xs):Holds w0 L enc c s xs:=fun _ hw=>r.mono hw.below
class At(L:List ai)(e:ai)(i:outParam Nat):Prop where
  h:L[i]? =some e
instance (priority:=high) At.here {L:List ai}{e:ai}:At (e::L) e 0:=⟨rfl⟩
instance At.there{L:List ai}{e x:ai}{i:Nat}[q:At L e i]:At (x::L) e (i+1):=⟨by simpa using q.h⟩
theorem Cd{t e:TypeId}{x:Operand}{m n:Nat}[ht:fA P t e m](hx:ev env x=some s.val)(hs:s.Ok)(hn:s.len=n):
    Ry P N w0 env L ⟨d, .call {callee:= .builtin .len,args:= #[x],argTypes:= #[t]},ty,ps,af,gd⟩ (.int .i64 n):=by
  subst hn
  cases h:s.nil with
  |false=>rw[Sv.iA h]at hx;exact yr hx
  |true=>
   rw[Sv.sC h]at hx;rw[(hs.nil h).1];exact yr hx
theorem pd{t e:TypeId}{x ix:Operand}{m i:Nat}{k:IntKind}{j:Int}[ht:fA P t e m](hx:ev env x=some s.val)(hj:ev env ix=some (.int k j))(ej:j=(i:Int))(hs:s.Ok)(h1:i<s.len):
    Ry P N w0 env L ⟨d, .indexAddr t x ix,ty,ps,af,gd⟩ (.pointer (some ⟨s.b,s.o+i*m,none⟩)):=by
  subst ej;rw[Sv.iA (hs.some (by omega)),hs.sp (by have:=hs.le;omega)]at hx;have:=Oa (P:=P) (N:=N) (w0:=w0) (L:=L) (d:=d) (ty:=ty) (ps:=ps) (af:=af) (gd:=gd) (t:=t) hx hj (by omega) (by omega);simpa using this
theorem Oz{t:TypeId}{x:Operand}{i p:Nat}{a:α}[ht:gC P t c][he:bp enc c](hx:ev env x=some (.pointer (some ⟨s.b,p,none⟩)))(hR:Holds w0 L enc c s xs)(hi:xs[i]? =some a)(iI:p=s.o+i*c):
    Ry P N w0 env L ⟨d, .load t x,ty,ps,af,gd⟩ (.agg (enc a)):=B5 ht hx (he.size a) fun w hw j hj=>by
  rw[Addr.gT,rH,iI,(hR w hw).row i a hi j hj]
theorem Ym{t:TypeId}{x:Operand}{i p j:Nat}{a:α}{v:Value}[ht:gL P t](hx:ev env x=some (.pointer (some ⟨s.b,p,none⟩)))(hR:Holds w0 L enc c s xs)(hi:xs[i]? =some a)(iI:p=s.o+i*c+j)(hj:j<c)(hv:(enc a)[j]? =some v):
    Ry P N w0 env L ⟨d, .load t x,ty,ps,af,gd⟩ v:=zP ht hx fun w hw=>by
  rw[rH,iI,(hR w hw).row i a hi j hj,hv]
theorem OA{t:TypeId}{x:Operand}{i p j n:Nat}{a:α}{sub:Array Value}[ht:gC P t n](hx:ev env x=some (.pointer (some ⟨s.b,p,none⟩)))(hR:Holds w0 L enc c s xs)(hi:xs[i]? =some a)(iI:p=s.o+i*c+j)(hj:j+n≤c)[hs:mY (enc a) j n sub]:
    Ry P N w0 env L ⟨d, .load t x,ty,ps,af,gd⟩ (.agg sub):=B5 ht hx hs.size fun w hw k hk=>by
  rw[Addr.gT,rH,iI,auW,(hR w hw).row i a hi (j+k) (by omega)];exact hs.h k hk
def Sv.sub(s:Sv)(c lo hi:Nat):Sv:=⟨s.nil,s.b,if s.cap=lo then s.o else s.o+lo*c,hi -lo,s.cap -lo,s.sp⟩
theorem Sv.Ok.sub{lo hi:Nat}(h:s.Ok)(h2:hi<=s.cap)(h3:hi<=s.len):(s.sub c lo hi).Ok:=
  ⟨fun hn=>by have:=h.nil hn;simp only[Sv.sub];omega,by simp only[Sv.sub];omega,by have:=h.bd;simp only[Sv.sub];omega,fun hc=>h.sp (by simp only[Sv.sub]at hc;omega)⟩
theorem eJ.sub{h:Nat->Option Obj}(r:eJ enc c h s xs){lo hi:Nat}(h1:lo<=hi)(h2:hi<=xs.length):eJ enc c h (s.sub c lo hi) ((xs.drop lo).take (hi -lo)):=by
  have hl:=r.len;have hc:=r.ok.le;refine⟨r.ok.sub (by omega) (by omega),by simp[Sv.sub];omega,fun i x qb j hj=>?_⟩;have bn:i<hi -lo:=by
    have:=(zz.1 qb).1;simp at this;omega
  rw[avj,if_pos bn,auC]at qb;have:=r.row (lo+i) x qb j hj;rw[←this];have e:(s.sub c lo hi).o=s.o+lo*c:=by
    simp only[Sv.sub];rw[if_neg (by omega)]
  rw[e,show(s.sub c lo hi).b=s.b from rfl];congr 1;rw[atU];omega
theorem Holds.sub(r:Holds w0 L enc c s xs){lo hi:Nat}(h1:lo<=hi)(h2:hi<=xs.length):Holds w0 L enc c (s.sub c lo hi) ((xs.drop lo).take (hi -lo)):=fun w hw=>(r w hw).sub h1 h2
theorem zY{t e:TypeId}(hu:P.underlying t=some (.slice e)):P.elem t=e:=by simp[Program.elem,hu]
theorem I7{lo hi:Nat}(hs:s.Ok)(h2:lo<=hi)(h:hi<=s.cap): ∀a len cap,s.val= .slice a len cap->len=s.len/\cap=s.cap/\sliced a lo hi cap c=(s.sub c lo hi).val:=by
  intro a len cap e
  cases hn:s.nil with
  |true=>
   rw[Sv.sC hn]at e;obtain⟨rfl,rfl,rfl⟩:=by simpa using e
   have:=hs.nil hn;have e2:(s.sub c lo hi).nil=true:=hn;rw[Sv.sC e2];have:lo=0:=by omega
   have:hi=0:=by omega
   subst lo hi;exact⟨by omega,by omega,by simp[sliced]⟩
  |false=>
   rw[Sv.iA hn]at e;obtain⟨rfl,rfl,rfl⟩:=by simpa using e
   have e2:(s.sub c lo hi).nil=false:=hn;rw[Sv.iA e2];refine⟨rfl,rfl,?_⟩;simp only[sliced,Sv.sub]
   by_cases hc:s.cap=lo
   ·simp[hc]
   ·have ft:=hs.sp (by omega)
    simp[hc,ft,Addr.gT]
theorem Sv.ex(s:Sv): ∃ad len cap,s.val= .slice ad len cap:=by unfold Sv.val;split<;>exact⟨_,_,_,rfl⟩
theorem EZ{t e:TypeId}{x lo hi:Operand}{m l h:Nat}{k k':IntKind}{il ih:Int}[ht:fA P t e m](hx:ev env x=some s.val)(hl:ev env lo=some (.int k il))(hh:ev env hi=some (.int k' ih))(el:il=(l:Int))(eh:ih=(h:Int))(hs:s.Ok)(h1:l≤h)(h2:h≤s.cap):
    Ry P N w0 env L ⟨d, .slice t x (some lo) (some hi) none,ty,ps,af,gd⟩ (s.sub m l h).val:=fun a w ha _=>by
  subst el eh;have ee:=zY ht.fc;have hu:P.underlying t=some (.slice (P.elem t)):=by rw[ee];exact ht.fc
  obtain⟨ad,len,cap,pf⟩:=s.ex;obtain⟨e1,e2,e3⟩:=I7 (c:=m) hs h1 h2 ad len cap pf;have hr:=run_slice_lh (P:=P) (w:=w) t ad len cap hu k k' (l:Int) (h:Int) (by omega) (by omega) (by omega);rw[ee,lN w ht.size]at hr;simp only[Result.andThen,auy,e3]at hr;simp only[execOp,ha.ev hx,ha.ev hl,ha.ev hh,pf,at3,Option.map_none,run_sliceAt_slice (h:=hu),hr,Sem.run_bind,Result.andThen,Sem.run_pure]
theorem wQ{t e:TypeId}{x hi:Operand}{m h:Nat}{k':IntKind}{ih:Int}[ht:fA P t e m](hx:ev env x=some s.val)(hh:ev env hi=some (.int k' ih))(eh:ih=(h:Int))(hs:s.Ok)(h2:h≤s.cap):
    Ry P N w0 env L ⟨d, .slice t x none (some hi) none,ty,ps,af,gd⟩ (s.sub m 0 h).val:=fun a w ha _=>by
  subst eh;have ee:=zY ht.fc;have hu:P.underlying t=some (.slice (P.elem t)):=by rw[ee];exact ht.fc
  obtain⟨ad,len,cap,pf⟩:=s.ex;obtain⟨e1,e2,e3⟩:=I7 (c:=m) hs (atL h) h2 ad len cap pf;have hr:=run_slice_h (P:=P) (w:=w) t ad len cap hu k' (h:Int) (by omega) (by omega);rw[ee,lN w ht.size]at hr;simp only[Result.andThen,auy,e3]at hr;simp only[execOp,ha.ev hx,ha.ev hh,pf,at3,Option.map_none,run_sliceAt_slice (h:=hu),hr,Sem.run_bind,Result.andThen,Sem.run_pure]
theorem tT{t e:TypeId}{x lo:Operand}{m l n:Nat}{k:IntKind}{il:Int}[ht:fA P t e m](hx:ev env x=some s.val)(hl:ev env lo=some (.int k il))(el:il=(l:Int))(hs:s.Ok)(hn:s.len=n)(h1:l≤n):
    Ry P N w0 env L ⟨d, .slice t x (some lo) none none,ty,ps,af,gd⟩ (s.sub m l n).val:=fun a w ha _=>by
  subst el hn;have ee:=zY ht.fc;have hu:P.underlying t=some (.slice (P.elem t)):=by rw[ee];exact ht.fc
  obtain⟨ad,len,cap,pf⟩:=s.ex;obtain⟨e1,e2,e3⟩:=I7 (c:=m) hs h1 hs.le ad len cap pf;have hle:=hs.le;have hr:=run_slice_l (P:=P) (w:=w) t ad len cap hu k (l:Int) (by omega) (by omega);rw[ee,lN w ht.size]at hr;simp only[Result.andThen,auy,e1]at hr;rw[e1]at pf;rw[e3]at hr;simp only[execOp,ha.ev hx,ha.ev hl,pf,at3,Option.map_none,run_sliceAt_slice (h:=hu),hr,Sem.run_bind,Result.andThen,Sem.run_pure]
end
theorem set_perm(x:ai): ∀(L:List ai) (i:Nat),i<L.length->(x::L.eraseIdx i).Perm (L.set i x)
  |[],_,h=>by simp at h
  |_::_,0,_=>by simp
  |a::L,i+1,h=>by
   simp only[awc,avH];exact(List.Perm.swap a x _).trans ((set_perm x L i (by simpa using h)).cons a)
theorem Mem.swap{w w':World}{E:ai}(h:Mem w0 L w){i:Nat}(hi:i<L.length)(h':Mem w [E] w'):Mem w0 (L.set i E) w':=
  ((h.call h').sub (L':=E::L.eraseIdx i) ((List.eraseIdx_sublist L i).cons_cons E)).perm (set_perm E L i hi)
theorem At.lt{L:List ai}{e:ai}{i:Nat}(h:L[i]? =some e):i<L.length:=(zz.1 h).1
class eK(P:Program)(t:TypeId)(e:outParam TypeId)(c:outParam Nat)(cw:outParam Nat):Prop where
  fc:P.underlying t=some (.slice e)
  row:(P.info? e).map (fun i=>(i.zero.map (·.cells.size),i.size,i.bytes))=some (some c,c,cw)
theorem eK.info{P:Program}{t e:TypeId}{c cw:Nat}(h:eK P t e c cw): ∃i z,P.info? e=some i/\i.zero=some z/\i.size=c/\i.bytes=cw/\z.cells.size=c:=by
  have h:=h.row
  cases hi:P.info? e with
  |none=>simp[hi]at h
  |some i=>
   cases hz:i.zero with
   |none=>simp[hi,hz]at h
   |some z=>simp[hi,hz]at h;exact⟨i,z,rfl,hz,h.2.1,h.2.2,h.1⟩
theorem tU{cs vs:Array Value}{o j:Nat}(ho:o+vs.size<=cs.size):(over cs o vs)[j]? =if o<=j/\j<o+vs.size then vs[j -o]?else cs[j]? :=by
  unfold over;simp only[auT];rw[atw,List.getElem?_append];have e1:(List.take o cs.toList).length=o:=by simp;omega
  rw[e1]
  by_cases h1:j<o
  ·rw[if_pos h1,if_neg (by omega),avj,if_pos h1];simp
  ·rw[if_neg h1,List.getElem?_append]
   by_cases h2:j -o<vs.toList.length
   ·rw[if_pos h2,if_pos (by simp at h2;omega)];simp
   ·rw[if_neg h2,if_neg (by simp at h2;omega),auC]
    simp at h2⊢;congr 1;omega
theorem ph{cs vs:Array Value}{o:Nat}(ho:o+vs.size<=cs.size):(over cs o vs).size=cs.size:=by
  simp[over];omega
theorem Ce{P:Program}(g o:Nat)(t:TypeId)(fz:Nat×Nat): ∀(vs:List Value) (i:Nat) (cur:Array Value) (w:World),w.heap[g]? =some (.cells cur t fz)→I4 cur.size fz→o+i+vs.length≤cur.size→(∀v∈vs,v.oneCell'=true)→
    (storeCells ⟨g,o,none⟩ vs i).run P w= .ok () (w.setRow g (cur.toList.take (o+i)++vs++cur.toList.drop (o+i+vs.length)).toArray)
  |[],i,cur,w,hg,_,_,_=>by
   simp only[storeCells,auh,anc,auH,auc,Array.toArray_toList];rw[setRow_self w g cur t fz hg];rfl
  |v::rest,i,cur,w,hg,hf,hl,h1=>by
   have hi:o+i<cur.size:=by simp at hl;omega
   have I8:(⟨g,o,none⟩:Addr).add i=⟨g,o+i,none⟩:=by unfold Addr.add;split<;>simp_all
   have wR:w.cell? ⟨g,o+i,none⟩=some cur[o+i]:=by simp[World.cell?,hg,hi]
   have Yn:w.frozen? ⟨g,o+i,none⟩=false:=by
      have:=hf (o+i) hi;obtain⟨a,b⟩:=fz;simp only[World.frozen?,hg];simp only[Bool.and_eq_false_iff,decide_eq_false_iff_not];omega
   have bB:(store ((⟨g,o,none⟩:Addr).add i) v).run P w= .ok () (w.setRow g (cur.setIfInBounds (o+i) v)):=by
      rw[I8,run_store P w _ v _ (h1 v (by simp)),wR];simp[Yn,setCell_eq_setRow w g (o+i) cur t fz v hg]
   have ih:=Ce (P:=P) g o t fz rest (i+1) (cur.setIfInBounds (o+i) v) (w.setRow g (cur.setIfInBounds (o+i) v)) (setRow_heap w g cur _ t _ hg) (by simpa using hf) (by simp at hl⊢;omega) (fun x hx=>h1 x (by simp[hx]));simp only[storeCells,Sem.run_bind,bB,Result.andThen_ok,ih,setRow_setRow];congr 3;have e:=list_seg_step cur.toList (o+i) v rest (by simp at hl⊢;omega);simpa[Array.toList_setIfInBounds,auW]using e
section
variable {α:Type} {enc:α->Array Value} {c:Nat}
def aJ(enc:α->Array Value)(xs:List α):List Value:=xs.flatMap fun x=>(enc x).toList
theorem ia[he:bp enc c]: ∀xs:List α,(aJ enc xs).length=xs.length*c
  |[]=>by simp[aJ]
  |x::xs=>by
   have:=ia xs;simp only[aJ,av3,adr]at this⊢;rw[this,avq,he.size,af0,atU];omega
theorem oc[he:bp enc c]: ∀(xs:List α) (i:Nat) (x:α),xs[i]? =some x-> ∀j,j<c->(aJ enc xs)[i*c+j]? =(enc x)[j]?
  |[],i,x,h,_,_=>by simp at h
  |y::xs,0,x,h,j,hj=>by
   obtain rfl:y=x:=by simpa using h
   simp only[aJ,av3,Nat.zero_mul,auf];rw[atN (by rw[avq,he.size];exact hj)];simp
  |y::xs,i+1,x,h,j,hj=>by
   have:=oc xs i x (by simpa using h) j hj;simp only[aJ,av3]at this⊢;rw[atz (by rw[avq,he.size,atU];omega),avq,he.size];rw[←this];congr 1;rw[atU];omega
theorem E3(hc:0<c)[he:bp enc c]{xs:List α}{k:Nat}{v:Value}(h:(aJ enc xs)[k]? =some v): ∃x,xs[k/c]? =some x/\(enc x)[k%c]? =some v:=by
  have hk:k<xs.length*c:=by
    have:=(zz.1 h).1;rwa [ia]at this
  have hd:k/c<xs.length:=Nat.div_lt_of_lt_mul (by rwa [auP]);refine⟨xs[k/c],by simp[hd],?_⟩;rw[←oc xs (k/c) xs[k/c] (by simp[hd]) (k%c) (ave _ hc),←h];congr 1;rw[auP];exact avY k c
theorem vp[he:bp enc c](xs:List α): ∀u∈aJ enc xs,u.oneCell'=true:=fun u hu=>by
  obtain⟨x,_,hx⟩:=List.mem_flatMap.1 hu;exact(at4.1 (he.one x)) u (by simpa using hx)
theorem wS{h:Nat→Option Obj}{s:Sv}{xs:List α}{cs:Array Value}{T:TypeId}{fz:Nat×Nat}(ok:s.Ok)(hl:s.len=xs.length)(hb:h s.b=some (.cells cs T fz))
    (hc: ∀i x,xs[i]? =some x-> ∀j,j<c->cs[s.o+i*c+j]? =(enc x)[j]?):eJ enc c h s xs:=
  ⟨ok,hl,fun i x hi j hj=>by unfold nG;rw[hb];exact hc i x hi j hj⟩
theorem jy{P:Program}{tx e':TypeId}(hk:P.underlying tx=some (.slice e'))(hc:0<c)[he:bp enc c]{w:World}{s:Sv}{xs:List α}(r:eJ enc c (hp w) s xs):Src P c tx s.val xs.length (aJ enc xs) w:=by
  cases hn:s.nil with
  |true=>
   have:xs=[]:=by have:=(r.ok.nil hn).1;rw[r.len]at this;exact atJ.1 this
   subst this;rw[Sv.sC hn];exact Src.ofNil w hk 0
  |false=>
   rw[Sv.iA hn,r.len];refine Src.ofSlice w hk _ _ _ _ (ia xs) (fun j u hu=>?_) (vp xs);obtain⟨x,hx,I9⟩:=E3 hc hu;have ft:=r.ok.sp (by have h1:=au8 (atL _) (zz.1 hx).1;have:=r.len;have:=r.ok.le;omega);rw[ft,Addr.gT,rH,←I9,←r.row _ x hx (j%c) (ave _ hc)];congr 1;have:=avY j c;rw[auP]at this;omega
theorem OB{P:Program}{t tx ty e:TypeId}{cw:Nat}(ht:eK P t e c cw)(hc:0<c)[he:bp enc c]{w0 w:World}{L:List ai}{i:Nat}{s:Sv}{xs ys:List α}{x:Value}
    (hw:Mem w0 L w) (hi:L[i]? =some (own enc c s xs)) (hs:Src P c tx x ys.length (aJ enc ys) w) (hb:(xs.length+ys.length)*cw<=140737488355328) (ib:xs.length+ys.length<=140737488355328):
    ∃s' w',(Builtin.append_ #[t,tx] ty #[s.val,x]).run P w= .ok (Sv.val s') w'/\s'.Ok/\s'.len=(xs++ys).length/\Mem w0 (L.set i (own enc c s' (xs++ys))) w'/\((s'.nil=s.nil/\s'.b=s.b/\s'.o=s.o/\s'.cap=s.cap/\ ∀cs T fz,w.heap[s.b]? =some (.cells cs T fz)-> ∃cs',w'.heap[s.b]? =some (.cells cs' T fz))\/(s'.nil=false/\s'.o=0/\0<s'.cap/\ ∃cs,w'.heap[s'.b]? =some (.cells cs e (0,0)))):=by
  obtain⟨r,pj⟩:=hw.get hi;obtain⟨i',z,bl,aL,bC,dq,od⟩:=ht.info;subst bC dq;have hlen:=r.len;have hle:=r.ok.le
  have grow:s.cap<s.len+ys.length→ ∀(base:Option Addr),s.val= .slice base s.len s.cap→(Builtin.firstCells i'.size s.len (.slice base s.len s.cap)).run P w.drew= .ok (aJ enc xs).toArray w.drew→
      ∃s' w',(Builtin.append_ #[t,tx] ty #[s.val,x]).run P w= .ok (Sv.val s') w'/\s'.Ok/\s'.len=(xs++ys).length/\Mem w0 (L.set i (own enc i'.size s' (xs++ys))) w'/\((s'.nil=s.nil/\s'.b=s.b/\s'.o=s.o/\s'.cap=s.cap/\ ∀cs T fz,w.heap[s.b]? =some (.cells cs T fz)-> ∃cs',w'.heap[s.b]? =some (.cells cs' T fz))\/(s'.nil=false/\s'.o=0/\0<s'.cap/\ ∃cs,w'.heap[s'.b]? =some (.cells cs e (0,0)))):=by
    intro hg base hv hold;have vr:=nextslicecap_le hg;have jz:Builtin.nextslicecap (s.len+ys.length) s.cap*i'.bytes<=281474976710656:=by
      have h2:Builtin.nextslicecap (s.len+ys.length) s.cap*i'.bytes<=2*(s.len+ys.length)*i'.bytes:=atG _ vr;rw[Nat.mul_assoc,hlen]at h2;rw[hlen];omega
    have hr:=run_append_grow_src w t tx ty e i' z ht.fc bl aL base s.len s.cap (aJ enc xs) hold x ys.length (aJ enc ys) hs hg (by omega) jz;have tV:=grownCap_ge w (s.len+ys.length) s.cap e;generalize grownCap w (s.len+ys.length) s.cap e=C at hr tV;refine⟨⟨false,w.heap.size,0,s.len+ys.length,C,none⟩,_,by rw[hv,hr];rfl,⟨(fun h=>by cases h),tV,by simp only;omega,fun _=>rfl⟩,by simp[hlen],hw.swap (At.lt hi) ?_, .inr ⟨rfl,rfl,(show 0<C by omega),_,Below.BQ w.drew _⟩⟩;have hm:=(Mem.init w).drew.alloc ((aJ enc xs++aJ enc ys).toArray++Builtin.zeroCells z.cells (C -(s.len+ys.length))) e;refine⟨hm.below,fun q hq=>?_,fun q hq k hk=>?_,by simp⟩
    ·obtain rfl:=at7.1 hq
     have fe:hp (w.drew.alloc (.cells ((aJ enc xs++aJ enc ys).toArray++Builtin.zeroCells z.cells (C -(s.len+ys.length))) e)) w.heap.size=some (.cells ((aJ enc xs++aJ enc ys).toArray++Builtin.zeroCells z.cells (C -(s.len+ys.length))) e (0,0)):=Below.BQ w.drew _;have eQ:aJ enc xs++aJ enc ys=aJ enc (xs++ys):=by simp[aJ]
     rw[eQ]at fe;rw[eQ];have eI:(aJ enc (xs++ys)).length=(xs.length+ys.length)*i'.size:=by rw[ia];simp
     refine⟨wS (enc:=enc) (c:=i'.size) (xs:=xs++ys) ⟨(fun h=>by cases h),tV,by simp only;omega,fun _=>rfl⟩ (by simp[hlen]) fe fun k y hy j hj=>?_,fun _=>⟨rfl,_,_,_,fe,?_,I5 _,fun _=>rfl⟩⟩
     ·have sD:=oc (enc:=enc) (xs++ys) k y hy j hj
      have bn:k*i'.size+j<(aJ enc (xs++ys)).length:=by
          rw[eI];have h1:=(zz.1 hy).1;rw[adr]at h1
          calc k*i'.size+j<k*i'.size+i'.size:=by omega
            _=(k+1)*i'.size:=by rw[atU];omega
            _<=_:=atG _ h1
      simp only[auf];rw[←sD,auk (by simpa using bn)];simp
     ·have h3:=size_zeroCells z.cells (C -(s.len+ys.length))
      rw[od]at h3;simp only[aud,auj,h3,eI,auf];rw[←atU,hlen];refine atG _ ?_;omega
    ·obtain rfl:=at7.1 hq
     obtain rfl:k=w.heap.size:=hk.2;simp
  rcases Bool.eq_false_or_eq_true s.nil with hn|hn
  ·
    have h0:=r.ok.nil hn;have eF:xs=[]:=by rw[hlen]at h0;exact atJ.1 h0.1
    subst eF
    by_cases hy:ys.length=0
    ·have og:ys=[]:=atJ.1 hy
     subst og;refine⟨s,w,?_,r.ok,by simpa using hlen,?_, .inl ⟨rfl,rfl,rfl,rfl,fun cs _ _ h=>⟨cs,h⟩⟩⟩
     ·rw[Sv.sC hn]
      have sE:=hs.cells;simp only[anc]at sE;rcases hs.kind with⟨e',hk⟩|hk<;>simp[Builtin.append_,run_underlying ht.fc,run_underlying hk,sizeOf,typeInfo,bl,hs.len,sE]
     ·have:L.set i (own enc i'.size s ([]++[]))=L:=by
          rw[auh];refine auz fun k=>?_;rw[auo]
          by_cases hk:i=k
          ·subst hk;rw[if_pos rfl,hi,if_pos (At.lt hi)]
          ·rw[if_neg hk]
      rw[this];exact hw
    ·refine grow (by omega) .none (by rw[Sv.sC hn,h0.1,h0.2]) ?_
     rw[h0.1,h0.2];exact run_firstCells_none w.drew _ _ _ _
  ·
    obtain⟨ft,cs,T,fz,fe,eI,nH,mZ⟩:=pj hn
    by_cases qd:s.len+ys.length<=s.cap
    ·have hmul:(s.len+ys.length)*i'.size<=s.cap*i'.size:=atG _ qd
     have eQ:(aJ enc ys).length=ys.length*i'.size:=ia ys
     have jz:s.o+s.len*i'.size+(aJ enc ys).toArray.size<=cs.size:=by
        rw[auj,eQ];rw[atU]at hmul;omega
     have bB:=Ce (P:=P) s.b (s.o+s.len*i'.size) T fz (aJ enc ys) 0 cs w fe nH (by simpa using jz) hs.one
     have Cf:(storeCells ⟨s.b,s.o+s.len*i'.size,none⟩ (aJ enc ys)).run P w= .ok () (w.setRow s.b (over cs (s.o+s.len*i'.size) (aJ enc ys).toArray)):=by
        simpa[over]using bB
     refine⟨{s with len:=s.len+ys.length},w.setRow s.b (over cs (s.o+s.len*i'.size) (aJ enc ys).toArray),?_,⟨(fun h=>by rw[hn]at h;cases h),qd,by simp only;omega,r.ok.sp⟩,by simp[hlen],?_, .inl ⟨rfl,rfl,rfl,rfl,fun E4 T2 Yo h2=>by
        have h3:=fe.symm.trans h2
        cases h3
        exact⟨_,setRow_heap w s.b cs _ T fz fe⟩⟩⟩
     ·have mq:({s with len:=s.len+ys.length}:Sv).val= .slice (some ⟨s.b,s.o,s.sp⟩) (s.len+ys.length) s.cap:=Sv.iA (s:={s with len:=s.len+ys.length}) hn
      rw[Sv.iA hn,mq,ft];rcases hs.kind with⟨e',hk⟩|hk<;>simp[Builtin.append_,run_underlying ht.fc,run_underlying hk,sizeOf,typeInfo,bl,hs.len,qd,hs.cells,Addr.gT,Cf]
     ·have mu:hp (w.setRow s.b (over cs (s.o+s.len*i'.size) (aJ enc ys).toArray)) s.b=some (.cells (over cs (s.o+s.len*i'.size) (aJ enc ys).toArray) T fz):=setRow_heap w s.b cs _ T fz fe
      refine hw.change hi (fun k hk=>hk) (fun k hk=>?_) (by simp[World.setRow]) ⟨rfl,rfl,rfl⟩ ⟨wS ⟨(fun h=>by rw[hn]at h;cases h),qd,by simp only;omega,r.ok.sp⟩ (by simp[hlen]) mu fun k y hy j hj=>?_,fun _=>⟨ft,_,_,_,mu,?_,by rw[ph jz];exact nH,mZ⟩⟩
      ·exact setRow_other w s.b k _ (fun e=>hk ⟨hn,e⟩)
      ·rw[tU jz]
       by_cases hk:k<xs.length
       ·rw[if_neg,←r.row k y (by rw[atN hk]at hy;exact hy) j hj]
        ·unfold nG;rw[fe]
        ·have:(k+1)*i'.size<=s.len*i'.size:=atG _ (by omega)
         rw[atU]at this;intro h;have:=h.1;simp only at this;omega
       ·rw[atz (by omega)]at hy
        have sD:=oc (enc:=enc) ys (k -xs.length) y hy j hj;have oh:s.len*i'.size+(k -xs.length)*i'.size=k*i'.size:=by rw[←atU];congr 1;omega
        have bn:(k -xs.length+1)*i'.size<=ys.length*i'.size:=atG _ (by have:=(zz.1 hy).1;omega);rw[atU]at bn;rw[if_pos ⟨by simp only;omega,by rw[auj,eQ];simp only;omega⟩,←sD];simp only[auT];congr 1;omega
      ·rw[ph jz];exact eI
    ·refine grow (by omega) _ (by rw[Sv.iA hn,ft]) ?_
     refine run_firstCells_some w.drew _ _ _ _ _ _ (by rw[ia,hlen]) fun j u hu=>?_;obtain⟨y,hy,I9⟩:=E3 hc hu;have:=r.row _ y hy (j%i'.size) (ave _ hc);rw[I9]at this;rw[Addr.gT];show w.cell? _=_;rw[rH,←this];congr 1;have h9:=avY j i'.size;rw[auP]at h9;omega
theorem Ja{P:Program}{t tx ty e:TypeId}{cw:Nat}(ht:eK P t e c cw)(hc:0<c)[he:bp enc c]{w0 w:World}{L:List ai}{i:Nat}{s:Sv}{xs ys:List α}{x:Value}
    (hw:Mem w0 L w) (hi:L[i]? =some (own enc c s xs)) (hs:Src P c tx x ys.length (aJ enc ys) w) (hb:(xs.length+ys.length)*cw<=140737488355328) (ib:xs.length+ys.length<=140737488355328):
    ∃s' w',(Builtin.append_ #[t,tx] ty #[s.val,x]).run P w= .ok (Sv.val s') w'/\s'.Ok/\s'.len=(xs++ys).length/\Mem w0 (L.set i (own enc c s' (xs++ys))) w':=by
  obtain⟨s',w',h1,h2,h3,h4,_⟩:=OB (ty:=ty) ht hc hw hi hs hb ib;exact⟨s',w',h1,h2,h3,h4⟩
theorem OC(off:Nat): ∀(vs:List Value) (k:Nat) (cs:Array Value),off+k+vs.length≤cs.size→
    (vs.zipIdx k).foldl (fun cs (p:Value×Nat)=>cs.setIfInBounds (off+p.2) p.1) cs=(cs.toList.take (off+k)++vs++cs.toList.drop (off+k+vs.length)).toArray
  |[],k,cs,_=>by simp
  |v::vs,k,cs,h=>by
   simp only[List.zipIdx_cons,auQ,af0]at h⊢;rw[OC off vs (k+1) _ (by simp;omega)];apply av6;have e1:(cs.setIfInBounds (off+k) v).toList=cs.toList.set (off+k) v:=by simp
   rw[e1];have bn:off+k<cs.toList.length:=by simp;omega
   have e2:(cs.toList.set (off+k) v).take (off+(k+1))=cs.toList.take (off+k)++[v]:=by
      rw[←auW,atr,avO (att _),atE bn];rfl
   have e3:(cs.toList.set (off+k) v).drop (off+(k+1)+vs.length)=cs.toList.drop (off+k+(vs.length+1)):=by
      rw[List.drop_set_of_lt (by omega)];congr 1;omega
   rw[e2,e3];simp
def idx(vals:List Value)(i:Nat):List (Nat×Value):=(vals.zipIdx i).map fun p=>(p.2,p.1)
theorem OD[he:bp enc c]: ∀(xs:List α) (vals:List Value) (i:Nat) (cs:Array Value),vals.map Value.cells=xs.map enc→i*c+xs.length*c≤cs.size→
    Instr.fill (fun i=>some (i*c,c)) cs (idx vals i)=some (cs.toList.take (i*c)++aJ enc xs++cs.toList.drop (i*c+xs.length*c)).toArray
  |[],[],i,cs,_,_=>by simp[idx,Instr.fill,aJ]
  |[],_::_,_,_,h,_=>by simp at h
  |_::_,[],_,_,h,_=>by simp at h
  |x::xs,v::vals,i,cs,h,hs=>by
   simp only[atI,avZ]at h;obtain⟨h1,h2⟩:=h;have eI:v.cells.size=c:=by rw[h1];exact he.size x
   rw[af0,atU,Nat.one_mul]at hs;simp only[idx,List.zipIdx_cons,atI,Instr.fill,eI];rw[if_neg (by simp;omega)]
   have ef:v.cells.zipIdx.foldl (fun cs (p:Value×Nat)=>cs.setIfInBounds (i*c+p.2) p.1) cs=(cs.toList.take (i*c)++v.cells.toList++cs.toList.drop (i*c+c)).toArray:=by
      have:=OC (i*c) v.cells.toList 0 cs (by simp;omega);simp only[auH]at this;rw[←Array.foldl_toList,Array.toList_zipIdx,this];simp[eI]
   have Yp:(v.cells.zipIdx.foldl (fun cs (x:Value×Nat)=>match x with|(c',j)=>cs.setIfInBounds (i*c+j) c') cs)=(cs.toList.take (i*c)++v.cells.toList++cs.toList.drop (i*c+c)).toArray:=ef
   rw[Yp];have vt:(cs.toList.take (i*c)++v.cells.toList).length=(i+1)*c:=by simp[eI,atU];omega
   have:=OD xs vals (i+1) (cs.toList.take (i*c)++v.cells.toList++cs.toList.drop (i*c+c)).toArray h2 (by simp[eI,atU];omega);unfold idx at this;rw[this];congr 1;apply av6;rw[List.take_left' vt,←avp (j:=(i+1)*c) (i:=xs.length*c),List.drop_left' vt];simp only[aJ,av3,h1,atw,List.append_cancel_left_eq];rw[avp,af0,show i*c+c+xs.length*c=i*c+(xs.length+1)*c by rw[atU];omega]
end
section
variable {P:Program} {N:cC} {w0:World} {env:Env} {L:List ai} {l:List Oper} {Q:Exit->Act->World->Prop} {rest:List Oper} {d:Option Tmp} {ty:TypeId} {ps:String} {af:Array Edge}
variable {α:Type} {enc:α->Array Value} {c:Nat} {s:Sv} {xs ys:List α}
class fX(L:List ai)(s:Sv){α:outParam Type}(enc:outParam (α->Array Value))(c:outParam Nat)(xs:outParam (List α))(i:outParam Nat):Prop where
  h:L[i]? =some (own enc c s xs)
instance (priority:=high) fX.here {L:List ai}:fX (own enc c s xs::L) s enc c xs 0:=⟨rfl⟩
instance fX.there{L:List ai}{e:ai}{i:Nat}[q:fX L s enc c xs i]:fX (e::L) s enc c xs (i+1):=⟨by simpa using q.h⟩
theorem fX.holds{i:Nat}(q:fX L s enc c xs i):Holds w0 L enc c s xs:=fun _ hw=>(hw.get q.h).1
theorem Mem.dK{w:World}(enc:α->Array Value)(c:Nat)(h:Mem w0 L w):Mem w0 (own enc c Sv.none []::L) w:=
  h.call (E:=[own enc c Sv.none []]) ⟨Below.refl _ _,fun e he=>by
    obtain rfl:=at7.1 he;exact⟨eJ.nil enc c _,(fun h=>by cases h)⟩,fun e he k hk=>by
    obtain rfl:=at7.1 he;exact absurd hk.1 (by simp[Sv.none]),by simp⟩
theorem nf{t tx e:TypeId}{x y:Operand}{yv:Value}{cw i:Nat}[ht:eK P t e c cw][he:bp enc c](hx:ev env x=some s.val)(hy:ev env y=some yv)[q:fX L s enc c xs i](hc:0<c)
    (hs: ∀w,Mem w0 L w->Src P c tx yv ys.length (aJ enc ys) w) (hb:(xs.length+ys.length)*cw<=140737488355328) (ib:xs.length+ys.length<=140737488355328) {L':Sv->List ai} [hu: ∀s',fO L i (own enc c s' (xs++ys)) (L' s')]
    (hk: ∀s':Sv,s'.Ok->s'.len=(xs++ys).length->Sq P N w0 l Q rest (cy env d s'.val) (L' s')) (hd:dx N d=true:=by rfl):
    Sq P N w0 l Q (⟨d, .call {callee:= .builtin .append,args:= #[x,y],argTypes:= #[t,tx]},ty,ps,af,none⟩::rest) env L:=
  nD rfl hd fun a w ha hw=>by
    obtain⟨s',w',h1,h2,h3,h4⟩:=Ja (ty:=ty) ht hc hw q.h (hs w hw) hb ib;refine⟨s'.val,w',L' s',?_,by rw[←(hu s').h];exact h4,hk s' h2 h3⟩;simp[execOp,ha.ev hx,ha.ev hy,resolve,invoke,builtin,h1,Result.andThen]
theorem wT{w:World}{b:Nat}{cs:Array Value}{e:TypeId}(hb:b=w.heap.size)(n cap:Nat)(hn:n=xs.length)(hle:n≤cap)(ib:n≤140737488355328)(eI:cap*c≤cs.size)(hc: ∀i x,xs[i]? =some x→ ∀j,j<c→cs[i*c+j]? =(enc x)[j]?):
    Mem w [own enc c ⟨false,b,0,n,cap,none⟩ xs] (w.alloc (.cells cs e)):=by
  subst hb;have hm:=(Mem.init w).alloc cs e;have fe:hp (w.alloc (.cells cs e)) w.heap.size=some (.cells cs e (0,0)):=Below.BQ w _;refine⟨hm.below,fun q hq=>?_,fun q hq k hk=>?_,by simp⟩
  ·obtain rfl:=at7.1 hq
   exact⟨wS ⟨(fun h=>by cases h),hle,ib,fun _=>rfl⟩ hn fe (by simpa using hc),fun _=>⟨rfl,_,_,_,fe,by simpa using eI,I5 _,fun _=>rfl⟩⟩
  ·obtain rfl:=at7.1 hq
   obtain rfl:k=w.heap.size:=hk.2;simp
theorem E5{n c:Nat}(h0:0<n*c)(h:n*c<=16777216):n<=140737488355328:=by
  have:n*1≤n*c:=Nat.mul_le_mul_left _ (by rcases avu c with rfl|h';·simp at h0
                                          ·exact h')
  omega
theorem E6{t e:TypeId}{cw:Nat}(ht:eK P t e c cw)[he:bp enc c]{vals:List Value}(hv:vals.map Value.cells=xs.map enc)(hc:0<xs.length*c)(rI:xs.length*c≤16777216)(w:World):
    (Instr.buildSlice t xs.length (idx vals 0).toArray).run P w= .ok (.slice (some ⟨w.heap.size,0,none⟩) xs.length xs.length) (w.alloc (.cells (aJ enc xs).toArray e)):=by
  obtain⟨i',z,bl,aL,bC,dq,od⟩:=ht.info;subst bC;have hf:=OD (enc:=enc) (c:=i'.size) xs vals 0 ((Array.range (xs.length*i'.size)).map (z.cells[· %z.cells.size]!)) hv (by simp);have Yq:((Array.range (xs.length*i'.size)).map (z.cells[· %z.cells.size]!)).toList.drop (0*i'.size+xs.length*i'.size)=[]:=by simp
  rw[Yq]at hf;simp only[Nat.zero_mul,atW,aug,auh]at hf;have n1: ¬xs.length*i'.size>2^24:=by omega
  have n2: ¬xs.length*i'.size=0:=by omega
  simp[Instr.buildSlice,run_underlying ht.fc,sizeOf,typeInfo,zeroValue,bl,aL,n1,n2,hf,newRow,newObj,Sem.run,Result.andThen]
theorem om{t e:TypeId}{cw n:Nat}[ht:eK P t e c cw][he:bp enc c]{ops:List (Nat×Operand)}{vals:List Value}(xs:List α)(hx:ke env ops=some (idx vals 0))(hv:vals.map Value.cells=xs.map enc)(hn:xs.length=n)(hc:0<n*c)(rI:n*c≤16777216)
    (hk: ∀b,Sq P N w0 l Q rest (cy env d (Sv.val ⟨false,b,0,n,n,none⟩)) (own enc c ⟨false,b,0,n,n,none⟩ xs::L)) (hd:dx N d=true:=by rfl):
    Sq P N w0 l Q (⟨d, .buildSlice t n ops.toArray,ty,ps,af,none⟩::rest) env L:=
  nD rfl hd fun a w ha hw=>by
    subst hn;have e1:(ops.toArray.map fun(p:Nat×Operand)=>match p with|(i,x)=>(i,a.eval x))=(idx vals 0).toArray:=by
      rw[←ha.ke hx];simp
    refine⟨_,_,_,?_,hw.call (wT (enc:=enc) (c:=c) (xs:=xs) (cs:=(aJ enc xs).toArray) (e:=e) rfl xs.length xs.length rfl (att _) (E5 hc rI) (by simp[ia]) fun i x hx j hj=>by rw[←oc (enc:=enc) xs i x hx j hj];simp),hk _⟩;simp only[execOp,e1,Sem.run_bind,E6 ht hv hc rI w,Result.andThen,Sem.run_pure];rfl
theorem Yr{Lq:List ai}{n' j:Nat}{js:List Nat}{t e:TypeId}{cw n:Nat}{ops:List (Nat×Operand)}(hj:l[j]? =some ⟨d, .buildSlice t n ops.toArray,ty,ps,af,none⟩)[ht:eK P t e c cw][he:bp enc c]{vals:List Value}(xs:List α)(hx:ke env ops=some (idx vals 0))(hv:vals.map Value.cells=xs.map enc)(hn:xs.length=n)(hc:0<n*c)(rI:n*c≤16777216)
    (hk: ∀b,Fr P N w0 Lq l n' Q js (cy env d (Sv.val ⟨false,b,0,n,n,none⟩)) (own enc c ⟨false,b,0,n,n,none⟩ xs::L)) (hd:dx N d=true:=by rfl):
    Fr P N w0 Lq l n' Q (j::js) env L:=
  Ya hj rfl hd fun a w ha hw=>by
    subst hn;have e1:(ops.toArray.map fun(p:Nat×Operand)=>match p with|(i,x)=>(i,a.eval x))=(idx vals 0).toArray:=by
      rw[←ha.ke hx];simp
    refine⟨_,_,[own enc c ⟨false,w.heap.size,0,xs.length,xs.length,none⟩ xs],?_,wT (enc:=enc) (c:=c) (xs:=xs) (cs:=(aJ enc xs).toArray) (e:=e) rfl xs.length xs.length rfl (att _) (E5 hc rI) (by simp[ia]) fun i x hx j hj=>by rw[←oc (enc:=enc) xs i x hx j hj];simp,hk _⟩;simp only[execOp,e1,Sem.run_bind,E6 ht hv hc rI w,Result.andThen,Sem.run_pure];rfl
theorem Ys{zc:Array Value}(m n:Nat)(h:zc.size=c)(i j:Nat)(hi:i<n)(hj:j<c)(hm:n*c<=m):(madeCells zc m)[i*c+j]? =zc[j]? :=by
  have bn:i*c+j<m:=by
    have:(i+1)*c<=n*c:=atG _ hi;rw[atU]at this;omega
  have e1:(i*c+j)%zc.size=j:=by rw[h,auP,Nat.mul_add_mod];exact at5 hj
  have hz:j<zc.size:=by omega
  simp[madeCells,bn,e1,hz]
theorem Jb{t e:TypeId}{cw n cap:Nat}{z:Value}(ht:eK P t e c cw)(hz:eP P e z){k k':IntKind}(x0:α)(h0:enc x0=z.cells)(hle:n≤cap)(hb:cw*cap≤281474976710656)(ib:cap≤140737488355328)(w:World):
    ∃w',(Instr.makeSlice t (.int k n) (.int k' cap)).run P w= .ok (Sv.val ⟨false,w.heap.size,0,n,cap,none⟩) w'/\Mem w [own enc c ⟨false,w.heap.size,0,n,cap,none⟩ (List.replicate n x0)] w':=by
  obtain⟨i',z',bl,aL,bC,dq,od⟩:=ht.info;obtain rfl:z'=z:=by
    have:=hz.zero;rw[bl,at3,aL]at this;exact atl (atl this)
  subst bC dq;have mu:(i'.bytes:Int)*(cap:Int)<=281474976710656:=by
    have h:((i'.bytes*cap:Nat):Int)<=281474976710656:=by omega
    rwa [Int.natCast_mul]at h
  have hr:=run_make (P:=P) w t e i' _ ht.fc bl aL k k' n cap (by omega) (by omega) mu (by omega);simp only[auy]at hr;refine⟨_,hr,wT rfl n cap (by simp) hle (by omega) (by simp[size_madeCells]) fun i x hx j hj=>?_⟩;have hi:i<n:=by
    have:=(zz.1 hx).1;simpa using this
  obtain rfl:x0=x:=by rw[avN,if_pos hi]at hx;exact atl hx
  rw[h0];exact Ys _ n od i j hi hj (atG _ hle)
theorem vu{t e:TypeId}{cw n cap:Nat}{z:Value}{x y:Operand}{k k':IntKind}{ix iy:Int}[ht:eK P t e c cw][hz:eP P e z](x0:α)(h0:enc x0=z.cells)(hx:ev env x=some (.int k ix))(hy:ev env y=some (.int k' iy))(ex:ix=(n:Int))(ey:iy=(cap:Int))(hle:n≤cap)(hb:cw*cap≤281474976710656)(ib:cap≤140737488355328)
    (hk: ∀b,Sq P N w0 l Q rest (cy env d (Sv.val ⟨false,b,0,n,cap,none⟩)) (own enc c ⟨false,b,0,n,cap,none⟩ (List.replicate n x0)::L)) (hd:dx N d=true:=by rfl):
    Sq P N w0 l Q (⟨d, .makeSlice t x y,ty,ps,af,none⟩::rest) env L:=
  nD rfl hd fun a w ha hw=>by
    subst ex ey;obtain⟨w',h1,h2⟩:=Jb ht hz (k:=k) (k':=k') (n:=n) x0 h0 hle hb ib w;exact⟨_,w',_,by simp only[execOp,ha.ev hx,ha.ev hy,Sem.run_bind,h1,Result.andThen,Sem.run_pure],hw.call h2,hk _⟩
theorem OE{w:World}{L':List ai}{i k j:Nat}{a a':α}{vs:Array Value}[he:bp enc c](hw:Mem w0 L w)(q:fX L s enc c xs i)(ha:xs[k]? =some a)(hv:vs.all (·.oneCell')=true)(hj:j+vs.size≤c)(sF:over (enc a) j vs=enc a')(hu:fO L i (own enc c s (xs.set k a')) L'):
    ∃w',(storeCells ⟨s.b,s.o+k*c+j,none⟩ vs.toList).run P w= .ok () w'/\Mem w0 L' w':=by
  obtain⟨r,pj⟩:=hw.get q.h;have hk:k<xs.length:=(zz.1 ha).1;have hn:=r.some hk;have hle:=r.ok.le;have hlen:=r.len;obtain⟨ft,cs,T,fz,fe,eI,nH,mZ⟩:=pj hn;have hmul:(k+1)*c<=s.cap*c:=atG _ (by omega);have aj0:=hmul;rw[atU]at hmul;have jz:s.o+k*c+j+vs.size<=cs.size:=by omega
  have bB:=Ce (P:=P) s.b (s.o+k*c+j) T fz vs.toList 0 cs w fe nH (by simpa using jz) (fun v mq=>(at4.1 hv) v (by simpa using mq));refine⟨w.setRow s.b (over cs (s.o+k*c+j) vs),by simpa[over]using bB,?_⟩;have mu:hp (w.setRow s.b (over cs (s.o+k*c+j) vs)) s.b=some (.cells (over cs (s.o+k*c+j) vs) T fz):=setRow_heap w s.b cs _ T fz fe;rw[←hu.h];refine hw.change q.h (fun k hk=>hk) (fun x hx=>setRow_other w s.b x _ (fun e=>hx ⟨hn,e⟩)) (by simp[World.setRow]) ⟨rfl,rfl,rfl⟩ ⟨wS r.ok (by simpa using hlen) mu fun x y hy p iI=>?_,fun _=>⟨ft,_,_,_,mu,by rw[ph jz];exact eI,by rw[ph jz];exact nH,mZ⟩⟩;rw[tU jz]
  by_cases OF:x=k
  ·subst OF
   obtain rfl:a'=y:=by rw[atE hk]at hy;exact atl hy
   rw[←sF,tU (by rw[he.size];exact hj)]
   by_cases h1:j<=p/\p<j+vs.size
   ·rw[if_pos h1,if_pos (by omega)];congr 1;omega
   ·rw[if_neg h1,if_neg (by omega),←r.row x a ha p iI]
    unfold nG;rw[fe]
  ·rw[atZ (by omega)]at hy
   rw[if_neg,←r.row x y hy p iI]
   ·unfold nG;rw[fe]
   ·intro h
    rcases Nat.lt_or_gt_of_ne OF with h'|h'
    ·have:(x+1)*c<=k*c:=atG _ h'
     rw[atU]at this;omega
    ·have:(k+1)*c<=x*c:=atG _ h'
     rw[atU]at this;omega
theorem mv{t:TypeId}{x y:Operand}{i k j n p:Nat}{a a':α}{v:Value}(sz:(P.info? t).map (·.size)=some n)[he:bp enc c](hx:ev env x=some (.pointer (some ⟨s.b,p,none⟩)))(hy:ev env y=some v)[q:fX L s enc c xs i](iI:p=s.o+k*c+j)
    (ha:xs[k]? =some a) (hv:v.cells.all (·.oneCell')=true) (hn:v.cells.size=n) (hj:j+n<=c) (sF:over (enc a) j v.cells=enc a') {L':List ai} [hu:fO L i (own enc c s (xs.set k a')) L'] (hk:Sq P N w0 l Q rest env L'):
    Sq P N w0 l Q (⟨none, .store t x y,ty,ps,af,none⟩::rest) env L:=
  ES rfl rfl fun aa w Cg hw=>by
    subst iI hn;obtain⟨w',h1,h2⟩:=OE (P:=P) hw q ha hv hj sF hu;refine⟨w',_,?_,h2,hk⟩;simp only[execOp,Cg.ev hx,Cg.ev hy,Instr.storeAt,Instr.sureAddr,storeVar,Sem.run_bind,Sem.run_pure,Result.andThen,lN w sz];simp[h1]
theorem Yt{X:Type}{val:X→Value}{L':X→List ai}{pr:X→Prop}{f:FuncId}{xs:List Operand}{ts:Array TypeId}{vs:List Value}[hf:aI P f](hx:iz env xs=some vs)
    (hc: ∀w,Mem w0 L w->Calls P f vs.toArray w fun e w'=> ∃x,e= .returned (val x)/\pr x/\Mem w0 (L' x) w') (hk: ∀x,pr x->Sq P N w0 l Q rest (cy env d (val x)) (L' x)) (hd:dx N d=true:=by rfl):
    Sq P N w0 l Q (⟨d, .call {callee:= .value (.func f),args:=xs.toArray,argTypes:=ts},ty,ps,af,none⟩::rest) env L:=fun a w ha hw=>by
  unfold wpList;rw[if_pos (sA rfl)];refine .inl ?_;unfold Oper.wp;rw[EP hf w rfl,ha.iz hx];exact(hc w hw).mono fun e w' ⟨x,he,hp,hm⟩=>by subst he;exact hk x hp _ _ (ha.put hd _) hm
theorem gV{N:Nat}{fn:Func}{R:Ending→World→Prop}{f:FuncId}{c:Code}{args:List Value}{w:World}(hf:P.funcs[f]? =some fn)(hb:fn.body=some c)(hN:fn.ntmps=N)(hle:Nat.ble args.length N=true)(hw:Mem w0 L w)
    (h:Cw P ⟨N,[],none⟩ w0 (rA P fn R) c (args.zipIdx.map fun p=>(p.2,p.1)) L):Calls P f args.toArray w R:=
  NY hf hb (h _ _ (by rw[hN];exact dw.enter args N (Nat.le_of_ble_eq_true hle)) hw)
theorem E7{b n i:Nat}{cs:Array Value}{T:TypeId}[hi:Has L b cs T i][he:bp enc c](gU:cs=(aJ enc xs).toArray)(hn:xs.length=n)(ib:n<=140737488355328:=by decide):Holds w0 L enc c ⟨false,b,0,n,n,none⟩ xs:=fun w hw=>by
  have hb:=hw.block hi.h;exact wS ⟨(fun h=>by cases h),att _,ib,fun _=>rfl⟩ hn.symm hb fun k x hx j hj=>by
    rw[←oc (enc:=enc) xs k x hx j hj,gU];simp
def zZ(tmps:Array Value)(r:ResultVar):Sem Value:=match r with
  | .tmp t=>pure (tmps.getD t undef)
  | .cell c t=>do loadVar t (←asAddr (tmps.getD c undef))
theorem Jc(fn:Func)(tmps:Array Value):results fn tmps=(do let vs←fn.results.mapM (zZ tmps);pure (if h:vs.size=1 then vs[0]else .tuple vs)):=by
  have:(fun r=>zZ tmps r)=(fun| .tmp t=>pure (tmps.getD t undef)| .cell a t=>do loadVar t (←asAddr (tmps.getD a undef)):ResultVar->Sem Value):=by
    funext r;cases r<;>rfl
  show _=(do let vs←fn.results.mapM (fun r=>zZ tmps r);pure (if h:vs.size=1 then vs[0]else .tuple vs));rw[this];rfl
def RV(P:Program)(N:cC)(w0:World)(env:Env)(L:List ai)(r:ResultVar)(v:Value):Prop:= ∀a w,dw N env a->Mem w0 L w->(zZ a.tmps r).run P w= .ok v w
theorem z8{t:Nat}{v:Value}(hv:look env t=some v):RV P N w0 env L (.tmp t) v:=fun a w ha _=>by
  have:=ha.get _ _ hv;simp[zZ,this]
theorem Aa{t b i n:Nat}{T T':TypeId}{cs:Array Value}(hv:look env t=some (.pointer (some ⟨b,0,none⟩)))[ht:gC P T n][hi:Has L b cs T' i][hn:gn cs n]:RV P N w0 env L (.cell t T) (.agg cs):=fun a w ha hw=>by
  have h1:=ha.get _ _ hv;have h2:(loadVar T ⟨b,0,none⟩).run P w= .ok (.agg cs) w:=IN w ht hn.h fun j _=>by rw[Addr.gT,hw.cell hi.h,auf]
  simp[zZ,h1,asAddr,h2]
variable {fn:Func} {r1 r2 r3:ResultVar} {v1 v2 v3:Value}
theorem Yu{A B:Type}(f:A->Sem B)(x y:A):(#[x,y]:Array A).mapM f=(do let a←f x;let b←f y;pure #[a,b]):=by simp
theorem Yv{A B:Type}(f:A->Sem B)(x y z:A):(#[x,y,z]:Array A).mapM f=(do let a←f x;let b←f y;let c←f z;pure #[a,b,c]):=by simp
theorem OG(hf:fn.results= #[r1])(h1:RV P N w0 env L r1 v1): ∀a w,dw N env a->Mem w0 L w->(results fn a.tmps).run P w= .ok v1 w:=fun a w ha hw=>by
  have e1:=h1 a w ha hw;rw[Jc,hf];simp[e1]
theorem Yw(hf:fn.results= #[r1,r2])(h1:RV P N w0 env L r1 v1)(h2:RV P N w0 env L r2 v2): ∀a w,dw N env a->Mem w0 L w->(results fn a.tmps).run P w= .ok (.tuple #[v1,v2]) w:=fun a w ha hw=>by
  have e1:=h1 a w ha hw;have e2:=h2 a w ha hw;rw[Jc,hf,Yu];simp[e1,e2]
theorem Yx(hf:fn.results= #[r1,r2,r3])(h1:RV P N w0 env L r1 v1)(h2:RV P N w0 env L r2 v2)(h3:RV P N w0 env L r3 v3): ∀a w,dw N env a->Mem w0 L w->(results fn a.tmps).run P w= .ok (.tuple #[v1,v2,v3]) w:=fun a w ha hw=>by
  have e1:=h1 a w ha hw;have e2:=h2 a w ha hw;have e3:=h3 a w ha hw;rw[Jc,hf,Yv];simp[e1,e2,e3]
end
def aO(b:UInt8):Array Value:= #[.int .u8 b.toNat]
instance:bp aO 1:=⟨fun _=>rfl,fun _=>by simp[aO,Value.oneCell']⟩
instance (b:UInt8):bQ (aO b) 0 (.int .u8 b.toNat):=⟨rfl⟩
def tW(s:Sv):Array Value:= #[s.val]
instance:bp tW 1:=⟨fun _=>rfl,fun s=>by simp[tW,Sv.one]⟩
def b8(n:Nat):UInt8:=UInt8.ofNat n
theorem sG(n:Nat):(b8 n).toNat=n%256:=by simp[b8]
theorem Yy(n:Nat):b8 (n%256)=b8 n:=by
 apply avC.1;simp[sG]
theorem Yz(n:Nat):IntKind.u8.wrap (n:Int)=((b8 n).toNat:Int):=by
 rw[sG];simp[IntKind.wrap,IntKind.bits,IntKind.signed]
def be(n:Nat):Nat->List UInt8
 |0=>[]
 |k+1=>b8 (n/256^k)::be n k
theorem jL(n:Nat): ∀k,(be n k).length=k
 |0=>rfl
 |k+1=>by simp[be,jL n k]
def de(l:List UInt8):Nat:=l.foldl (fun a b=>a*256+b.toNat) 0
theorem OH{xs:List UInt8}{i:Nat}{b:UInt8}(h:xs[i]? =some b):de (xs.take (i+1))=de (xs.take i)*256+b.toNat:=by
 rw[atr,h];simp[de]
theorem Jd(xs:List UInt8): ∀i,i<=xs.length->de (xs.take i)<256^i
 |0,_=>by simp[de]
 |i+1,h=>by
  have:=Jd xs i (by omega);rw[OH (b:=xs[i]) (by simp),Nat.pow_succ];have:=xs[i].toNat_lt;omega
section
variable {P:Program} {N:cC} {w0:World} {env:Env} {L:List ai} {d:Option Tmp} {ty:TypeId} {ps:String} {af:Array Edge} {gd:Option (Nat×Bool)}
variable {x y:Operand} {k k':IntKind} {p q:Nat} {t u s:TypeId}
theorem wU{a b:Int}(hx:ev env x=some (.int k a))(hy:ev env y=some (.int k b))(ea:a=p)(eb:b=q)(hq:0<q):
  Ry P N w0 env L ⟨d, .binOp .rem t x y u,ty,ps,af,gd⟩ (.int k ((p%q:Nat):Int)):=fE hx hy (by
 subst ea eb;rw[mX,if_neg (by omega),←Int.ofNat_tmod])
theorem YA{a b:Int}(hx:ev env x=some (.int k a))(hy:ev env y=some (.int k b))(ea:a=p)(eb:b=q)(h:p*q<2^nb k):
  Ry P N w0 env L ⟨d, .binOp .mul t x y u,ty,ps,af,gd⟩ (.int k ((p*q:Nat):Int)):=fE hx hy (by
 subst ea eb;rw[mX,←Int.natCast_mul,qO h])
theorem Ci{n:Nat}{a:Int}[hs:mo P s k'][ht:mo P t .u8](hx:ev env x=some (.int k' a))(ea:a=n):
  Ry P N w0 env L ⟨d, .convert s t x,ty,ps,af,gd⟩ (.int .u8 (b8 n).toNat):=vk hx (by subst ea;exact Yz n)
theorem YB{e:TypeId}{sv:Sv}{xs:List UInt8}(hs:P.underlying s=some (.slice e))(he:P.underlying e=some (.int .u8))(hd:P.underlying t=some .string)(hx:ev env x=some sv.val)(hR:Holds w0 L aO 1 sv xs):
  Ry P N w0 env L ⟨d, .convert s t x,ty,ps,af,gd⟩ (.string ⟨xs.toArray⟩):=fun a w ha hw=>by
 have r:=hR w hw;have hr:(convert s t sv.val).run P w= .ok (.string ⟨xs.toArray⟩) w:=by
  cases hn:sv.nil with
  |true=>
   have:xs=[]:=by have:=(r.ok.nil hn).1;rw[r.len]at this;exact atJ.1 this
   subst this;rw[Sv.sC hn,run_convert_bytes_string w s t e none 0 0 hs he hd];rfl
  |false=>
   rw[Sv.iA hn,r.len];refine run_convert_bytes_back w s t e _ _ xs hs he hd fun j hj=>?_;rw[r.ok.sp (by have:=r.len;have:=r.ok.le;omega)];rw[Addr.gT,rH];have:=r.row j xs[j] (by simp) 0 (by decide);simp only[avy,auH]at this;rw[this];rfl
 simp only[execOp,ha.ev hx,Sem.run_bind,hr,Result.andThen,Sem.run_pure]
theorem YC{a b:ByteArray}(hx:ev env x=some (.string a))(hy:ev env y=some (.string b)):
  Ry P N w0 env L ⟨d, .binOp .eql t x y u,ty,ps,af,gd⟩ (.bool (a.toList==b.toList)):=fun aa w ha _=>by
 have h2:(eqGuard BinOp.eql t x y (.string a) (.string b)).run P w= .ok () w:=rfl;simp only[execOp,ha.ev hx,ha.ev hy,Sem.run_bind,h2,Result.andThen_ok,binOp_string_eql,Sem.run_pure]
theorem YD{a b:ByteArray}(hx:ev env x=some (.string a))(hy:ev env y=some (.string b)):
  Ry P N w0 env L ⟨d, .binOp .neq t x y u,ty,ps,af,gd⟩ (.bool (!(a.toList==b.toList))):=fun aa w ha _=>by
 have h2:(eqGuard BinOp.neq t x y (.string a) (.string b)).run P w= .ok () w:=rfl;simp only[execOp,ha.ev hx,ha.ev hy,Sem.run_bind,h2,Result.andThen_ok,binOp_string_neq,Sem.run_pure]
end
section
variable {P:Program} {N:cC} {w0:World} {env:Env} {L:List ai} {l:List Oper} {Q:Exit->Act->World->Prop} {rest:List Oper} {d:Option Tmp} {ty:TypeId} {ps:String} {af:Array Edge}
end
def tX(b c:UInt8):UInt16:=UInt16.ofNat (b.toNat*256+c.toNat)
theorem Je(b c:UInt8):(tX b c).toNat=b.toNat*256+c.toNat:=by
 have:=b.toNat_lt;have:=c.toNat_lt;simp[tX];omega
theorem OI(p q:Nat)(h:q<256):(p*256)|||q=p*256+q:=by
 have:=Nat.two_pow_add_eq_or_of_lt (i:=8) (b:=q) (by simpa using h) p;rw[show(2^8*p)=p*256 by rw[auP]]at this;exact this.symm
section
variable {P:Program} {N:cC} {w0:World} {env:Env} {L:List ai} {d:Option Tmp} {ty:TypeId} {ps:String} {af:Array Edge} {gd:Option (Nat×Bool)} {x y:Operand} {k:IntKind} {t u:TypeId}
theorem OJ{b:UInt8}{k':IntKind}(hx:ev env x=some (.int k b.toNat))(hy:ev env y=some (.int k' 8))(hk:k= .u16\/k= .i64:=by decide):
  Ry P N w0 env L ⟨d, .binOp .shl t x y u,ty,ps,af,gd⟩ (.int k ((b.toNat*256:Nat):Int)):=by
 have h:=IX (P:=P) (N:=N) (w0:=w0) (L:=L) (d:=d) (ty:=ty) (ps:=ps) (af:=af) (gd:=gd) (t:=t) (u:=u) hx hy (by decide);have hb:=b.toNat_lt;have e:k.wrap ((b.toNat:Int)*2^min (Int.toNat 8) k.bits)=((b.toNat*256:Nat):Int):=by
  rcases hk with rfl|rfl<;>simp[IntKind.wrap,IntKind.bits,IntKind.signed]<;>omega
 rw[e]at h;exact h
theorem OK{b c:UInt8}(hx:ev env x=some (.int k ((b.toNat*256:Nat):Int)))(hy:ev env y=some (.int k c.toNat))(hk:k= .u16\/k= .i64:=by decide):
  Ry P N w0 env L ⟨d, .binOp .or t x y u,ty,ps,af,gd⟩ (.int k ((tX b c).toNat:Nat)):=by
 have hb:=b.toNat_lt;have hc:=c.toNat_lt;rw[Je,←OI _ _ hc];rcases hk with rfl|rfl
 ·
  exact B9 hx hy rfl rfl (by simp only[nb];omega) (by simp only[nb];omega)
 ·
  exact B9 hx hy rfl rfl (by simp only[nb];omega) (by simp only[nb];omega)
end
def ai.emp:ai:=⟨fun _=>False,fun _=>True,fun _ _ _ s=>s⟩
def ai.two(a b:ai):ai:=⟨fun k=>a.fp k\/b.fp k,fun h=>a.sat h/\b.sat h/\ ∀k,a.fp k-> ¬b.fp k,
  fun h h' e s=>⟨a.loc h h' (fun k hk=>e k (.inl hk)) s.1,b.loc h h' (fun k hk=>e k (.inr hk)) s.2.1,s.2.2⟩⟩
def ai.all:List ai->ai
  |[]=> .emp
  |e::r=> .two e (.all r)
theorem Mem.Cj{w0 w:World}{L:List ai}:Mem w0 (.emp::L) w↔Mem w0 L w:=
  ⟨fun h=>h.sub (auK _ _),fun h=>⟨h.below,fun e he=>by
    rcases atv.1 he with rfl|he
    ·exact trivial
    ·exact h.sat e he,fun e he k hk=>by
    rcases atv.1 he with rfl|he
    ·exact hk.elim
    ·exact h.j8 e he k hk,aui.2 ⟨fun _ _ _ hk=>hk.elim,h.qa⟩⟩⟩
theorem Mem.yB{w0 w:World}{a b:ai}{L:List ai}:Mem w0 (.two a b::L) w↔Mem w0 (a::b::L) w:=by
  constructor
  ·intro h
   have hs:(a.sat fun k=>w.heap[k]?)/\(b.sat fun k=>w.heap[k]?)/\ ∀k,a.fp k-> ¬b.fp k:=h.sat (.two a b) (by simp);have hd:=aui.1 h.qa;refine⟨h.below,fun e he=>?_,fun e he k hk=>?_,?_⟩
   ·rcases atv.1 he with rfl|he
    ·exact hs.1
    ·rcases atv.1 he with rfl|he
     ·exact hs.2.1
     ·exact h.sat e (by simp[he])
   ·rcases atv.1 he with rfl|he
    ·exact h.j8 (.two e b) (by simp) k (.inl hk)
    ·rcases atv.1 he with rfl|he
     ·exact h.j8 (.two a e) (by simp) k (.inr hk)
     ·exact h.j8 e (by simp[he]) k hk
   ·refine aui.2 ⟨fun x hx k hk=>?_,aui.2 ⟨fun x hx k hk=>hd.1 x hx k (.inr hk),hd.2⟩⟩
    rcases atv.1 hx with rfl|hx
    ·exact hs.2.2 k hk
    ·exact hd.1 x hx k (.inl hk)
  ·intro h
   have hd:=aui.1 h.qa;have yC:=aui.1 hd.2;refine⟨h.below,fun e he=>?_,fun e he k hk=>?_,aui.2 ⟨fun x hx k hk=>?_,yC.2⟩⟩
   ·rcases atv.1 he with rfl|he
    ·exact⟨h.sat a (by simp),h.sat b (by simp),fun k hk=>hd.1 b (by simp) k hk⟩
    ·exact h.sat e (by simp[he])
   ·rcases atv.1 he with rfl|he
    ·rcases hk with hk|hk
     ·exact h.j8 a (by simp) k hk
     ·exact h.j8 b (by simp) k hk
    ·exact h.j8 e (by simp[he]) k hk
   ·rcases hk with hk|hk
    ·exact hd.1 x (by simp[hx]) k hk
    ·exact yC.1 x hx k hk
theorem Mem.Ck{w0 w:World}: ∀(es:List ai) {L:List ai},Mem w0 (.all es::L) w↔Mem w0 (es++L) w
  |[],_=>Mem.Cj
  |e::r,L=>by
   show Mem w0 (.two e (.all r)::L) w↔_;rw[Mem.yB];have sw: ∀(a b:ai) (K:List ai),Mem w0 (a::b::K) w↔Mem w0 (b::a::K) w:=fun a b K=>⟨fun h=>h.perm (List.Perm.swap _ _ _),fun h=>h.perm (List.Perm.swap _ _ _)⟩;rw[sw,Mem.Ck r];exact⟨fun h=>h.perm (avv),fun h=>h.perm (avv).symm⟩
class Deep(τ:Type) where
  c:Nat
  cells:τ->Array Value
  size: ∀x,(cells x).size=c
  one: ∀x,(cells x).all (·.oneCell')=true
  cK:(Nat->Option Obj)->τ->Prop
  cz:τ->ai
  jA: ∀h x,(cz x).sat h->cK h x
  mono: ∀(w w':World) x,cK (hp w) x->Below w.heap.size w w'->cK (hp w') x
instance Deep.enc{τ:Type}[Deep τ]:bp (Deep.cells (τ:=τ)) (Deep.c τ):=⟨Deep.size,Deep.one⟩
@[reducible] def Deep.flat {τ:Type}(enc:τ->Array Value)(c:Nat)[he:bp enc c]:Deep τ:=⟨c,enc,he.size,he.one,fun _ _=>True,fun _=> .emp,fun _ _ _=>trivial,fun _ _ _ _ _=>trivial⟩
structure Sl(τ:Type) where
  sv:Sv
  xs:List τ
theorem ai.Ab{h:Nat->Option Obj}: ∀{es:List ai},(ai.all es).sat h-> ∀e∈es,e.sat h
  |[],_,_,he=>by cases he
  |_::_,hs,e,he=>by
   rcases atv.1 he with rfl|he
   ·exact hs.1
   ·exact ai.Ab hs.2.1 e he
instance Deep.slice{τ:Type}[d:Deep τ]:Deep (Sl τ) where
  c:=1
  cells a:=tW a.sv
  size _:=rfl
  one a:=bp.one (enc:=tW) (c:=1) a.sv
  cK h a:=eJ (Deep.cells (τ:=τ)) (Deep.c τ) h a.sv a.xs/\ ∀x∈a.xs,d.cK h x
  cz a:= .two (own (Deep.cells (τ:=τ)) (Deep.c τ) a.sv a.xs) (.all (a.xs.map d.cz))
  jA h _ hs:=⟨hs.1.1,fun x hx=>d.jA h x (ai.Ab hs.2.1 _ (atK hx))⟩
  mono w w' _ hg hb:=⟨hg.1.mono hb,fun x hx=>d.mono w w' x (hg.2 x hx) hb⟩
theorem Mem.Ac{τ:Type}[d:Deep τ]{w0 w:World}{L:List ai}{a:Sl τ}:Mem w0 (Deep.cz a::L) w↔Mem w0 (own (Deep.cells (τ:=τ)) (Deep.c τ) a.sv a.xs::a.xs.map d.cz++L) w:=by
  show Mem w0 (.two _ (.all _)::L) w↔_;rw[Mem.yB];have sw: ∀(a b:ai) (K:List ai),Mem w0 (a::b::K) w↔Mem w0 (b::a::K) w:=fun a b K=>⟨fun h=>h.perm (List.Perm.swap _ _ _),fun h=>h.perm (List.Perm.swap _ _ _)⟩;rw[sw,Mem.Ck];exact⟨fun h=>h.perm (avv),fun h=>h.perm (avv).symm⟩
section
variable {w0:World} {L:List ai} {τ:Type}
class Hd(w0:World)(L:List ai)(s:Sv){α:outParam Type}(enc:outParam (α->Array Value))(c:outParam Nat)(xs:outParam (List α)):Prop where
  h:Holds w0 L enc c s xs
class Gv(w0:World)(s:Sv){α:outParam Type}(enc:outParam (α->Array Value))(c:outParam Nat)(xs:outParam (List α)):Prop where
  h:eJ enc c (hp w0) s xs
instance (priority:=high) Hd.owned {s:Sv}{α:Type}{enc:α->Array Value}{c:Nat}{xs:List α}{i:Nat}[q:fX L s enc c xs i]:Hd w0 L s enc c xs:=⟨q.holds⟩
instance Hd.given{s:Sv}{α:Type}{enc:α->Array Value}{c:Nat}{xs:List α}[q:Gv w0 s enc c xs][bp enc c]:Hd w0 L s enc c xs:=⟨I6 q.h⟩
class Rg(lo hi n:Nat):Prop where
  h:lo<=hi/\hi<=n
instance Hd.sub{s:Sv}{α:Type}{enc:α->Array Value}{c:Nat}{xs:List α}{lo hi:Nat}[q:Hd w0 L s enc c xs][r:Rg lo hi xs.length]:Hd w0 L (s.sub c lo hi) enc c ((xs.drop lo).take (hi -lo)):=⟨q.h.sub r.h.1 r.h.2⟩
class dy(w0:World)(L:List ai){α:Type}(enc:α->Array Value)(c:Nat)(s:Sv)(xs:outParam (List α)):Prop where
  h:Holds w0 L enc c s xs
instance (priority:=high) dy.of {s:Sv}{α:Type}{enc:α->Array Value}{c:Nat}{xs:List α}[q:Hd w0 L s enc c xs]:dy w0 L enc c s xs:=⟨q.h⟩
instance dy.none{α:Type}{enc:α->Array Value}{c:Nat}:dy w0 L enc c Sv.none []:=⟨fun _ _=>eJ.nil enc c _⟩
class aX(w0:World)(L:List ai){τ:Type}[Deep τ](a:τ):Prop where
  h: ∀w,Mem w0 L w->Deep.cK (hp w) a
class cQ(w0:World){τ:Type}[Deep τ](a:τ):Prop where
  h:Deep.cK (hp w0) a
class Mb{τ:Type}(x:τ)(a:outParam (Sl τ)):Prop where
  h:x∈a.xs
instance aX.given[Deep τ]{a:τ}[q:cQ w0 a]:aX w0 L a:=⟨fun _ hw=>Deep.mono w0 _ a q.h hw.below⟩
instance (priority:=high) aX.owned [Deep τ]{a:τ}{i:Nat}[q:At L (Deep.cz a) i]:aX w0 L a:=⟨fun _ hw=>Deep.jA _ a (hw.get q.h)⟩
instance (priority:=low) aX.elem [Deep τ]{a:Sl τ}{x:τ}[q:aX w0 L a][m:Mb x a]:aX w0 L x:=⟨fun w hw=>(q.h w hw).2 x m.h⟩
class gD(τ:Type)[Deep τ](enc:outParam (τ->Array Value))(c:outParam Nat):Prop where
  hc:Deep.c τ=c
  h: ∀x:τ,Deep.cells x=enc x
instance (priority:=low) Hd.deep [d:Deep τ]{enc:τ->Array Value}{c:Nat}[f:gD τ enc c]{a:Sl τ}[q:aX w0 L a]:Hd w0 L a.sv enc c a.xs:=⟨fun w hw=>by
  have h:=(q.h w hw).1;have e:Deep.cells (τ:=τ)=enc:=funext f.h;rw[←e,←f.hc];exact h⟩
end
section
variable {P:Program} {N:cC} {w0:World} {env:Env} {L:List ai} {d:Option Tmp} {ty:TypeId} {ps:String} {af:Array Edge} {gd:Option (Nat×Bool)}
variable {α:Type} {enc:α->Array Value} {c:Nat} {s:Sv} {xs:List α}
theorem tY{t e:TypeId}{x:Operand}{m:Nat}[ht:fA P t e m](hx:ev env x=some s.val)[q:Hd w0 L s enc c xs]:
    Ry P N w0 env L ⟨d, .call {callee:= .builtin .len,args:= #[x],argTypes:= #[t]},ty,ps,af,gd⟩ (.int .i64 (xs.length:Nat)):=fun a w ha hw=>
  Cd (P:=P) (N:=N) (w0:=w0) (L:=L) (d:=d) (ty:=ty) (ps:=ps) (af:=af) (gd:=gd) hx (q.h w hw).ok (q.h w hw).len a w ha hw
theorem bh{t e:TypeId}{x ix:Operand}{m:Nat}{k:IntKind}{j:Int}[ht:fA P t e m](hx:ev env x=some s.val)(hj:ev env ix=some (.int k j))[q:Hd w0 L s enc c xs](i:Nat)(ej:j=(i:Int))(h1:i<xs.length):
    Ry P N w0 env L ⟨d, .indexAddr t x ix,ty,ps,af,gd⟩ (.pointer (some ⟨s.b,s.o+i*m,none⟩)):=fun a w ha hw=>
  pd (P:=P) (N:=N) (w0:=w0) (L:=L) (d:=d) (ty:=ty) (ps:=ps) (af:=af) (gd:=gd) hx hj ej (q.h w hw).ok (by rw[(q.h w hw).len];exact h1) a w ha hw
theorem iJ{t:TypeId}{x:Operand}{p:Nat}{a:α}[ht:gC P t c][he:bp enc c][q:Hd w0 L s enc c xs](hx:ev env x=some (.pointer (some ⟨s.b,p,none⟩)))(i:Nat)(hi:xs[i]? =some a)(iI:p=s.o+i*c):
    Ry P N w0 env L ⟨d, .load t x,ty,ps,af,gd⟩ (.agg (enc a)):=Oz hx q.h hi iI
theorem bT{t:TypeId}{x:Operand}{p j:Nat}{a:α}{v:Value}[ht:gL P t][q:Hd w0 L s enc c xs](hx:ev env x=some (.pointer (some ⟨s.b,p,none⟩)))(i:Nat)(hi:xs[i]? =some a)(iI:p=s.o+i*c+j)(hj:j<c)[hv:bQ (enc a) j v]:
    Ry P N w0 env L ⟨d, .load t x,ty,ps,af,gd⟩ v:=Ym hx q.h hi iI hj hv.h
theorem E8{t:TypeId}{x:Operand}{p j n:Nat}{a:α}{sub:Array Value}[ht:gC P t n][q:Hd w0 L s enc c xs](hx:ev env x=some (.pointer (some ⟨s.b,p,none⟩)))(i:Nat)(hi:xs[i]? =some a)(iI:p=s.o+i*c+j)(hj:j+n≤c)[hs:mY (enc a) j n sub]:
    Ry P N w0 env L ⟨d, .load t x,ty,ps,af,gd⟩ (.agg sub):=OA hx q.h hi iI hj
theorem Cl{t e:TypeId}{x lo hi:Operand}{k k':IntKind}{il ih:Int}[ht:fA P t e c](hx:ev env x=some s.val)(hl:ev env lo=some (.int k il))(hh:ev env hi=some (.int k' ih))[q:Hd w0 L s enc c xs](l h:Nat)(el:il=(l:Int))(eh:ih=(h:Int))(h1:l≤h)(h2:h≤xs.length):
    Ry P N w0 env L ⟨d, .slice t x (some lo) (some hi) none,ty,ps,af,gd⟩ (s.sub c l h).val:=fun a w ha hw=>
  EZ (P:=P) (N:=N) (w0:=w0) (L:=L) (d:=d) (ty:=ty) (ps:=ps) (af:=af) (gd:=gd) hx hl hh el eh (q.h w hw).ok h1 (by have:=(q.h w hw).len;have:=(q.h w hw).ok.le;omega) a w ha hw
theorem OL{t e:TypeId}{x hi:Operand}{k':IntKind}{ih:Int}[ht:fA P t e c](hx:ev env x=some s.val)(hh:ev env hi=some (.int k' ih))[q:Hd w0 L s enc c xs](h:Nat)(eh:ih=(h:Int))(h2:h≤xs.length):
    Ry P N w0 env L ⟨d, .slice t x none (some hi) none,ty,ps,af,gd⟩ (s.sub c 0 h).val:=fun a w ha hw=>
  wQ (P:=P) (N:=N) (w0:=w0) (L:=L) (d:=d) (ty:=ty) (ps:=ps) (af:=af) (gd:=gd) hx hh eh (q.h w hw).ok (by have:=(q.h w hw).len;have:=(q.h w hw).ok.le;omega) a w ha hw
theorem Cm{t e:TypeId}{x lo:Operand}{k:IntKind}{il:Int}[ht:fA P t e c](hx:ev env x=some s.val)(hl:ev env lo=some (.int k il))[q:Hd w0 L s enc c xs](l:Nat)(el:il=(l:Int))(h1:l≤xs.length):
    Ry P N w0 env L ⟨d, .slice t x (some lo) none none,ty,ps,af,gd⟩ (s.sub c l xs.length).val:=fun a w ha hw=>
  tT (P:=P) (N:=N) (w0:=w0) (L:=L) (d:=d) (ty:=ty) (ps:=ps) (af:=af) (gd:=gd) hx hl el (q.h w hw).ok (q.h w hw).len h1 a w ha hw
theorem Jf{t e tb:TypeId}{x:Operand}{xs:List UInt8}(hs:P.underlying tb=some (.slice e))(he:P.underlying e=some (.int .u8))(hd:P.underlying t=some .string)(hx:ev env x=some s.val)[q:Hd w0 L s aO 1 xs]:
    Ry P N w0 env L ⟨d, .convert tb t x,ty,ps,af,gd⟩ (.string ⟨xs.toArray⟩):=YB hs he hd hx q.h
theorem wV{s t:TypeId}{x:Operand}{k:IntKind}{b:UInt8}[hs:mo P s .u8][ht:mo P t k](hx:ev env x=some (.int .u8 b.toNat))(hk:8≤nb k:=by decide):
    Ry P N w0 env L ⟨d, .convert s t x,ty,ps,af,gd⟩ (.int k b.toNat):=kX hx (au0 b.toNat_lt (auR (by decide) hk))
theorem OM{s t:TypeId}{x:Operand}{k:IntKind}{b:UInt16}[hs:mo P s .u16][ht:mo P t k](hx:ev env x=some (.int .u16 b.toNat))(hk:16≤nb k:=by decide):
    Ry P N w0 env L ⟨d, .convert s t x,ty,ps,af,gd⟩ (.int k b.toNat):=kX hx (au0 b.toNat_lt (auR (by decide) hk))
end
section
variable {P:Program} {N:cC} {w0:World} {env:Env} {L:List ai} {l:List Oper} {Q:Exit->Act->World->Prop} {rest:List Oper} {d:Option Tmp} {ty:TypeId} {ps:String} {af:Array Edge} {gd:Option (Nat×Bool)}
class bU(P:Program)(f:FuncId)(w0:World)(L:List ai)(vs:List Value)(v:outParam Value)(pre:outParam Prop):Prop where
  h:pre-> ∀w,Mem w0 L w->Calls P f vs.toArray w fun e w'=>e= .returned v/\Mem w [] w'
class bV(P:Program)(f:FuncId)(w0:World)(L:List ai)(vs:List Value)(X:outParam Type)(val:outParam (X->Value))(L':outParam (X->List ai))(pr:outParam (X->Prop))(pre:outParam Prop):Prop where
  h:pre-> ∀w,Mem w0 L w->Calls P f vs.toArray w fun e w'=> ∃x,e= .returned (val x)/\pr x/\Mem w0 (L' x) w'
instance (priority:=high) bU.pure {f:FuncId}{vs:List Value}{v:Value}[h:rF P f vs v]:bU P f w0 L vs v True:=⟨fun _ w _=>h.h w⟩
theorem bM{f:FuncId}{xs:List Operand}{ts:Array TypeId}{vs:List Value}{v:Value}{pre:Prop}[hf:aI P f](hx:iz env xs=some vs)[hc:bU P f w0 L vs v pre](hp:pre):
    Yl P N w0 env L ⟨d, .call {callee:= .value (.func f),args:=xs.toArray,argTypes:=ts},ty,ps,af,gd⟩ v:=B6 hx fun w hw=>hc.h hp w hw
theorem bb{X:Type}{val:X→Value}{L':X→List ai}{pr:X→Prop}{pre:Prop}{f:FuncId}{xs:List Operand}{ts:Array TypeId}{vs:List Value}[hf:aI P f](hx:iz env xs=some vs)
    [hc:bV P f w0 L vs X val L' pr pre] (hp:pre) (hk: ∀x,pr x->Sq P N w0 l Q rest (cy env d (val x)) (L' x)) (hd:dx N d=true:=by rfl):
    Sq P N w0 l Q (⟨d, .call {callee:= .value (.func f),args:=xs.toArray,argTypes:=ts},ty,ps,af,none⟩::rest) env L:=Yt hx (fun w hw=>hc.h hp w hw) hk hd
theorem YE{Lq:List ai}{n j:Nat}{js:List Nat}{X:Type}{val:X→Value}{L':X→List ai}{pr:X→Prop}{pre:Prop}{f:FuncId}{xs:List Operand}{ts:Array TypeId}{vs:List Value}(hj:l[j]? =some ⟨d, .call {callee:= .value (.func f),args:=xs.toArray,argTypes:=ts},ty,ps,af,none⟩)[hf:aI P f](hx:iz env xs=some vs)
    [hc:bV P f w0 L vs X val L' pr pre] (hp:pre) (hL: ∀x w,Mem w0 (L' x) w->Mem w0 Lq w) (hk: ∀x,pr x->Fr P N w0 Lq l n Q js (cy env d (val x)) (L' x)) (hd:dx N d=true:=by rfl):
    Fr P N w0 Lq l n Q (j::js) env L:=Yb hj hx (fun w hw=>hc.h hp w hw) hL hk hd
end
class cn(L:List ai)(i:Nat)(R:outParam (List ai)):Prop where
  h:L.eraseIdx i=R
instance cn.here{e:ai}{L:List ai}:cn (e::L) 0 L:=⟨rfl⟩
instance cn.there{e:ai}{L R:List ai}{i:Nat}[q:cn L i R]:cn (e::L) (i+1) (e::R):=⟨by simp[q.h]⟩
class ah(L L':List ai):Prop where
  h: ∃R,L.Perm (L'++R)
instance (priority:=high) ah.nil {L:List ai}:ah L []:=⟨⟨L, .refl _⟩⟩
instance (priority:=high) ah.same {L:List ai}:ah L L:=⟨⟨[],by simp⟩⟩
theorem pn{e:ai}: ∀{L:List ai} {i:Nat},L[i]? =some e->L.Perm (e::L.eraseIdx i)
  |[],i,h=>by simp at h
  |x::L,0,h=>by obtain rfl:x=e:=by simpa using h
                simp
  |x::L,i+1,h=>by
   have:=pn (L:=L) (i:=i) (by simpa using h);rw[awc];exact(this.cons x).trans (.swap _ _ _)
instance ah.cons{L L' R:List ai}{e:ai}{i:Nat}[a:At L e i][b:cn L i R][k:ah R L']:ah L (e::L'):=⟨by
  obtain⟨S,hS⟩:=k.h;exact⟨S,(pn a.h).trans (by rw[b.h];exact hS.cons e)⟩⟩
theorem ah.mem{L L':List ai}[k:ah L L']{w0 w:World}(h:Mem w0 L w):Mem w0 L' w:=by
  obtain⟨R,hR⟩:=k.h;exact(h.perm hR).sub (List.sublist_append_left _ _)
theorem tZ{P:Program}{N:cC}{w0:World}{env:Env}{L:List ai}{Q:Exit->Act->World->Prop}{c:Code}(L':List ai)(h: ∀w,Mem w0 L w->Mem w0 L' w)(hk:Cw P N w0 Q c env L'):Cw P N w0 Q c env L:=fun a w ha hw=>hk a w ha (h w hw)
theorem YF{P:Program}{N:cC}{w0:World}{env:Env}{L:List ai}{Q:Exit->Act->World->Prop}{c:Code}(s:Sv){α:Type}{enc:α->Array Value}{n:Nat}{xs:List α}[q:Hd w0 L s enc n xs](hk:xs.length<=140737488355328->Cw P N w0 Q c env L):Cw P N w0 Q c env L:=
  fun a w ha hw=>hk (q.h w hw).bd a w ha hw
theorem po{α:Type}{xs:List α}{i:Nat}{d:α}(h:i<xs.length):xs[i]? =some (xs.getD i d):=by
  simp[List.getD,h]
section
variable {P:Program} {N:cC} {w0:World} {env:Env} {L:List ai} {l:List Oper} {Q:Exit->Act->World->Prop} {rest:List Oper} {d:Option Tmp} {ty:TypeId} {ps:String} {af:Array Edge} {gd:Option (Nat×Bool)}
variable {α:Type} {enc:α->Array Value} {c:Nat} {s:Sv} {xs:List α}
theorem yD{x y:Operand}{t u:TypeId}{a b:List UInt8}(hx:ev env x=some (.string ⟨a.toArray⟩))(hy:ev env y=some (.string ⟨b.toArray⟩)):
    Ry P N w0 env L ⟨d, .binOp .eql t x y u,ty,ps,af,gd⟩ (.bool (decide (a=b))):=by
  have e:((⟨a.toArray⟩:ByteArray).toList==(⟨b.toArray⟩:ByteArray).toList)=decide (a=b):=by
    rw[ByteArray.toList_mk,ByteArray.toList_mk,avL];simp
  rw[←e];exact YC hx hy
theorem E9{x y:Operand}{t u:TypeId}{a b:List UInt8}(hx:ev env x=some (.string ⟨a.toArray⟩))(hy:ev env y=some (.string ⟨b.toArray⟩)):
    Ry P N w0 env L ⟨d, .binOp .neq t x y u,ty,ps,af,gd⟩ (.bool (!decide (a=b))):=by
  have e:((⟨a.toArray⟩:ByteArray).toList==(⟨b.toArray⟩:ByteArray).toList)=decide (a=b):=by
    rw[ByteArray.toList_mk,ByteArray.toList_mk,avL];simp
  rw[←e];exact YD hx hy
theorem vw{t e:TypeId}{x:Operand}{u:TypeId}(ht:P.underlying t=some (.slice e))(hx:ev env x=some s.val):
    Ry P N w0 env L ⟨d, .binOp .eql t x (.const (.slice none 0 0)) u,ty,ps,af,gd⟩ (.bool s.nil):=fun a w ha _=>by
  have h1:(eqGuard BinOp.eql t x (.const (.slice none 0 0)) s.val (.slice none 0 0)).run P w= .ok () w:=by
    unfold Sv.val;split<;>rfl
  have h3:(Op.equal t s.val (.slice none 0 0)).run P w= .ok s.nil w:=by
    unfold Sv.val;split<;>rename_i hn<;>rw[run_equal_slice_nil w t e _ _ _ ht,hn]<;>rfl
  have h2:(binOp .eql t s.val (.slice none 0 0)).run P w= .ok (.bool s.nil) w:=by
    have:binOp .eql t s.val (.slice none 0 0)=(do pure (.bool (←Op.equal t s.val (.slice none 0 0)))):=by unfold Sv.val;split<;>rfl
    rw[this,Sem.run_bind,h3];rfl
  simp only[execOp,ha.ev hx,show a.eval (.const (.slice none 0 0))= .slice none 0 0 from rfl,Sem.run_bind,h1,Result.andThen_ok,h2,Sem.run_pure]
theorem YG{t e:TypeId}{cw:Nat}(ht:eK P t e c cw)(w:World):(Instr.buildSlice t 0 #[]).run P w= .ok (.slice (some ⟨w.heap.size,0,none⟩) 0 0) (w.alloc (.cells #[] e)):=by
  obtain⟨i',z,bl,aL,bC,dq,od⟩:=ht.info;have:(Array.range 0:Array Nat)= #[]:=by simp
  simp[Instr.buildSlice,run_underlying ht.fc,sizeOf,typeInfo,bl,Instr.fill,newRow,newObj,Sem.run,Result.andThen,this]
theorem wW{t e:TypeId}{cw:Nat}(enc:α→Array Value)[ht:eK P t e c cw][he:bp enc c](hk: ∀b,Sq P N w0 l Q rest (cy env d (Sv.val ⟨false,b,0,0,0,none⟩)) (own enc c ⟨false,b,0,0,0,none⟩ []::L))(hd:dx N d=true:=by rfl):
    Sq P N w0 l Q (⟨d, .buildSlice t 0 #[],ty,ps,af,none⟩::rest) env L:=
  nD rfl hd fun a w _ hw=>by
    refine⟨_,_,_,?_,hw.call (wT (enc:=enc) (c:=c) (xs:=[]) (cs:= #[]) (e:=e) rfl 0 0 rfl (att _) (atL _) (by simp) (by simp)),hk _⟩;simp only[execOp,Sem.run_bind,List.map_toArray,auv,YG ht w,Result.andThen,Sem.run_pure];rfl
end
instance:Deep UInt8:=Deep.flat aO 1
instance:gD UInt8 aO 1:=⟨rfl,fun _=>rfl⟩
def cq{τ:Type}(a:Sl τ):Array Value:= #[a.sv.val]
instance {τ:Type}:bp (cq (τ:=τ)) 1:=⟨fun _=>rfl,fun a=>bp.one (enc:=tW) (c:=1) a.sv⟩
instance {τ:Type}[Deep τ]:gD (Sl τ) cq 1:=⟨rfl,fun _=>rfl⟩
instance {τ:Type}(a:Sl τ):bQ (cq a) 0 a.sv.val:=⟨rfl⟩
def lx{τ:Type}(a:Sl (Sl τ)):List (List τ):=a.xs.map (·.xs)
theorem yE{τ:Type}(a:Sl (Sl τ)):(lx a).length=a.xs.length:=by simp[lx]
section
variable {L L' L1 L2 R R1 R2:List ai} {τ:Type}
def Tr(L L':List ai):Prop:= ∀(K:List ai) (w0 w:World),Mem w0 (L++K) w->Mem w0 (L'++K) w
theorem Tr.mem(h:Tr L L'){w0 w:World}(hw:Mem w0 L w):Mem w0 L' w:=by
  have:=h [] w0 w (by simpa using hw);simpa using this
theorem Tr.refl:Tr L L:=fun _ _ _ h=>h
theorem Tr.trans(h:Tr L L1)(h':Tr L1 L2):Tr L L2:=fun K w0 w hw=>h' K w0 w (h K w0 w hw)
theorem Tr.perm(h:L.Perm L'):Tr L L':=fun K _ _ hw=>Mem.perm hw (h.append_right K)
theorem Tr.left(h:Tr L L')(X:List ai):Tr (X++L) (X++L'):=fun K w0 w hw=>by
  have p: ∀Y:List ai,(X++Y++K).Perm (Y++(X++K)):=fun Y=>by
    rw[atw,←atw Y];refine(List.perm_append_comm_assoc X Y K).trans ?_;rw[atw]
  exact(h (X++K) w0 w (hw.perm (p L))).perm (p L').symm
theorem Tr.right(h:Tr L L')(X:List ai):Tr (L++X) (L'++X):=fun K w0 w hw=>by
  rw[atw]at hw⊢;exact h (X++K) w0 w hw
theorem Tr.cons(h:Tr L L')(x:ai):Tr (x::L) (x::L'):=h.left [x]
theorem Tr.sub(h:L'.Sublist L):Tr L L':=fun K _ _ hw=>Mem.sub hw (h.append (.refl K))
theorem Tr.front{e:ai}{i:Nat}(hi:L[i]? =some e):Tr L (e::L.eraseIdx i):= .perm (pn hi)
theorem Tr.back{e:ai}{i:Nat}(hi:L[i]? =some e):Tr (e::L.eraseIdx i) L:= .perm (pn hi).symm
theorem Tr.emp:Tr (.emp::L) L:=fun _ _ _ hw=>Mem.Cj.1 hw
theorem Tr.ON:Tr L (.emp::L):=fun _ _ _ hw=>Mem.Cj.2 hw
theorem Tr.two{a b:ai}:Tr (.two a b::L) (a::b::L):=fun _ _ _ hw=>Mem.yB.1 hw
theorem Tr.Ac[d:Deep τ]{a:Sl τ}:Tr (Deep.cz a::L) (own (Deep.cells (τ:=τ)) (Deep.c τ) a.sv a.xs::a.xs.map d.cz++L):=fun K w0 w hw=>by
  have:=Mem.Ac.1 hw;simpa using this
theorem Tr.YH[d:Deep τ]{a:Sl τ}:Tr (own (Deep.cells (τ:=τ)) (Deep.c τ) a.sv a.xs::a.xs.map d.cz++L) (Deep.cz a::L):=fun K w0 w hw=>by
  refine Mem.Ac.2 ?_;simpa using hw
class Plain(τ:Type)[Deep τ]:Prop where
  h: ∀x:τ,Deep.cz x= .emp
theorem Tr.plain[Deep τ][p:Plain τ]: ∀{xs:List τ},Tr (xs.map Deep.cz++L) L
  |[]=> .refl
  |x::xs=>by
   rw[atI,p.h];exact Tr.emp.trans Tr.plain
theorem Tr.OO[Deep τ][p:Plain τ]: ∀{xs:List τ},Tr L (xs.map Deep.cz++L)
  |[]=> .refl
  |x::xs=>by
   rw[atI,p.h];exact(Tr.OO (xs:=xs)).trans Tr.ON
theorem OP[Deep τ]{enc:τ->Array Value}{c:Nat}[f:gD τ enc c](s:Sv)(xs:List τ):own (Deep.cells (τ:=τ)) (Deep.c τ) s xs=own enc c s xs:=by
  have e:Deep.cells (τ:=τ)=enc:=funext f.h;rw[e,f.hc]
theorem Tr.Jg[d:Deep τ]{enc:τ->Array Value}{c:Nat}[f:gD τ enc c]{a:Sl τ}:Tr (Deep.cz a::L) (own enc c a.sv a.xs::(a.xs.map d.cz++L)):=by
  rw[←OP];exact Tr.Ac
theorem Tr.Cn[d:Deep τ]{enc:τ->Array Value}{c:Nat}[f:gD τ enc c]{a:Sl τ}:Tr (own enc c a.sv a.xs::(a.xs.map d.cz++L)) (Deep.cz a::L):=by
  rw[←OP];exact Tr.YH
theorem Tr.YI[d:Deep τ]{enc:τ->Array Value}{c:Nat}[f:gD τ enc c][Plain τ]{a:Sl τ}:Tr (Deep.cz a::L) (own enc c a.sv a.xs::L):=Tr.Jg.trans (Tr.plain.cons _)
theorem Tr.Jh[d:Deep τ]{enc:τ->Array Value}{c:Nat}[f:gD τ enc c][Plain τ]{a:Sl τ}:Tr (own enc c a.sv a.xs::L) (Deep.cz a::L):=(Tr.OO.cons _).trans Tr.Cn
theorem OQ{α β:Type}(f:α->β){xs:List α}{i:Nat}{x:α}(hx:xs[i]? =some x):(xs.map f).Perm (f x::(xs.eraseIdx i).map f):=by
  have h1:=(OR hx).map f;exact h1
where OR {α:Type}: ∀{L:List α} {i:Nat} {e:α},L[i]? =some e->L.Perm (e::L.eraseIdx i)
  |[],i,e,h=>by simp at h
  |x::L,0,e,h=>by obtain rfl:x=e:=by simpa using h
                  simp
  |x::L,i+1,e,h=>by
   have:=OR (L:=L) (i:=i) (e:=e) (by simpa using h);rw[awc];exact(this.cons x).trans (.swap _ _ _)
theorem Tr.pick[d:Deep τ]{enc:τ→Array Value}{c:Nat}[f:gD τ enc c]{a:Sl τ}{i:Nat}{x:τ}(hx:a.xs[i]? =some x):
    Tr (Deep.cz a::L) (own enc c a.sv a.xs::Deep.cz x::((a.xs.eraseIdx i).map d.cz++L)):=
  Tr.Jg.trans (Tr.cons (Tr.right (Tr.perm (OQ d.cz hx)) L) _)
theorem OS{α:Type}: ∀(xs:List α) (i:Nat) (y:α),(xs.set i y).eraseIdx i=xs.eraseIdx i
  |[],_,_=>by simp
  |_::_,0,_=>by simp
  |_::xs,i+1,y=>by simp[OS xs i y]
theorem Tr.lay[d:Deep τ]{enc:τ→Array Value}{c:Nat}[f:gD τ enc c]{s:Sv}{xs:List τ}{i:Nat}{y:τ}(hi:i<xs.length):
    Tr (own enc c s (xs.set i y)::Deep.cz y::((xs.eraseIdx i).map d.cz++L)) (Deep.cz (⟨s,xs.set i y⟩:Sl τ)::L):=by
  have hy:(xs.set i y)[i]? =some y:=by simp[hi]
  have:=(OQ d.cz hy).symm;rw[OS]at this;exact(Tr.cons (Tr.right (Tr.perm this) L) _).trans (Tr.Cn (a:=⟨s,xs.set i y⟩))
class Take(L:List ai){τ:Type}[Deep τ](x:τ)(R:outParam (List ai)):Prop where
  h:Tr L (Deep.cz x::R)
class Ad(L:List ai){τ:Type}[Deep τ](xs:List τ)(R:outParam (List ai)):Prop where
  h:Tr L (xs.map Deep.cz++R)
instance (priority:=high) Take.at [Deep τ]{x:τ}{i:Nat}[a:At L (Deep.cz x) i][d:cn L i R]:Take L x R:=⟨by
  have:=Tr.front a.h;rwa [d.h]at this⟩
instance (priority:=low) Take.plain [Deep τ][p:Plain τ]{x:τ}:Take L x L:=⟨by rw[p.h];exact Tr.ON⟩
instance Take.own[Deep τ][p:Plain τ]{enc:τ->Array Value}{c:Nat}[f:gD τ enc c]{s:Sv}{xs:List τ}{i:Nat}[a:At L (own enc c s xs) i][d:cn L i R]:Take L (⟨s,xs⟩:Sl τ) R:=⟨by
  have:=Tr.front a.h;rw[d.h]at this;exact this.trans (Tr.Jh (a:=⟨s,xs⟩))⟩
instance Ad.nil[Deep τ]:Ad L ([]:List τ) L:=⟨.refl⟩
instance Ad.cons[Deep τ]{x:τ}{xs:List τ}[a:Take L x R1][b:Ad R1 xs R2]:Ad L (x::xs) R2:=⟨a.h.trans (b.h.cons _)⟩
instance:Plain UInt8:=⟨fun _=>rfl⟩
end
section
variable {P:Program} {N:cC} {w0:World} {env:Env} {L R R1 R2:List ai} {l:List Oper} {Q:Exit->Act->World->Prop} {rest:List Oper} {d:Option Tmp} {ty:TypeId} {ps:String} {af:Array Edge}
variable {τ:Type} [dp:Deep τ] {enc:τ->Array Value} {c:Nat}
theorem YJ{α:Type}{enc:α→Array Value}{c:Nat}{s:Sv}{xs ys:List α}{t tx e:TypeId}{x y:Operand}{yv:Value}{cw:Nat}[ht:eK P t e c cw][he:bp enc c](R:List ai)(hx:ev env x=some s.val)(hy:ev env y=some yv)
    (ho: ∀w,Mem w0 L w->Mem w0 (own enc c s xs::R) w) (hc:0<c) (hs: ∀w,Mem w0 L w->Src P c tx yv ys.length (aJ enc ys) w) (hb:(xs.length+ys.length)*cw<=140737488355328) (ib:xs.length+ys.length<=140737488355328)
    (hk: ∀s':Sv,Sq P N w0 l Q rest (cy env d s'.val) (own enc c s' (xs++ys)::R)) (hd:dx N d=true:=by rfl):
    Sq P N w0 l Q (⟨d, .call {callee:= .builtin .append,args:= #[x,y],argTypes:= #[t,tx]},ty,ps,af,none⟩::rest) env L:=
  nD rfl hd fun a w ha hw=>by
    obtain⟨s',w',h1,h2,h3,h4⟩:=Ja (i:=0) (ty:=ty) ht hc (ho w hw) rfl (hs w hw) hb ib;refine⟨s'.val,w',_,?_,by simpa using h4,hk s'⟩;simp[execOp,ha.ev hx,ha.ev hy,resolve,invoke,builtin,h1,Result.andThen]
theorem YK{s:Sv}{t tx e e':TypeId}{x y:Operand}{cw m:Nat}[f:gD τ enc c][ht:eK P t e c cw][Co:fA P tx e' m][he:bp enc c](a:Sl τ)(ys:List τ)(hx:ev env x=some a.sv.val)(hy:ev env y=some s.val)[q:Hd w0 L s enc c ys]
    [k1:Take L a R1] [k2:Ad R1 ys R2] (hc:0<c) (hb:(a.xs.length+ys.length)*cw<=140737488355328) (ib:a.xs.length+ys.length<=140737488355328)
    (hk: ∀a':Sl τ,a'.xs=a.xs++ys->Sq P N w0 l Q rest (cy env d a'.sv.val) (Deep.cz a'::R2)) (hd:dx N d=true:=by rfl):
    Sq P N w0 l Q (⟨d, .call {callee:= .builtin .append,args:= #[x,y],argTypes:= #[t,tx]},ty,ps,af,none⟩::rest) env L:=
  YJ (enc:=enc) (c:=c) (xs:=a.xs) (ys:=ys) (a.xs.map dp.cz++(ys.map dp.cz++R2)) hx hy (fun w hw=>((k1.h.trans (k2.h.cons _)).trans Tr.Jg).mem hw) hc (fun w hw=>jy Co.fc hc (q.h w hw)) hb ib
    (fun s' aa w ha hw=>hk ⟨s',a.xs++ys⟩ rfl aa w ha (by
      have t1:Tr (own enc c s' (a.xs++ys)::(a.xs.map dp.cz++(ys.map dp.cz++R2))) (Deep.cz (⟨s',a.xs++ys⟩:Sl τ)::R2):=by
        have:=Tr.Cn (enc:=enc) (c:=c) (a:=(⟨s',a.xs++ys⟩:Sl τ)) (L:=R2);simpa using this
      exact t1.mem hw)) hd
theorem Mem.Fa{w:World}[f:gD τ enc c](h:Mem w0 L w):Mem w0 (Deep.cz (⟨Sv.none,[]⟩:Sl τ)::L) w:=
  (Tr.Cn (enc:=enc) (c:=c) (a:=(⟨Sv.none,[]⟩:Sl τ)) (L:=L)).mem (by simpa using h.dK enc c)
def ua{τ:Type}(s:Sl (Sl τ))(i:Nat):Sl τ:=s.xs.getD i ⟨Sv.none,[]⟩
theorem Fb{τ:Type}{s:Sl (Sl τ)}{i:Nat}{x:Sl τ}(h:s.xs[i]? =some x):ua s i=x:=by simp[ua,h]
theorem Fc{τ:Type}{s:Sl (Sl τ)}{i:Nat}(h:s.xs.length<=i):ua s i=⟨Sv.none,[]⟩:=by simp[ua,h]
theorem Cq{τ:Type}(s:Sl (Sl τ))(i:Nat):(ua s i).xs=(lx s).getD i []:=by
  rcases atA i s.xs.length with h|h
  ·have:s.xs[i]? =some s.xs[i]:=by simp[h]
   simp[Fb this,lx,h]
  ·rw[Fc h];simp[lx,h]
theorem wX{h:Nat->Option Obj}:Deep.cK h (⟨Sv.none,[]⟩:Sl τ):=⟨eJ.nil _ _ _,fun _ hx=>by cases hx⟩
def Sl.nil{τ:Type}:Sl τ:=⟨Sv.none,[]⟩
instance aX.none:aX w0 L (Sl.nil:Sl τ):=⟨fun _ _=>wX⟩
instance aX.ua{s:Sl (Sl τ)}{i:Nat}[q:aX w0 L s]:aX w0 L (ua s i):=⟨fun w hw=>by
  rcases atA i s.xs.length with h|h
  ·have hx:s.xs[i]? =some s.xs[i]:=by simp[h]
   rw[Fb hx];exact(q.h w hw).2 _ (alM hx)
  ·rw[Fc h];exact wX⟩
theorem Tr.OT{L:List ai}[f:gD τ enc c]: ∀n,Tr L ((List.replicate n (⟨Sv.none,[]⟩:Sl τ)).map Deep.cz++L)
  |0=> .refl
  |n+1=>by
   rw[awb,atI];exact(Tr.OT n).trans fun K w0 w hw=>Mem.Fa (enc:=enc) (c:=c) hw
theorem YL{t e:TypeId}{cw n cap:Nat}{x y:Operand}{k k':IntKind}{ix iy:Int}[f:gD τ enc c][ht:eK P t e 1 cw][hz:eP P e (.slice none 0 0)](hx:ev env x=some (.int k ix))(hy:ev env y=some (.int k' iy))(ex:ix=(n:Int))(ey:iy=(cap:Int))(hle:n≤cap)(hb:cw*cap≤281474976710656)(ib:cap≤140737488355328)
    (hk: ∀a:Sl (Sl τ),a.xs=List.replicate n ⟨Sv.none,[]⟩->Sq P N w0 l Q rest (cy env d a.sv.val) (Deep.cz a::L)) (hd:dx N d=true:=by rfl):
    Sq P N w0 l Q (⟨d, .makeSlice t x y,ty,ps,af,none⟩::rest) env L:=
  vu (enc:=cq (τ:=τ)) (n:=n) (cap:=cap) (⟨Sv.none,[]⟩:Sl τ) rfl hx hy ex ey hle hb ib (fun b a w ha hw=>hk ⟨⟨false,b,0,n,cap,none⟩,List.replicate n ⟨Sv.none,[]⟩⟩ rfl a w ha
    (((Tr.OT (enc:=enc) (c:=c) n).cons _|>.trans (Tr.Cn (enc:=cq) (c:=1) (a:=(⟨⟨false,b,0,n,cap,none⟩,List.replicate n ⟨Sv.none,[]⟩⟩:Sl (Sl τ))))).mem hw)) hd
end
section
variable {P:Program} {N:cC} {w0:World} {env:Env} {L:List ai} {l:List Oper} {Q:Exit->Act->World->Prop} {rest:List Oper} {d:Option Tmp} {ty:TypeId} {ps:String} {af:Array Edge}
end
theorem Sv.jM(s:Sv):s.val.cells= #[s.val]:=by unfold Sv.val;split<;>rfl
theorem Tr.YM{τ:Type}[Deep τ][Plain τ]{enc:τ→Array Value}{c:Nat}[gD τ enc c]{a:Sl (Sl τ)}{x:Sl τ}{i:Nat}{B:List ai}(hx:a.xs[i]? =some x):
    Tr (B++[Deep.cz a]) (own cq 1 a.sv a.xs::own enc c x.sv x.xs::(B++(a.xs.eraseIdx i).map Deep.cz)):=by
  refine(Tr.perm (List.perm_append_comm (l₁:=B) (l₂:=[Deep.cz a]))).trans ?_;refine(Tr.pick (L:=B) hx).trans (Tr.cons (Tr.YI.trans (Tr.cons (Tr.perm List.perm_append_comm) _)) _)
theorem Tr.YN{τ:Type}[Deep τ][Plain τ]{enc:τ→Array Value}{c:Nat}[gD τ enc c]{s y:Sv}{xs:List (Sl τ)}{ys:List τ}{i:Nat}{B:List ai}(hi:i<xs.length):
    Tr (own cq 1 s (xs.set i ⟨y,ys⟩)::own enc c y ys::(B++(xs.eraseIdx i).map Deep.cz)) (Deep.cz (⟨s,xs.set i ⟨y,ys⟩⟩:Sl (Sl τ))::B):=by
  refine Tr.trans ?_ (Tr.lay (L:=B) hi);exact Tr.cons ((Tr.Jh (a:=(⟨y,ys⟩:Sl τ))).trans (Tr.cons (Tr.perm List.perm_append_comm) _)) _
theorem Fe{P:Program}{N:cC}{w0:World}{env:Env}{L:List ai}{l:List Oper}{Q:Exit→Act→World→Prop}{rest:List Oper}{ty:TypeId}{ps:String}{af:Array Edge}{τ:Type}{t:TypeId}{x y:Operand}{i k p:Nat}{s:Sv}{xs:List (Sl τ)}{a:Sl τ}(a':Sl τ)
    (sz:(P.info? t).map (·.size)=some 1) (hx:ev env x=some (.pointer (some ⟨s.b,p,none⟩))) (hy:ev env y=some a'.sv.val) [q:fX L s (cq (τ:=τ)) 1 xs i] (iI:p=s.o+k*1) (ha:xs[k]? =some a) {L':List ai} [hu:fO L i (own cq 1 s (xs.set k a')) L'] (hk:Sq P N w0 l Q rest env L'):
    Sq P N w0 l Q (⟨none, .store t x y,ty,ps,af,none⟩::rest) env L:=
  mv (j:=0) (a':=a') sz hx hy (q:=q) iI ha (by rw[Sv.jM];simp[Sv.one]) (by rw[Sv.jM];rfl) (by decide) (by rw[Sv.jM];rfl) hk
section
variable {P:Program} {N:cC} {w0:World} {env:Env} {L:List ai} {l:List Oper} {Q:Exit->Act->World->Prop} {rest:List Oper} {d:Option Tmp} {ty:TypeId} {ps:String} {af:Array Edge} {gd:Option (Nat×Bool)}
variable {fs:List Nat} {F:Act->Prop} {k:Nat}
theorem Ff{o:Oper}{v:Value}{j t:Nat}{b g:Bool}(hg:o.guard=some (j,b))(hj:(l[j]?).bind (·.dst)=some t)(hv:look env t=some (.bool g))(ht:g=b)(h:Yl P N w0 env L o v)
    (hk:Sq P N w0 l Q rest (cy env o.dst v) L) (hd:dx N o.dst=true:=by rfl):Sq P N w0 l Q (o::rest) env L:=fun a w ha hw=>by
  unfold wpList;rw[yx ha hg hj hv,ht,beq_self_eq_true,if_pos rfl];exact .inl (zV ha hw h fun w' gR=>hk _ _ (ha.put hd v) gR)
end
theorem OU{P:Program}{N:cC}{w0:World}{env:Env}{L:List ai}{d:Option Tmp}{ty:TypeId}{ps:String}{af:Array Edge}{gd:Option (Nat×Bool)}{c x y:Operand}{g:Bool}{v:Value}(hc:ev env c=some (.bool g))(ht:g=true)(hx:ev env x=some v)(hy:ev env y=some (.bool false)):
    Ry P N w0 env L ⟨d, .pick c x y,ty,ps,af,gd⟩ v:=by
  subst ht;have h:=IL (P:=P) (N:=N) (w0:=w0) (L:=L) (d:=d) (ty:=ty) (ps:=ps) (af:=af) (gd:=gd) hc hx hy;simpa using h
abbrev aH:=List UInt8
def dec(n:Nat):aH:=Lib.decDigits n
variable {n top:Nat} {s t:aH} {c:UInt8}
theorem pq(h:n<10):dec n=[UInt8.ofNat (48+n)]:=by rw[dec,Lib.decDigits,dif_pos h]
theorem sH(h:10<=n):dec n=dec (n/10)++[UInt8.ofNat (48+n%10)]:=by
 rw[dec,Lib.decDigits,dif_neg (by omega)];rfl
def lP(c:UInt8):Bool:=decide (48<=c.toNat/\c.toNat<=57)
def val(s:aH):Nat:=s.foldl (fun a c=>10*a+(c.toNat -48)) 0
theorem Fg:val (s++[c])=10*val s+(c.toNat -48):=by simp[val,avf]
theorem Cr{d:Nat}(h:d<10):(UInt8.ofNat (48+d)).toNat=48+d:=by
 rw[UInt8.toNat_ofNat'];omega
theorem Ji: ∀n,(dec n).all lP=true:=by
 intro n
 induction n using Nat.strongRecOn with
 |_ n ih=>
  rcases atA n 10 with h|h
  ·
   rw[pq h];have:=Cr h;simp[lP,this];omega
  rw[sH h,List.all_append,ih (n/10) (by omega)];have:=Cr (ave n (show 0<10 by decide));simp[lP,this];omega
theorem Jj: ∀n,val (dec n)=n:=by
 intro n
 induction n using Nat.strongRecOn with
 |_ n ih=>
  rcases atA n 10 with h|h
  ·
   rw[pq h];have:=Cr h;simp[val];omega
  rw[sH h,Fg,ih (n/10) (by omega),Cr (ave n (by decide))];omega
theorem OV:dec n≠[]:=by
 rcases atA n 10 with h|h
 ·
  rw[pq h];simp
 rw[sH h];simp
def Fh(s:aH):Prop:=s≠[]/\(s.length<=1\/s.head?≠some 48)
theorem YO: ∀n,0<n->(dec n).head?≠some 48:=by
 intro n
 induction n using Nat.strongRecOn with
 |_ n ih=>
  intro hn;rcases atA n 10 with h|h
  ·
   rw[pq h];intro e;simp only[List.head?_cons,auY]at e;have h2:=congrArg UInt8.toNat e;rw[Cr h]at h2;have:(48:UInt8).toNat=48:=rfl;omega
  rw[sH h,List.head?_append]
  cases hd:(dec (n/10)).head? with
  |none=>exact absurd (List.head?_eq_none_iff.1 hd) OV
  |some x=>
   have:=ih (n/10) (by omega) (by omega);rw[hd]at this;simpa using this
theorem Jk(n:Nat):Fh (dec n):=by
 refine⟨OV,?_⟩;rcases avu n with rfl|h
 ·
  left;rw[pq (by decide)];simp
 exact .inr (YO n h)
theorem YP: ∀{s:aH},Fh s->s.all lP=true->dec (val s)=s:=by
 intro s;have key: ∀k (s:aH),s.length=k->Fh s->s.all lP=true->dec (val s)=s:=by
  intro k
  induction k with
  |zero=>intro s hl hp _;exact absurd (atJ.1 hl) hp.1
  |succ k ih=>
   intro s hl hp hd;obtain⟨t,c,rfl⟩: ∃t c,s=t++[c]:=by
    rcases List.eq_nil_or_concat s with h|⟨t,c,h⟩
    ·
     exact absurd h hp.1
    exact⟨t,c,by simpa using h⟩
   rw[List.all_append,ad2]at hd;have hc:48<=c.toNat/\c.toNat<=57:=by
    have:=hd.2;simpa[lP]using this
   have yF:UInt8.ofNat (48+(c.toNat -48))=c:=by
    rw[show 48+(c.toNat -48)=c.toNat by omega];exact UInt8.ofNat_toNat
   rw[Fg]
   by_cases ht:t=[]
   ·
    subst ht;rw[show val []=0 from rfl,Nat.mul_zero,auf,pq (by omega),yF];rfl
   have bn:t.length=k:=by simpa using hl
   have YQ:Fh t:=by
    refine⟨ht,?_⟩;rcases hp.2 with h|h
    ·
     left;simp only[adr,af0,anc]at h;omega
    right;rw[List.head?_append]at h
    cases EI:t.head? with
    |none=>simp
    |some x=>rw[EI]at h;simpa using h
   have Jl:=ih t bn YQ hd.1;have hv:0<val t:=by
    rcases avu (val t)with h0|h0
    ·
     exfalso;rw[h0,pq (by decide)]at Jl;rcases hp.2 with h|h
     ·
      simp only[adr,af0,anc]at h;have:=auV.2 ht;omega
     rw[←Jl]at h;exact h rfl
    exact h0
   rw[sH (by omega),show(10*val t+(c.toNat -48))/10=val t by omega,Jl,show(10*val t+(c.toNat -48))%10=c.toNat -48 by omega,yF]
 exact key s.length s rfl
def bD(s:aH)(top:Nat):Option Nat:=if(s≠[]/\(s.length<=1\/s.head?≠some 48)/\s.all lP=true/\val s<=top)then some (val s)else none
theorem jN:bD s top=some n↔s=dec n/\n<=top:=by
 unfold bD;constructor
 ·
  intro h;split at h
  ·
   rename_i h1;obtain⟨h2,h3,h4,h5⟩:=h1;obtain rfl:=atl h;exact⟨(YP ⟨h2,h3⟩ h4).symm,h5⟩
  cases h
 rintro⟨rfl,h⟩;obtain⟨h1,h2⟩:=Jk n;rw[if_pos ⟨h1,h2,Ji n,by rw[Jj];exact h⟩,Jj]
theorem ub(h:n<=top):bD (dec n) top=some n:=jN.2 ⟨rfl,h⟩
theorem jB: ∀k n,n<10^k->0<k->(dec n).length<=k:=by
 intro k
 induction k with
 |zero=>intro n _ h;omega
 |succ k ih=>
  intro n h _;rcases atA n 10 with h1|h1
  ·
   rw[pq h1];simp
  rw[sH h1,adr];have hk:0<k:=by
   rcases avu k with rfl|hk
   ·
    simp at h;omega
   exact hk
  have:=ih (n/10) (by rw[Nat.pow_succ]at h;omega) hk;simpa using this
theorem vz(h:lP c=false):c∉dec n:=fun hc=>by
 have:=aty.1 (Ji n) c hc;rw[h]at this;cases this
def ba(c:UInt8):aH->List aH
 |[]=>[[]]
 |x::s=>if x=c then[]::ba c s else match ba c s with
  |[]=>[[x]]
  |p::r=>(x::p)::r
theorem Cs: ∀s,ba c s≠[]
 |[]=>by simp[ba]
 |x::s=>by
  rw[ba];split
  ·
   simp
  split<;>simp
theorem Ae(h:c∉s):ba c s=[s]:=by
 induction s with
 |nil=>rfl
 |cons x s ih=>
  rw[ba,if_neg (fun e=>h (by simp[e])),ih (fun hc=>h (atF _ hc))]
theorem sI(h:c∉s):ba c (s++c::t)=s::ba c t:=by
 induction s with
 |nil=>rw[aug,ba,if_pos rfl]
 |cons x s ih=>
  rw[auL,ba,if_neg (fun e=>h (by simp[e])),ih (fun hc=>h (atF _ hc))]
theorem Ag: ∀(s:aH),(c∉s/\ba c s=[s])\/ ∃a b,s=a++c::b/\c∉a/\ba c s=a::ba c b
 |[]=> .inl ⟨by simp,rfl⟩
 |x::s=>by
  by_cases hx:x=c
  ·
   subst hx;exact .inr ⟨[],s,rfl,by simp,by rw[ba,if_pos rfl]⟩
  rcases Ag s with⟨h1,h2⟩|⟨a,b,h1,h2,h3⟩
  ·
   left;have:c∉x::s:=fun h=>(atv.1 h).elim (fun e=>hx e.symm) h1;exact⟨this,Ae this⟩
  right;have:c∉x::a:=fun h=>(atv.1 h).elim (fun e=>hx e.symm) h2;exact⟨x::a,b,by rw[h1];rfl,this,by rw[h1,←auL,sI this]⟩
theorem Jm{a:aH}(h:ba c s=[a]):s=a/\c∉s:=by
 rcases Ag (c:=c) s with⟨h1,h2⟩|⟨x,y,h1,h2,h3⟩
 ·
  rw[h2]at h;exact⟨(List.cons.inj h).1,h1⟩
 rw[h3]at h;exact absurd (List.cons.inj h).2 (Cs y)
theorem Ct{a b:aH}{r:List aH}(h:ba c s=a::b::r): ∃u,s=a++c::u/\c∉a/\ba c u=b::r:=by
 rcases Ag (c:=c) s with⟨h1,h2⟩|⟨x,y,h1,h2,h3⟩
 ·
  rw[h2]at h;cases(List.cons.inj h).2
 rw[h3]at h;obtain⟨e1,e2⟩:=List.cons.inj h;subst e1;exact⟨y,h1,h2,e2⟩
def mw(s:aH):Array Value:= #[.string ⟨s.toArray⟩]
instance:bp mw 1:=⟨fun _=>rfl,fun s=>by simp[mw,Value.oneCell']⟩
instance (s:aH):bQ (mw s) 0 (.string ⟨s.toArray⟩):=⟨rfl⟩
theorem sJ(s:aH):(⟨s.toArray⟩:ByteArray).size=s.length:=by simp[ByteArray.size]
theorem YR(s:aH)(i:Nat):(⟨s.toArray⟩:ByteArray)[i]? =s[i]? :=by
 by_cases h:i<s.length
 ·
  rw[ByteArray.getElem?_lt' _ _ (by rw[sJ];exact h),atp h];rfl
 rw[ByteArray.getElem?_ge' _ _ (by rw[sJ];exact h),atB (by omega)]
theorem YS(a b:aH):(⟨a.toArray⟩:ByteArray)++⟨b.toArray⟩=⟨(a++b).toArray⟩:=by
 have:((⟨a.toArray⟩:ByteArray)++⟨b.toArray⟩).data=(a++b).toArray:=by
  rw[ByteArray.data_append];simp
 cases e:(⟨a.toArray⟩:ByteArray)++⟨b.toArray⟩with
 |mk d=>rw[e]at this;rw[←this]
theorem YT(s:ByteArray):s=⟨s.data.toList.toArray⟩:=by cases s;simp
theorem Jn(c:UInt8): ∀s:aH,(ba c s).length<=s.length+1
 |[]=>by simp[ba]
 |x::s=>by
  have ih:=Jn c s;rw[ba];split
  ·
   simp;omega
  split
  ·
   simp
  rename_i p r h;rw[h]at ih;simp at ih⊢;omega
section
variable {P:Program} {N:cC} {w0:World} {env:Env} {L:List ai} {d:Option Tmp} {ty t u:TypeId} {ps:String} {af:Array Edge} {gd:Option (Nat×Bool)} {x y lo hi:Operand} {k k':IntKind} {a b s:aH}
theorem qQ(ht:P.underlying t=some .string)(hx:ev env x=some (.string ⟨s.toArray⟩)):
  Ry P N w0 env L ⟨d, .call {callee:= .builtin .len,args:= #[x],argTypes:= #[t]},ty,ps,af,gd⟩ (.int .i64 (s.length:Nat)):=fun aa w ha _=>by
 have h:(Builtin.len_ #[t] ty #[.string ⟨s.toArray⟩]).run P w= .ok (goInt s.length) w:=by
  rw[run_len_string w t ty _ ht,sJ]
 simp[execOp,ha.ev hx,resolve,invoke,builtin,h,Result.andThen,goInt]
theorem vA{j:Int}(i:Nat)(hu:P.underlying t=some .string)(hx:ev env x=some (.string ⟨s.toArray⟩))(hj:ev env y=some (.int k j))(ej:j=(i:Int))(h:i<s.length):
  Ry P N w0 env L ⟨d, .index t x y,ty,ps,af,gd⟩ (.int .u8 ((s.getD i 0).toNat:Nat)):=IV hu hx hj (by omega) (by
 subst ej;rw[YR,auy,atp h];simp[List.getD,h])
theorem jO(hx:ev env x=some (.string ⟨a.toArray⟩))(hy:ev env y=some (.string ⟨b.toArray⟩))(h:a.length+b.length<4294967296):
  Ry P N w0 env L ⟨d, .binOp .add t x y u,ty,ps,af,gd⟩ (.string ⟨(a++b).toArray⟩):=fun aa w ha _=>by
 have h2:(eqGuard BinOp.add t x y (.string ⟨a.toArray⟩) (.string ⟨b.toArray⟩)).run P w= .ok () w:=rfl;have hl: ¬(((⟨a.toArray⟩:ByteArray).size+(⟨b.toArray⟩:ByteArray).size:Nat):Int)>IntKind.i64.max:=by
  rw[sJ,sJ,show IntKind.i64.max=9223372036854775807 from rfl];omega
 have h3:(Op.stringOp .add (⟨a.toArray⟩:ByteArray) ⟨b.toArray⟩).run P w= .ok (.string ⟨(a++b).toArray⟩) w:=by
  simp only[Op.stringOp,hl,if_false,YS];rfl
 simp only[execOp,ha.ev hx,ha.ev hy,Sem.run_bind,h2,Result.andThen_ok,binOp_string_add,h3,Sem.run_pure]
theorem Ry.as{o:Oper}{v v':Value}(h:Ry P N w0 env L o v)(e:v=v'):Ry P N w0 env L o v':=e▸h
theorem YU{p:Nat}{v1 v2:Int}(hx:ev env x=some (.int .u8 v1))(hy:ev env y=some (.int k' v2))(ea:v1=p)(hp:p<16)(eb:v2=4:=by rfl):
  Ry P N w0 env L ⟨d, .binOp .shl t x y u,ty,ps,af,gd⟩ (.int .u8 ((p*16:Nat):Int)):=by
 subst ea eb;refine Ry.as (IX hx hy (by decide)) (congrArg (Value.int .u8) ?_);have e:((p:Int)*2^min (4:Int).toNat IntKind.u8.bits)=((p*16:Nat):Int):=by
  rw[show(2:Int)^min (4:Int).toNat IntKind.u8.bits=16 by decide];omega
 rw[e];exact qO (by simp only[nb];omega)
theorem Fi{p q:Nat}{v1 v2:Int}(hx:ev env x=some (.int k v1))(hy:ev env y=some (.int k v2))(ea:v1=p)(eb:v2=q)(h:q<=p)(h2:p<2^nb k:=by first|(simp only[nb];omega)|exact(avQ _)):
  Ry P N w0 env L ⟨d, .binOp .sub t x y u,ty,ps,af,gd⟩ (.int k ((p -q:Nat):Int)):=fE hx hy (by
 subst ea eb;rw[mX,show(p:Int) -(q:Int)=((p -q:Nat):Int) by omega,qO (by omega)])
theorem OW{n:Nat}(hs:(P.underlying t).isSome=true)(hd:P.underlying u=some .string)(hx:ev env x=some (.int k n))(h:n<128):
  Ry P N w0 env L ⟨d, .convert t u x,ty,ps,af,gd⟩ (.string ⟨[UInt8.ofNat n].toArray⟩):=fun aa w ha _=>by
 have hr:=run_convert_int_string (P:=P) w t u k n hs hd;have he:Utf8.encode (n:Int)=⟨[UInt8.ofNat n].toArray⟩:=by
  have hv:Utf8.valid (n:Int)=true:=by simp[Utf8.valid];omega
  unfold Utf8.encode;simp only[hv,if_true,auy,h]
 rw[he]at hr;simp only[execOp,ha.ev hx,Sem.run_bind,hr,Result.andThen,Sem.run_pure]
end
variable {s a b:aH} {c:UInt8}
theorem OX(h:c∉s):Lib.index s [c]= -1:=by
 induction s with
 |nil=>rfl
 |cons x s ih=>
  have hx:x≠c:=fun e=>h (by simp[e]);have hp:([c]:aH).isPrefixOf (x::s)=false:=by
   simp only[List.isPrefixOf,Bool.and_true];simpa using fun e=>hx e.symm
  rw[Lib.index,hp,ih (fun hc=>h (atF _ hc))];rfl
theorem OY(h:c∉a):Lib.index (a++c::b) [c]=(a.length:Int):=by
 induction a with
 |nil=>
  rw[aug,Lib.index,if_pos (by simp[List.isPrefixOf])];rfl
 |cons x a ih=>
  have hx:x≠c:=fun e=>h (by simp[e]);have hp:([c]:aH).isPrefixOf (x::(a++c::b))=false:=by
   simp only[List.isPrefixOf,Bool.and_true];simpa using fun e=>hx e.symm
  rw[auL,Lib.index,hp,ih (fun hc=>h (atF _ hc)),if_neg (by simp),if_neg (by simp only[beq_iff_eq];omega)];simp
def aK(c:UInt8)(s:aH):aH×aH×Bool:=Lib.cut s [c]
theorem OZ(h:c∉s):aK c s=(s,[],false):=by
 rw[aK,Lib.cut,OX h,if_neg (by decide)]
theorem O0(h:c∉a):aK c (a++c::b)=(a,b,true):=by
 rw[aK,Lib.cut,OY h,if_pos (by omega)];simp
theorem O1(c:UInt8): ∀(n:Nat) (s:ByteArray),s.size<=n->(Lib.splitB ⟨#[c]⟩ 0 (Lib.countB s ⟨#[c]⟩) s).map (·.data.toList)=ba c s.data.toList:=by
 intro n
 induction n with
 |zero=>
  intro s hs;have hz:s.data.toList=[]:=by
   apply atJ.1;have:=Lib.size_eq s;omega
  have hi:Lib.indexB s ⟨#[c]⟩= -1:=by
   show Lib.index s.data.toList [c]= -1;rw[hz];rfl
  rw[Lib.splitB_miss _ _ _ _ hi,hz];simp[hz,ba]
 |succ n ih=>
  intro s hs;rcases Ag (c:=c) s.data.toList with⟨h1,h2⟩|⟨a,b,h1,h2,h3⟩
  ·
   have hi:Lib.indexB s ⟨#[c]⟩= -1:=OX h1;rw[Lib.splitB_miss _ _ _ _ hi,h2];rfl
  have hi:Lib.indexB s ⟨#[c]⟩=(a.length:Int):=by
   show Lib.index s.data.toList [c]=_;rw[h1];exact OY h2
  have eI:(⟨#[c]⟩:ByteArray).size=1:=rfl;have hlen:s.size=a.length+(b.length+1):=by rw[Lib.size_eq,h1];simp
  rw[Lib.countB_hit s _ a.length (by rw[eI];decide) hi,avT 1,Lib.splitB,if_neg (by rw[hi];simp only[beq_iff_eq];omega),hi,h3];have e1:((a.length:Int)).toNat=a.length:=by omega
  rw[e1,atI];have ed: ∀x y:Nat,(s.extract x y).data.toList=(s.data.toList.drop x).take (y -x):=fun x y=>Lib.extract_data s x y;have e2:(s.extract 0 (a.length+0)).data.toList=a:=by rw[ed,h1];simp
  have e3:(s.extract (a.length+(⟨#[c]⟩:ByteArray).size) s.size).data.toList=b:=by
   rw[ed,h1,eI,hlen];simp;exact atC (by omega)
  rw[e2,ih _ (by have:=Lib.size_eq (s.extract (a.length+(⟨#[c]⟩:ByteArray).size) s.size);rw[e3]at this;omega),e3]
theorem YV(c:UInt8)(s:ByteArray):Lib.countB s ⟨#[c]⟩+1=(ba c s.data.toList).length:=by
 rw[←O1 c s.size s (att _),atM,Lib.splitB_all _ (att _) 0 _ s rfl]
end Go.ax
namespace Go.Kb
abbrev Key:=BitVec 128
def bf(k:Key)(i:Nat):Nat:=k.toNat/2^(8*(15 -i))%2^8
theorem jC(k:Key)(i:Nat):bf k i<256:=ave _ (by decide)
theorem YW(k:Key)(i j:Nat)(hj:j<8):(bf k i).testBit j=k.toNat.testBit (8*(15 -i)+j):=by
 unfold bf;rw[Nat.testBit_mod_two_pow,Nat.testBit_div_two_pow];simp[hj,avT]
theorem YX(k:Key)(n:Nat)(h:n<128):k.getMsbD n=k.toNat.testBit (127 -n):=by
 simp only[BitVec.getMsbD,BitVec.getLsbD,h,decide_true,aup]
theorem Fj(k:Key)(n:Nat)(h:n<128):k.getMsbD n=(bf k (n/8)).testBit (7 -n%8):=by
 rw[YX k n h,YW k (n/8) (7 -n%8) (by omega)];congr 1;omega
theorem O2(k:Key)(n:Nat)(h:128<=n):k.getMsbD n=false:=by
 simp only[BitVec.getMsbD];simp;omega
theorem Fk{a b:Key}(h: ∀n,n<128->a.getMsbD n=b.getMsbD n):a=b:=BitVec.eq_of_getMsbD_eq fun i hi=>h i hi
theorem YY{x y:Nat}(hx:x<256)(hy:y<256)(h: ∀j,j<8->x.testBit j=y.testBit j):x=y:=by
 refine Nat.eq_of_testBit_eq fun j=>?_;rcases atA j 8 with hj|hj
 ·
  exact h j hj
 have hp:2^8<=2^j:=auR (by decide) hj;rw[Nat.testBit_lt_two_pow (au0 hx hp),Nat.testBit_lt_two_pow (au0 hy hp)]
theorem uc{a b:Key}(h: ∀i,i<16->bf a i=bf b i):a=b:=
 Fk fun n hn=>by rw[Fj a n hn,Fj b n hn,h (n/8) (by omega)]
theorem YZ{k:Key}{i x:Nat}(hi:i<16)(hx:x<256)(h: ∀m,m<8->k.getMsbD (8*i+m)=x.testBit (7 -m)):bf k i=x:=
 YY (jC k i) hx fun j hj=>by
  have:=h (7 -j) (by omega);rw[Fj k _ (by omega),show(8*i+(7 -j))/8=i by omega,show 7 -(8*i+(7 -j))%8=j by omega,show 7 -(7 -j)=j by omega]at this;exact this
def oo(f:Nat->Nat):Key:=BitVec.ofNat 128 ((List.range 16).foldl (fun a i=>a*2^8+f i%2^8) 0)
theorem Fl(f:Nat->Nat): ∀n,(List.range n).foldl (fun a i=>a*2^8+f i%2^8) 0<2^(8*n)
 |0=>by simp
 |n+1=>by
  rw[auF,avf];have:=Fl f n;have h2:f n%2^8<2^8:=ave _ (by decide);simp only[auQ,List.foldl_nil];rw[Nat.mul_add,avy,Nat.pow_add];omega
theorem O3(f:Nat->Nat): ∀n i,i<n->(List.range n).foldl (fun a i=>a*2^8+f i%2^8) 0/2^(8*(n -1 -i))%2^8=f i%2^8
 |0,i,h=>by omega
 |n+1,i,h=>by
  rw[auF,avf];simp only[auQ,List.foldl_nil];generalize hF:(List.range n).foldl (fun a i=>a*2^8+f i%2^8) 0=F
  by_cases hi:i=n
  ·
   subst hi;rw[show i+1 -1 -i=0 by omega];simp
  have ih:=O3 f n i (by omega);rw[hF]at ih;rw[show 8*(n+1 -1 -i)=8+8*(n -1 -i) by omega,Nat.pow_add,←Nat.div_div_eq_div_mul];have:(F*2^8+f n%2^8)/2^8=F:=by
   have h2:f n%2^8<2^8:=ave _ (by decide);omega
  rw[this];exact ih
theorem ud(f:Nat->Nat)(i:Nat)(h:i<16):bf (oo f) i=f i%2^8:=by
 unfold bf oo;have e:((List.range 16).foldl (fun a i=>a*2^8+f i%2^8) 0)%2^128=(List.range 16).foldl (fun a i=>a*2^8+f i%2^8) 0:=at5 (Fl f 16);rw[au7,e];exact O3 f 16 i h
def Cu(k:Key)(i x:Nat):Key:=oo fun j=>if j=i then x else bf k j
theorem O4(k:Key)(i x j:Nat)(hj:j<16)(hx:x<256):bf (Cu k i x) j=if j=i then x else bf k j:=by
 unfold Cu;rw[ud _ j hj];split
 ·
  omega
 have:=jC k j;omega
def bR(k:Key):Array Value:=((List.range 16).map fun i=>Value.int .u8 (bf k i)).toArray
theorem eL(k:Key):(bR k).size=16:=by unfold bR;simp
theorem jh(k:Key)(i:Nat)(h:i<16):(bR k)[i]? =some (.int .u8 (bf k i)):=by unfold bR;simp[h]
theorem O5(k:Key)(i:Nat)(h:16<=i):(bR k)[i]? =none:=by unfold bR;simp;omega
theorem Jo{A:Array Value}{k:Key}(hs:A.size=16)(h: ∀i,i<16->A[i]? =some (.int .u8 (bf k i))):A=bR k:=by
 apply aut;intro i;rcases atA i 16 with hi|hi
 ·
  rw[h i hi,jh k i hi]
 rw[O5 k i hi];simp;omega
theorem Y0(k:Key)(i x:Nat)(hi:i<16)(hx:x<256):(bR k).setIfInBounds i (.int .u8 x)=bR (Cu k i x):=by
 refine Jo (by simp[eL]) fun j hj=>?_;rw[aub,O4 k i x j hj hx]
 by_cases h:i=j
 ·
  subst h;simp[eL,hi]
 rw[if_neg h,if_neg (fun e=>h e.symm),jh k j hj]
theorem Jp{a b:Key}(h:bR a=bR b):a=b:=uc fun i hi=>by
 have h1:=jh a i hi;rw[h,jh b i hi]at h1;simp at h1;omega
def ff(k:Key)(n:Int):Key:=if n<1 then 0#128 else(k>>>(128 -n.toNat))<<<(128 -n.toNat)
theorem yG(k:Key)(n:Int)(i:Nat):(ff k n).getMsbD i=(decide ((i:Int)<n)&&k.getMsbD i):=by
 unfold ff;split
 ·
  have: ¬((i:Int)<n):=by omega
  simp[this]
 rcases atA i 128 with hi|hi
 ·
  rw[BitVec.getMsbD_shiftLeft,BitVec.getMsbD_ushiftRight]
  by_cases hn:(i:Int)<n
  ·
   have h1:i+(128 -n.toNat)<128:=by omega
   have h2:i+(128 -n.toNat) -(128 -n.toNat)=i:=by omega
   simp[hn,h1,h2]
  have h1: ¬i+(128 -n.toNat)<128:=by omega
  simp[hn,h1]
 rw[O2 _ _ hi,O2 _ _ hi];simp
theorem O6(k:Key)(n:Int)(h:128<=n):ff k n=k:=Fk fun i hi=>by
 rw[yG];have:(i:Int)<n:=by omega
 simp[this]
theorem Y1(k:Key)(n:Int)(h:n<1):ff k n=0#128:=by unfold ff;rw[if_pos h]
theorem Y2(k:Key)(n m:Int):ff (ff k n) m=ff k (min n m):=Fk fun i _=>by
 rw[yG,yG,yG,←Bool.and_assoc];congr 1;rw[←Bool.decide_and,decide_eq_decide];omega
theorem Y3(k:Key)(n:Int):ff k n=k↔ ∀i:Nat,i<128->n<=(i:Int)->k.getMsbD i=false:=by
 constructor
 ·
  intro h i hi hn;rw[←h,yG];have: ¬(i:Int)<n:=by omega
  simp[this]
 intro h;refine Fk fun i hi=>?_;rw[yG]
 by_cases hn:(i:Int)<n
 ·
  simp[hn]
 rw[h i hi (by omega)];simp
theorem Cv(k:Key)(n:Nat)(i:Nat)(hi:i<16):bf (ff k n) i=if 8*i+8<=n then bf k i else if 8*i<=n then bf k i/2^(8 -(n -8*i))*2^(8 -(n -8*i))else 0:=by
 have hb:=jC k i;have bn:(if 8*i+8<=n then bf k i else if 8*i<=n then bf k i/2^(8 -(n -8*i))*2^(8 -(n -8*i))else 0)<256:=by
  split
  ·
   exact hb
  split
  ·
   exact au8 (Nat.div_mul_le_self _ _) hb
  omega
 refine YZ hi bn fun m hm=>?_;rw[yG,Fj k _ (by omega),show(8*i+m)/8=i by omega,show 7 -(8*i+m)%8=7 -m by omega];split
 ·
  have:((8*i+m:Nat):Int)<(n:Int):=by omega
  simp only[this,decide_true,aup]
 split
 ·
  generalize ht:8 -(n -8*i)=t;rw[Nat.testBit_mul_two_pow,Nat.testBit_div_two_pow]
  by_cases bn:((8*i+m:Nat):Int)<(n:Int)
  ·
   have h1:t<=7 -m:=by omega
   simp only[bn,h1,decide_true,aup];rw[show 7 -m -t+t=7 -m by omega]
  have h1: ¬t<=7 -m:=by omega
  simp only[bn,h1,decide_false,avR]
 have: ¬((8*i+m:Nat):Int)<(n:Int):=by omega
 simp only[this,decide_false,avR,Nat.zero_testBit]
def Fm(k:Key)(n:Int):Int:=if 0<=n/\n<128 then(if k.getMsbD n.toNat then 1 else 0)else 0
def Y4(k:Key)(n:Int):Int:=if 0<=n/\n<32 then 8*Fm k (4*n)+4*Fm k (4*n+1)+2*Fm k (4*n+2)+Fm k (4*n+3)else 0
structure cH where
 bits:Int
 len:Int
 key:Key
 deriving DecidableEq
def bm(p:cH):Bool:=decide (p.bits=32\/p.bits=128)&&decide (0<=p.len)&&decide (p.len<=p.bits)&&decide (ff p.key p.len=p.key)
theorem vB(p:cH):bm p=true↔(p.bits=32\/p.bits=128)/\0<=p.len/\p.len<=p.bits/\ff p.key p.len=p.key:=by
 unfold bm;simp[and_assoc]
def Y5(p:cH)(k:Key):Bool:=bm p&&decide (ff k p.bits=k)&&decide (ff k p.len=p.key)
def Y6(p q:cH):Bool:=bm p&&bm q&&decide (p.bits=q.bits)&&decide (p.len<=q.len)&&decide (ff q.key p.len=p.key)
def eA(p q:cH):Bool:=bm p&&bm q&&(if p.bits≠q.bits then decide (p.bits=32)else if p.key≠q.key then decide (p.key.toNat<q.key.toNat)else decide (p.len<q.len))
def cR(p:cH):Array Value:= #[.int .i64 p.bits, .int .i64 p.len]++bR p.key
theorem oq(p:cH):(cR p).size=18:=by unfold cR;rw[aud,eL];rfl
theorem yH(p:cH):(cR p)[0]? =some (.int .i64 p.bits):=by unfold cR;rw[Array.getElem?_append];rfl
theorem yI(p:cH):(cR p)[1]? =some (.int .i64 p.len):=by unfold cR;rw[Array.getElem?_append];rfl
theorem qR(p:cH)(j:Nat):(cR p)[2+j]? =(bR p.key)[j]? :=by
 unfold cR;rw[Array.getElem?_append,if_neg (by simp)];congr 1;simp
theorem O7{a b:cH}(h:cR a=cR b):a=b:=by
 have h0:=yH a;rw[h,yH]at h0;have h1:=yI a;rw[h,yI]at h1;have h2:a.key=b.key:=Jp (aut fun i=>by rw[←qR,←qR,h])
 cases a;cases b
 simp at h0 h1 h2⊢;exact⟨h0.symm,h1.symm,h2⟩
theorem O8(k:Key):oo (bf k)=k:=uc fun i hi=>by
 rw[ud _ i hi];have:=jC k i;omega
theorem O9{a b:Key}{i:Nat}(hi:i<16)(hs: ∀j,j<i->bf a j=bf b j)(hd:bf a i<bf b i):a.toNat<b.toNat:=by
 have key: ∀n,n<=16->i<n->(List.range n).foldl (fun x j=>x*2^8+bf a j%2^8) 0<(List.range n).foldl (fun x j=>x*2^8+bf b j%2^8) 0:=by
  intro n
  induction n with
  |zero=>intro _ h;omega
  |succ n ih=>
   intro hn iH;rw[auF,avf,avf];simp only[auQ,List.foldl_nil];have ha:=jC a n;have hb:=jC b n
   by_cases h:i=n
   ·
    subst h;have e:(List.range i).foldl (fun x j=>x*2^8+bf a j%2^8) 0=(List.range i).foldl (fun x j=>x*2^8+bf b j%2^8) 0:=by
     have aux: ∀(l:List Nat) (z:Nat),(∀j∈l,bf a j=bf b j)->l.foldl (fun x j=>x*2^8+bf a j%2^8) z=l.foldl (fun x j=>x*2^8+bf b j%2^8) z:=by
      intro l
      induction l with
      |nil=>intro z _;rfl
      |cons x l ih=>intro z hl;simp only[auQ];rw[hl x (by simp)];exact ih _ fun j hj=>hl j (by simp[hj])
     exact aux _ _ fun j hj=>hs j (atX.1 hj)
    rw[e];omega
   have:=ih (by omega) (by omega);omega
 have Ah:=key 16 (att _) hi;have ea:a.toNat=(List.range 16).foldl (fun x j=>x*2^8+bf a j%2^8) 0:=by
  conv=>lhs;rw[←O8 a]
  unfold oo;rw[au7];exact at5 (Fl (bf a) 16)
 have eb:b.toNat=(List.range 16).foldl (fun x j=>x*2^8+bf b j%2^8) 0:=by
  conv=>lhs;rw[←O8 b]
  unfold oo;rw[au7];exact at5 (Fl (bf b) 16)
 rw[ea,eb];exact Ah
def rJ(a b:Key):Int:=if a.toNat<b.toNat then -1 else if b.toNat<a.toNat then 1 else 0
theorem Pa(a b:Key):rJ a b=0↔a=b:=by
 unfold rJ;constructor
 ·
  intro h;split at h
  ·
   omega
  split at h
  ·
   omega
  exact BitVec.eq_of_toNat_eq (by omega)
 rintro rfl;simp
theorem Y7(a b:Key):rJ a b<0↔a.toNat<b.toNat:=by
 unfold rJ;split
 ·
  simp[*]
 split<;>simp[*]
theorem Fo(p:cH):bm p=true↔(p.bits=32\/p.bits=128)/\0<=p.len/\p.len<=p.bits/\ ∀i:Nat,i<128->p.len<=(i:Int)->p.key.getMsbD i=false:=by
 rw[vB,Y3]
theorem nI{p q:cH}(hp:bm p=true)(hq:bm q=true):eA p q=true↔p.bits<q.bits\/(p.bits=q.bits/\(p.key.toNat<q.key.toNat\/(p.key.toNat=q.key.toNat/\p.len<q.len))):=by
 obtain⟨p1,_⟩:=(vB p).1 hp;obtain⟨q1,_⟩:=(vB q).1 hq;have ek:p.key=q.key↔p.key.toNat=q.key.toNat:=⟨fun h=>by rw[h],BitVec.eq_of_toNat_eq⟩;unfold eA;rw[hp,hq,aup,aup]
 by_cases hb:p.bits=q.bits
 ·
  rw[if_neg (by simpa using hb)]
  by_cases hk:p.key=q.key
  ·
   rw[if_neg (by simpa using hk)];rw[ek]at hk;simp;omega
  rw[if_pos hk];rw[ek]at hk;simp;omega
 rw[if_pos hb];simp;omega
theorem Y8{p q:cH}:p=q↔p.bits=q.bits/\p.key.toNat=q.key.toNat/\p.len=q.len:=by
 constructor
 ·
  rintro rfl;exact⟨rfl,rfl,rfl⟩
 rintro⟨h1,h2,h3⟩;have:=BitVec.eq_of_toNat_eq h2
 cases p;cases q;simp_all
structure Rt where
 p:cH
 dN:UInt16
 deriving DecidableEq
def bO:Rt:=⟨⟨0,0,0#128⟩,0⟩
def ay(r:Rt):Array Value:=cR r.p++ #[.int .u16 r.dN.toNat]
theorem gN(r:Rt):(ay r).size=19:=by unfold ay;rw[aud,oq];rfl
theorem nJ(r:Rt)(j:Nat)(h:j<18):(ay r)[j]? =(cR r.p)[j]? :=by
 unfold ay;rw[auk (by rw[oq];exact h)]
theorem ue(r:Rt):(ay r)[18]? =some (.int .u16 r.dN.toNat):=by
 unfold ay;rw[avD (by rw[oq];omega),oq];rfl
def sK(xs:List Rt)(i:Nat):Bool:=match xs[i]?with
 |none=>true
 |some r=>bm r.p&&match i with
  |0=>true
  |j+1=>match xs[j]?with
   |none=>true
   |some q=>eA q.p r.p
def sL(xs:List Rt)(n:Nat):Bool:=(List.range n).all (sK xs)
def cL(xs:List Rt):Bool:=decide (xs.length<=256)&&sL xs xs.length
theorem Pb(xs:List Rt):sL xs 0=true:=rfl
theorem Jq(xs:List Rt)(n:Nat):sL xs (n+1)=(sL xs n&&sK xs n):=by
 simp[sL,auF]
theorem Pc{xs:List Rt}(h:256<xs.length):cL xs=false:=by
 simp[cL];omega
theorem Fp{xs:List Rt}{i:Nat}(hi:i<xs.length)(h:sK xs i=false):cL xs=false:=by
 have:sL xs xs.length=false:=by
  rw[sL,List.all_eq_false];exact⟨i,atX.2 hi,by simp[h]⟩
 simp[cL,this]
theorem Pd{xs:List Rt}(h:xs.length<=256)(ho:sL xs xs.length=true):cL xs=true:=by simp[cL,h,ho]
theorem Pe{xs:List Rt}{i:Nat}{r:Rt}(hi:xs[i]? =some r)(h:bm r.p=false):sK xs i=false:=by simp[sK,hi,h]
theorem Jr{xs:List Rt}{r:Rt}(hi:xs[0]? =some r):sK xs 0=bm r.p:=by simp[sK,hi]
theorem Fq{xs:List Rt}{i:Nat}{q r:Rt}(hi:xs[i+1]? =some r)(hq:xs[i]? =some q):sK xs (i+1)=(bm r.p&&eA q.p r.p):=by simp[sK,hi,hq]
theorem Y9{xs:List Rt}{i:Nat}{q r:Rt}(h0:0<i)(hi:xs[i]? =some r)(hq:xs[i -1]? =some q):sK xs i=(bm r.p&&eA q.p r.p):=by
 obtain⟨j,rfl⟩: ∃j,i=j+1:=⟨i -1,by omega⟩;exact Fq hi (by simpa using hq)
theorem Pf{xs:List Rt}{i:Nat}{q r:Rt}(hi:xs[i]? =some r)(hq:xs[i -1]? =some q):sK xs i=(bm r.p&& !(decide (0<(i:Int))&& !eA q.p r.p)):=by
 rcases avu i with h|h
 ·
  subst h;rw[Jr hi];simp
 rw[Y9 h hi hq];simp[h]
theorem get_some{α:Type}{xs:List α}{i:Nat}(h:i<xs.length): ∃r,xs[i]? =some r:=⟨xs[i],by simp[h]⟩
theorem Pg{a b:Rt}(h:ay a=ay b):a=b:=by
 have hp:cR a.p=cR b.p:=aut fun j=>by
  rcases atA j 18 with hj|hj
  ·
   rw[←nJ a j hj,←nJ b j hj,h]
  rw[atQ (by rw[oq];exact hj),atQ (by rw[oq];exact hj)]
 have hh:=ue a;rw[h,ue b]at hh;have e1:b.dN=a.dN:=by
  apply UInt16.toNat_inj.1;simp only[auY,Value.int.injEq,true_and]at hh;omega
 obtain⟨p,q⟩:=a;obtain⟨p',q'⟩:=b;simp only at e1 hp;rw[O7 hp,e1]
open Go.ax
variable {s:aH} {c:UInt8} {k:Key}
def jP(n:Nat):UInt8:=if n<10 then UInt8.ofNat (48+n)else UInt8.ofNat (87+n)
def kY(c:UInt8):Option Nat:=if 48<=c.toNat/\c.toNat<=57 then some (c.toNat -48)else if 97<=c.toNat/\c.toNat<=102 then some (c.toNat -87)else none
theorem Za{n:Nat}(h:n<16):(jP n).toNat=if n<10 then 48+n else 87+n:=by
 unfold jP;split
 ·
  rw[UInt8.toNat_ofNat'];omega
 rw[UInt8.toNat_ofNat'];omega
theorem Fs{n:Nat}(h:n<16):kY c=some n↔c=jP n:=by
 have ht:=Za h;constructor
 ·
  intro h1;apply avC.1;rw[ht];unfold kY at h1;split at h1
  ·
   have:=atl h1;split<;>omega
  split at h1
  ·
   have:=atl h1;split<;>omega
  cases h1
 rintro rfl;unfold kY;rw[ht];split
 ·
  rw[if_pos (by omega)];congr 1;omega
 rw[if_neg (by omega),if_pos (by omega)];congr 1;omega
theorem Js{n:Nat}(h:kY c=some n):n<16:=by
 unfold kY at h;split at h
 ·
  have:=atl h;omega
 split at h
 ·
  have:=atl h;omega
 cases h
theorem Zb{n:Nat}(h:n<16){c:UInt8}(hc:kY c=none):jP n≠c:=fun e=>by
 have:=(Fs h).2 e.symm;rw[hc]at this;cases this
def sM(k:Key):aH:=dec (bf k 0)++46::(dec (bf k 1)++46::(dec (bf k 2)++46::dec (bf k 3)))
def ic(k:Key)(i:Nat):Nat:=if i%2=0 then bf k (i/2)/16 else bf k (i/2)%16
theorem Cx(k:Key)(i:Nat):ic k i<16:=by
 have:=jC k (i/2);unfold ic;split<;>omega
def ot(k:Key):aH:=(List.range 32).map fun i=>jP (ic k i)
def qS(k:Key)(bits:Int):aH:=if bits=32 then sM k else ot k
def four(a b c d:Nat):Key:=oo fun i=>if i=0 then a else if i=1 then b else if i=2 then c else if i=3 then d else 0
def kZ(s:aH):Option Key:=match ba 46 s with
 |[a,b,c,d]=>match bD a 255,bD b 255,bD c 255,bD d 255 with
  |some a,some b,some c,some d=>some (four a b c d)
  |_,_,_,_=>none
 |_=>none
def Fu(s:aH):Bool:=s.all fun c=>(kY c).isSome
def lQ(s:aH)(i:Nat):Nat:=(kY (s.getD i 0)).getD 0
def Ai(s:aH):Key:=oo fun i=>16*lQ s (2*i)+lQ s (2*i+1)
def nK(s:aH):Option Key:=if s.length=32/\Fu s=true then some (Ai s)else none
def nL(s:aH):Option (Key×Int):=match kZ s with
 |some k=>some (k,32)
 |none=>(nK s).map fun k=>(k,128)
theorem yJ{a b c d:Nat}(ha:a<=255)(hb:b<=255)(hc:c<=255)(hd:d<=255){i:Nat}(hi:i<16):bf (four a b c d) i=if i=0 then a else if i=1 then b else if i=2 then c else if i=3 then d else 0:=by
 rw[four,ud _ _ hi];split
 ·
  omega
 split
 ·
  omega
 split
 ·
  omega
 split<;>omega
theorem Ph:ff k 32=k↔ ∀i,4<=i->i<16->bf k i=0:=by
 constructor
 ·
  intro h i h1 h2;have:=Cv k 32 i h2;rw[show ff k ((32:Nat):Int)=k from h]at this;rw[this,if_neg (by omega)];split
  ·
   have hb:=jC k i;obtain rfl:i=4:=by omega
   rw[show(8 -(32 -8*4))=8 by decide];omega
  rfl
 intro h;refine uc fun i hi=>?_;rw[show ff k 32=ff k ((32:Nat):Int)from rfl,Cv k 32 i hi];split
 ·
  rfl
 have:=h i (by omega) hi;rw[this];split<;>simp
theorem Pj:kZ s=some k↔ff k 32=k/\s=sM k:=by
 constructor
 ·
  intro h;unfold kZ at h;split at h
  ·
   rename_i a b c d hs;obtain⟨u1,e1,_,h1⟩:=Ct hs;obtain⟨u2,e2,_,h2⟩:=Ct h1;obtain⟨u3,e3,_,h3⟩:=Ct h2;obtain⟨e4,_⟩:=Jm h3;split at h
   ·
    rename_i na nb nc nd ha hb hc hd;obtain⟨ea,la⟩:=jN.1 ha;obtain⟨eb,lb⟩:=jN.1 hb;obtain⟨ec,lc⟩:=jN.1 hc;obtain⟨ed,ld⟩:=jN.1 hd;obtain rfl:=atl h;refine⟨Ph.2 fun i h1 h2=>?_,?_⟩
    ·
     rw[yJ la lb lc ld h2,if_neg (by omega),if_neg (by omega),if_neg (by omega),if_neg (by omega)]
    rw[sM,yJ la lb lc ld (by decide),yJ la lb lc ld (by decide),yJ la lb lc ld (by decide),yJ la lb lc ld (by decide)];simp only[if_true,Nat.one_ne_zero,if_false,(by decide:(2:Nat)≠0),(by decide:(2:Nat)≠1),(by decide:(3:Nat)≠0),(by decide:(3:Nat)≠1),(by decide:(3:Nat)≠2)];rw[e1,e2,e3,e4,ea,eb,ec,ed]
   cases h
  cases h
 rintro⟨h,rfl⟩;have hn: ∀n,(46:UInt8)∉dec n:=fun n=>vz (by decide);have hs:ba 46 (sM k)=[dec (bf k 0),dec (bf k 1),dec (bf k 2),dec (bf k 3)]:=by
  rw[sM,sI (hn _),sI (hn _),sI (hn _),Ae (hn _)]
 have hl: ∀i,bf k i<=255:=fun i=>by have:=jC k i;omega
 have e:kZ (sM k)=some (four (bf k 0) (bf k 1) (bf k 2) (bf k 3)):=by
  unfold kZ;rw[hs];simp only[ub (hl _)]
 rw[e];refine congrArg some (uc fun i hi=>?_);rw[yJ (hl _) (hl _) (hl _) (hl _) hi];rcases atA i 4 with h4|h4
 ·
  have:i=0\/i=1\/i=2\/i=3:=by omega
  rcases this with rfl|rfl|rfl|rfl<;>simp
 rw[if_neg (by omega),if_neg (by omega),if_neg (by omega),if_neg (by omega),Ph.1 h i h4 hi]
theorem Jt(k:Key){i:Nat}(h:i<32):(ot k)[i]? =some (jP (ic k i)):=by simp[ot,h]
theorem Cy(k:Key):(ot k).length=32:=by simp[ot]
theorem Pk(k:Key){i:Nat}(h:i<32):lQ (ot k) i=ic k i:=by
 unfold lQ;rw[List.getD,Jt k h,avb,(Fs (Cx k i)).2 rfl];rfl
theorem Zc(k:Key):Fu (ot k)=true:=by
 unfold Fu ot;rw[List.all_map,aty];intro i _;simp only[Function.comp];rw[(Fs (Cx k i)).2 rfl];rfl
theorem Pm:nK s=some k↔s=ot k:=by
 constructor
 ·
  intro h;unfold nK at h;split at h
  ·
   rename_i h1;obtain⟨hl,ha⟩:=h1;obtain rfl:=atl h;have hh: ∀i,i<32-> ∃n,n<16/\s[i]? =some (jP n)/\lQ s i=n:=fun i hi=>by
    have fg:i<s.length:=by omega
    have hm:s[i]? =some (s.getD i 0):=by simp[List.getD,fg]
    have:=aty.1 ha _ (alM hm);obtain⟨n,hn⟩:=at6.1 this;have bn:=Js hn;exact⟨n,bn,by rw[hm,(Fs bn).1 hn],by rw[lQ,hn];rfl⟩
   have hb: ∀j,j<16->bf (Ai s) j=16*lQ s (2*j)+lQ s (2*j+1):=fun j hj=>by
    obtain⟨n,h1,_,h2⟩:=hh (2*j) (by omega);obtain⟨m,h3,_,h4⟩:=hh (2*j+1) (by omega);rw[Ai,ud _ _ hj];omega
   refine auz fun i=>?_;rcases atA i 32 with hi|hi
   ·
    obtain⟨n,h1,h2,h3⟩:=hh i hi;rw[h2,Jt _ hi];have hn:ic (Ai s) i=n:=by
     unfold ic;rw[hb (i/2) (by omega)];have wY:=fun j (hj:j<32)=>hh j hj;split
     ·
      rename_i he;obtain⟨m,h5,_,h6⟩:=hh (2*(i/2)+1) (by omega);rw[show 2*(i/2)=i by omega,h3,show i+1=2*(i/2)+1 by omega,h6];omega
     rename_i he;obtain⟨m,h5,_,h6⟩:=hh (2*(i/2)) (by omega);rw[show 2*(i/2)+1=i by omega,h3,h6];omega
    rw[hn]
   rw[atB (by omega),atB (by rw[Cy];omega)]
  cases h
 rintro rfl;unfold nK;rw[if_pos ⟨Cy k,Zc k⟩];congr 1;refine uc fun j hj=>?_;rw[Ai,ud _ _ hj,Pk k (by omega),Pk k (by omega)];have hb:=jC k j;have e1:ic k (2*j)=bf k j/16:=by unfold ic;rw[if_pos (by omega),show 2*j/2=j by omega]
 have e2:ic k (2*j+1)=bf k j%16:=by unfold ic;rw[if_neg (by omega),show(2*j+1)/2=j by omega]
 rw[e1,e2];omega
theorem Pn(k:Key){c:UInt8}(hc:kY c=none):c∉ot k:=fun h=>by
 obtain⟨i,_,hi⟩:=auq.1 h;exact Zb (Cx k i) hc hi
theorem Zd(k:Key):kZ (ot k)=none:=by
 unfold kZ;rw[Ae (Pn k (by decide))]
theorem Cz{b:Int}:nL s=some (k,b)↔bm ⟨b,b,k⟩=true/\s=qS k b:=by
 rw[vB];simp only;constructor
 ·
  intro h;unfold nL at h;split at h
  ·
   rename_i k' hk;obtain⟨rfl,rfl⟩:=Prod.mk.inj (atl h);obtain⟨h1,h2⟩:=Pj.1 hk;exact⟨⟨.inl rfl,by decide,aul _,h1⟩,by rw[qS,if_pos rfl];exact h2⟩
  obtain⟨k',hk,he⟩:=au1.1 h;obtain⟨rfl,rfl⟩:=Prod.mk.inj he;exact⟨⟨.inr rfl,by decide,aul _,O6 _ _ (aul _)⟩,by rw[qS,if_neg (by decide)];exact Pm.1 hk⟩
 rintro⟨⟨h1,_,_,h2⟩,rfl⟩;rcases h1 with rfl|rfl
 ·
  rw[qS,if_pos rfl,nL,Pj.2 ⟨h2,rfl⟩]
 rw[qS,if_neg (by decide),nL,Zd,Pm.2 rfl];rfl
def sN(p:cH):aH:=qS p.key p.bits++47::dec p.len.toNat
def lR(s:aH):Option cH:=match ba 47 s with
 |[a,b]=>match nL a,bD b 128 with
  |some (k,bits),some n=>if bm ⟨bits,(n:Int),k⟩=true then some ⟨bits,(n:Int),k⟩else none
  |_,_=>none
 |_=>none
theorem Ju{k:Key}{b:Int}{c:UInt8}(h1:kY c=none)(h2:c≠46)(h3:lP c=false):c∉qS k b:=by
 unfold qS;split
 ·
  unfold sM;have hn: ∀n,c∉dec n:=fun n=>vz h3;simp[hn,h2]
 exact Pn k h1
theorem Ze{p:cH}(h:bm p=true):bm ⟨p.bits,p.bits,p.key⟩=true:=by
 obtain⟨h1,h2,h3,h4⟩:=(vB p).1 h;refine(vB _).2 ⟨h1,by simp only;omega,aul _,?_⟩;show ff p.key p.bits=p.key
 conv=>lhs;rw[←h4]
 rw[Y2,show min p.len p.bits=p.len by omega,h4]
theorem Fv{p:cH}:lR s=some p↔bm p=true/\s=sN p:=by
 constructor
 ·
  intro h;unfold lR at h;split at h
  ·
   rename_i a b hs;obtain⟨u,e1,_,h1⟩:=Ct hs;obtain⟨e2,_⟩:=Jm h1;split at h
   ·
    rename_i k bits n hk hn;split at h
    ·
     rename_i hm;obtain rfl:=atl h;refine⟨hm,?_⟩;obtain⟨_,ek⟩:=Cz.1 hk;obtain⟨en,_⟩:=jN.1 hn;rw[sN,e1,e2,ek,en];rfl
    cases h
   cases h
  cases h
 rintro⟨hm,rfl⟩;obtain⟨h1,h2,h3,h4⟩:=(vB p).1 hm;unfold lR;rw[sN,sI (Ju (by decide) (by decide) (by decide)),Ae (vz (by decide))];simp only[Cz.2 ⟨Ze hm,rfl⟩];rw[ub (by rcases h1 with h|h<;>omega)]
 have e:(⟨p.bits,((p.len.toNat:Nat):Int),p.key⟩:cH)=p:=by
  obtain⟨b,l,k⟩:=p;simp only at h2⊢;rw[aun h2]
 simp only[e,hm,if_true]
def yK(r:Rt):aH:=sN r.p++32::dec r.dN.toNat
def qe(s:aH):Option Rt:=match ba 32 s with
 |[a,b]=>match lR a,bD b 65535 with
  |some p,some n=>some ⟨p,UInt16.ofNat n⟩
  |_,_=>none
 |_=>none
theorem Zf{p:cH}:(32:UInt8)∉sN p:=by
 unfold sN;rw[atu,atv];rintro(h|h|h)
 ·
  exact Ju (by decide) (by decide) (by decide) h
 ·
  cases h
 exact vz (by decide) h
theorem Po{r:Rt}:qe s=some r↔bm r.p=true/\s=yK r:=by
 constructor
 ·
  intro h;unfold qe at h;split at h
  ·
   rename_i a b hs;obtain⟨u,e1,_,h1⟩:=Ct hs;obtain⟨e2,_⟩:=Jm h1;split at h
   ·
    rename_i p n hp hn;obtain rfl:=atl h;obtain⟨hm,ep⟩:=Fv.1 hp;obtain⟨en,ln⟩:=jN.1 hn;refine⟨hm,?_⟩;rw[yK,e1,e2,ep,en];have:(UInt16.ofNat n).toNat=n:=by rw[UInt16.toNat_ofNat'];omega
    simp only[this]
   cases h
  cases h
 rintro⟨hm,rfl⟩;unfold qe;rw[yK,sI Zf,Ae (vz (by decide))];simp only[Fv.2 ⟨hm,rfl⟩];rw[ub (by have:=r.dN.toNat_lt;omega)];simp only[UInt16.ofNat_toNat]
variable {s:aH} {i n top:Nat} {c:UInt8}
def sO(c:UInt8):Int:=match kY c with
 |some n=>(n:Int)
 |none=> -1
def CA(s:aH)(top:Nat):Int:=match bD s top with
 |some n=>(n:Int)
 |none=> -1
theorem Pp(h:i<s.length):s.take (i+1)=s.take i++[s.getD i 0]:=by
 rw[List.take_succ_eq_append_getElem h];simp[List.getD,h]
theorem Fw(h:i<s.length):val (s.take (i+1))=10*val (s.take i)+((s.getD i 0).toNat -48):=by rw[Pp h,Fg]
theorem Pq(h:i<s.length)(h1:(s.take i).all lP=true)(h2:48<=(s.getD i 0).toNat/\(s.getD i 0).toNat<=57):(s.take (i+1)).all lP=true:=by
 rw[Pp h,List.all_append,h1];simp only[avl,avw,lP];simpa using h2
theorem Zg: ∀k (s:aH),s.length=k->s.all lP=true->val s<10^k:=by
 intro k
 induction k with
 |zero=>intro s hl _;rw[atJ.1 hl];simp[val]
 |succ k ih=>
  intro s hl hd;obtain⟨t,c,rfl⟩: ∃t c,s=t++[c]:=by
   rcases List.eq_nil_or_concat s with h|⟨t,c,h⟩
   ·
    subst h;simp at hl
   exact⟨t,c,by simpa using h⟩
  rw[List.all_append,ad2]at hd;have hc:48<=c.toNat/\c.toNat<=57:=by
   have:=hd.2;simpa[lP]using this
  have:=ih t (by simpa using hl) hd.1;rw[Fg,Nat.pow_succ];omega
theorem Zh(h:i<=5)(hi:i<=s.length)(h1:(s.take i).all lP=true):val (s.take i)<100000:=by
 have:=Zg i (s.take i) (by simp;omega) h1;exact au0 this (auR (by decide) h)
theorem Zi(a b:aH):val a<=val (a++b):=by
 have key: ∀(b:aH) (m:Nat),m<=b.foldl (fun a c=>10*a+(c.toNat -48)) m:=by
  intro b
  induction b with
  |nil=>intro m;exact att _
  |cons x b ih=>intro m;exact avU (show m<=10*m+(x.toNat -48) by omega) (ih _)
 unfold val;rw[avf];exact key b _
theorem Jv(h:0<s.length):s.head?=some (s.getD 0 0):=by
 cases s with
 |nil=>simp at h
 |cons x s=>rfl
theorem Zj(ht:top<=65535)(h:s.length=0\/5<s.length\/(1<s.length/\(s.getD 0 0).toNat=48)):bD s top=none:=by
 cases e:bD s top with
 |none=>rfl
 |some n=>
  obtain⟨rfl,hn⟩:=jN.1 e;have hl:=jB 5 n (by omega) (by decide);have hp:=Jk n;have h0:=auV.2 hp.1;rcases h with h|h|⟨h,h2⟩
  ·
   omega
  ·
   omega
  rcases hp.2 with h3|h3
  ·
   omega
  rw[Jv h0]at h3;exact absurd (congrArg some (avC.1 h2:(dec n).getD 0 0=48)) h3
theorem Zk(h:s=[]\/(1<s.length/\(s.getD 0 0).toNat=48)):bD s top=none:=by
 cases e:bD s top with
 |none=>rfl
 |some n=>
  obtain⟨rfl,hn⟩:=jN.1 e;have hp:=Jk n;have h0:=auV.2 hp.1;rcases h with h|⟨h,h2⟩
  ·
   exact absurd h hp.1
  rcases hp.2 with h3|h3
  ·
   omega
  rw[Jv h0]at h3;exact absurd (congrArg some (avC.1 h2:(dec n).getD 0 0=48)) h3
theorem Pr(h:i<s.length)(h2:(s.getD i 0).toNat<48\/57<(s.getD i 0).toNat):bD s top=none:=by
 cases e:bD s top with
 |none=>rfl
 |some n=>
  obtain⟨rfl,hn⟩:=jN.1 e;have:=aty.1 (Ji n) ((dec n).getD i 0) (by simp[List.getD,h]);simp only[lP,decide_eq_true_eq]at this;omega
theorem Ps(h:top<val (s.take i)):bD s top=none:=by
 cases e:bD s top with
 |none=>rfl
 |some n=>
  obtain⟨rfl,hn⟩:=jN.1 e;have:=Zi ((dec n).take i) ((dec n).drop i);rw[auc,Jj]at this;omega
theorem Pt(h:s≠[])(h1: ¬(1<s.length/\(s.getD 0 0).toNat=48))(h2:s.all lP=true)(h3:val s<=top):bD s top=some (val s):=by
 unfold bD;rw[if_pos];refine⟨h,?_,h2,h3⟩;have h0:=auV.2 h;rcases atA 1 s.length with h4|h4
 ·
  right;rw[Jv h0];intro e;exact h1 ⟨h4,by rw[atl e];rfl⟩
 exact .inl h4
end Go.Kb

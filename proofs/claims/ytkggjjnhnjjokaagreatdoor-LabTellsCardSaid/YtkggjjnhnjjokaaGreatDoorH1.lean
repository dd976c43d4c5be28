/- Laws and walks by which the law LabTells is proved, each with its own conditions. -/
import Derived.WalkKit
import Derived.Deep.Quiet
import Derived.RangeFuncRecord
import Derived.RangeFuncCalls
import Derived.OrdersIn
import Derived.StillTail
import Derived.Deep.MidRow
import Derived.Deep.AppendSrc
import Derived.Laws.Cover3
import Derived.Lib.ItoaNum
import Derived.Laws.DeepStrings4
import Derived.Lib.Strings
import Derived.Lib.SplitLaws
set_option maxRecDepth 20000
set_option linter.unusedSimpArgs false
set_option linter.unusedVariables false
theorem zz:type_of% @List.getElem?_eq_some_iff:=List.getElem?_eq_some_iff
theorem adr:type_of% @List.length_append:=List.length_append
theorem ad2:type_of% @List.length_cons:=List.length_cons
theorem af0:type_of% @Bool.and_eq_true:=Bool.and_eq_true
theorem alM:type_of% @List.length_nil:=List.length_nil
theorem atl:type_of% @List.mem_of_getElem?:=List.mem_of_getElem?
theorem at1:type_of% @Option.some.inj:=Option.some.inj
theorem at2:type_of% @List.getElem?_eq_getElem:=List.getElem?_eq_getElem
theorem at3:type_of% @List.length_take:=List.length_take
theorem at4:type_of% @List.append_assoc:=List.append_assoc
theorem at5:type_of% @Nat.le_refl:=Nat.le_refl
theorem at6:type_of% @List.take_add_one:=List.take_add_one
theorem at7:type_of% @List.mem_append:=List.mem_append
theorem aua:type_of% @List.getElem?_map:=List.getElem?_map
theorem aub:type_of% @List.getElem?_eq_none:=List.getElem?_eq_none
theorem auc:type_of% @List.mem_cons:=List.mem_cons
theorem aud:type_of% @Nat.lt_or_ge:=Nat.lt_or_ge
theorem aue:type_of% @List.all_eq_true:=List.all_eq_true
theorem auf:type_of% @List.getElem?_append_right:=List.getElem?_append_right
theorem aug:type_of% @List.take_of_length_le:=List.take_of_length_le
theorem auh:type_of% @List.length_drop:=List.length_drop
theorem aui:type_of% @List.mem_cons_of_mem:=List.mem_cons_of_mem
theorem auj:type_of% @Nat.mul_le_mul_right:=Nat.mul_le_mul_right
theorem auk:type_of% @List.getElem?_set_self:=List.getElem?_set_self
theorem aul:type_of% @List.getElem?_of_mem:=List.getElem?_of_mem
theorem aum:type_of% @List.map_cons:=List.map_cons
theorem aun:type_of% @List.length_eq_zero_iff:=List.length_eq_zero_iff
theorem auo:type_of% @Nat.zero_le:=Nat.zero_le
theorem aup:type_of% @List.take_length:=List.take_length
theorem auq:type_of% @List.mem_map_of_mem:=List.mem_map_of_mem
theorem aur:type_of% @List.length_map:=List.length_map
theorem aus:type_of% @List.getElem?_append_left:=List.getElem?_append_left
theorem aut:type_of% @Classical.byContradiction:=Classical.byContradiction
theorem auu:type_of% @Array.getElem?_eq_none:=Array.getElem?_eq_none
theorem auv:type_of% @List.map_append:=List.map_append
theorem auw:type_of% @List.take_zero:=List.take_zero
theorem auy:type_of% @List.mem_append_left:=List.mem_append_left
theorem auz:type_of% @Nat.add_mul:=Nat.add_mul
theorem auA:type_of% @List.length_set:=List.length_set
theorem auB:type_of% @List.mem_range:=List.mem_range
theorem auC:type_of% @List.mem_filter:=List.mem_filter
theorem auD:type_of% @List.mem_cons_self:=List.mem_cons_self
theorem auE:type_of% @Option.isSome_iff_exists:=Option.isSome_iff_exists
theorem auF:type_of% @List.getElem?_set_ne:=List.getElem?_set_ne
theorem auG:type_of% @List.mem_or_eq_of_mem_set:=List.mem_or_eq_of_mem_set
theorem auH:type_of% @Bool.false_eq_true:=Bool.false_eq_true
theorem auI:type_of% @Option.map_some:=Option.map_some
theorem auJ:type_of% @Nat.mod_eq_of_lt:=Nat.mod_eq_of_lt
theorem auK:type_of% @List.mem_singleton:=List.mem_singleton
theorem auL:type_of% @Nat.zero_add:=Nat.zero_add
theorem auM:type_of% @Nat.add_sub_cancel_left:=Nat.add_sub_cancel_left
theorem auN:type_of% @Array.getElem?_setIfInBounds:=Array.getElem?_setIfInBounds
theorem auO:type_of% @List.take_append_drop:=List.take_append_drop
theorem auP:type_of% @Array.size_append:=Array.size_append
theorem auQ:type_of% @List.length_replicate:=List.length_replicate
theorem auR:type_of% @Array.all_eq_true_iff_forall_mem:=Array.all_eq_true_iff_forall_mem
theorem auS:type_of% @List.nil_append:=List.nil_append
theorem auT:type_of% @List.append_nil:=List.append_nil
theorem auU:type_of% @Int.toNat_of_nonneg:=Int.toNat_of_nonneg
theorem auV:type_of% @List.pairwise_cons:=List.pairwise_cons
theorem auW:type_of% @Array.getElem?_append_left:=Array.getElem?_append_left
theorem auX:type_of% @List.sublist_cons_self:=List.sublist_cons_self
theorem auY:type_of% @Int.le_refl:=Int.le_refl
theorem auZ:type_of% @Int.ediv_eq_zero_of_lt:=Int.ediv_eq_zero_of_lt
theorem au0:type_of% @List.size_toArray:=List.size_toArray
theorem au1:type_of% @List.getElem?_set:=List.getElem?_set
theorem au2:type_of% @Bool.true_and:=Bool.true_and
theorem au3:type_of% @List.nil_sublist:=List.nil_sublist
theorem au4:type_of% @List.map_nil:=List.map_nil
theorem au5:type_of% @Bool.not_eq_true':=Bool.not_eq_true'
theorem au6:type_of% @List.ext_getElem?:=List.ext_getElem?
theorem au7:type_of% @Bool.false_ne_true:=Bool.false_ne_true
theorem au8:type_of% @Array.ext_getElem?:=Array.ext_getElem?
theorem au9:type_of% @List.filter_cons:=List.filter_cons
theorem ava:type_of% @List.mem_map:=List.mem_map
theorem avb:type_of% @Int.toNat_natCast:=Int.toNat_natCast
theorem avc:type_of% @Bool.or_eq_true:=Bool.or_eq_true
theorem avd:type_of% @List.getElem?_drop:=List.getElem?_drop
theorem ave:type_of% @List.take_succ_cons:=List.take_succ_cons
theorem avf:type_of% @List.map_congr_left:=List.map_congr_left
theorem avg:type_of% @List.drop_zero:=List.drop_zero
theorem avh:type_of% @Int.add_mul_ediv_right:=Int.add_mul_ediv_right
theorem avi:type_of% @List.range_succ:=List.range_succ
theorem avj:type_of% @List.filter_append:=List.filter_append
theorem avk:type_of% @Nat.add_zero:=Nat.add_zero
theorem avl:type_of% @List.contains_iff_mem:=List.contains_iff_mem
theorem avm:type_of% @List.cons_append:=List.cons_append
theorem avn:type_of% @List.flatten_cons:=List.flatten_cons
theorem avo:type_of% @List.set_cons_zero:=List.set_cons_zero
theorem avp:type_of% @List.mem_append_right:=List.mem_append_right
theorem avq:type_of% @List.foldl_cons:=List.foldl_cons
theorem avr:type_of% @Nat.pow_le_pow_right:=Nat.pow_le_pow_right
theorem avs:type_of% @Nat.mul_comm:=Nat.mul_comm
theorem avt:type_of% @Int.add_sub_cancel:=Int.add_sub_cancel
theorem avu:type_of% @List.getElem?_toArray:=List.getElem?_toArray
theorem avv:type_of% @List.mem_iff_getElem?:=List.mem_iff_getElem?
theorem avw:type_of% @List.getElem?_range:=List.getElem?_range
theorem avx:type_of% @List.length_pos_iff:=List.length_pos_iff
theorem avy:type_of% @Nat.add_assoc:=Nat.add_assoc
theorem avz:type_of% @Option.some.injEq:=Option.some.injEq
theorem avA:type_of% @List.pairwise_iff_getElem:=List.pairwise_iff_getElem
theorem avB:type_of% @Nat.lt_of_lt_of_le:=Nat.lt_of_lt_of_le
theorem avC:type_of% @Option.map_eq_some_iff:=Option.map_eq_some_iff
theorem avD:type_of% @List.drop_succ_cons:=List.drop_succ_cons
theorem avE:type_of% @Bool.and_self:=Bool.and_self
theorem avF:type_of% @Array.getElem?_eq_some_iff:=Array.getElem?_eq_some_iff
theorem avG:type_of% @Int.mul_nonneg:=Int.mul_nonneg
theorem avH:type_of% @BitVec.toNat_ofNat:=BitVec.toNat_ofNat
theorem avI:type_of% @Nat.lt_of_le_of_lt:=Nat.lt_of_le_of_lt
theorem avJ:type_of% @List.getElem?_take:=List.getElem?_take
theorem avK:type_of% @Bool.true_eq_false:=Bool.true_eq_false
theorem avL:type_of% @List.getElem_mem:=List.getElem_mem
theorem avM:type_of% @Option.getD_some:=Option.getD_some
theorem avN:type_of% @List.all_toArray:=List.all_toArray
theorem avO:type_of% @List.not_mem_nil:=List.not_mem_nil
theorem avP:type_of% @List.nodup_append:=List.nodup_append
theorem avQ:type_of% @List.foldl_append:=List.foldl_append
theorem avR:type_of% @Nat.lt_trans:=Nat.lt_trans
theorem avS:type_of% @List.set_append_right:=List.set_append_right
theorem avT:type_of% @Int.add_comm:=Int.add_comm
theorem avU:type_of% @List.mem_of_mem_take:=List.mem_of_mem_take
theorem avV:type_of% @Nat.mod_lt:=Nat.mod_lt
theorem avW:type_of% @List.all_cons:=List.all_cons
theorem avX:type_of% @Nat.sub_self:=Nat.sub_self
theorem avY:type_of% @Int.zero_add:=Int.zero_add
theorem avZ:type_of% @Bool.not_false:=Bool.not_false
theorem av0:type_of% @List.drop_drop:=List.drop_drop
theorem av1:type_of% @Array.length_toList:=Array.length_toList
theorem av2:type_of% @List.drop_eq_getElem_cons:=List.drop_eq_getElem_cons
theorem av3:type_of% @Int.ediv_nonneg:=Int.ediv_nonneg
theorem av4:type_of% @Int.emod_nonneg:=Int.emod_nonneg
theorem av5:type_of% @Nat.eq_zero_or_pos:=Nat.eq_zero_or_pos
theorem av6:type_of% @List.perm_middle:=List.perm_middle
theorem av7:type_of% @List.all_nil:=List.all_nil
theorem av8:type_of% @Int.emod_lt_of_pos:=Int.emod_lt_of_pos
theorem av9:type_of% @Nat.mul_one:=Nat.mul_one
theorem awa:type_of% @List.pairwise_append:=List.pairwise_append
theorem awb:type_of% @List.nodup_cons:=List.nodup_cons
theorem awc:type_of% @List.filter_nil:=List.filter_nil
theorem awd:type_of% @Array.getElem?_append_right:=Array.getElem?_append_right
theorem awe:type_of% @List.map_set:=List.map_set
theorem awf:type_of% @List.drop_length:=List.drop_length
theorem awg:type_of% @List.set_cons_succ:=List.set_cons_succ
theorem awh:type_of% @List.append_of_mem:=List.append_of_mem
theorem awi:type_of% @List.length_filter_le:=List.length_filter_le
theorem awj:type_of% @Bool.and_false:=Bool.and_false
theorem awk:type_of% @List.mem_of_find?_eq_some:=List.mem_of_find?_eq_some
theorem awl:type_of% @Nat.min_eq_left:=Nat.min_eq_left
theorem awm:type_of% @UInt8.toNat_inj:=UInt8.toNat_inj
theorem awn:type_of% @Bool.eq_iff_iff:=Bool.eq_iff_iff
theorem awo:type_of% @List.set_set:=List.set_set
theorem awp:type_of% @UInt16.toNat_lt:=UInt16.toNat_lt
theorem awq:type_of% @List.getElem?_replicate:=List.getElem?_replicate
theorem awr:type_of% @List.take_set_of_le:=List.take_set_of_le
theorem aws:type_of% @List.filter_sublist:=List.filter_sublist
theorem awt:type_of% @Bool.false_and:=Bool.false_and
theorem awu:type_of% @Nat.le_trans:=Nat.le_trans
theorem awv:type_of% @Int.add_mul_emod_self_right:=Int.add_mul_emod_self_right
theorem aww:type_of% @Nat.div_add_mod:=Nat.div_add_mod
theorem awx:type_of% @List.cons.injEq:=List.cons.injEq
theorem awy:type_of% @List.getD_eq_getElem?_getD:=List.getD_eq_getElem?_getD
theorem awz:type_of% @List.sum_cons:=List.sum_cons
theorem awA:type_of% @Int.ediv_neg_of_neg_of_pos:=Int.ediv_neg_of_neg_of_pos
theorem awB:type_of% @List.flatMap_cons:=List.flatMap_cons
theorem awC:type_of% @Int.emod_eq_of_lt:=Int.emod_eq_of_lt
theorem awD:type_of% @List.mem_of_mem_drop:=List.mem_of_mem_drop
theorem awE:type_of% @Array.ext':=Array.ext'
theorem awF:type_of% @List.contains_eq_mem:=List.contains_eq_mem
theorem awG:type_of% @UInt8.toNat_lt:=UInt8.toNat_lt
theorem awH:type_of% @Nat.add_comm:=Nat.add_comm
theorem awI:type_of% @Option.bind_some:=Option.bind_some
theorem awJ:type_of% @List.map_map:=List.map_map
theorem awK:type_of% @Array.all_append:=Array.all_append
theorem awL:type_of% @List.getElem_of_mem:=List.getElem_of_mem
theorem awM:type_of% @List.replicate_succ:=List.replicate_succ
theorem awN:type_of% @Array.toList_append:=Array.toList_append
theorem awO:type_of% @List.eraseIdx_cons_succ:=List.eraseIdx_cons_succ
theorem awP:type_of% @Bool.false_or:=Bool.false_or
theorem awQ:type_of% @Nat.xor_lt_two_pow:=Nat.xor_lt_two_pow
theorem awR:type_of% @Option.toList_some:=Option.toList_some
theorem awS:type_of% @List.sum_append:=List.sum_append
theorem awT:type_of% @List.drop_eq_nil_of_le:=List.drop_eq_nil_of_le
theorem awU:type_of% @Nat.le_succ:=Nat.le_succ
theorem awV:type_of% @List.length_range:=List.length_range
theorem awW:type_of% @Classical.not_not:=Classical.not_not
theorem awX:type_of% @Int.mul_le_mul:=Int.mul_le_mul
theorem awY:type_of% @List.mem_reverse:=List.mem_reverse
theorem awZ:type_of% @List.flatten_nil:=List.flatten_nil
theorem aw0:type_of% @Prod.mk.injEq:=Prod.mk.injEq
namespace Go.ax
open Go.RowKit
structure ai where
 fp:Nat->Prop
 sat:(Nat->Option Obj)->Prop
 loc: ∀h h':Nat->Option Obj,(∀k,fp k->h' k=h k)->sat h->sat h'
def aq(b:Nat)(cs:Array Value)(T:TypeId):ai:=⟨fun k=>k=b,fun h=>h b=some (.cells cs T (0,0)),fun _ _ e s=>by rw[e b rfl];exact s⟩
structure Mem(w0:World)(L:List ai)(w:World):Prop where
 below:Below w0.heap.size w0 w
 sat: ∀e∈L,e.sat fun k=>w.heap[k]?
 kl: ∀e∈L,∀k,e.fp k->w0.heap.size<=k/\k<w.heap.size
 qi:L.Pairwise fun a b=> ∀k,a.fp k-> ¬b.fp k
theorem Mem.init(w:World):Mem w [] w:=⟨Below.refl _ _,by simp,by simp,by simp⟩
theorem Mem.B5{w w':World}(h:Below w.heap.size w w'):Mem w [] w':=⟨h,by simp,by simp,by simp⟩
variable {w0:World}{L:List ai}
theorem Mem.le{w:World}(h:Mem w0 L w):w0.heap.size<=w.heap.size:=h.below.size
theorem Mem.call{w0:World}{L E:List ai}{w w':World}(h:Mem w0 L w)(h':Mem w E w'):Mem w0 (E++L) w':=by
 refine⟨h.below.trans (h'.below.mono h.le),fun e he=>?_,fun e he k hk=>?_,?_⟩
 ·
  rcases at7.1 he with he|he
  ·exact h'.sat e he
  exact e.loc _ _ (fun k hk=>h'.below.block k (h.kl e he k hk).2) (h.sat e he)
 ·
  rcases at7.1 he with he|he
  ·have:=h'.kl e he k hk;have:=h.le;omega
  have:=h.kl e he k hk;have:=h'.below.size;omega
 refine awa.2 ⟨h'.qi,h.qi,fun a ha b hb k hk kJ=>?_⟩;have:=h'.kl a ha k hk;have:=h.kl b hb k kJ;omega
theorem Mem.step{w w':World}(h:Mem w0 L w)(h':Below w.heap.size w w'):Mem w0 L w':=h.call (E:=[]) (.B5 h')
theorem Mem.drew{w:World}(h:Mem w0 L w):Mem w0 L w.drew:=h.step ((Below.refl _ _).drew)
theorem Mem.EP{w:World}(h:Mem w0 L w):Mem w0 L {w with drawn:=w.drawn+1}:=h.step ((Below.refl _ _).drew)
theorem Mem.sub{w0:World}{L L':List ai}{w:World}(h:Mem w0 L w)(s:L'.Sublist L):Mem w0 L' w:=
 ⟨h.below,fun e he=>h.sat e (s.subset he),fun e he=>h.kl e (s.subset he),h.qi.sublist s⟩
theorem Mem.perm{w0:World}{L L':List ai}{w:World}(h:Mem w0 L w)(s:L.Perm L'):Mem w0 L' w:=
 ⟨h.below,fun e he=>h.sat e (s.mem_iff.2 he),fun e he=>h.kl e (s.mem_iff.2 he),s.pairwise h.qi (fun ER k hk kJ=>ER k kJ hk)⟩
theorem Mem.get{w:World}(h:Mem w0 L w){i:Nat}{e:ai}(hi:L[i]? =some e):e.sat fun k=>w.heap[k]? :=h.sat e (atl hi)
theorem Below.B6(w:World)(o:Obj):(w.alloc o).heap[w.heap.size]? =some o:=by
 show(w.heap.push o)[w.heap.size]? =some o;simp
theorem Mem.alloc{w:World}(h:Mem w0 L w)(cs:Array Value)(T:TypeId):Mem w0 (aq w.heap.size cs T::L) (w.alloc (.cells cs T)):=by
 refine h.call (E:=[aq w.heap.size cs T]) ⟨(Below.refl _ _).alloc (at5 _) _,fun e he=>?_,fun e he k hk=>?_,by simp⟩
 ·simp at he;subst he;exact Below.B6 w _
 simp at he;subst he;have:k=w.heap.size:=hk;subst this;simp
theorem Mem.change{w w':World}(h:Mem w0 L w){i:Nat}{e e':ai}(hi:L[i]? =some e)(vu: ∀k,e'.fp k->e.fp k)
  (hB: ∀k,¬e.fp k->w'.heap[k]? =w.heap[k]?) (hs:w'.heap.size=w.heap.size) (ho:w'.os=w.os/\w'.tape=w.tape/\w'.output=w.output)
  (I5:e'.sat fun k=>w'.heap[k]?):Mem w0 (L.set i e') w':=by
 have ES:i<L.length:=by
  rcases aud i L.length with h'|h'
  ·exact h'
  ·simp[aub h']at hi
 have ET:L[i]=e:=by simpa[at2 ES]using hi
 have OD:e∈L:=ET▸avL ES;refine⟨⟨ho.1.trans h.below.os,ho.2.1.trans h.below.tape,ho.2.2.trans h.below.output,hs▸h.below.size,fun k hk=>?_⟩,fun x hx=>?_,fun x hx k hk=>?_,?_⟩
 ·rw[hB k (fun hf=>by have:=h.kl e OD k hf;omega)];exact h.below.block k hk
 ·
  obtain⟨j,hj,rM⟩:=awL hx;rw[List.getElem_set]at rM;split at rM
  ·subst rM;exact I5
  ·
   rename_i bN;have km:j<L.length:=by simpa using hj
   subst rM;have hd:=h.qi;rw[avA]at hd;refine(L[j]).loc _ _ (fun k hk=>hB k (fun hf=>?_)) (h.sat _ (avL km));rw[←ET]at hf;rcases Nat.lt_or_gt_of_ne bN with bq|bq
   ·exact hd i j ES km bq k hf hk
   ·exact hd j i km ES bq k hk hf
 ·
  rw[hs];obtain⟨j,hj,rM⟩:=awL hx;rw[List.getElem_set]at rM;split at rM
  ·subst rM;exact h.kl e OD k (vu k hk)
  ·subst rM;exact h.kl _ (avL _) k hk
 ·
  rw[avA];intro p q hp hq zW k hk kJ;have hd:=h.qi;rw[avA]at hd;rw[List.getElem_set]at hk kJ;have cf:p<L.length:=by simpa using hp
  have yD:q<L.length:=by simpa using hq
  have:=hd p q cf yD zW k;split at hk<;>split at kJ
  ·omega
  ·rename_i h1 h2;subst h1;exact this (by rw[ET];exact vu k hk) kJ
  ·rename_i h1 h2;subst h2;exact this hk (by rw[ET];exact vu k kJ)
  ·exact this hk kJ
theorem Mem.cell{w:World}(h:Mem w0 L w){i b:Nat}{cs:Array Value}{T:TypeId}(hi:L[i]? =some (aq b cs T))(o:Nat):w.cell? ⟨b,o,none⟩=cs[o]? :=by
 have:w.heap[b]? =some (.cells cs T (0,0)):=h.get hi;simp[World.cell?,this]
theorem Mem.block{w:World}(h:Mem w0 L w){i b:Nat}{cs:Array Value}{T:TypeId}(hi:L[i]? =some (aq b cs T)):w.heap[b]? =some (.cells cs T (0,0)):=h.get hi
theorem Mem.setRow{w:World}(h:Mem w0 L w){i b:Nat}{cs:Array Value}{T:TypeId}(hi:L[i]? =some (aq b cs T))(cs':Array Value):Mem w0 (L.set i (aq b cs' T)) (w.setRow b cs'):=by
 have hb:=h.block hi;refine h.change hi (fun k hk=>hk) (fun k hk=>?_) (by simp[World.setRow]) ⟨rfl,rfl,rfl⟩ ?_
 ·exact setRow_other w b k cs' (fun e=>hk e)
 exact setRow_heap w b cs cs' T (0,0) hb
def ni(ro:Option Nat):Fence:={fn:=fun _=>True,depth:=none,alive:=false,round:=ro}
def qT(l:List Oper):Bool:=l.all fun o=>match o.op with
 | .defer _=>false
 |_=>true
theorem OE{l:List Oper}(h:qT l=true){i:Nat}{o:Oper}(hi:l.toArray[i]? =some o): ∀c,o.op≠ .defer c:=fun c e=>by
 have hm:o∈l:=by simpa using Array.mem_of_getElem? hi
 have:=aue.1 h o hm;rw[e]at this;cases this
class lg(Q:Exit->Act->World->Prop):Prop where
 h: ∀a w,¬Q .outgrown a w
instance lg.then{K:Act->World->Prop}{Q:Exit->Act->World->Prop}[q:lg Q]:lg (Exit.then K Q):=⟨fun a w h=>q.h a w h⟩
instance lg.block{id:Nat}{Q:Exit->Act->World->Prop}[q:lg Q]:lg (Exit.inBlock id Q):=⟨fun a w h=>q.h a w h⟩
variable {P:Program} {ro:Option Nat}
theorem Yh{f:FuncId}{args:Array Value}{w:World}{R:Ending->World->Prop}(h:Calls P f args w R):CallsIn (ni ro) 0 P f args w R:=by
 have h':CallsIn Fence.wide 0 P f args w R:=callsIn_wide.2 h
 cases ro with
 |none=>exact h'
 |some l=>exact h'.inRound l
theorem Yi{row:String}{args:Array Value}{w:World}{R:Value->World->Prop}(h:Rows P row args w R):RowsIn (ni ro) 0 P row args w R:=fun c cs _=>by
 obtain⟨v,w',hR,hs⟩:=h c cs;refine⟨v,w',hR,?_⟩;have h':StepsIn (Machine.fenced P Fence.wide) P _ _:=stepsIn_wide.2 hs;exact h'
theorem Yj{o:Oper}{a:Act}{w:World}{K:Act->World->Prop}{Q:Exit->Act->World->Prop}(cL: ∀c,o.op≠ .defer c)(h:o.wp P a w K Q):o.wpIn (ni ro) 0 P a w K Q:=by
 refine⟨fun _ _=>trivial,?_⟩;rw[Oper.semAt_eq _ _ _ cL];unfold Oper.wp at h;generalize(execOp a.eval o).run P w=r at h⊢;unfold Oper.upon at h;unfold Oper.uponIn;split at h
 ·exact h
 ·exact h
 ·exact h
 ·exact⟨fun e=>(by cases e),Yh h⟩
 ·exact⟨fun e=>(by cases e),Yi h⟩
 ·exact h
 exact h.elim
theorem B7{ops:Array Oper}{Q:Exit->Act->World->Prop}[q:lg Q](cL: ∀(i:Nat) (o:Oper),ops[i]? =some o-> ∀c,o.op≠ .defer c): ∀(l:List Nat) (a:Act) (w:World),wpOps P ops Q l a w->wpOpsIn (ni ro) 0 P ops Q l a w
 |[],_,_,h=>h
 |i::rest,a,w,h=>by
  unfold wpOps at h;unfold wpOpsIn;split at h
  ·rename_i ho;simp only[ho];exact B7 cL rest a w h
  rename_i o ho;simp only[ho];split at h
  ·
   rename_i hw;rw[if_pos hw];rcases h with h|⟨_,a',w',h⟩
   ·exact Oper.wpIn_mono (fun a w h=>B7 cL rest a w h) (Yj (cL i o ho) h)
   exact absurd h (q.h a' w')
  rename_i hw;rw[if_neg hw];exact⟨fun _ _=>trivial,B7 cL rest _ w h⟩
theorem Yk{id:Nat}{l:List Oper}{Q:Exit->Act->World->Prop}{a:Act}{w:World}[lg Q](cL:qT l=true)(h:wpList P l.toArray Q l a w):(Code.region id l.toArray false).wpIn (ni ro) 0 P Q a w:=
 wpIn_region (B7 (fun _ _ hi=>OE cL hi) _ a w (by rw[List.range_eq_range',←av1,wpOps_eq_wpList l.toArray.toList 0 (by simp)];exact h))
theorem I6{id:Nat}{l:List Oper}{Q:Exit->Act->World->Prop}{a:Act}{w:World}[lg Q](cL:qT l=true)(hm:P.follows .mixedOrders=true)
  (h:wpAny P .any l.toArray Q l.toArray.size (Array.replicate l.toArray.size false) a {w with drawn:=w.drawn+1}):(Code.region id l.toArray true).wpIn (ni ro) 0 P Q a w:=
 wpIn_region_draw fun t=>B7 (fun _ _ hi=>OE cL hi) _ a _ (by
  simp only[Region.schedule,hm,Bool.true_or,if_true];exact wpAny_sound l.toArray.size t _ a _ h)
theorem Ym{id:Nat}{l:List Oper}{C:World->Prop}{Q:Exit->Act->World->Prop}{a:Act}{w:World}[lg Q](cL:qT l=true)(hm:P.follows .mixedOrders=true)(hB:Region.lexB .any l.toArray=true)(hC:C {w with drawn:=w.drawn+1})
  (h:wpQuiet P l.toArray C (fun a'=> ∀w',C w'->Q .normal a' w') l a):(Code.region id l.toArray true).wpIn (ni ro) 0 P Q a w:=by
 simp only[Region.lexB,af0]at hB;refine I6 cL hm (wpAny_of_quiet (Q:=fun a'=> ∀w',C w'->Q .normal a' w') (fun _ w' hK h=>h w' hK) _ _ _ _ hC ?_);have:=wpAnyQ_lex (C:=C) (md:= .any) hB.1 l 0 (Array.replicate l.toArray.size false) a (by simp) (by simpa using hB.2) h;simpa using this
def mark(D:Nat):Deferred:={target:= .collected D,args:= #[]}
def sN(P:Program)(fn:Func)(R:Ending->World->Prop):Exit->Act->World->Prop:=fun e a w=>(e= .normal\/e= .ret)/\bodyPostM (ni none) 0 P fn R e a w
instance lg.end{fn:Func}{R:Ending->World->Prop}:lg (sN P fn R):=⟨fun a w h=>by rcases h.1 with h|h<;>cases h⟩
theorem OF{f:FuncId}{fn:Func}{c:Code}{args:Array Value}{w:World}{R:Ending->World->Prop}(hf:P.funcs[f]? =some fn)(hb:fn.body=some c)
  (h:c.wpIn (ni none) 0 P (sN P fn R) {tmps:=args++Array.replicate (fn.ntmps -args.size) undef,defers:=[]} w):Calls P f args w R:=
 callsIn_wide.1 (callsIn_of_wp_marks (F:=ni none) (n:=0) hf hb trivial (wpIn_mono h fun _ _ _ h=>h.2))
section
variable {P:Program} {l:List Oper} {C:World->Prop} {Q:Exit->Act->World->Prop} {n:Nat} {fs:List Nat}
def fr(l:List Oper)(fs:List Nat)(v:Nat->Value)(a0:Act):Nat->Act
 |0=>a0
 |k+1=>if fs.contains k=true then fr l fs v a0 k else match l[k]?with
  |some o=>(fr l fs v a0 k).put o.dst (v k)
  |none=>fr l fs v a0 k
def dZ(l:List Oper)(j:Nat):Option Tmp:=(l[j]?).bind (·.dst)
theorem ko(a:Act)(d:Option Tmp)(v:Value)(t:Nat)(h:d≠some t):(a.put d v).tmps[t]? =a.tmps[t]? :=by
 cases d with
 |none=>rfl
 |some d=>
  have:d≠t:=fun e=>h (by rw[e]);simp[Act.put,this]
theorem uc(a:Act)(d:Option Tmp)(v:Value):(a.put d v).tmps.size=a.tmps.size:=by cases d<;>simp[Act.put]
theorem ud(a:Act)(d:Option Tmp)(v:Value):(a.put d v).defers=a.defers:=by cases d<;>rfl
theorem OG(a b:Act)(d:Nat)(v:Value)(h:a.tmps.size=b.tmps.size):(a.put (some d) v).tmps[d]? =(b.put (some d) v).tmps[d]? :=by
 simp[Act.put,auN,h]
theorem yE{v:Nat->Value}{a0:Act}{k:Nat}{o:Oper}(hf:fs.contains k=false)(h:l[k]? =some o):fr l fs v a0 (k+1)=(fr l fs v a0 k).put o.dst (v k):=by
 show(if fs.contains k=true then _ else match l[k]?with|some o=>(fr l fs v a0 k).put o.dst (v k)|none=>fr l fs v a0 k)=_;rw[hf,h];rfl
theorem zX{v:Nat->Value}{a0:Act}{k:Nat}(hf:fs.contains k=true):fr l fs v a0 (k+1)=fr l fs v a0 k:=by
 show(if fs.contains k=true then _ else match l[k]?with|some o=>(fr l fs v a0 k).put o.dst (v k)|none=>fr l fs v a0 k)=_;rw[hf];rfl
theorem B8{v:Nat->Value}{a0:Act}{k:Nat}(h:l[k]? =none):fr l fs v a0 (k+1)=fr l fs v a0 k:=by
 show(if fs.contains k=true then _ else match l[k]?with|some o=>(fr l fs v a0 k).put o.dst (v k)|none=>fr l fs v a0 k)=_;rw[h];split<;>rfl
theorem B9(v:Nat->Value)(a0:Act): ∀k,(fr l fs v a0 k).tmps.size=a0.tmps.size
 |0=>rfl
 |k+1=>by
  cases hf:fs.contains k with
  |true=>rw[zX hf];exact B9 v a0 k
  |false=>
   cases ho:l[k]?with
   |none=>rw[B8 ho];exact B9 v a0 k
   |some o=>rw[yE hf ho,uc];exact B9 v a0 k
theorem EU(v:Nat->Value)(a0:Act): ∀k,(fr l fs v a0 k).defers=a0.defers
 |0=>rfl
 |k+1=>by
  cases hf:fs.contains k with
  |true=>rw[zX hf];exact EU v a0 k
  |false=>
   cases ho:l[k]?with
   |none=>rw[B8 ho];exact EU v a0 k
   |some o=>rw[yE hf ho,ud];exact EU v a0 k
theorem yF(v:Nat->Value)(a0:Act)(t k:Nat): ∀m,k<=m->(∀j,k<=j->j<m->fs.contains j=false->dZ l j≠some t)->(fr l fs v a0 m).tmps[t]? =(fr l fs v a0 k).tmps[t]?
 |0,h,_=>by obtain rfl:k=0:=by omega
            rfl
 |m+1,h,hn=>by
  by_cases e:k=m+1
  ·subst e;rfl
  have ih:=yF v a0 t k m (by omega) fun j h1 h2=>hn j h1 (by omega);rw[←ih]
  cases hf:fs.contains m with
  |true=>rw[zX hf]
  |false=>
   cases ho:l[m]?with
   |none=>rw[B8 ho]
   |some o=>
    rw[yE hf ho];exact ko _ _ _ _ (by simpa[dZ,ho]using hn m (by omega) (by omega) hf)
def Ca(l:List Oper)(fs:List Nat)(n:Nat):Bool:=
 (List.range n).all fun k=>match l[k]?with
  |none=>false
  |some o=>
   (match o.op with| .select .. =>false|_=>true)&&
   (o.after.all fun e=> !Region.binds .any e||decide (e.on<k))&&
   (List.range n).all fun j=>match dZ l j with
    |none=>true
    |some d=>(!(o.looksAt l.toArray).contains d||(decide (j<k)&&(!fs.contains j||fs.contains k)&&o.after.any fun e=>Region.binds .any e&&e.on==j))&&(j==k||o.dst !=some d)
structure Cb(l:List Oper)(fs:List Nat)(n k:Nat)(o:Oper):Prop where
 wN: ∀cs b,o.op≠ .select cs b
 back: ∀e∈o.after,Region.binds .any e=true->e.on<k
 reads: ∀j d,j<n->dZ l j=some d->d∈o.looksAt l.toArray->j<k/\(fs.contains j=true->fs.contains k=true)/\ ∃e∈o.after,Region.binds .any e=true/\e.on=j
 one: ∀j d,j<n->dZ l j=some d->j≠k->o.dst≠some d
theorem EV(h:Ca l fs n=true)(k:Nat)(hk:k<n): ∃o,l[k]? =some o/\Cb l fs n k o:=by
 have:=aue.1 h k (auB.2 hk)
 cases ho:l[k]?with
 |none=>simp[ho]at this
 |some o=>
  rw[ho]at this;simp only[af0]at this;obtain⟨⟨h1,h2⟩,h3⟩:=this;refine⟨o,rfl,⟨fun cs b e=>by rw[e]at h1;simp at h1,fun e he hb=>?_,fun j d hj hd hl=>?_,fun j d hj hd bN=>?_⟩⟩
  ·have:=(auR.1 h2) e he;simpa[hb]using this
  ·
   have:=aue.1 h3 j (auB.2 hj);rw[hd]at this;simp only[af0,avc,au5,decide_eq_true_eq]at this;rcases this.1 with h4|h4
   ·exact absurd hl (by simpa using h4)
   obtain⟨⟨h5,h6⟩,h7⟩:=h4;obtain⟨e,he,hb⟩:=Array.any_eq_true'.1 h7;simp only[af0,beq_iff_eq]at hb;exact⟨h5,fun jn=>h6.elim (fun h=>by rw[h]at jn;cases jn) id,e,he,hb.1,hb.2⟩
  have:=aue.1 h3 j (auB.2 hj);rw[hd]at this;simp only[af0,avc,beq_iff_eq]at this;rcases this.2 with h4|h4
  ·exact absurd h4 bN
  simpa using h4
def vw(P:Program)(o:Oper)(a:Act)(C:World->Prop)(v:Value):Prop:= ∀w,C w->o.quietAt P a (Mem w []) w v
def I7(P:Program)(l:List Oper)(fs:List Nat)(C:World->Prop)(v:Nat->Value)(a0:Act)(k:Nat):Prop:=
 ∀o,l[k]? =some o->(Region.wanted o (yielded l.toArray (fr l fs v a0 k).tmps)=true->vw P o (fr l fs v a0 k) C (v k))/\
  (Region.wanted o (yielded l.toArray (fr l fs v a0 k).tmps)=false->v k=undef)
def oq(P:Program)(ops:Array Oper)(fs:List Nat)(C:World->Prop)(F:Act->Prop):Nat->List Oper->Act->Prop
 |_,[],a=>F a
 |k,o::rest,a=>if fs.contains k=true then oq P ops fs C F (k+1) rest a
  else if Region.wanted o (yielded ops a.tmps)=true then∃v,vw P o a C v/\oq P ops fs C F (k+1) rest (a.put o.dst v)else oq P ops fs C F (k+1) rest (a.put o.dst undef)
theorem I8{F:Act->Prop}: ∀(m k:Nat) (a0:Act) (v0:Nat->Value),k+m<=l.length->oq P l.toArray fs C F k ((l.drop k).take m) (fr l fs v0 a0 k)->
  ∃v,(∀j,j<k->v j=v0 j)/\(∀j,k<=j->j<k+m->fs.contains j=false->I7 P l fs C v a0 j)/\F (fr l fs v a0 (k+m))
 |0,k,a0,v0,_,h=>⟨v0,fun _ _=>rfl,fun j h1 h2=>by omega,by simpa[oq]using h⟩
 |m+1,k,a0,v0,hle,h=>by
  have hk:k<l.length:=by omega
  have ed:l.drop k=l[k]::l.drop (k+1):=av2 hk;rw[ed,ave]at h;have OH:l[k]? =some l[k]:=at2 hk;have agree: ∀v v':Nat->Value,∀j,(∀i,i<j->v i=v' i)->fr l fs v a0 j=fr l fs v' a0 j:=by
   intro v v' j
   induction j with
   |zero=>intro _;rfl
   |succ j ih=>
    intro hh;have e:=ih fun i hi=>hh i (by omega)
    cases hf:fs.contains j with
    |true=>rw[zX hf,zX hf,e]
    |false=>
     cases ho:l[j]?with
     |none=>rw[B8 ho,B8 ho,e]
     |some o=>rw[yE hf ho,yE hf ho,e,hh j (by omega)]
  unfold oq at h
  cases yG:fs.contains k with
  |true=>
   rw[if_pos yG]at h;obtain⟨v,g1,g2,g3⟩:=I8 m (k+1) a0 v0 (by omega) (by rw[zX yG];exact h);refine⟨v,fun j hj=>g1 j (by omega),fun j h3 h4 h5=>?_,by rw[show k+(m+1)=k+1+m by omega];exact g3⟩
   by_cases hj:j=k
   ·subst hj;rw[yG]at h5;cases h5
   ·exact g2 j (by omega) (by omega) h5
  |false=>
   rw[if_neg (by rw[yG];exact au7)]at h;have step: ∀u:Value,oq P l.toArray fs C F (k+1) ((l.drop (k+1)).take m) ((fr l fs v0 a0 k).put l[k].dst u)->
     ((Region.wanted l[k] (yielded l.toArray (fr l fs v0 a0 k).tmps)=true->vw P l[k] (fr l fs v0 a0 k) C u)/\(Region.wanted l[k] (yielded l.toArray (fr l fs v0 a0 k).tmps)=false->u=undef))->
     ∃v,(∀j,j<k->v j=v0 j)/\(∀j,k<=j->j<k+(m+1)->fs.contains j=false->I7 P l fs C v a0 j)/\F (fr l fs v a0 (k+(m+1))):=by
    intro u h2 hu
    let v1:Nat->Value:=fun j=>if j=k then u else v0 j
    have e1:fr l fs v1 a0 k=fr l fs v0 a0 k:=agree _ _ k fun i hi=>by simp[v1,show i≠k by omega]
    have e2:fr l fs v1 a0 (k+1)=(fr l fs v0 a0 k).put l[k].dst u:=by
     rw[yE yG OH,e1];simp[v1]
    obtain⟨v,g1,g2,g3⟩:=I8 m (k+1) a0 v1 (by omega) (by rw[e2];exact h2);have e3:fr l fs v a0 k=fr l fs v0 a0 k:=agree _ _ k fun i hi=>by rw[g1 i (by omega)];simp[v1,show i≠k by omega]
    have e4:v k=u:=by rw[g1 k (by omega)];simp[v1]
    refine⟨v,fun j hj=>by rw[g1 j (by omega)];simp[v1,show j≠k by omega],fun j h3 h4 h5=>?_,by rw[show k+(m+1)=k+1+m by omega];exact g3⟩
    by_cases hj:j=k
    ·subst hj;intro o ho;rw[OH]at ho;cases ho;rw[e3,e4];exact hu
    ·exact g2 j (by omega) (by omega) h5
   split at h
   ·rename_i hw;obtain⟨u,h1,h2⟩:=h;exact step u h2 ⟨fun _=>h1,fun hf=>by rw[hw]at hf;cases hf⟩
   ·rename_i hw;exact step undef h ⟨fun ht=>absurd ht hw,fun _=>rfl⟩
def OI(P:Program)(w:World)(R:Value->World->List ai->Prop):Result Next->Prop
 | .ok (.value v) w'=> ∃E,R v w' E
 | .ok (.enter f args) w'=>w'=w/\Calls P f args w fun e qU=> ∃v E,e= .returned v/\R v qU E
 |_=>False
def vz(P:Program)(l:List Oper)(n:Nat)(Q:Exit->Act->World->Prop)(w0:World)(Lq:List ai):List Nat->Act->List ai->Prop
 |[],af,L=> ∀w,Mem w0 L w->wpList P l.toArray Q (l.drop n) af w
 |j::js,af,L=> ∃o,l[j]? =some o/\o.guard=none/\ ∀w,Mem w0 L w->OI P w (fun v w' L'=>Mem w0 L' w'/\(∀w,Mem w0 L' w->Mem w0 Lq w)/\vz P l n Q w0 Lq js (af.put o.dst v) L') ((execOp af.eval o).run P w)
def ue(l:List Oper):List Nat->Bool
 |j::k::r=>(match l[k]?with|some o=>o.after.any fun e=>Region.binds .any e&&e.on==j|none=>false)&&ue l (k::r)
 |_=>true
theorem OJ: ∀(rs:List Nat) (j0:Nat),ue l (j0::rs)=true-> ∀i∈rs,∃p∈j0::rs,∃o,l[i]? =some o/\ ∃e∈o.after,Region.binds .any e=true/\e.on=p
 |[],_,_,i,hi=>by cases hi
 |k::r,j0,h,i,hi=>by
  simp only[ue,af0]at h;rcases auc.1 hi with rfl|hi
  ·
   cases ho:l[i]?with
   |none=>rw[ho]at h;simp at h
   |some o=>
    rw[ho]at h;obtain⟨e,he,hb⟩:=Array.any_eq_true'.1 h.1;simp only[af0,beq_iff_eq]at hb;exact⟨j0,by simp,o,rfl,e,he,hb.1,hb.2⟩
  obtain⟨p,hp,o,ho,e,he,hb⟩:=OJ r k h.2 i hi;exact⟨p,aui _ hp,o,ho,e,he,hb⟩
structure wO(P:Program)(l:List Oper)(fs:List Nat)(Q:Exit->Act->World->Prop)(w0:World)(L0:List ai)(n:Nat)(v:Nat->Value)(a0:Act)(rs:List Nat)(af:Act)(listed:Array Bool)(a:Act)(w:World):Prop where
 inv:HeadInv .any l.toArray n listed
 mem: ∃L,Mem w0 L w/\(∀w,Mem w0 L w->Mem w0 L0 w)/\vz P l n Q w0 L0 rs af L
 size:a.tmps.size=a0.tmps.size
 rN:af.tmps.size=a0.tmps.size
 defers:a.defers=a0.defers
 uf:af.defers=a0.defers
 iD: ∃ds,fs=ds++rs
 todo: ∀j,j<n->fs.contains j=true->(listed.getD j true=false↔j∈rs)
 done: ∀j d,j<n->listed.getD j true=true->dZ l j=some d->a.tmps[d]? =af.tmps[d]?
 rest: ∀d,(∀j,j<n->listed.getD j true=true->dZ l j≠some d)->a.tmps[d]? =a0.tmps[d]?
 full: ∀d,(∀j,j<n->fs.contains j=true->listed.getD j true=true->dZ l j≠some d)->af.tmps[d]? =(fr l fs v a0 n).tmps[d]?
variable {w0:World} {L0:List ai}
theorem I9{listed:Array Bool}{i:Nat}(h:listed.getD i true=false):i<listed.size:=by
 rcases aud i listed.size with h'|h'
 ·exact h'
 simp[auu h']at h
theorem OK{v:Nat->Value}{a0 a af:Act}{rs:List Nat}{listed:Array Bool}{w:World}(H:wO P l fs Q w0 L0 n v a0 rs af listed a w){k:Nat}{o:Oper}(ho:Cb l fs n k o)
  (rO: ∀e∈o.after,Region.binds .any e=true->listed.getD e.on false=true) (t:Nat) (ht:t∈o.looksAt l.toArray):a.tmps[t]? =af.tmps[t]? :=by
 by_cases hw: ∃j,j<n/\dZ l j=some t
 ·
  obtain⟨j,hj,hd⟩:=hw;obtain⟨_,_,e,he,hb,fY⟩:=ho.reads j t hj hd ht;have hl:=rO e he hb;rw[fY]at hl;have Yn:listed.getD j true=true:=by
   have Cc:j<listed.size:=by
    rcases aud j listed.size with h|h
    ·exact h
    ·simp[auu h]at hl
   simp[Cc]at hl⊢;exact hl
  exact H.done j t hj Yn hd
 ·have h1: ∀j,j<n->dZ l j≠some t:=fun j hj hd=>hw ⟨j,hj,hd⟩;rw[H.rest t fun j hj _=>h1 j hj,H.full t fun j hj _ _=>h1 j hj];exact(yF v a0 t 0 n (by omega) fun j _ h2 _=>h1 j h2).symm
theorem Yo{v:Nat->Value}{a0 a af:Act}{rs:List Nat}{listed:Array Bool}{w:World}(H:wO P l fs Q w0 L0 n v a0 rs af listed a w){k:Nat}{o:Oper}(hk:k<n)(yG:fs.contains k=false)(ho:Cb l fs n k o)(hB:Ca l fs n=true)
  (rO: ∀e∈o.after,Region.binds .any e=true->listed.getD e.on false=true) (t:Nat) (ht:t∈o.looksAt l.toArray):a.tmps[t]? =(fr l fs v a0 k).tmps[t]? :=by
 rw[OK H ho rO t ht]
 by_cases hw: ∃j,j<n/\dZ l j=some t
 ·
  obtain⟨j,hj,hd⟩:=hw;obtain⟨EW,Yp,_⟩:=ho.reads j t hj hd ht;have uniq: ∀i,i<n->i≠j->dZ l i≠some t:=fun i hi pj he=>by
   obtain⟨oi,wP,qj⟩:=EV hB i hi;exact qj.one j t hj hd (Ne.symm pj) (by simpa[dZ,wP]using he)
  rw[H.full t fun i hi hf _ he=>?_]
  ·exact yF v a0 t k n (by omega) fun i h1 h2 _=>uniq i h2 (by omega)
  ·
   by_cases pj:i=j
   ·subst pj;have:=Yp hf;rw[yG]at this;cases this
   ·exact uniq i hi pj he
 ·have h1: ∀j,j<n->dZ l j≠some t:=fun j hj hd=>hw ⟨j,hj,hd⟩;rw[H.full t fun j hj _ _=>h1 j hj,yF v a0 t 0 n (by omega) fun j _ h2 _=>h1 j h2];exact(yF v a0 t 0 k (by omega) fun j _ h2 _=>h1 j (by omega)).symm
theorem Ja{a b:Act}{o:Oper}{ops:Array Oper}(h: ∀t∈o.looksAt ops,a.tmps[t]? =b.tmps[t]?): ∀x∈o.op.operands,a.eval x=b.eval x:=by
 intro x hx
 cases x with
 |tmp t=>
  have:t∈o.looksAt ops:=by
   unfold Oper.looksAt;refine auy _ (List.mem_filterMap.2 ⟨.tmp t,by simpa using hx,rfl⟩)
  simp[Act.eval,h t this]
 |_=>rfl
theorem OL{a b:Act}{o:Oper}{ops:Array Oper}(h: ∀t∈o.looksAt ops,a.tmps[t]? =b.tmps[t]?):Region.wanted o (yielded ops a.tmps)=Region.wanted o (yielded ops b.tmps):=by
 unfold Region.wanted
 cases hg:o.guard with
 |none=>rfl
 |some p=>
  obtain⟨j,b'⟩:=p;have:yielded ops a.tmps j=yielded ops b.tmps j:=by
   unfold yielded
   cases hd:(ops[j]?).bind (·.dst)with
   |none=>rfl
   |some d=>
    have hm:d∈o.looksAt ops:=by unfold Oper.looksAt;rw[hg];simp[hd]
    simp[h d hm]
  simp[this]
def zY(size n:Nat):Array Bool:=((List.range size).map fun i=>decide (i<n)).toArray
theorem Yq{v:Nat->Value}{a0 a af:Act}{rs:List Nat}{listed:Array Bool}{w w':World}(H:wO P l fs Q w0 L0 n v a0 rs af listed a w){i:Nat}{o:Oper}(hi:i<n)(kr:fs.contains i=false)(yH:l[i]? =some o)(ho:Cb l fs n i o)(hB:Ca l fs n=true)
  (hr:i∈Region.ready .any l.toArray listed) (hK:Mem w [] w'):wO P l fs Q w0 L0 n v a0 rs af (listed.setIfInBounds i true) (a.put o.dst (v i)) w':=by
 have jg:=(mem_ready.1 hr).1;have lS:dZ l i=o.dst:=by simp[dZ,yH]
 have bq:=I9 jg;have iE: ∀j,j≠i->(listed.setIfInBounds i true).getD j true=listed.getD j true:=fun j cD=>getD_set_ne true (Ne.symm cD);have qV:(listed.setIfInBounds i true).getD i true=true:=by simp[bq]
 obtain⟨L,hL,nI,hF⟩:=H.mem;have uniq: ∀d,dZ l i=some d-> ∀j,j<n->j≠i->dZ l j≠some d:=fun d hd j hj cD he=>by
  obtain⟨oj,Yr,jn⟩:=EV hB j hj;exact jn.one i d hi hd (Ne.symm cD) (by simpa[dZ,Yr]using he)
 refine⟨H.inv.set hr hi,⟨L,by simpa using hL.call hK,nI,hF⟩,by rw[uc];exact H.size,H.rN,by rw[ud];exact H.defers,H.uf,H.iD,fun j hj hf=>?_,fun j d hj hl hd=>?_,fun d hd=>?_,fun d hd=>?_⟩
 ·rw[iE j (fun e=>by subst e;rw[kr]at hf;cases hf)];exact H.todo j hj hf
 ·
  by_cases cD:j=i
  ·subst cD;have EX:=hd;rw[lS]at hd;rw[hd,H.full d fun j' jn sO _=>uniq d EX j' jn (fun e=>by subst e;rw[kr]at sO;cases sO)];have e1:(fr l fs v a0 n).tmps[d]? =(fr l fs v a0 (j+1)).tmps[d]? :=yF v a0 d (j+1) n (by omega) fun i' h1 h2 _=>uniq d EX i' h2 (by omega);rw[e1,yE kr yH,hd];exact OG _ _ _ _ (by rw[H.size,B9])
  ·rw[iE j cD]at hl;rw[ko _ _ _ _ (ho.one j d hj hd cD)];exact H.done j d hj hl hd
 ·
  have h1:o.dst≠some d:=by
   have:=hd i hi qV;rwa [lS]at this
  rw[ko _ _ _ _ h1];refine H.rest d fun j hj hl=>?_
  by_cases cD:j=i
  ·subst cD;rw[lS];exact h1
  ·exact hd j hj (by rw[iE j cD];exact hl)
 ·refine H.full d fun j hj hf hl=>?_;exact hd j hj hf (by rw[iE j (fun e=>by subst e;rw[kr]at hf;cases hf)];exact hl)
theorem Ys{v:Nat->Value}{a0 a af:Act}{i:Nat}{rs:List Nat}{listed:Array Bool}{w w':World}(H:wO P l fs Q w0 L0 n v a0 (i::rs) af listed a w){o:Oper}(hi:i<n)(kr:fs.contains i=true)(cL:fs.Nodup)(yH:l[i]? =some o)(ho:Cb l fs n i o)
  (hr:i∈Region.ready .any l.toArray listed) {u:Value} {L':List ai} (hK:Mem w0 L' w') (nI: ∀w,Mem w0 L' w->Mem w0 L0 w) (hF:vz P l n Q w0 L0 rs (af.put o.dst u) L'):
  wO P l fs Q w0 L0 n v a0 rs (af.put o.dst u) (listed.setIfInBounds i true) (a.put o.dst u) w':=by
 have jg:=(mem_ready.1 hr).1;have lS:dZ l i=o.dst:=by simp[dZ,yH]
 have bq:=I9 jg;have iE: ∀j,j≠i->(listed.setIfInBounds i true).getD j true=listed.getD j true:=fun j cD=>getD_set_ne true (Ne.symm cD);have qV:(listed.setIfInBounds i true).getD i true=true:=by simp[bq]
 obtain⟨ds,yI⟩:=H.iD;have EY:i∉rs:=fun h=>by
  rw[yI]at cL;have:=(avP.1 cL).2.1;exact(awb.1 this).1 h
 refine⟨H.inv.set hr hi,⟨L',hK,nI,hF⟩,by rw[uc];exact H.size,by rw[uc];exact H.rN,by rw[ud];exact H.defers,by rw[ud];exact H.uf,⟨ds++[i],by rw[yI];simp⟩,fun j hj hf=>?_,fun j d hj hl hd=>?_,fun d hd=>?_,fun d hd=>?_⟩
 ·
  by_cases cD:j=i
  ·subst cD;rw[qV];simp[EY]
  ·rw[iE j cD,H.todo j hj hf];simp[cD]
 ·
  by_cases cD:j=i
  ·subst cD;rw[lS]at hd;rw[hd];exact OG _ _ _ _ (by rw[H.size,H.rN])
  ·rw[iE j cD]at hl;rw[ko _ _ _ _ (ho.one j d hj hd cD),ko _ _ _ _ (ho.one j d hj hd cD)];exact H.done j d hj hl hd
 ·
  have h1:o.dst≠some d:=by
   have:=hd i hi qV;rwa [lS]at this
  rw[ko _ _ _ _ h1];refine H.rest d fun j hj hl=>?_
  by_cases cD:j=i
  ·subst cD;rw[lS];exact h1
  ·exact hd j hj (by rw[iE j cD];exact hl)
 ·
  have h1:o.dst≠some d:=by
   have:=hd i hi kr qV;rwa [lS]at this
  rw[ko _ _ _ _ h1];refine H.full d fun j hj hf hl=>?_
  by_cases cD:j=i
  ·subst cD;rw[lS];exact h1
  ·exact hd j hj hf (by rw[iE j cD];exact hl)
theorem Yt{v:Nat->Value}{a0 a af:Act}{rs:List Nat}{listed:Array Bool}{w:World}(H:wO P l fs Q w0 L0 n v a0 rs af listed a w)(jh: ∀j,j<n->listed.getD j true=true):a=af:=by
 have:a.tmps=af.tmps:=by
  apply au8;intro d
  by_cases hw: ∃j,j<n/\dZ l j=some d
  ·obtain⟨j,hj,hd⟩:=hw;exact H.done j d hj (jh j hj) hd
  have h1: ∀j,j<n->dZ l j≠some d:=fun j hj hd=>hw ⟨j,hj,hd⟩;rw[H.rest d fun j hj _=>h1 j hj,H.full d fun j hj _ _=>h1 j hj];exact(yF v a0 d 0 n (by omega) fun j _ h2 _=>h1 j h2).symm
 have h2:a.defers=af.defers:=by rw[H.defers,H.uf]
 cases a;cases af
 simp_all
def left(n:Nat)(listed:Array Bool):Nat:=((List.range n).filter fun i=> !listed.getD i true).length
theorem OM{listed:Array Bool}{i:Nat}(hi:i<n)(jg:listed.getD i true=false):left n listed=left n (listed.setIfInBounds i true)+1:=by
 have bq:=I9 jg;have key: ∀m,i<m->((List.range m).filter fun j=> !listed.getD j true).length=((List.range m).filter fun j=> !(listed.setIfInBounds i true).getD j true).length+1:=by
  intro m
  induction m with
  |zero=>intro h;omega
  |succ m ih=>
   intro h;rw[avi,avj,avj,adr,adr]
   by_cases e:i=m
   ·
    subst e;have h1:((List.range i).filter fun j=> !listed.getD j true)=((List.range i).filter fun j=> !(listed.setIfInBounds i true).getD j true):=by
     apply List.filter_congr;intro j hj;rw[getD_set_ne true (by have:=auB.1 hj;omega)]
    rw[h1];simp only[au9,jg,avZ,if_true,awc,ad2,alM];simp[bq]
   have:=ih (by omega);have h2:(listed.setIfInBounds i true).getD m true=listed.getD m true:=getD_set_ne true e;simp only[au9,h2,awc];omega
 exact key n hi
theorem Jb{v:Nat->Value}{a0:Act}(hB:Ca l fs n=true)(hn:n<l.length)(hs:Region.sinkB .any l.toArray n=true)(hc:Region.chainB .any l.toArray n=true)
  (Jc:Region.seqB .any l.toArray (l.length -n) n (zY l.length n)=true) (cL:fs.Nodup) (bq: ∀j∈fs,j<n) (pn:ue l fs=true) (hq: ∀k,k<n->fs.contains k=false->I7 P l fs (Mem w0 L0) v a0 k):
  ∀(m:Nat) (rs:List Nat) (af:Act) (listed:Array Bool) (a:Act) (w:World),left n listed=m->wO P l fs Q w0 L0 n v a0 rs af listed a w->wpAny P .any l.toArray Q (m+(l.length -n)) listed a w
 |0,rs,af,listed,a,w,hm,H=>by
  have jh: ∀j,j<n->listed.getD j true=true:=fun j hj=>by
   cases h:listed.getD j true with
   |true=>rfl
   |false=>
    have:j∈(List.range n).filter fun i=> !listed.getD i true:=auC.2 ⟨List.mem_range.2 hj,by rw[h];rfl⟩;rw[aun.1 hm]at this
    cases this
  have e1:=Yt H jh;have e2:listed=zY l.length n:=by
   apply au8;intro j;have eQ:listed.size=l.length:=by simpa using H.inv.size
   by_cases hj:j<l.length
   ·
    have Cc:j<listed.size:=by omega
    simp only[zY,avu,aua,avw hj,auI,Array.getElem?_eq_getElem Cc]
    by_cases wQ:j<n
    ·have:=jh j wQ;simp[Cc]at this;simp[this,wQ]
    ·have:=H.inv.tail j (by omega) (by simpa using hj);simp[Cc]at this;simp[this,wQ]
   ·simp[zY,show ¬j<l.length from hj];omega
  have e3:rs=[]:=by
   cases rs with
   |nil=>rfl
   |cons r yJ=>
    obtain⟨ds,yI⟩:=H.iD;have hr:r∈fs:=by rw[yI];simp
    have:=(H.todo r (bq r hr) (by simpa using hr)).2 (by simp);rw[jh r (bq r hr)]at this;cases this
  subst e1 e2 e3;obtain⟨L,hL,_,hF⟩:=H.mem;have:=wpAny_of_seq (P:=P) (md:= .any) (Q':=Q) (l.drop n) n (zY l.length n) a w (fun j=>by simp[avd]) (by rw[auh];exact Jc) (hF w hL);rw[auh]at this;rw[auL];exact this
 |m+1,rs,af,listed,a,w,hm,H=>by
  rw[show m+1+(l.length -n)=(m+(l.length -n))+1 by omega];obtain⟨i0,Cd,EZ,Ce⟩: ∃i,i<n/\listed.getD i true=false/\ ∀j,j<i->listed.getD j true=true:=by
   have bN: ∃i,i<n/\listed.getD i true=false:=by
    cases hf:(List.range n).filter fun i=> !listed.getD i true with
    |nil=>rw[left,hf]at hm;cases hm
    |cons i r=>
     have:i∈(List.range n).filter fun i=> !listed.getD i true:=by rw[hf];simp
     obtain⟨h1,h2⟩:=auC.1 this;exact⟨i,auB.1 h1,by simpa using h2⟩
   obtain⟨i,h1,h2⟩:=bN
   induction i using Nat.strongRecOn with
   |_ i ih=>
    by_cases h: ∃j,j<i/\listed.getD j true=false
    ·obtain⟨j,hj,dB⟩:=h;exact ih j hj (by omega) dB
    ·
     refine⟨i,h1,h2,fun j hj=>?_⟩
     cases hh:listed.getD j true with
     |true=>rfl
     |false=>exact absurd ⟨j,hj,hh⟩ h
  have eQ:listed.size=l.length:=by simpa using H.inv.size
  have Cf:i0∈Region.ready .any l.toArray listed:=by
   obtain⟨o,ho,bJ⟩:=EV hB i0 Cd;refine mem_ready.2 ⟨EZ,o,by simpa using ho,fun e he hb=>?_⟩;have h1:=bJ.back e he hb;have h2:=Ce e.on h1;have h3:e.on<listed.size:=by omega
   simp[h3]at h2⊢;exact h2
  refine⟨fun h=>(by rw[h]at Cf;cases Cf),fun i hi=>?_⟩;have iO:i<n:=by
   rcases aud i n with h|h
   ·exact h
   ·exact absurd hi (tail_waits hs hc (by simpa using hn) H.inv _ i0 rfl Cd EZ i h)
  obtain⟨o,ho,bJ⟩:=EV hB i iO;obtain⟨jg,o',qk,rO⟩:=mem_ready.1 hi;have:o'=o:=by simpa[ho]using qk.symm
  subst this;have ug:left n (listed.setIfInBounds i true)=m:=by have:=OM iO jg;omega
  obtain⟨L,hL,nI,hF⟩:=H.mem
  cases kr:fs.contains i with
  |false=>
   have E3:=Yo H iO kr bJ hB rO;have ew:=OL (ops:=l.toArray) E3;have ee:execOp a.eval o'=execOp (fr l fs v a0 i).eval o':=execOp_congr o' bJ.wN (Ja E3);obtain⟨ON,Yu⟩:=hq i iO kr o' ho;have next: ∀w',Mem w [] w'->wpAny P .any l.toArray Q (m+(l.length -n)) (listed.setIfInBounds i true) (a.put o'.dst (v i)) w':=fun w' hK=>
    Jb hB hn hs hc Jc cL bq pn hq m rs af _ _ w' ug (Yq H iO kr ho bJ hB hi hK)
   unfold wpOp;simp only[qk];rw[ew];split
   ·
    rename_i rP;have h1:=ON rP w (nI w hL);refine .inl ?_;unfold Oper.wp;rw[ee];unfold Oper.quietAt at h1;generalize(execOp (fr l fs v a0 i).eval o').run P w=r at h1;unfold Oper.quietUpon at h1;split at h1
    ·obtain⟨rfl,rfl⟩:=h1;exact next _ (Mem.init _)
    ·obtain⟨rfl,e⟩:=h1;rw[e]at next;exact next _ (Mem.init _)
    ·obtain⟨rfl,vA⟩:=h1;exact vA.mono fun e qU ⟨he,hm⟩=>by subst he;exact next _ hm
    ·exact h1.elim
   ·rename_i rP;have:=Yu (by simpa using rP);rw[this]at next;exact next w (Mem.init _)
  |true=>
   have EY:i∈rs:=(H.todo i iO kr).1 jg
   cases rs with
   |nil=>cases EY
   |cons r yJ=>
    have Cg:i=r:=by
     rcases auc.1 EY with h|h
     ·exact h
     ·
      exfalso;obtain⟨ds,yI⟩:=H.iD;have Yv:ue l (r::yJ)=true:=by
       rw[yI]at pn;have key: ∀ds:List Nat,ue l (ds++r::yJ)=true->ue l (r::yJ)=true:=by
        intro ds
        induction ds with
        |nil=>exact id
        |cons d ds ih=>
         intro hh
         cases ds with
         |nil=>simp only[avm,auS,ue,af0]at hh;exact hh.2
         |cons d' ds'=>simp only[avm,ue,af0]at hh;exact ih hh.2
       exact key ds pn
      obtain⟨p,hp,op,dN,e,he,hb,fY⟩:=OJ yJ r Yv i h;have:op=o':=by rw[ho]at dN;exact(at1 dN).symm
      subst this;have hl:=rO e he hb;rw[fY]at hl;have OO:p∈fs:=by rw[yI];exact avp _ hp
      have h1:=(H.todo p (bq p OO) (by simpa using OO)).2 hp;rw[getD_both h1]at hl
      cases hl
    subst Cg;obtain⟨of,rQ,hg,gS⟩:=hF;have:of=o':=by rw[ho]at rQ;exact(at1 rQ).symm
    subst this;have E3:=OK H bJ rO;have ee:execOp a.eval of=execOp af.eval of:=execOp_congr of bJ.wN (Ja E3);have h1:=gS w hL;have next: ∀u w' E,(Mem w0 E w'/\(∀w,Mem w0 E w->Mem w0 L0 w)/\vz P l n Q w0 L0 yJ (af.put of.dst u) E)->wpAny P .any l.toArray Q (m+(l.length -n)) (listed.setIfInBounds i true) (a.put of.dst u) w':=fun u w' E ⟨hK,E4,Yw⟩=>
     Jb hB hn hs hc Jc cL bq pn hq m yJ (af.put of.dst u) _ _ w' ug (Ys H iO kr cL ho bJ hi hK E4 Yw)
    unfold wpOp;simp only[qk];rw[if_pos (by simp[Region.wanted,hg])];refine .inl ?_;unfold Oper.wp;rw[ee];generalize(execOp af.eval of).run P w=r at h1;unfold OI at h1;split at h1
    ·obtain⟨E,hR⟩:=h1;exact next _ _ E hR
    ·obtain⟨rfl,vA⟩:=h1;exact vA.mono fun e qU ⟨u,E,he,hR⟩=>by subst he;exact next u _ E hR
    ·exact h1.elim
def E5(l:List Oper)(fs:List Nat)(n:Nat):Bool:=
 Ca l fs n&&decide (n<l.length)&&Region.sinkB .any l.toArray n&&Region.chainB .any l.toArray n&&Region.seqB .any l.toArray (l.length -n) n (zY l.length n)&&
  decide fs.Nodup&&(fs.all fun j=>decide (j<n))&&ue l fs
theorem Yx{id:Nat}{ro:Option Nat}[lg Q]{a:Act}{w:World}(n:Nat)(cL:qT l=true)(hm:P.follows .mixedOrders=true)(hB:E5 l fs n=true){L:List ai}(hC:Mem w0 L {w with drawn:=w.drawn+1})(nI: ∀w,Mem w0 L w->Mem w0 L0 w)
  (h:oq P l.toArray fs (Mem w0 L0) (fun a'=>vz P l n Q w0 L0 fs a' L) 0 (l.take n) a):(Code.region id l.toArray true).wpIn (ni ro) 0 P Q a w:=by
 simp only[E5,af0,decide_eq_true_eq]at hB;obtain⟨⟨⟨⟨⟨⟨⟨h1,h2⟩,h3⟩,h4⟩,h5⟩,h6⟩,h7⟩,h8⟩:=hB;have Yy: ∀j∈fs,j<n:=fun j hj=>by have:=aue.1 h7 j hj;simpa using this
 obtain⟨v,_,g2,g3⟩:=I8 (P:=P) (C:=Mem w0 L0) (l:=l) (fs:=fs) n 0 a (fun _=>undef) (by omega) (by simpa[fr]using h);refine I6 cL hm ?_;have Jd:HeadInv .any l.toArray n (Array.replicate l.toArray.size false):=
  ⟨by simp,fun j oj _ hl=>(by rw[getD_replicate_false]at hl;cases hl),fun t _ ht=>getD_in (by simpa using ht) (getD_replicate_false _ _)⟩
 have ug:left n (Array.replicate l.toArray.size false)=n:=by
  unfold left;rw[List.filter_eq_self.2 (fun j hj=>?_),awV];have jn:=auB.1 hj;simp[show j<l.length by omega]
 rw[auL]at g3;have:=Jb (P:=P) (Q:=Q) (w0:=w0) (L0:=L0) (v:=v) (a0:=a) h1 h2 h3 h4 h5 h6 Yy h8 (fun k hk hf=>g2 k (by omega) (by omega) hf) n fs (fr l fs v a n) (Array.replicate l.toArray.size false) a _ ug
  ⟨Jd,⟨L,hC,nI,g3⟩,rfl,B9 v a n,rfl,EU v a n,⟨[],rfl⟩,fun j hj hf=>?_,fun j d hj hl=>?_,fun _ _=>rfl,fun _ _=>rfl⟩
 ·rw[show n+(l.length -n)=l.toArray.size by simp;omega]at this;exact this
 ·
  have:j∈fs:=by simpa using hf
  simp[show j<l.length by omega,this]
 ·simp[show j<l.length by omega]at hl
end
abbrev Env:=List (Nat×Value)
theorem Je{a b:Nat}(h: ¬a=b):Nat.beq a b=false:=by
 cases hb:Nat.beq a b with
 |false=>rfl
 |true=>exact absurd (Nat.eq_of_beq_eq_true hb) h
def look:Env->Nat->Option Value
 |[],_=>none
 |(k,v)::r,d=>match Nat.beq k d with
  |true=>some v
  |false=>look r d
structure cA where
 n:Nat
 ds:List Nat
 ro:Option Nat
structure dC(N:cA)(env:Env)(a:Act):Prop where
 size:a.tmps.size=N.n
 get: ∀d v,look env d=some v->a.tmps[d]? =some v
 defers:a.defers=N.ds.map mark
def ev(env:Env):Operand->Option Value
 | .tmp t=>look env t
 | .const v=>some v
 | .global g=>some (.pointer (some ⟨g,0,none⟩))
 | .func f=>some (.func (.func f) #[] #[])
theorem dC.ev{N:cA}{env:Env}{a:Act}(h:dC N env a){x:Operand}{v:Value}(e:ev env x=some v):a.eval x=v:=by
 match x,e with
 | .tmp t,e=>
  have:=h.get t v e;simp[Act.eval,this]
 | .const u,e=>simpa[ax.ev,Act.eval]using e
 | .global g,e=>simpa[ax.ev,Act.eval]using e
 | .func f,e=>simpa[ax.ev,Act.eval]using e
def iF(env:Env):List Operand->Option (List Value)
 |[]=>some []
 |x::r=>match ev env x,iF env r with
  |some v,some vs=>some (v::vs)
  |_,_=>none
theorem dC.iF{N:cA}{env:Env}{a:Act}(h:dC N env a): ∀{xs:List Operand} {vs:List Value},iF env xs=some vs->xs.map a.eval=vs
 |[],vs,e=>by simp[ax.iF]at e;simp[e]
 |x::r,vs,e=>by
  unfold ax.iF at e;split at e
  ·rename_i v Yz hv zZ;simp only[avz]at e;subst e;simp[h.ev hv,h.iF zZ]
  simp at e
theorem jG{env:Env}:iF env []=some []:=rfl
theorem fG{env:Env}{x:Operand}{r:List Operand}{v:Value}{vs:List Value}(h:ev env x=some v)(h':iF env r=some vs):iF env (x::r)=some (v::vs):=by
 simp[iF,h,h']
def cr(env:Env):Option Tmp->Value->Env
 |some d,v=>(d,v)::env
 |none,_=>env
def dq(N:cA):Option Tmp->Bool
 |some d=>Nat.ble (d+1) N.n
 |none=>true
theorem dC.put{N:cA}{env:Env}{a:Act}(h:dC N env a){dst:Option Tmp}(hd:dq N dst=true)(v:Value):dC N (cr env dst v) (a.put dst v):=by
 cases dst with
 |none=>exact h
 |some d=>
  have bq:d<N.n:=Nat.le_of_ble_eq_true hd;refine⟨by simp[Act.put,h.size],fun d' v' hv=>?_,h.defers⟩;simp only[cr,look]at hv;simp only[Act.put,auN]
  by_cases he:d=d'
  ·subst he;simp at hv;simp[hv,h.size,bq]
  have:Nat.beq d d'=false:=Je he;rw[this]at hv;rw[if_neg he];exact h.get d' v' hv
def Sub(E6 env:Env):Prop:= ∀d v,look E6 d=some v->look env d=some v
theorem Sub.refl(env:Env):Sub env env:=fun _ _ h=>h
theorem Sub.nil(env:Env):Sub [] env:=fun _ _ h=>by simp[look]at h
theorem Sub.cons{r env:Env}{d:Nat}{v:Value}(hv:look env d=some v)(h:Sub r env):Sub ((d,v)::r) env:=fun d' v' h'=>by
 simp only[look]at h'
 by_cases he:d=d'
 ·subst he;simp at h';rw[←h'];exact hv
 have:Nat.beq d d'=false:=Je he;rw[this]at h';exact h d' v' h'
theorem dC.sub{N:cA}{env E6:Env}{a:Act}(h:dC N env a)(s:Sub E6 env):dC N E6 a:=⟨h.size,fun d v e=>h.get d v (s d v e),h.defers⟩
theorem dC.enter(args:List Value)(N:Nat)(h:args.length<=N):dC ⟨N,[],none⟩ (args.zipIdx.map fun p=>(p.2,p.1)) {tmps:=args.toArray++Array.replicate (N -args.toArray.size) undef,defers:=[]}:=by
 refine⟨by simp;omega,fun d v e=>?_,rfl⟩;have key: ∀(l:List Value) (k:Nat),look ((l.zipIdx k).map fun p=>(p.2,p.1)) d=some v->k<=d/\l[d -k]? =some v:=by
  intro l
  induction l with
  |nil=>intro k h;simp[look]at h
  |cons x r ih=>
   intro k h;simp only[List.zipIdx_cons,aum,look]at h
   by_cases he:k=d
   ·subst he;simp at h;simp[h]
   have:Nat.beq k d=false:=Je he;rw[this]at h;obtain⟨h1,h2⟩:=ih (k+1) h;refine⟨by omega,?_⟩;rw[show d -k=(d -(k+1))+1 by omega,List.getElem?_cons_succ];exact h2
 have hh:=(key args 0 e).2;rw[Nat.sub_zero]at hh;have bq:d<args.length:=by
  rcases aud d args.length with h'|h'
  ·exact h'
  simp[aub h']at hh
 rw[auW (by simpa using bq)];simpa using hh
section
variable {P:Program} {N:cA} {w0:World} {env:Env} {L:List ai} {d:Option Tmp} {ty:TypeId} {ps:String} {af:Array Edge} {gd:Option (Nat×Bool)}
def Ry(P:Program)(N:cA)(w0:World)(env:Env)(L:List ai)(o:Oper)(v:Value):Prop:=
 ∀a w,dC N env a->Mem w0 L w->(execOp a.eval o).run P w= .ok (.value v) w
def Yl(P:Program)(N:cA)(w0:World)(env:Env)(L:List ai)(o:Oper)(v:Value):Prop:=
 ∀a,dC N env a->vw P o a (Mem w0 L) v
theorem Ry.yl{o:Oper}{v:Value}(h:Ry P N w0 env L o v):Yl P N w0 env L o v:=fun a ha w hw=>by
 unfold Oper.quietAt;rw[h a w ha hw];exact⟨rfl,rfl⟩
theorem bm{x:Operand}{v:Value}(hx:ev env x=some v):Ry P N w0 env L ⟨d, .move x,ty,ps,af,gd⟩ v:=fun a w ha _=>by
 simp only[execOp,ha.ev hx,Sem.run_pure]
theorem hO{x:Operand}{v:Value}(hx:ev env x=some v):Ry P N w0 env L ⟨d, .assign x,ty,ps,af,gd⟩ v:=fun a w ha _=>by
 simp only[execOp,ha.ev hx,Sem.run_pure]
theorem Jf{c x y:Operand}{g:Bool}{vx vy:Value}(hc:ev env c=some (.bool g))(hx:ev env x=some vx)(hy:ev env y=some vy):
  Ry P N w0 env L ⟨d, .pick c x y,ty,ps,af,gd⟩ (if g=true then vx else vy):=fun a w ha _=>by
 simp only[execOp,ha.ev hx,ha.ev hc,ha.ev hy,Sem.run_bind,Sem.run_pure,asBool,Result.andThen]
theorem z8{c x y:Operand}{g b:Bool}(hc:ev env c=some (.bool g))(hx:ev env x=some (if g=true then .bool b else undef))(hy:ev env y=some (.bool false)):
  Ry P N w0 env L ⟨d, .pick c x y,ty,ps,af,gd⟩ (.bool (g&&b)):=by
 have h:=Jf (P:=P) (N:=N) (w0:=w0) (L:=L) (d:=d) (ty:=ty) (ps:=ps) (af:=af) (gd:=gd) hc hx hy
 cases g<;>simpa using h
theorem Aa{c x y:Operand}{g b:Bool}(hc:ev env c=some (.bool g))(hx:ev env x=some (.bool true))(hy:ev env y=some (if(!g)=true then .bool b else undef)):
  Ry P N w0 env L ⟨d, .pick c x y,ty,ps,af,gd⟩ (.bool (g||b)):=by
 have h:=Jf (P:=P) (N:=N) (w0:=w0) (L:=L) (d:=d) (ty:=ty) (ps:=ps) (af:=af) (gd:=gd) hc hx hy
 cases g<;>simpa using h
theorem nJ{x:Operand}{g:Bool}{t:TypeId}(hx:ev env x=some (.bool g)):Ry P N w0 env L ⟨d, .unOp .not t x,ty,ps,af,gd⟩ (.bool (!g)):=fun a w ha _=>by
 simp only[execOp,ha.ev hx,Op.unary,Sem.run_bind,Sem.run_pure,Result.andThen]
theorem aB{x:Operand}{vs:Array Value}{i:Nat}{v:Value}(hx:ev env x=some (.tuple vs))(hv:vs[i]? =some v):Ry P N w0 env L ⟨d, .extract x i,ty,ps,af,gd⟩ v:=fun a w ha _=>by
 simp only[execOp,ha.ev hx,Instr.extract,hv,Sem.run_bind,Sem.run_pure,Result.andThen]
def nj(op:BinOp)(k:IntKind)(a b:Int):Option Value:=
 match op with
 | .add=>some (.int k (k.wrap (a+b)))
 | .sub=>some (.int k (k.wrap (a -b)))
 | .mul=>some (.int k (k.wrap (a*b)))
 | .quo=>if b=0 then none else some (.int k (k.wrap (a.tdiv b)))
 | .rem=>if b=0 then none else some (.int k (a.tmod b))
 | .and=>some (.int k (k.wrap (BitVec.ofInt k.bits a&&&BitVec.ofInt k.bits b).toNat))
 | .or=>some (.int k (k.wrap (BitVec.ofInt k.bits a|||BitVec.ofInt k.bits b).toNat))
 | .xor=>some (.int k (k.wrap (BitVec.ofInt k.bits a^^^BitVec.ofInt k.bits b).toNat))
 | .andNot=>some (.int k (k.wrap (BitVec.ofInt k.bits a&&& ~~~BitVec.ofInt k.bits b).toNat))
 | .eql=>some (.bool (decide (a=b)))
 | .neq=>some (.bool (!decide (a=b)))
 | .lss=>some (.bool (decide (a<b)))
 | .leq=>some (.bool (decide (a<=b)))
 | .gtr=>some (.bool (decide (b<a)))
 | .geq=>some (.bool (decide (b<=a)))
 |_=>none
theorem Jg(op:BinOp)(t:TypeId)(x y:Operand)(k k':IntKind)(a b:Int)(w:World):(eqGuard op t x y (.int k a) (.int k' b)).run P w= .ok () w:=by
 cases op<;>rfl
theorem YA{op:BinOp}{k:IntKind}{a b:Int}{v:Value}(t:TypeId)(h:nj op k a b=some v)(w:World):(binOp op t (.int k a) (.int k b)).run P w= .ok v w:=by
 cases op<;>simp only[nj,avz,reduceCtorEq]at h<;>(try split at h)<;>(try simp only[avz,reduceCtorEq]at h)<;>(try subst h)<;>
  simp_all[binOp,Op.intArith,Op.intDiv,Op.intBits,Op.intCmp]<;>rfl
theorem eR{op:BinOp}{k:IntKind}{x y:Operand}{a b:Int}{v:Value}{t u:TypeId}(hx:ev env x=some (.int k a))(hy:ev env y=some (.int k b))(h:nj op k a b=some v):
  Ry P N w0 env L ⟨d, .binOp op t x y u,ty,ps,af,gd⟩ v:=fun a w ha _=>by
 simp only[execOp,ha.ev hx,ha.ev hy,Sem.run_bind,Jg,YA t h,Sem.run_pure,Result.andThen]
end
def wR:TypeDesc->Bool
 | .struct _| .array _ _=>true
 |_=>false
class gK(P:Program)(t:TypeId)(n:outParam Nat):Prop where
 row: ∃d,P.underlying t=some d/\wR d=true
 size:(P.info? t).map (·.size)=some n
class gT(P:Program)(t:TypeId):Prop where
 one: ∃d,P.underlying t=some d/\wR d=false
 size:(P.info? t).map (·.size)=some 1
class dw(P:Program)(s:TypeId)(i:Nat)(off:outParam Nat):Prop where
 YB: ∃fs f m,P.underlying s=some (.struct fs)/\fs[i]? =some f/\f.offset=off/\(P.info? f.type).map (·.size)=some (m+1)
class wS(P:Program)(t:TypeId)(n m:outParam Nat):Prop where
 arr: ∃e,P.underlying t=some (.array n e)/\(P.info? e).map (·.size)=some m
class fH(P:Program)(t:TypeId)(e:outParam TypeId)(m:outParam Nat):Prop where
 eK:P.underlying t=some (.slice e)
 size:(P.info? e).map (·.size)=some m
class mv(P:Program)(t:TypeId)(k:outParam IntKind):Prop where
 eK:P.underlying t=some (.int k)
class eY(P:Program)(t:TypeId)(v:outParam Value):Prop where
 zero:(P.info? t).map (·.zero)=some (some v)
class aH(P:Program)(f:FuncId):Prop where
 fn: ∃fn,P.funcs[f]? =some fn∧fn.body.isNone=false∧(fn.name== "runtime.NumGoroutine")=false
class Has(L:List ai)(b:Nat)(cs:outParam (Array Value))(T:outParam TypeId)(i:outParam Nat):Prop where
 h:L[i]? =some (aq b cs T)
instance (priority:=high) Has.here {L:List ai}{b:Nat}{cs:Array Value}{T:TypeId}:Has (aq b cs T::L) b cs T 0:=⟨rfl⟩
instance Has.there{L:List ai}{e:ai}{b:Nat}{cs:Array Value}{T:TypeId}{i:Nat}[q:Has L b cs T i]:Has (e::L) b cs T (i+1):=⟨by simpa using q.h⟩
class fZ(L:List ai)(i:Nat)(e:ai)(L':outParam (List ai)):Prop where
 h:L.set i e=L'
instance fZ.here{L:List ai}{x e:ai}:fZ (x::L) 0 e (e::L):=⟨rfl⟩
instance fZ.there{L L':List ai}{x e:ai}{i:Nat}[q:fZ L i e L']:fZ (x::L) (i+1) e (x::L'):=⟨by simp[q.h]⟩
class bO(cs:Array Value)(o:Nat)(v:outParam Value):Prop where
 h:cs[o]? =some v
class nk(cs:Array Value)(o n:Nat)(sub:outParam (Array Value)):Prop where
 size:sub.size=n
 h: ∀j,j<n->cs[o+j]? =sub[j]?
class gB(cs:Array Value)(n:outParam Nat):Prop where
 h:cs.size=n
 one:cs.all (·.oneCell')=true
class rR(P:Program)(f:FuncId)(vs:List Value)(v:outParam Value):Prop where
 h: ∀w,Calls P f vs.toArray w fun e w'=>e= .returned v/\Mem w [] w'
class yK(P:Program)(t:TypeId)(x y:Value)(r:outParam Bool):Prop where
 h: ∀w,(Op.equalIn 10000 t x y).run P w= .ok r w
 plain:P.eqGuardType P.depth t=false
 agg: ∃xs ys,x= .agg xs/\y= .agg ys
section
variable {P:Program} (w:World)
theorem OP{t:TypeId}{i:TypeInfo}(h:P.info? t=some i):(typeInfo t).run P w= .ok i w:=by
 simp[typeInfo,h]
theorem lT{t:TypeId}{n:Nat}(h:(P.info? t).map (·.size)=some n):(sizeOf t).run P w= .ok n w:=by
 cases hi:P.info? t with
 |none=>simp[hi]at h
 |some i=>simp[hi]at h;simp[sizeOf,OP w hi,h]
theorem E7{t:TypeId}{v:Value}(h:eY P t v):(zeroValue t).run P w= .ok v w:=by
 have h:=h.zero
 cases hi:P.info? t with
 |none=>simp[hi]at h
 |some i=>simp[hi]at h;simp[zeroValue,OP w hi,h]
theorem Ci{t:TypeId}{d:TypeDesc}(h:P.underlying t=some d):(isAgg t).run P w= .ok (wR d) w:=by
 cases d<;>simp[isAgg,run_underlying h,wR]
theorem YC{t:TypeId}(h:gT P t){a:Addr}{v:Value}(hc:w.cell? a=some v):(loadVar t a).run P w= .ok v w:=by
 obtain⟨d,hu,hd⟩:=h.one;simp[loadVar,Ci w hu,hd,hc]
theorem Jh{t:TypeId}{n:Nat}(h:gK P t n){a:Addr}{cs:Array Value}(hn:cs.size=n)(hc: ∀j,j<n->w.cell? (a.add j)=cs[j]?):(loadVar t a).run P w= .ok (.agg cs) w:=by
 obtain⟨d,hu,hd⟩:=h.row;have hl:(loadCells a n).run P w= .ok cs w:=by
  have:=run_loadCells_list (P:=P) w a cs.toList (fun j v hv=>by
   have hj:j<n:=by
    have:=(zz.1 hv).1;simpa[hn]using this
   rw[hc j hj];simpa using hv)
  simpa[hn]using this
 simp[loadVar,Ci w hu,hd,lT w h.size,hl]
end
section
variable {P:Program} {N:cA} {w0:World} {env:Env} {L:List ai} {d:Option Tmp} {ty:TypeId} {ps:String} {af:Array Edge} {gd:Option (Nat×Bool)}
theorem Addr.hQ(b o j:Nat):(⟨b,o,none⟩:Addr).add j=⟨b,o+j,none⟩:=by
 unfold Addr.add;split<;>simp_all
theorem Ab{t:TypeId}{x:Operand}{p:Addr}{v:Value}(ht:gT P t)(hx:ev env x=some (.pointer (some p)))(hc: ∀w,Mem w0 L w->w.cell? p=some v):
  Ry P N w0 env L ⟨d, .load t x,ty,ps,af,gd⟩ v:=fun a w ha hw=>by
 simp only[execOp,ha.ev hx,Instr.loadAt,Instr.sureAddr,Sem.run_bind,Sem.run_pure,Result.andThen,YC w ht (hc w hw)]
theorem Cj{t:TypeId}{x:Operand}{p:Addr}{n:Nat}{cs:Array Value}(ht:gK P t n)(hx:ev env x=some (.pointer (some p)))(hn:cs.size=n)(hc: ∀w,Mem w0 L w-> ∀j,j<n->w.cell? (p.add j)=cs[j]?):
  Ry P N w0 env L ⟨d, .load t x,ty,ps,af,gd⟩ (.agg cs):=fun a w ha hw=>by
 simp only[execOp,ha.ev hx,Instr.loadAt,Instr.sureAddr,Sem.run_bind,Sem.run_pure,Result.andThen,Jh w ht hn (hc w hw)]
theorem Ac{t:TypeId}{x:Operand}{i b o:Nat}{cs:Array Value}{T:TypeId}{v:Value}(hx:ev env x=some (.pointer (some ⟨b,o,none⟩)))[ht:gT P t][hi:Has L b cs T i](hc:cs[o]? =some v):
  Ry P N w0 env L ⟨d, .load t x,ty,ps,af,gd⟩ v:=Ab ht hx fun w hw=>by rw[hw.cell hi.h];exact hc
theorem bE{t:TypeId}{x:Operand}{i b o:Nat}{cs:Array Value}{T:TypeId}{v:Value}(hx:ev env x=some (.pointer (some ⟨b,o,none⟩)))[ht:gT P t][hi:Has L b cs T i][hc:bO cs o v]:
  Ry P N w0 env L ⟨d, .load t x,ty,ps,af,gd⟩ v:=Ac hx hc.h
theorem jU{t:TypeId}{x:Operand}{i b n:Nat}{cs:Array Value}{T:TypeId}(hx:ev env x=some (.pointer (some ⟨b,0,none⟩)))[ht:gK P t n][hi:Has L b cs T i][hn:gB cs n]:
  Ry P N w0 env L ⟨d, .load t x,ty,ps,af,gd⟩ (.agg cs):=Cj ht hx hn.h fun w hw j _=>by rw[Addr.hQ,hw.cell hi.h,auL]
theorem fM{t:TypeId}{x:Operand}{i b o n:Nat}{cs sub:Array Value}{T:TypeId}(hx:ev env x=some (.pointer (some ⟨b,o,none⟩)))[ht:gK P t n][hi:Has L b cs T i][hs:nk cs o n sub]:
  Ry P N w0 env L ⟨d, .load t x,ty,ps,af,gd⟩ (.agg sub):=Cj ht hx hs.size fun w hw j hj=>by rw[Addr.hQ,hw.cell hi.h];exact hs.h j hj
theorem aM{s:TypeId}{x:Operand}{fi off b o o':Nat}[hf:dw P s fi off](hx:ev env x=some (.pointer (some ⟨b,o,none⟩)))(ho:Nat.add o off=o'):
  Ry P N w0 env L ⟨d, .fieldAddr s x fi,ty,ps,af,gd⟩ (.pointer (some ⟨b,o',none⟩)):=fun a w ha _=>by
 obtain⟨fs,f,m,hu,kr,rQ,eQ⟩:=hf.YB;subst ho rQ;simp only[execOp,ha.ev hx,Instr.fieldAt,Sem.run_bind,run_underlying hu,Result.andThen,kr,Instr.sureAddr,Sem.run_pure,fieldPlace,lT w eQ,Nat.succ_ne_zero,if_false,Addr.hQ,Nat.add_eq]
theorem YD{t:TypeId}{x ix:Operand}{n m b o:Nat}{k:IntKind}{j:Int}[ht:wS P t n m](hx:ev env x=some (.pointer (some ⟨b,o,none⟩)))(hj:ev env ix=some (.int k j))(h0:0<=j)(h1:j<n):
  Ry P N w0 env L ⟨d, .indexAddr t x ix,ty,ps,af,gd⟩ (.pointer (some ⟨b,o+j.toNat*m,none⟩)):=fun a w ha _=>by
 obtain⟨e,hu,eQ⟩:=ht.arr;simp only[execOp,ha.ev hx,ha.ev hj,Instr.indexAt,asIntOf,Sem.run_bind,run_underlying hu,Result.andThen,Instr.sureAddr,Sem.run_pure,lT w eQ,h0,h1,and_self,if_true,Addr.hQ]
theorem ot{t:TypeId}{x ix:Operand}{n b:Nat}{k:IntKind}{j:Int}[ht:wS P t n 1](hx:ev env x=some (.pointer (some ⟨b,0,none⟩)))(hj:ev env ix=some (.int k j))(h0:0<=j)(h1:j<n):
  Ry P N w0 env L ⟨d, .indexAddr t x ix,ty,ps,af,gd⟩ (.pointer (some ⟨b,j.toNat,none⟩)):=by
 have:=YD (P:=P) (t:=t) (N:=N) (w0:=w0) (L:=L) (d:=d) (ty:=ty) (ps:=ps) (af:=af) (gd:=gd) hx hj h0 h1;simpa using this
theorem OQ{t e:TypeId}{x ix:Operand}{m b o len cap:Nat}{k:IntKind}{j:Int}[ht:fH P t e m](hx:ev env x=some (.slice (some ⟨b,o,none⟩) len cap))(hj:ev env ix=some (.int k j))(h0:0<=j)(h1:j<len):
  Ry P N w0 env L ⟨d, .indexAddr t x ix,ty,ps,af,gd⟩ (.pointer (some ⟨b,o+j.toNat*m,none⟩)):=fun a w ha _=>by
 simp only[execOp,ha.ev hx,ha.ev hj,Instr.indexAt,asIntOf,Sem.run_bind,run_underlying ht.eK,Result.andThen,Sem.run_pure,lT w ht.size,h0,h1,and_self,if_true,Addr.hQ]
theorem vB{s t:TypeId}{x:Operand}{k k':IntKind}{n m:Int}[hs:mv P s k'][ht:mv P t k](hx:ev env x=some (.int k' n))(hm:k.wrap n=m):
  Ry P N w0 env L ⟨d, .convert s t x,ty,ps,af,gd⟩ (.int k m):=fun a w ha _=>by
 subst hm;simp only[execOp,ha.ev hx,convert,Sem.run_bind,run_underlying hs.eK,run_underlying ht.eK,Result.andThen,Conv.intToInt,Sem.run_pure]
theorem yL{t e:TypeId}{x:Operand}{m len cap:Nat}{p:Option Addr}[ht:fH P t e m](hx:ev env x=some (.slice p len cap)):
  Ry P N w0 env L ⟨d, .call {callee:= .builtin .len,args:= #[x],argTypes:= #[t]},ty,ps,af,gd⟩ (.int .i64 len):=fun a w ha _=>by
 simp[execOp,ha.ev hx,resolve,invoke,builtin,Builtin.len_,run_underlying ht.eK,goInt,Result.andThen]
theorem E8{f:FuncId}(hf:aH P f){ρ:Operand->Value}{xs:List Operand}{ts:Array TypeId}(w:World)(YE:ρ (.func f)= .func (.func f) #[] #[]):
  (execOp ρ ⟨d, .call {callee:= .value (.func f),args:=xs.toArray,argTypes:=ts},ty,ps,af,gd⟩).run P w= .ok (.enter f (xs.map ρ).toArray) w:=by
 obtain⟨fn,h1,h2,h3⟩:=hf.fn;have Ji: ¬fn.body=none:=fun e=>by simp[e]at h2
 have Ad: ¬fn.name= "runtime.NumGoroutine" :=by simpa using h3
 simp[execOp,resolve,YE,Deferred.ofValue,invoke,callFunc,h1,Ji,Ad,Result.andThen]
theorem Ck{f:FuncId}{xs:List Operand}{ts:Array TypeId}{vs:List Value}{v:Value}[hf:aH P f](hx:iF env xs=some vs)
  (hc: ∀w,Mem w0 L w->Calls P f vs.toArray w fun e w'=>e= .returned v/\Mem w [] w'):
  Yl P N w0 env L ⟨d, .call {callee:= .value (.func f),args:=xs.toArray,argTypes:=ts},ty,ps,af,gd⟩ v:=fun a ha w hw=>by
 unfold Oper.quietAt;rw[E8 hf w rfl,ha.iF hx];exact⟨rfl,hc w hw⟩
theorem Ae{f:FuncId}{xs:List Operand}{ts:Array TypeId}{vs:List Value}{v:Value}[hf:aH P f](hx:iF env xs=some vs)[hc:rR P f vs v]:
  Yl P N w0 env L ⟨d, .call {callee:= .value (.func f),args:=xs.toArray,argTypes:=ts},ty,ps,af,gd⟩ v:=Ck hx fun w _=>hc.h w
theorem OR{op:BinOp}{t:TypeId}(hm:P.eqGuardType P.depth t=false)(x y:Operand)(xs ys:Array Value)(w:World):(eqGuard op t x y (.agg xs) (.agg ys)).run P w= .ok () w:=run_eqGuard_agg w op t x y xs ys hm
theorem Jj{x y:Operand}{t u:TypeId}{vx vy:Value}{r:Bool}(hx:ev env x=some vx)(hy:ev env y=some vy)[h:yK P t vx vy r]:
  Ry P N w0 env L ⟨d, .binOp .eql t x y u,ty,ps,af,gd⟩ (.bool r):=fun a w ha _=>by
 obtain⟨xs,ys,e1,e2⟩:=h.agg;subst e1 e2;simp only[execOp,ha.ev hx,ha.ev hy,Sem.run_bind,OR h.plain,Result.andThen,run_eql_struct,h.h,Sem.run_pure]
theorem E9{x y:Operand}{t u:TypeId}{vx vy:Value}{r:Bool}(hx:ev env x=some vx)(hy:ev env y=some vy)[h:yK P t vx vy r]:
  Ry P N w0 env L ⟨d, .binOp .neq t x y u,ty,ps,af,gd⟩ (.bool (!r)):=fun a w ha _=>by
 obtain⟨xs,ys,e1,e2⟩:=h.agg;subst e1 e2;simp only[execOp,ha.ev hx,ha.ev hy,Sem.run_bind,OR h.plain,Result.andThen,run_neq_struct,h.h,Sem.run_pure]
theorem YF{x y:Operand}{t u:TypeId}{a b:Bool}(hx:ev env x=some (.bool a))(hy:ev env y=some (.bool b))(ht:P.underlying t=some .bool):
  Ry P N w0 env L ⟨d, .binOp .eql t x y u,ty,ps,af,gd⟩ (.bool (a==b)):=fun aa w ha _=>by
 have h1:(Op.equal t (.bool a) (.bool b)).run P w= .ok (a==b) w:=run_equalIn_bool' w 9999 t a b ht;have h2:(eqGuard BinOp.eql t x y (.bool a) (.bool b)).run P w= .ok () w:=rfl;simp only[execOp,ha.ev hx,ha.ev hy,Sem.run_bind,h2,Result.andThen_ok,binOp,h1,Sem.run_pure]
theorem wrap64_in{n:Int}(h: -9223372036854775808<=n/\n<=9223372036854775807):IntKind.i64.wrap n=n:=IntWalk.i64_in n h
theorem wT{x y:Operand}{a b:Int}{t u:TypeId}(hx:ev env x=some (.int .i64 a))(hy:ev env y=some (.int .i64 b))(h: -9223372036854775808<=a+b/\a+b<=9223372036854775807):
  Ry P N w0 env L ⟨d, .binOp .add t x y u,ty,ps,af,gd⟩ (.int .i64 (a+b)):=eR hx hy (by rw[nj,wrap64_in h])
theorem Ag{x y:Operand}{a b:Int}{t u:TypeId}(hx:ev env x=some (.int .i64 a))(hy:ev env y=some (.int .i64 b))(h: -9223372036854775808<=a -b/\a -b<=9223372036854775807):
  Ry P N w0 env L ⟨d, .binOp .sub t x y u,ty,ps,af,gd⟩ (.int .i64 (a -b)):=eR hx hy (by rw[nj,wrap64_in h])
theorem vC{x y:Operand}{a b:Int}{t u:TypeId}(hx:ev env x=some (.int .i64 a))(hy:ev env y=some (.int .i64 b))(h: -9223372036854775808<=a*b/\a*b<=9223372036854775807):
  Ry P N w0 env L ⟨d, .binOp .mul t x y u,ty,ps,af,gd⟩ (.int .i64 (a*b)):=eR hx hy (by rw[nj,wrap64_in h])
theorem ou{x y:Operand}{a b:Int}{t u:TypeId}(hx:ev env x=some (.int .i64 a))(hy:ev env y=some (.int .i64 b))(h:0<=a/\a<=9223372036854775807)(hb:0<b):
  Ry P N w0 env L ⟨d, .binOp .quo t x y u,ty,ps,af,gd⟩ (.int .i64 (a/b)):=eR hx hy (by
 have h2:a/b<=a:=Int.ediv_le_self _ h.1;have h3:0<=a/b:=av3 h.1 (by omega);rw[nj,if_neg (by omega),Int.tdiv_eq_ediv_of_nonneg h.1,wrap64_in (by omega)])
theorem Cl{x y:Operand}{a b:Int}{k:IntKind}{t u:TypeId}(hx:ev env x=some (.int k a))(hy:ev env y=some (.int k b))(h:0<=a)(hb:0<b):
  Ry P N w0 env L ⟨d, .binOp .rem t x y u,ty,ps,af,gd⟩ (.int k (a%b)):=eR hx hy (by
 rw[nj,if_neg (by omega),Int.tmod_eq_emod_of_nonneg h])
def kt(env:Env):List (Nat×Operand)->Option (List (Nat×Value))
 |[]=>some []
 |(i,x)::r=>match ev env x,kt env r with
  |some v,some vs=>some ((i,v)::vs)
  |_,_=>none
theorem OS:kt env []=some []:=rfl
theorem Cm{i:Nat}{x:Operand}{r:List (Nat×Operand)}{v:Value}{vs:List (Nat×Value)}(h:ev env x=some v)(h':kt env r=some vs):kt env ((i,x)::r)=some ((i,v)::vs):=by
 simp[kt,h,h']
theorem dC.kt{a:Act}(h:dC N env a): ∀{xs:List (Nat×Operand)} {vs:List (Nat×Value)},kt env xs=some vs->(xs.map fun p=>(p.1,a.eval p.2))=vs
 |[],vs,e=>by simp[ax.kt]at e;simp[e]
 |(i,x)::r,vs,e=>by
  unfold ax.kt at e;split at e
  ·rename_i v Yz hv zZ;simp only[avz]at e;subst e;simp[h.ev hv,h.kt zZ]
  simp at e
class sP(P:Program)(t:TypeId)(vs:List (Nat×Value))(v:outParam Value):Prop where
 h: ∀w,(Instr.build t vs.toArray).run P w= .ok v w
theorem cR{t:TypeId}{xs:List (Nat×Operand)}{vs:List (Nat×Value)}{v:Value}(hx:kt env xs=some vs)(hb: ∀w,(Instr.build t vs.toArray).run P w= .ok v w):
  Ry P N w0 env L ⟨d, .build t xs.toArray,ty,ps,af,gd⟩ v:=fun a w ha _=>by
 have e:(xs.toArray.map fun(p:Nat×Operand)=>match p with|(i,x)=>(i,a.eval x))=vs.toArray:=by
  rw[←ha.kt hx];simp
 simp only[execOp,e,Sem.run_bind,hb w,Result.andThen,Sem.run_pure]
theorem gf{t:TypeId}{xs:List (Nat×Operand)}{vs:List (Nat×Value)}{v:Value}(hx:kt env xs=some vs)[hb:sP P t vs v]:
  Ry P N w0 env L ⟨d, .build t xs.toArray,ty,ps,af,gd⟩ v:=cR hx hb.h
theorem OT{k:IntKind}{i:Int}{y:Nat}(h0:0<=i)(h1:i<=y)(c:BoundsCode)(w:World):(Instr.sliceBound (.int k i) y c).run P w= .ok i.toNat w:=by
 simp[Instr.sliceBound,asIntOf,h0,h1]
theorem Jk{t:TypeId}{x hi:Operand}{n m b o:Nat}{k:IntKind}{h:Int}[ht:wS P t n m](hx:ev env x=some (.pointer (some ⟨b,o,none⟩)))(hh:ev env hi=some (.int k h))(h0:0<=h)(h1:h<=n):
  Ry P N w0 env L ⟨d, .slice t x none (some hi) none,ty,ps,af,gd⟩ (.slice (some ⟨b,o,none⟩) h.toNat n):=fun a w ha _=>by
 obtain⟨e,hu,eQ⟩:=ht.arr;have e0:(⟨b,o,none⟩:Addr).add 0=⟨b,o,none⟩:=rfl;simp[execOp,ha.ev hx,ha.ev hh,Instr.sliceAt,run_underlying hu,Instr.sureAddr,Instr.sliceBounds,OT h0 h1,lT w eQ,Result.andThen,e0]
theorem yM{t:TypeId}{x:Operand}{n m b o:Nat}[ht:wS P t n m](hx:ev env x=some (.pointer (some ⟨b,o,none⟩))):
  Ry P N w0 env L ⟨d, .slice t x none none none,ty,ps,af,gd⟩ (.slice (some ⟨b,o,none⟩) n n):=fun a w ha _=>by
 obtain⟨e,hu,eQ⟩:=ht.arr;have e0:(⟨b,o,none⟩:Addr).add 0=⟨b,o,none⟩:=rfl;simp[execOp,ha.ev hx,Instr.sliceAt,run_underlying hu,Instr.sureAddr,Instr.sliceBounds,lT w eQ,Result.andThen,e0]
theorem OU{t:TypeId}{x lo:Operand}{n m b o:Nat}{k:IntKind}{l:Int}[ht:wS P t n m](hx:ev env x=some (.pointer (some ⟨b,o,none⟩)))(hl:ev env lo=some (.int k l))(h0:0<=l)(h1:l<n):
  Ry P N w0 env L ⟨d, .slice t x (some lo) none none,ty,ps,af,gd⟩ (.slice (some ⟨b,o+l.toNat*m,none⟩) (n -l.toNat) (n -l.toNat)):=fun a w ha _=>by
 obtain⟨e,hu,eQ⟩:=ht.arr;have e0:(if n=l.toNat then(⟨b,o,none⟩:Addr)else(⟨b,o,none⟩:Addr).add (l.toNat*m))=⟨b,o+l.toNat*m,none⟩:=by rw[if_neg (by omega),Addr.hQ]
 simp[execOp,ha.ev hx,ha.ev hl,Instr.sliceAt,run_underlying hu,Instr.sureAddr,Instr.sliceBounds,OT h0 (Int.le_of_lt h1),lT w eQ,Result.andThen,e0]
def nb:IntKind->Nat
 | .i8=>7| .i16=>15| .i32=>31| .i64=>63| .u8=>8| .u16=>16| .u32=>32| .u64=>64
theorem YG(k:IntKind):nb k<=k.bits:=by cases k<;>decide
theorem qW{k:IntKind}{n:Nat}(h:n<2^nb k):k.wrap (n:Int)=n:=by
 cases k<;>simp[IntKind.wrap,IntKind.bits,IntKind.signed,nb]at* <;>omega
theorem Ah(b n:Nat):BitVec.ofInt b (n:Int)=BitVec.ofNat b n:=by
 apply BitVec.eq_of_toNat_eq;simp
theorem rS{k:IntKind}{n:Nat}(h:n<2^nb k):n<2^k.bits:=avB h (avr (by decide) (YG k))
variable {x y:Operand} {k k':IntKind} {p q:Nat} {t u:TypeId}
theorem OV{a b:Int}(hx:ev env x=some (.int k a))(hy:ev env y=some (.int k b))(ea:a=p)(eb:b=q)(hp:p<2^nb k)(hq:q<2^nb k):
  Ry P N w0 env L ⟨d, .binOp .and t x y u,ty,ps,af,gd⟩ (.int k ((p&&&q:Nat):Int)):=eR hx hy (by
 subst ea eb;simp only[nj,Ah,BitVec.toNat_and,avH,auJ (rS hp),auJ (rS hq)];rw[qW (Nat.and_lt_two_pow _ hq)])
theorem Cn{a b:Int}(hx:ev env x=some (.int k a))(hy:ev env y=some (.int k b))(ea:a=p)(eb:b=q)(hp:p<2^nb k)(hq:q<2^nb k):
  Ry P N w0 env L ⟨d, .binOp .or t x y u,ty,ps,af,gd⟩ (.int k ((p|||q:Nat):Int)):=eR hx hy (by
 subst ea eb;simp only[nj,Ah,BitVec.toNat_or,avH,auJ (rS hp),auJ (rS hq)];rw[qW (Nat.or_lt_two_pow hp hq)])
theorem OW{a b:Int}(hx:ev env x=some (.int k a))(hy:ev env y=some (.int k b))(ea:a=p)(eb:b=q)(hp:p<2^nb k)(hq:q<2^nb k):
  Ry P N w0 env L ⟨d, .binOp .xor t x y u,ty,ps,af,gd⟩ (.int k ((p^^^q:Nat):Int)):=eR hx hy (by
 subst ea eb;simp only[nj,Ah,BitVec.toNat_xor,avH,auJ (rS hp),auJ (rS hq)];rw[qW (awQ hp hq)])
theorem YH(hp:p<2^nb k)(hq:q<2^nb k):nj .andNot k p q=some (.int k ((p&&&(2^k.bits -1 -q):Nat):Int)):=by
 simp only[nj,Ah,BitVec.toNat_and,BitVec.toNat_not,avH,auJ (rS hp),auJ (rS hq)];rw[qW (avI Nat.and_le_left hp)]
theorem YI{a b:Int}(h:0<=b)(w:World):(binOp .shr t (.int k a) (.int k' b)).run P w= .ok (.int k (a.fdiv (2^min b.toNat k.bits))) w:=by
 simp[binOp,Op.shift,show ¬b<0 by omega]
theorem YJ{a b:Int}(h:0<=b)(w:World):(binOp .shl t (.int k a) (.int k' b)).run P w= .ok (.int k (k.wrap (a*2^min b.toNat k.bits))) w:=by
 simp[binOp,Op.shift,show ¬b<0 by omega]
theorem Co{a b:Int}(hx:ev env x=some (.int k a))(hy:ev env y=some (.int k b))(ea:a=p)(eb:b=q)(h:p+q<2^nb k):
  Ry P N w0 env L ⟨d, .binOp .add t x y u,ty,ps,af,gd⟩ (.int k ((p+q:Nat):Int)):=eR hx hy (by
 subst ea eb;rw[nj,←Int.natCast_add,qW h])
theorem Jl{a b:Int}{ts:Array TypeId}(hx:ev env x=some (.int k a))(hy:ev env y=some (.int k b)):
  Ry P N w0 env L ⟨d, .call {callee:= .builtin .min,args:= #[x,y],argTypes:=ts},ty,ps,af,gd⟩ (.int k (min a b)):=fun aa w ha _=>by
 have e:(if b<a then b else a)=min a b:=by rw[Int.min_def];split<;>split<;>omega
 simp[execOp,ha.ev hx,ha.ev hy,resolve,invoke,builtin,Builtin.min_,Builtin.min2,e]
theorem yN{a b:Int}{ts:Array TypeId}(hx:ev env x=some (.int k a))(hy:ev env y=some (.int k b)):
  Ry P N w0 env L ⟨d, .call {callee:= .builtin .max,args:= #[x,y],argTypes:=ts},ty,ps,af,gd⟩ (.int k (max a b)):=fun aa w ha _=>by
 have e:(if a<b then b else a)=max a b:=by rw[Int.max_def];split<;>split<;>omega
 simp[execOp,ha.ev hx,ha.ev hy,resolve,invoke,builtin,Builtin.max_,Builtin.max2,e]
theorem Jm{ix:Operand}{s:ByteArray}{j:Int}{v:Nat}(hu:P.underlying t=some .string)(hx:ev env x=some (.string s))(hj:ev env ix=some (.int k j))(h0:0<=j)(hv:(s[j.toNat]?).map (·.toNat)=some v):
  Ry P N w0 env L ⟨d, .index t x ix,ty,ps,af,gd⟩ (.int .u8 v):=fun a w ha _=>by
 cases hs:s[j.toNat]?with
 |none=>simp[hs]at hv
 |some b=>
  simp[hs]at hv;simp[execOp,ha.ev hx,ha.ev hj,Instr.index,asIntOf,run_underlying hu,h0,hs,hv,Result.andThen]
theorem mw{s:TypeId}{n:Nat}[hs:mv P s k'][ht:mv P t k](hx:ev env x=some (.int k' n))(hn:n<2^nb k):
  Ry P N w0 env L ⟨d, .convert s t x,ty,ps,af,gd⟩ (.int k n):=vB hx (qW hn)
theorem Jn{s:TypeId}{n:Int}[hs:mv P s k'][ht:mv P t k](hx:ev env x=some (.int k' n))(h0:0<=n)(hn:n.toNat<2^nb k):
  Ry P N w0 env L ⟨d, .convert s t x,ty,ps,af,gd⟩ (.int k n):=vB hx (by
 have:=qW hn;rwa [auU h0]at this)
theorem wU{b:Int}(hx:ev env x=some (.int k p))(hy:ev env y=some (.int k' b))(hp:p<2^nb k)(hb:0<=b):
  Ry P N w0 env L ⟨d, .binOp .shr t x y u,ty,ps,af,gd⟩ (.int k ((p/2^b.toNat:Nat):Int)):=fun a w ha _=>by
 have e:((p:Int).fdiv (2^min b.toNat k.bits))=((p/2^b.toNat:Nat):Int):=by
  rw[Int.fdiv_eq_ediv_of_nonneg _ (Int.pow_nonneg (by decide)),show((2:Int)^min b.toNat k.bits)=((2^min b.toNat k.bits:Nat):Int) by simp,←Int.natCast_ediv];congr 1
  by_cases h:b.toNat<=k.bits
  ·rw[awl h]
  ·rw[Nat.min_eq_right (by omega),Nat.div_eq_of_lt (rS hp),Nat.div_eq_of_lt (avB (rS hp) (avr (by decide) (by omega)))]
 simp only[execOp,ha.ev hx,ha.ev hy,Sem.run_bind,Jg,YI hb,e,Sem.run_pure,Result.andThen]
theorem Jo{a b:Int}(hx:ev env x=some (.int k a))(hy:ev env y=some (.int k' b))(hb:0<=b):
  Ry P N w0 env L ⟨d, .binOp .shl t x y u,ty,ps,af,gd⟩ (.int k (k.wrap (a*2^min b.toNat k.bits))):=fun aa w ha _=>by
 simp only[execOp,ha.ev hx,ha.ev hy,Sem.run_bind,Jg,YJ hb,Sem.run_pure,Result.andThen]
end
section
variable {P:Program} {N:cA} {w0:World} {env:Env} {L:List ai} {l:List Oper} {Q:Exit->Act->World->Prop} {F:Act->Prop} {fs:List Nat} {k:Nat} {rest:List Oper}
def Ex(N:cA)(w0:World)(Q:Exit->Act->World->Prop)(e:Exit)(env:Env)(L:List ai):Prop:= ∀a w,dC N env a->Mem w0 L w->Q e a w
def Sq(P:Program)(N:cA)(w0:World)(l:List Oper)(Q:Exit->Act->World->Prop)(rest:List Oper)(env:Env)(L:List ai):Prop:=
 ∀a w,dC N env a->Mem w0 L w->wpList P l.toArray Q rest a w
def Qt(P:Program)(N:cA)(w0:World)(l:List Oper)(fs:List Nat)(F:Act->Prop)(k:Nat)(rest:List Oper)(env:Env)(L:List ai):Prop:=
 ∀a,dC N env a->oq P l.toArray fs (Mem w0 L) F k rest a
theorem Fa(h:Ex N w0 Q .normal env L):Sq P N w0 l Q [] env L:=h
theorem OX(h:Ex N w0 Q .normal env L):Qt P N w0 l fs (fun a'=> ∀w',Mem w0 L w'->Q .normal a' w') k [] env L:=fun a ha w' hK=>h a w' ha hK
def Fr(P:Program)(N:cA)(w0:World)(Lq:List ai)(l:List Oper)(n:Nat)(Q:Exit->Act->World->Prop)(fs:List Nat)(env:Env)(L:List ai):Prop:=
 (∀w,Mem w0 L w->Mem w0 Lq w)-> ∀a,dC N env a->vz P l n Q w0 Lq fs a L
theorem vD{n:Nat}{gs:List Nat}{L':List ai}(h:Fr P N w0 L l n Q gs env L')(hq: ∀w,Mem w0 L' w->Mem w0 L w:=by exact fun _ h=>h):Qt P N w0 l fs (fun a'=>vz P l n Q w0 L gs a' L') k [] env L:=fun a ha=>h hq a ha
theorem vE{n:Nat}{Lq:List ai}(h:Sq P N w0 l Q (l.drop n) env L):Fr P N w0 Lq l n Q [] env L:=fun _ a ha w hw=>h a w ha hw
theorem OY{o:Oper}(hk:Qt P N w0 l fs F (k+1) rest env L)(hf:fs.contains k=true:=by rfl):Qt P N w0 l fs F k (o::rest) env L:=fun a ha=>by
 unfold oq;rw[if_pos hf];exact hk a ha
theorem rT{o:Oper}{y:Nat->Option Bool}(h:o.guard=none):Region.wanted o y=true:=by simp[Region.wanted,h]
theorem yO{o:Oper}{a:Act}{j t:Nat}{b g:Bool}(ha:dC N env a)(h:o.guard=some (j,b))(hj:(l[j]?).bind (·.dst)=some t)(hv:look env t=some (.bool g)):
  Region.wanted o (yielded l.toArray a.tmps)=(g==b):=by
 have:=ha.get _ _ hv;simp[Region.wanted,h,yielded,hj,this]
theorem Jp{o:Oper}{a:Act}{j t:Nat}{b c g:Bool}(ha:dC N env a)(h:o.guard=some (j,b))(hj:(l[j]?).bind (·.dst)=some t)(hv:look env t=some (if c=true then .bool g else undef)):
  Region.wanted o (yielded l.toArray a.tmps)=(c&&(g==b)):=by
 have:=ha.get _ _ hv
 cases c
 ·simp only[auH,if_false]at this;simp[Region.wanted,h,yielded,hj,this,undef]
 ·simp only[if_true]at this;simp[Region.wanted,h,yielded,hj,this]
theorem Ai{o:Oper}{a:Act}{w:World}{v:Value}{K:Act->World->Prop}(ha:dC N env a)(hw:Mem w0 L w)(h:Yl P N w0 env L o v)(hk: ∀w',Mem w0 L w'->K (a.put o.dst v) w'):o.wp P a w K Q:=by
 have h1:=h a ha w hw;unfold Oper.quietAt at h1;unfold Oper.wp;generalize(execOp a.eval o).run P w=r at h1;unfold Oper.quietUpon at h1;split at h1
 ·obtain⟨rfl,rfl⟩:=h1;exact hk _ hw
 ·obtain⟨rfl,rfl⟩:=h1;exact hk _ hw
 ·obtain⟨rfl,hc⟩:=h1;exact hc.mono fun e qU ⟨he,hm⟩=>by subst he;exact hk _ (by simpa using hw.call hm)
 exact h1.elim
theorem cO{o:Oper}{v:Value}(h:Yl P N w0 env L o v)(hk:Sq P N w0 l Q rest (cr env o.dst v) L)(hg:o.guard=none:=by rfl)(hd:dq N o.dst=true:=by rfl):Sq P N w0 l Q (o::rest) env L:=fun a w ha hw=>by
 unfold wpList;rw[if_pos (rT hg)];exact .inl (Ai ha hw h fun w' hK=>hk _ _ (ha.put hd v) hK)
theorem ag{o:Oper}{v:Value}(h:Ry P N w0 env L o v)(hk:Sq P N w0 l Q rest (cr env o.dst v) L)(hg:o.guard=none:=by rfl)(hd:dq N o.dst=true:=by rfl):Sq P N w0 l Q (o::rest) env L:=cO h.yl hk hg hd
theorem uh{o:Oper}{v:Value}(h:Yl P N w0 env L o v)(hk:Qt P N w0 l fs F (k+1) rest (cr env o.dst v) L)(hg:o.guard=none:=by rfl)(hd:dq N o.dst=true:=by rfl)(hf:fs.contains k=false:=by rfl):Qt P N w0 l fs F k (o::rest) env L:=fun a ha=>by
 unfold oq;rw[if_neg (by rw[hf];exact au7)];rw[if_pos (rT hg)];exact⟨v,h a ha,hk _ (ha.put hd v)⟩
theorem bX{o:Oper}{v:Value}(h:Ry P N w0 env L o v)(hk:Qt P N w0 l fs F (k+1) rest (cr env o.dst v) L)(hg:o.guard=none:=by rfl)(hd:dq N o.dst=true:=by rfl)(hf:fs.contains k=false:=by rfl):Qt P N w0 l fs F k (o::rest) env L:=uh h.yl hk hg hd hf
theorem look_eq{t:Nat}{u v:Value}(h:look env t=some u)(e:u=v):look env t=some v:=by rw[h,e]
theorem jo{o:Oper}{v:Value}{j t:Nat}{g:Bool}(hg:o.guard=some (j,true))(hj:(l[j]?).bind (·.dst)=some t)(hv:look env t=some (.bool g))(h:g=true->Yl P N w0 env L o v)
  (hk:Sq P N w0 l Q rest (cr env o.dst (if g=true then v else undef)) L) (hd:dq N o.dst=true:=by rfl):Sq P N w0 l Q (o::rest) env L:=fun a w ha hw=>by
 unfold wpList;rw[yO ha hg hj hv]
 cases g
 ·exact hk _ _ (ha.put hd undef) hw
 ·exact .inl (Ai ha hw (h rfl) fun w' hK=>hk _ _ (ha.put hd v) hK)
theorem gC{o:Oper}{v:Value}{j t:Nat}{g:Bool}(hg:o.guard=some (j,true))(hj:(l[j]?).bind (·.dst)=some t)(hv:look env t=some (.bool g))(h:g=true->Yl P N w0 env L o v)
  (hk:Qt P N w0 l fs F (k+1) rest (cr env o.dst (if g=true then v else undef)) L) (hd:dq N o.dst=true:=by rfl) (hf:fs.contains k=false:=by rfl):Qt P N w0 l fs F k (o::rest) env L:=fun a ha=>by
 unfold oq;rw[if_neg (by rw[hf];exact au7)];rw[yO ha hg hj hv]
 cases g
 ·exact hk _ (ha.put hd undef)
 ·exact⟨v,h rfl a ha,hk _ (ha.put hd v)⟩
theorem bU{o:Oper}{v:Value}{j t:Nat}{g:Bool}(hg:o.guard=some (j,false))(hj:(l[j]?).bind (·.dst)=some t)(hv:look env t=some (.bool g))(h:(!g)=true->Yl P N w0 env L o v)
  (hk:Sq P N w0 l Q rest (cr env o.dst (if(!g)=true then v else undef)) L) (hd:dq N o.dst=true:=by rfl):Sq P N w0 l Q (o::rest) env L:=fun a w ha hw=>by
 unfold wpList;rw[yO ha hg hj hv]
 cases g
 ·exact .inl (Ai ha hw (h rfl) fun w' hK=>hk _ _ (ha.put hd v) hK)
 ·exact hk _ _ (ha.put hd undef) hw
theorem jH{o:Oper}{v:Value}{j t:Nat}{g:Bool}(hg:o.guard=some (j,false))(hj:(l[j]?).bind (·.dst)=some t)(hv:look env t=some (.bool g))(h:(!g)=true->Yl P N w0 env L o v)
  (hk:Qt P N w0 l fs F (k+1) rest (cr env o.dst (if(!g)=true then v else undef)) L) (hd:dq N o.dst=true:=by rfl) (hf:fs.contains k=false:=by rfl):Qt P N w0 l fs F k (o::rest) env L:=fun a ha=>by
 unfold oq;rw[if_neg (by rw[hf];exact au7)];rw[yO ha hg hj hv]
 cases g
 ·exact⟨v,h rfl a ha,hk _ (ha.put hd v)⟩
 ·exact hk _ (ha.put hd undef)
theorem po{o:Oper}{v:Value}{j t:Nat}{c g:Bool}(hg:o.guard=some (j,true))(hj:(l[j]?).bind (·.dst)=some t)(hv:look env t=some (if c=true then .bool g else undef))(h:(c&&g)=true->Yl P N w0 env L o v)
  (hk:Sq P N w0 l Q rest (cr env o.dst (if(c&&g)=true then v else undef)) L) (hd:dq N o.dst=true:=by rfl):Sq P N w0 l Q (o::rest) env L:=fun a w ha hw=>by
 unfold wpList;rw[Jp ha hg hj hv]
 cases c<;>cases g
 ·exact hk _ _ (ha.put hd undef) hw
 ·exact hk _ _ (ha.put hd undef) hw
 ·exact hk _ _ (ha.put hd undef) hw
 ·exact .inl (Ai ha hw (h rfl) fun w' hK=>hk _ _ (ha.put hd v) hK)
theorem vF{o:Oper}{v:Value}{j t:Nat}{c g:Bool}(hg:o.guard=some (j,false))(hj:(l[j]?).bind (·.dst)=some t)(hv:look env t=some (if c=true then .bool g else undef))(h:(c&& !g)=true->Yl P N w0 env L o v)
  (hk:Sq P N w0 l Q rest (cr env o.dst (if(c&& !g)=true then v else undef)) L) (hd:dq N o.dst=true:=by rfl):Sq P N w0 l Q (o::rest) env L:=fun a w ha hw=>by
 unfold wpList;rw[Jp ha hg hj hv]
 cases c<;>cases g
 ·exact hk _ _ (ha.put hd undef) hw
 ·exact hk _ _ (ha.put hd undef) hw
 ·exact .inl (Ai ha hw (h rfl) fun w' hK=>hk _ _ (ha.put hd v) hK)
 ·exact hk _ _ (ha.put hd undef) hw
theorem Jq{o:Oper}{v:Value}{j t:Nat}{c g:Bool}(hg:o.guard=some (j,false))(hj:(l[j]?).bind (·.dst)=some t)(hv:look env t=some (if c=true then .bool g else undef))(h:(c&& !g)=true->Yl P N w0 env L o v)
  (hk:Qt P N w0 l fs F (k+1) rest (cr env o.dst (if(c&& !g)=true then v else undef)) L) (hd:dq N o.dst=true:=by rfl) (hf:fs.contains k=false:=by rfl):Qt P N w0 l fs F k (o::rest) env L:=fun a ha=>by
 unfold oq;rw[if_neg (by rw[hf];exact au7)];rw[Jp ha hg hj hv]
 cases c<;>cases g
 ·exact hk _ (ha.put hd undef)
 ·exact hk _ (ha.put hd undef)
 ·exact⟨v,h rfl a ha,hk _ (ha.put hd v)⟩
 ·exact hk _ (ha.put hd undef)
theorem yP{x:Operand}{c g:Bool}{v u:Value}(hc:c=true)(h:ev env x=some (if(c&&g)=true then v else u)):ev env x=some (if g=true then v else u):=by subst hc;simpa using h
theorem aG{x:Operand}{g:Bool}{v u:Value}(hg:g=true)(h:ev env x=some (if g=true then v else u)):ev env x=some v:=by rw[h,if_pos hg]
variable {d:Option Tmp} {ty:TypeId} {ps:String} {af:Array Edge}
theorem nK{o:Oper}(hg:o.guard=none)(hd:dq N o.dst=true)
  (h: ∀a w,dC N env a->Mem w0 L w-> ∃v w' L',(execOp a.eval o).run P w= .ok (.value v) w'/\Mem w0 L' w'/\Sq P N w0 l Q rest (cr env o.dst v) L'):Sq P N w0 l Q (o::rest) env L:=fun a w ha hw=>by
 unfold wpList;rw[if_pos (rT hg)];obtain⟨v,w',L',h1,h2,h3⟩:=h a w ha hw;refine .inl ?_;unfold Oper.wp;rw[h1];exact h3 _ _ (ha.put hd v) h2
theorem Fb{o:Oper}(hg:o.guard=none)(hd:o.dst=none)
  (h: ∀a w,dC N env a->Mem w0 L w-> ∃w' L',(execOp a.eval o).run P w= .ok .skip w'/\Mem w0 L' w'/\Sq P N w0 l Q rest env L'):Sq P N w0 l Q (o::rest) env L:=fun a w ha hw=>by
 unfold wpList;rw[if_pos (rT hg)];obtain⟨w',L',h1,h2,h3⟩:=h a w ha hw;refine .inl ?_;unfold Oper.wp;rw[h1];show wpList P l.toArray Q rest (a.put o.dst undef) w';rw[hd];exact h3 _ _ ha h2
theorem Jr{t:TypeId}{x:Operand}{v:Value}(hx:ev env x=some v)(hk: ∀b,Sq P N w0 l Q rest (cr env d (.pointer (some ⟨b,0,none⟩))) (aq b v.cells t::L))(hd:dq N d=true:=by rfl):
  Sq P N w0 l Q (⟨d, .box t x,ty,ps,af,none⟩::rest) env L:=
 nK rfl hd fun a w ha hw=>⟨_,_,_,by simp only[execOp,ha.ev hx,Instr.box,newVar,newRow,Sem.run_bind,newObj,Sem.run,Result.andThen,Sem.run_pure];rfl,hw.alloc v.cells t,hk _⟩
theorem OZ{t:TypeId}{z:Value}[hz:eY P t z](hk: ∀b,Sq P N w0 l Q rest (cr env d (.pointer (some ⟨b,0,none⟩))) (aq b z.cells t::L))(hd:dq N d=true:=by rfl):
  Sq P N w0 l Q (⟨d, .alloc t,ty,ps,af,none⟩::rest) env L:=
 nK rfl hd fun a w ha hw=>⟨_,_,_,by simp only[execOp,Instr.alloc,newVar,newRow,Sem.run_bind,E7 w hz,newObj,Sem.run,Result.andThen,Sem.run_pure];rfl,hw.alloc z.cells t,hk _⟩
theorem cn{t:TypeId}{x:Operand}{cs:Array Value}(hx:ev env x=some (.agg cs))(hk: ∀b,Sq P N w0 l Q rest (cr env d (.pointer (some ⟨b,0,none⟩))) (aq b cs t::L))(hd:dq N d=true:=by rfl):
  Sq P N w0 l Q (⟨d, .box t x,ty,ps,af,none⟩::rest) env L:=Jr hx hk hd
theorem bn{t:TypeId}{cs:Array Value}[hz:eY P t (.agg cs)](hk: ∀b,Sq P N w0 l Q rest (cr env d (.pointer (some ⟨b,0,none⟩))) (aq b cs t::L))(hd:dq N d=true:=by rfl):
  Sq P N w0 l Q (⟨d, .alloc t,ty,ps,af,none⟩::rest) env L:=OZ (z:= .agg cs) hk hd
theorem YK{cs:Array Value}(h:cs.all (·.oneCell')=true)(a b:Nat):(cs.extract a b).all (·.oneCell')=true:=by
 rw[auR]at h⊢;intro v hv;have:v∈(cs.extract a b).toList:=Array.mem_toList_iff.2 hv;rw[Array.toList_extract]at this;simp only[List.extract]at this;exact h v (by simpa using awD (avU this))
theorem dO{t:TypeId}{x y:Operand}{i b o:Nat}{cs:Array Value}{T:TypeId}{v:Value}(hx:ev env x=some (.pointer (some ⟨b,o,none⟩)))(hy:ev env y=some v)[ht:gT P t][hh:Has L b cs T i](ho:o<cs.size)(hv:v.oneCell'=true){cs':Array Value}{L':List ai}(hU:cs.setIfInBounds o v=cs')[hu:fZ L i (aq b cs' T) L'](hk:Sq P N w0 l Q rest env L'):
  Sq P N w0 l Q (⟨none, .store t x y,ty,ps,af,none⟩::rest) env L:=
 Fb rfl rfl fun a w ha hw=>by
  have hi:=hh.h;have hb:=hw.block hi;have hc:w.cell? ⟨b,o,none⟩=some cs[o]:=by rw[hw.cell hi];simp[ho]
  have hf:w.frozen? ⟨b,o,none⟩=false:=frozen_of_row w b o cs T hb;subst hU;refine⟨w.setCell ⟨b,o,none⟩ v,_,?_,?_,hk⟩
  ·
   have h1:(storeCells ⟨b,o,none⟩ [v]).run P w= .ok () (w.setCell ⟨b,o,none⟩ v):=by
    have:=run_storeCells_at (P:=P) b o T [v] 0 cs w hb (by simp;omega) (by simpa using hv);rw[this,setCell_eq_setRow w b o cs T (0,0) v hb];congr 2;apply awE;simp[List.set_eq_take_append_cons_drop,ho]
   have hU:v.cells= #[v]:=by cases v<;>simp_all[Value.oneCell',Value.cells]
   simp only[execOp,ha.ev hx,ha.ev hy,Instr.storeAt,Instr.sureAddr,storeVar,Sem.run_bind,Sem.run_pure,Result.andThen,lT w ht.size,hU];simp[h1]
  ·rw[setCell_eq_setRow w b o cs T (0,0) v hb];rw[←hu.h];exact hw.setRow hi _
def over(cs:Array Value)(o:Nat)(vs:Array Value):Array Value:=(cs.toList.take o++vs.toList++cs.toList.drop (o+vs.size)).toArray
theorem qX{t:TypeId}{x y:Operand}{i b o n:Nat}{cs vs:Array Value}{T:TypeId}(hx:ev env x=some (.pointer (some ⟨b,o,none⟩)))(hy:ev env y=some (.agg vs))[ht:gK P t n][hh:Has L b cs T i][hs:gB vs n](ho:o+n<=cs.size){cs':Array Value}{L':List ai}(hU:over cs o vs=cs')[hu:fZ L i (aq b cs' T) L'](hk:Sq P N w0 l Q rest env L'):
  Sq P N w0 l Q (⟨none, .store t x y,ty,ps,af,none⟩::rest) env L:=
 Fb rfl rfl fun a w ha hw=>by
  have hi:=hh.h;have hn:=hs.h;have hv:=hs.one;have hb:=hw.block hi;subst hU;refine⟨_,_,?_,by rw[←hu.h];exact hw.setRow hi _,hk⟩;have h1:=run_storeCells_at (P:=P) b o T vs.toList 0 cs w hb (by simp;omega) (fun v my=>(auR.1 hv) v (by simpa using my));simp only[execOp,ha.ev hx,ha.ev hy,Instr.storeAt,Instr.sureAddr,storeVar,Value.cells,Sem.run_bind,Sem.run_pure,Result.andThen,lT w ht.size,hn];simp[h1,over]
theorem YL{t:TypeId}{x y:Operand}{i b n:Nat}{cs vs:Array Value}{T:TypeId}(hx:ev env x=some (.pointer (some ⟨b,0,none⟩)))(hy:ev env y=some (.agg vs))[ht:gK P t n][hh:Has L b cs T i][hs:gB vs n][hc:gB cs n]{L':List ai}[hu:fZ L i (aq b vs T) L'](hk:Sq P N w0 l Q rest env L'):
  Sq P N w0 l Q (⟨none, .store t x y,ty,ps,af,none⟩::rest) env L:=by
 have hn:=hs.h;have YM:=hc.h;refine qX hx hy (by omega) (?_:over cs 0 vs=vs) hk;apply awE;simp[over];omega
theorem Js{x y:Operand}{tx gU e:TypeId}{i b o dl dc sl sc:Nat}{a:Addr}{cs vs:Array Value}{T:TypeId}(hx:ev env x=some (.slice (some ⟨b,o,none⟩) dl dc))(hy:ev env y=some (.slice (some a) sl sc))
  [ht:fH P tx e 1] [hh:Has L b cs T i] (hn:vs.size=Nat.min sl dl) (nL: ∀w,Mem w0 L w-> ∀j,j<vs.size->w.cell? (a.add j)=vs[j]?) (hv:vs.all (·.oneCell')=true) (ho:o+vs.size<=cs.size)
  {cs':Array Value} {L':List ai} (hU:over cs o vs=cs') [hu:fZ L i (aq b cs' T) L'] (hk:Sq P N w0 l Q rest (cr env d (.int .i64 vs.size)) L') (hd:dq N d=true:=by rfl):
  Sq P N w0 l Q (⟨d, .call {callee:= .builtin .copy,args:= #[x,y],argTypes:= #[tx,gU]},ty,ps,af,none⟩::rest) env L:=
 nK rfl hd fun aa w ha hw=>by
  have hi:=hh.h;have hb:=hw.block hi;subst hU;have gS:=run_copy_row (P:=P) w tx gU ty e b o dl dc a sl sc cs T vs.toList ht.eK ht.size hb (by simpa using hn)
   (fun j v my=>by
    have hj:j<vs.size:=by simpa using(zz.1 my).1
    rw[nL w hw j hj];simpa using my) (by simpa using ho) (fun v my=>(auR.1 hv) v (by simpa using my))
  refine⟨_,w.setRow b (over cs o vs),_,?_,by rw[←hu.h];exact hw.setRow hi _,hk⟩;simp[execOp,ha.ev hx,ha.ev hy,resolve,invoke,builtin,gS,Result.andThen,goInt,over]
end
section
variable {P:Program} {N:cA} {w0:World} {env:Env} {L Lq:List ai} {l:List Oper} {n j:Nat} {js:List Nat} {Q:Exit->Act->World->Prop} {d:Option Tmp} {ty:TypeId} {ps:String} {af:Array Edge}
theorem YN{o:Oper}(hj:l[j]? =some o)(hg:o.guard=none)(hd:dq N o.dst=true)
  (h: ∀a w,dC N env a->Mem w0 L w-> ∃v w' E,(execOp a.eval o).run P w= .ok (.value v) w'/\Mem w E w'/\Fr P N w0 Lq l n Q js (cr env o.dst v) (E++L)):Fr P N w0 Lq l n Q (j::js) env L:=fun hq a ha=>
 ⟨o,hj,hg,fun w hw=>by
  obtain⟨v,w',E,h1,h2,h3⟩:=h a w ha hw;rw[h1];have O0: ∀w,Mem w0 (E++L) w->Mem w0 Lq w:=fun w h=>hq w (h.sub (List.sublist_append_right _ _));exact⟨E++L,hw.call h2,O0,h3 O0 _ (ha.put hd v)⟩⟩
theorem YO{X:Type}{val:X->Value}{L':X->List ai}{pr:X->Prop}{f:FuncId}{xs:List Operand}{ts:Array TypeId}{vs:List Value}(hj:l[j]? =some ⟨d, .call {callee:= .value (.func f),args:=xs.toArray,argTypes:=ts},ty,ps,af,none⟩)[hf:aH P f](hx:iF env xs=some vs)
  (hc: ∀w,Mem w0 L w->Calls P f vs.toArray w fun e w'=> ∃x,e= .returned (val x)/\pr x/\Mem w0 (L' x) w') (hL: ∀x w,Mem w0 (L' x) w->Mem w0 Lq w) (hk: ∀x,pr x->Fr P N w0 Lq l n Q js (cr env d (val x)) (L' x)) (hd:dq N d=true:=by rfl):
  Fr P N w0 Lq l n Q (j::js) env L:=fun _ a ha=>
 ⟨_,hj,rfl,fun w hw=>by
  rw[E8 hf w rfl,ha.iF hx];exact⟨rfl,(hc w hw).mono fun e w' ⟨x,he,hp,hm⟩=>⟨val x,L' x,he,hm,hL x,hk x hp (hL x) _ (ha.put hd _)⟩⟩⟩
end
section
variable {P:Program} {N:cA} {w0:World} {env:Env} {L:List ai} {Q:Exit->Act->World->Prop}
def Cw(P:Program)(N:cA)(w0:World)(Q:Exit->Act->World->Prop)(c:Code)(env:Env)(L:List ai):Prop:= ∀a w,dC N env a->Mem w0 L w->c.wpIn (ni N.ro) 0 P Q a w
theorem Fc{x y:Code}(h:Cw P N w0 (Exit.then (y.wpIn (ni N.ro) 0 P Q) Q) x env L):Cw P N w0 Q (.seq x y) env L:=fun a w ha hw=>wpIn_seq (h a w ha hw)
theorem Fe{id:Nat}{l:List Oper}[lg Q](h:Sq P N w0 l Q l env L)(cL:qT l=true:=by kernel_rfl):Cw P N w0 Q (.region id l.toArray false) env L:=fun a w ha hw=>Yk cL (h a w ha hw)
theorem Jt{ops:Array Oper}{C:World->Prop}{F:Act->Prop}(hC: ∀w w',C w->Mem w [] w'->C w'): ∀(rest:List Oper) (k:Nat) (a:Act),oq P ops [] C F k rest a->wpQuiet P ops C F rest a
 |[],_,_,h=>h
 |o::rest,k,a,h=>by
  unfold oq at h;rw[if_neg (by simp)]at h;unfold wpQuiet;split
  ·
   rename_i hw;rw[if_pos hw]at h;obtain⟨v,h1,h2⟩:=h;refine⟨v,fun w Ff=>?_,Jt hC rest (k+1) _ h2⟩;have h3:=h1 w Ff;unfold Oper.quietAt at h3⊢;generalize(execOp a.eval o).run P w=r at h3;unfold Oper.quietUpon at h3⊢;split at h3
   ·exact h3
   ·exact h3
   ·exact⟨h3.1,by obtain⟨rfl,vA⟩:=h3;exact vA.mono fun e qU ⟨he,hm⟩=>⟨he,hC _ _ Ff hm⟩⟩
   exact h3.elim
  rename_i hw;rw[if_neg hw]at h;exact Jt hC rest (k+1) _ h
theorem jI{id:Nat}{l:List Oper}[lg Q](hm:P.follows .mixedOrders=true)(hB:Region.lexB .any l.toArray=true)(h:Qt P N w0 l [] (fun a'=> ∀w',Mem w0 L w'->Q .normal a' w') 0 l env L)(cL:qT l=true:=by kernel_rfl):Cw P N w0 Q (.region id l.toArray true) env L:=fun a _ ha hw=>
 Ym cL (C:=Mem w0 L) hm hB hw.EP (by simpa using Jt (fun w w' Ff hK=>by simpa using Ff.call hK) l 0 a (h a ha))
theorem O1{id:Nat}{l:List Oper}[lg Q](n:Nat)(fs:List Nat)(Lq:List ai)(hq: ∀w,Mem w0 L w->Mem w0 Lq w)(hm:P.follows .mixedOrders=true)(hB:E5 l fs n=true)(h:Qt P N w0 l fs (fun a'=>vz P l n Q w0 Lq fs a' L) 0 (l.take n) env Lq)(cL:qT l=true:=by kernel_rfl):Cw P N w0 Q (.region id l.toArray true) env L:=fun a _ ha hw=>
 Yx n cL hm hB hw.EP hq (h a ha)
theorem wV{id:Nat}{l:List Oper}[lg Q](n:Nat)(fs:List Nat)(hm:P.follows .mixedOrders=true)(hB:E5 l fs n=true)(h:Qt P N w0 l fs (fun a'=>vz P l n Q w0 L fs a' L) 0 (l.take n) env L)(cL:qT l=true:=by kernel_rfl):Cw P N w0 Q (.region id l.toArray true) env L:=
 O1 n fs L (fun _ h=>h) hm hB h cL
theorem lU{c:Operand}{x y:Code}{g:Bool}(hc:ev env c=some (.bool g))(hx:g=true->Cw P N w0 Q x env L)(hy:g=false->Cw P N w0 Q y env L):Cw P N w0 Q (.cond c x y) env L:=fun a w ha hw=>
 wpIn_cond_split (ha.ev hc) (fun h=>hx h a w ha hw) (fun h=>hy h a w ha hw)
theorem O2{id:Nat}{c:Code}(h:Cw P N w0 (Exit.inBlock id Q) c env L):Cw P N w0 Q (.block id c) env L:=fun a w ha hw=>wpIn_block (h a w ha hw)
theorem O3(h:Ex N w0 Q .normal env L):Cw P N w0 Q .skip env L:=fun a w ha hw=>wpIn_skip (h a w ha hw)
theorem O4{id:Nat}(h:Ex N w0 Q (.exit id) env L):Cw P N w0 Q (.exit id) env L:=fun a w ha hw=>wpIn_exit (h a w ha hw)
theorem Ju(h:Ex N w0 Q .ret env L):Cw P N w0 Q .ret env L:=fun a w ha hw=>wpIn_ret (h a w ha hw)
theorem cg{c:Code}{X:Type}(yQ:X->Env)(LI:X->List ai)(inv:X->Prop)(m:X->Nat)(x0:X)(h0:inv x0)(hs:Sub (yQ x0) env)(hL: ∀w,Mem w0 L w->Mem w0 (LI x0) w)
  (round: ∀x,inv x->Cw P N w0 (Exit.then (fun a w=> ∃x',inv x'/\m x'<m x/\dC N (yQ x') a/\Mem w0 (LI x') w) Q) c (yQ x) (LI x)):Cw P N w0 Q (.loop c) env L:=by
 intro a0 w1 YP mz b k cs nM hb hr;have key: ∀n x,m x=n->inv x-> ∀a w,dC N (yQ x) a->Mem w0 (LI x) w->
   ∃e a' w',Q e a' w'/\ArrivesIn (Machine.fenced P (ni N.ro)) P (lone (b.atR a (.code c:: .inLoop c::k)) cs w) b k cs e a' w':=by
  intro n
  induction n using Nat.strongRecOn with
  |_ n ih=>
   intro x hm hI a w ha hw;obtain⟨e,Aj,Ak,hq,wW⟩:=round x hI a w ha hw b (.inLoop c::k) cs nM hb hr
   cases e with
   |normal=>
    obtain⟨x',YQ,bq,YR,hK⟩:=hq;obtain⟨YS,YT,YU,YV,YW⟩:=ih (m x') (hm▸bq) x' rfl YQ Aj Ak YR hK;exact⟨YS,YT,YU,YV, .of_steps (StepsIn.trans wW (.one (fenced_calm hb hr rfl) stepR_inLoop)) YW⟩
   |exit id=>exact⟨_,Aj,Ak,hq, .pass (x:= .inLoop c) rfl (fun _ _=> .inl (by simp)) wW⟩
   |goto l=>exact⟨_,Aj,Ak,hq, .pass (x:= .inLoop c) rfl (fun _ _=> .inl (by simp)) wW⟩
   |ret=>exact⟨_,Aj,Ak,hq, .pass (x:= .inLoop c) rfl (fun _ _=> .inl (by simp)) wW⟩
   |panic ch=>exact⟨_,Aj,Ak,hq, .pass (x:= .inLoop c) rfl (fun _ _=> .inl (by simp)) wW⟩
   |outgrown=>exact⟨_,Aj,Ak,hq, .pass (x:= .inLoop c) rfl (fun _ _=> .inl (by simp)) wW⟩
 obtain⟨e,a',w',hq,wW⟩:=key _ x0 rfl h0 a0 w1 (YP.sub hs) (hL w1 mz);exact⟨e,a',w',hq, .of_steps (.one (fenced_calm hb hr rfl) stepR_loop) wW⟩
theorem qY{x y:Code}{X:Type}(Cq:X->Env)(LJ:X->List ai)(J:X->Prop)
  (h:Cw P N w0 (Exit.then (fun a w=> ∃s,J s/\dC N (Cq s) a/\Mem w0 (LJ s) w) Q) x env L) (hy: ∀s,J s->Cw P N w0 Q y (Cq s) (LJ s)):Cw P N w0 Q (.seq x y) env L:=fun a w ha hw=>
 wpIn_seq (wpIn_mono (h a w ha hw) fun e a' w' hq=>by
  cases e with
  |normal=>obtain⟨s,hs,hr,hm⟩:=hq;exact hy s hs a' w' hr hm
  |exit id=>exact hq
  |goto l=>exact hq
  |ret=>exact hq
  |panic ch=>exact hq
  |outgrown=>exact hq)
theorem Fg{y:Code}{Q':Exit->Act->World->Prop}(h:Cw P N w0 Q y env L):Ex N w0 (Exit.then (y.wpIn (ni N.ro) 0 P Q) Q') .normal env L:=h
theorem gD{X:Type}{Cq:X->Env}{LJ:X->List ai}{J:X->Prop}(s:X)(hJ:J s)(hs:Sub (Cq s) env)(hL: ∀w,Mem w0 L w->Mem w0 (LJ s) w):
  Ex N w0 (Exit.then (fun a w=> ∃s,J s/\dC N (Cq s) a/\Mem w0 (LJ s) w) Q) .normal env L:=fun _ w ha hw=>⟨s,hJ,ha.sub hs,hL w hw⟩
theorem bo{X:Type}{yQ:X->Env}{LI:X->List ai}{inv:X->Prop}{m:X->Nat}{x:X}(x':X)(hI:inv x')(hm:m x'<m x)(hs:Sub (yQ x') env)(hL: ∀w,Mem w0 L w->Mem w0 (LI x') w):
  Ex N w0 (Exit.then (fun a w=> ∃x',inv x'/\m x'<m x/\dC N (yQ x') a/\Mem w0 (LI x') w) Q) .normal env L:=fun _ w ha hw=>⟨x',hI,hm,ha.sub hs,hL w hw⟩
theorem O5{K:Act->World->Prop}{id:Nat}(h:Ex N w0 Q (.exit id) env L):Ex N w0 (Exit.then K Q) (.exit id) env L:=h
theorem O6{K:Act->World->Prop}(h:Ex N w0 Q .ret env L):Ex N w0 (Exit.then K Q) .ret env L:=h
theorem O7{id:Nat}(h:Ex N w0 Q .normal env L):Ex N w0 (Exit.inBlock id Q) .normal env L:=h
theorem O8{id:Nat}(h:Ex N w0 Q .normal env L):Ex N w0 (Exit.inBlock id Q) (.exit id) env L:=fun a w ha hw=>by
 simp only[Exit.inBlock,if_true];exact h a w ha hw
theorem YX{id Fh:Nat}(bN:Nat.beq Fh id=false)(h:Ex N w0 Q (.exit Fh) env L):Ex N w0 (Exit.inBlock id Q) (.exit Fh) env L:=fun a w ha hw=>by
 have: ¬Fh=id:=fun e=>by subst e;simp at bN
 simp only[Exit.inBlock,this,if_false];exact h a w ha hw
theorem O9{id:Nat}(h:Ex N w0 Q .ret env L):Ex N w0 (Exit.inBlock id Q) .ret env L:=h
variable {fn:Func} {R:Ending->World->Prop}
theorem eE{n:Nat}{e:Exit}(he:e= .ret\/e= .normal){v:Value}(hr: ∀a w,dC ⟨n,[],none⟩ env a->Mem w0 L w->(results fn a.tmps).run P w= .ok v w)(h: ∀w,Mem w0 L w->R (.returned v) w):Ex ⟨n,[],none⟩ w0 (sN P fn R) e env L:=fun a w ha hw=>by
 have key:LeavesInM (ni none) 0 P fn a.tmps R a.defers .returning w:=by
  rw[ha.defers];exact⟨v,hr a w ha hw,h w hw⟩
 rcases he with rfl|rfl
 ·exact⟨.inr rfl,key⟩
 exact⟨.inl rfl,key⟩
theorem ov{t:Nat}{v:Value}(hf:fn.results= #[.tmp t])(hv:look env t=some v): ∀a w,dC N env a->Mem w0 L w->(results fn a.tmps).run P w= .ok v w:=fun a w ha _=>by
 have:=ha.get _ _ hv;simp[results,hf,this]
theorem Fi{t:Nat}{T T':TypeId}{b i n:Nat}{cs:Array Value}(hf:fn.results= #[.cell t T])(hv:look env t=some (.pointer (some ⟨b,0,none⟩)))[ht:gK P T n][hi:Has L b cs T' i][hn:gB cs n]:
  ∀a w,dC N env a->Mem w0 L w->(results fn a.tmps).run P w= .ok (.agg cs) w:=fun a w ha hw=>by
 have h1:=ha.get _ _ hv;have h2:(loadVar T ⟨b,0,none⟩).run P w= .ok (.agg cs) w:=Jh w ht hn.h fun j _=>by rw[Addr.hQ,hw.cell hi.h,auL]
 simp[results,hf,h1,asAddr,h2]
theorem Al{N:Nat}{f:FuncId}{c:Code}{args:List Value}{w:World}(hf:P.funcs[f]? =some fn)(hb:fn.body=some c)(hN:fn.ntmps=N)(hle:Nat.ble args.length N=true)
  (h:Cw P ⟨N,[],none⟩ w (sN P fn R) c (args.zipIdx.map fun p=>(p.2,p.1)) []):Calls P f args.toArray w R:=
 OF hf hb (h _ _ (by rw[hN];exact dC.enter args N (Nat.le_of_ble_eq_true hle)) (Mem.init w))
end
theorem Z0(a b:Bool):((a&&b)=true)=(a=true/\b=true):=af0 a b
theorem Z1(a b:Bool):((a||b)=true)=(a=true\/b=true):=avc a b
theorem Z2{x y:Bool}:(x&&y)=false↔x=false\/y=false:=Bool.and_eq_false_iff
theorem Z3{x y:Bool}:(x||y)=false↔x=false/\y=false:=Bool.or_eq_false_iff
theorem Z4(b:Bool):((!b)=true)=(b=false):=au5 b
theorem Z5(b:Bool):((!b)=false)=(b=true):=Bool.not_eq_false' b
theorem Z6{p:Prop}[inst:Decidable p]:(decide p=true)=p:=decide_eq_true_eq
theorem Z7{p:Prop}{x:Decidable p}:decide p=false↔ ¬p:=decide_eq_false_iff_not
theorem Z8(b:Bool):(¬b=true)=(b=false):=Bool.not_eq_true b
theorem Z9(b:Bool):(¬b=false)=(b=true):=Bool.not_eq_false b
structure Sv where
  nil:Bool
  b:Nat
  o:Nat
  len:Nat
  cap:Nat
  sp:Option Nat
def Sv.val(s:Sv):Value:=match s.nil with
  |true=> .slice none 0 0
  |false=> .slice (some ⟨s.b,s.o,s.sp⟩) s.len s.cap
structure Sv.Ok(s:Sv):Prop where
  nil:s.nil=true->s.len=0/\s.cap=0
  le:s.len<=s.cap
  bd:s.len<=140737488355328
  sp:0<s.cap->s.sp=none
theorem Sv.Ok.some{s:Sv}(h:s.Ok)(hl:0<s.len):s.nil=false:=by
  cases hn:s.nil with
  |false=>rfl
  |true=>have:=h.nil hn;omega
theorem Sv.ik{s:Sv}(h:s.nil=false):s.val= .slice (some ⟨s.b,s.o,s.sp⟩) s.len s.cap:=by simp[Sv.val,h]
theorem Sv.sQ{s:Sv}(h:s.nil=true):s.val= .slice none 0 0:=by simp[Sv.val,h]
def Sv.none:Sv:=⟨true,0,0,0,0, .none⟩
theorem Sv.Cr:Sv.none.Ok:=⟨fun _=>⟨rfl,rfl⟩,at5 _,auo _,fun _=>rfl⟩
theorem Sv.one(s:Sv):s.val.oneCell'=true:=by unfold Sv.val;split<;>rfl
def nN(h:Nat->Option Obj)(b o:Nat):Option Value:=match h b with
  |some (.cells cs _ _)=>cs[o]?
  |_=>none
abbrev hp(w:World):Nat->Option Obj:=fun k=>w.heap[k]?
theorem rU(w:World)(b o:Nat):w.cell? ⟨b,o,none⟩=nN (hp w) b o:=by
  unfold World.cell? nN;split<;>simp_all
class bp{α:Type}(enc:α->Array Value)(c:outParam Nat):Prop where
  size: ∀x,(enc x).size=c
  one: ∀x,(enc x).all (·.oneCell')=true
structure eZ{α:Type}(enc:α->Array Value)(c:Nat)(h:Nat->Option Obj)(s:Sv)(xs:List α):Prop where
  ok:s.Ok
  len:s.len=xs.length
  row: ∀i x,xs[i]? =some x-> ∀j,j<c->nN h s.b (s.o+i*c+j)=(enc x)[j]?
theorem eZ.some{α:Type}{enc:α->Array Value}{c:Nat}{h:Nat->Option Obj}{s:Sv}{xs:List α}(r:eZ enc c h s xs){i:Nat}(hi:i<xs.length):s.nil=false:=r.ok.some (by rw[r.len];omega)
theorem eZ.nil{α:Type}(enc:α->Array Value)(c:Nat)(h:Nat->Option Obj):eZ enc c h Sv.none ([]:List α):=⟨Sv.Cr,rfl,by simp⟩
theorem eZ.bd{α:Type}{enc:α->Array Value}{c:Nat}{h:Nat->Option Obj}{s:Sv}{xs:List α}(r:eZ enc c h s xs):xs.length<=140737488355328:=by have:=r.ok.bd;have:=r.len;omega
theorem eZ.mono{α:Type}{enc:α->Array Value}{c:Nat}[he:bp enc c]{w w':World}{s:Sv}{xs:List α}(r:eZ enc c (hp w) s xs)(hb:Below w.heap.size w w'):eZ enc c (hp w') s xs:=
  ⟨r.ok,r.len,fun i x hi j hj=>by
    have h:=r.row i x hi j hj;rw[←h];have Pa:((enc x)[j]?).isSome:=by rw[Array.getElem?_eq_getElem (by rw[he.size];exact hj)];rfl
    rw[←h]at Pa;have bq:s.b<w.heap.size:=by
      rcases aud s.b w.heap.size with h'|h'
      ·exact h'
      ·simp[nN,hp,auu h']at Pa
    have e:(hp w') s.b=(hp w) s.b:=hb.block s.b bq;unfold nN;rw[e]⟩
def Jv(n:Nat)(fz:Nat×Nat):Prop:= ∀j,j<n-> ¬(fz.1<=j/\j<fz.2)
theorem Jw(n:Nat):Jv n (0,0):=fun j _ h=>by have:=h.2;simp at this
def own{α:Type}(enc:α->Array Value)(c:Nat)(s:Sv)(xs:List α):ai:=
  ⟨fun k=>s.nil=false/\k=s.b,fun h=>eZ enc c h s xs/\(s.nil=false->s.sp= .none/\ ∃cs T fz,h s.b=some (.cells cs T fz)/\s.o+s.cap*c<=cs.size/\Jv cs.size fz/\(1<c->fz=(0,0))),
   fun h h' e st=>by
    cases hn:s.nil with
    |true=>
     refine⟨⟨st.1.ok,st.1.len,fun i x hi=>?_⟩,fun h=>by cases h⟩;have:=st.1.some (zz.1 hi).1;rw[hn]at this;cases this
    |false=>
     have e1:=e s.b ⟨hn,rfl⟩;refine⟨⟨st.1.ok,st.1.len,fun i x hi j hj=>?_⟩,fun _=>?_⟩
     ·rw[←st.1.row i x hi j hj];unfold nN;rw[e1]
     ·rw[e1];exact st.2 hn⟩
section
variable {P:Program} {N:cA} {w0:World} {env:Env} {L:List ai} {d:Option Tmp} {ty:TypeId} {ps:String} {af:Array Edge} {gd:Option (Nat×Bool)}
variable {α:Type} {enc:α->Array Value} {c:Nat} {s:Sv} {xs:List α}
def Holds(w0:World)(L:List ai){α:Type}(enc:α->Array Value)(c:Nat)(s:Sv)(xs:List α):Prop:= ∀w,Mem w0 L w->eZ enc c (hp w) s xs
theorem Jx[bp enc c](r:eZ enc c (hp w0) s xs):Holds w0 L enc c s xs:=fun _ hw=>r.mono hw.below
class At(L:List ai)(e:ai)(i:outParam Nat):Prop where
  h:L[i]? =some e
instance (priority:=high) At.here {L:List ai}{e:ai}:At (e::L) e 0:=⟨rfl⟩
instance At.there{L:List ai}{e x:ai}{i:Nat}[q:At L e i]:At (x::L) e (i+1):=⟨by simpa using q.h⟩
theorem Cs{t e:TypeId}{x:Operand}{m n:Nat}[ht:fH P t e m](hx:ev env x=some s.val)(hs:s.Ok)(hn:s.len=n):
    Ry P N w0 env L ⟨d, .call {callee:= .builtin .len,args:= #[x],argTypes:= #[t]},ty,ps,af,gd⟩ (.int .i64 n):=by
  subst hn
  cases h:s.nil with
  |false=>rw[Sv.ik h]at hx;exact yL hx
  |true=>
   rw[Sv.sQ h]at hx;rw[(hs.nil h).1];exact yL hx
theorem pq{t e:TypeId}{x ix:Operand}{m i:Nat}{k:IntKind}{j:Int}[ht:fH P t e m](hx:ev env x=some s.val)(hj:ev env ix=some (.int k j))(ej:j=(i:Int))(hs:s.Ok)(h1:i<s.len):
    Ry P N w0 env L ⟨d, .indexAddr t x ix,ty,ps,af,gd⟩ (.pointer (some ⟨s.b,s.o+i*m,none⟩)):=by
  subst ej;rw[Sv.ik (hs.some (by omega)),hs.sp (by have:=hs.le;omega)]at hx;have:=OQ (P:=P) (N:=N) (w0:=w0) (L:=L) (d:=d) (ty:=ty) (ps:=ps) (af:=af) (gd:=gd) (t:=t) hx hj (by omega) (by omega);simpa using this
theorem Pb{t:TypeId}{x:Operand}{i p:Nat}{a:α}[ht:gK P t c][he:bp enc c](hx:ev env x=some (.pointer (some ⟨s.b,p,none⟩)))(hR:Holds w0 L enc c s xs)(hi:xs[i]? =some a)(iP:p=s.o+i*c):
    Ry P N w0 env L ⟨d, .load t x,ty,ps,af,gd⟩ (.agg (enc a)):=Cj ht hx (he.size a) fun w hw j hj=>by
  rw[Addr.hQ,rU,iP,(hR w hw).row i a hi j hj]
theorem YY{t:TypeId}{x:Operand}{i p j:Nat}{a:α}{v:Value}[ht:gT P t](hx:ev env x=some (.pointer (some ⟨s.b,p,none⟩)))(hR:Holds w0 L enc c s xs)(hi:xs[i]? =some a)(iP:p=s.o+i*c+j)(hj:j<c)(hv:(enc a)[j]? =some v):
    Ry P N w0 env L ⟨d, .load t x,ty,ps,af,gd⟩ v:=Ab ht hx fun w hw=>by
  rw[rU,iP,(hR w hw).row i a hi j hj,hv]
theorem Pc{t:TypeId}{x:Operand}{i p j n:Nat}{a:α}{sub:Array Value}[ht:gK P t n](hx:ev env x=some (.pointer (some ⟨s.b,p,none⟩)))(hR:Holds w0 L enc c s xs)(hi:xs[i]? =some a)(iP:p=s.o+i*c+j)(hj:j+n≤c)[hs:nk (enc a) j n sub]:
    Ry P N w0 env L ⟨d, .load t x,ty,ps,af,gd⟩ (.agg sub):=Cj ht hx hs.size fun w hw k hk=>by
  rw[Addr.hQ,rU,iP,avy,(hR w hw).row i a hi (j+k) (by omega)];exact hs.h k hk
def Sv.sub(s:Sv)(c lo hi:Nat):Sv:=⟨s.nil,s.b,if s.cap=lo then s.o else s.o+lo*c,hi -lo,s.cap -lo,s.sp⟩
theorem Sv.Ok.sub{lo hi:Nat}(h:s.Ok)(h2:hi<=s.cap)(h3:hi<=s.len):(s.sub c lo hi).Ok:=
  ⟨fun hn=>by have:=h.nil hn;simp only[Sv.sub];omega,by simp only[Sv.sub];omega,by have:=h.bd;simp only[Sv.sub];omega,fun hc=>h.sp (by simp only[Sv.sub]at hc;omega)⟩
theorem eZ.sub{h:Nat->Option Obj}(r:eZ enc c h s xs){lo hi:Nat}(h1:lo<=hi)(h2:hi<=xs.length):eZ enc c h (s.sub c lo hi) ((xs.drop lo).take (hi -lo)):=by
  have hl:=r.len;have hc:=r.ok.le;refine⟨r.ok.sub (by omega) (by omega),by simp[Sv.sub];omega,fun i x qj j hj=>?_⟩;have bq:i<hi -lo:=by
    have:=(zz.1 qj).1;simp at this;omega
  rw[avJ,if_pos bq,avd]at qj;have:=r.row (lo+i) x qj j hj;rw[←this];have e:(s.sub c lo hi).o=s.o+lo*c:=by
    simp only[Sv.sub];rw[if_neg (by omega)]
  rw[e,show(s.sub c lo hi).b=s.b from rfl];congr 1;rw[auz];omega
theorem Holds.sub(r:Holds w0 L enc c s xs){lo hi:Nat}(h1:lo<=hi)(h2:hi<=xs.length):Holds w0 L enc c (s.sub c lo hi) ((xs.drop lo).take (hi -lo)):=fun w hw=>(r w hw).sub h1 h2
theorem Am{t e:TypeId}(hu:P.underlying t=some (.slice e)):P.elem t=e:=by simp[Program.elem,hu]
theorem Jy{lo hi:Nat}(hs:s.Ok)(h2:lo<=hi)(h:hi<=s.cap): ∀a len cap,s.val= .slice a len cap->len=s.len/\cap=s.cap/\sliced a lo hi cap c=(s.sub c lo hi).val:=by
  intro a len cap e
  cases hn:s.nil with
  |true=>
   rw[Sv.sQ hn]at e;obtain⟨rfl,rfl,rfl⟩:=by simpa using e
   have:=hs.nil hn;have e2:(s.sub c lo hi).nil=true:=hn;rw[Sv.sQ e2];have:lo=0:=by omega
   have:hi=0:=by omega
   subst lo hi;exact⟨by omega,by omega,by simp[sliced]⟩
  |false=>
   rw[Sv.ik hn]at e;obtain⟨rfl,rfl,rfl⟩:=by simpa using e
   have e2:(s.sub c lo hi).nil=false:=hn;rw[Sv.ik e2];refine⟨rfl,rfl,?_⟩;simp only[sliced,Sv.sub]
   by_cases hc:s.cap=lo
   ·simp[hc]
   ·have eL:=hs.sp (by omega)
    simp[hc,eL,Addr.hQ]
theorem Sv.ex(s:Sv): ∃ad len cap,s.val= .slice ad len cap:=by unfold Sv.val;split<;>exact⟨_,_,_,rfl⟩
theorem Fj{t e:TypeId}{x lo hi:Operand}{m l h:Nat}{k k':IntKind}{il ih:Int}[ht:fH P t e m](hx:ev env x=some s.val)(hl:ev env lo=some (.int k il))(hh:ev env hi=some (.int k' ih))(el:il=(l:Int))(eh:ih=(h:Int))(hs:s.Ok)(h1:l≤h)(h2:h≤s.cap):
    Ry P N w0 env L ⟨d, .slice t x (some lo) (some hi) none,ty,ps,af,gd⟩ (s.sub m l h).val:=fun a w ha _=>by
  subst el eh;have ee:=Am ht.eK;have hu:P.underlying t=some (.slice (P.elem t)):=by rw[ee];exact ht.eK
  obtain⟨ad,len,cap,pv⟩:=s.ex;obtain⟨e1,e2,e3⟩:=Jy (c:=m) hs h1 h2 ad len cap pv;have hr:=run_slice_lh (P:=P) (w:=w) t ad len cap hu k k' (l:Int) (h:Int) (by omega) (by omega) (by omega);rw[ee,lT w ht.size]at hr;simp only[Result.andThen,avb,e3]at hr;simp only[execOp,ha.ev hx,ha.ev hl,ha.ev hh,pv,auI,Option.map_none,run_sliceAt_slice (h:=hu),hr,Sem.run_bind,Result.andThen,Sem.run_pure]
theorem wX{t e:TypeId}{x hi:Operand}{m h:Nat}{k':IntKind}{ih:Int}[ht:fH P t e m](hx:ev env x=some s.val)(hh:ev env hi=some (.int k' ih))(eh:ih=(h:Int))(hs:s.Ok)(h2:h≤s.cap):
    Ry P N w0 env L ⟨d, .slice t x none (some hi) none,ty,ps,af,gd⟩ (s.sub m 0 h).val:=fun a w ha _=>by
  subst eh;have ee:=Am ht.eK;have hu:P.underlying t=some (.slice (P.elem t)):=by rw[ee];exact ht.eK
  obtain⟨ad,len,cap,pv⟩:=s.ex;obtain⟨e1,e2,e3⟩:=Jy (c:=m) hs (auo h) h2 ad len cap pv;have hr:=run_slice_h (P:=P) (w:=w) t ad len cap hu k' (h:Int) (by omega) (by omega);rw[ee,lT w ht.size]at hr;simp only[Result.andThen,avb,e3]at hr;simp only[execOp,ha.ev hx,ha.ev hh,pv,auI,Option.map_none,run_sliceAt_slice (h:=hu),hr,Sem.run_bind,Result.andThen,Sem.run_pure]
theorem ui{t e:TypeId}{x lo:Operand}{m l n:Nat}{k:IntKind}{il:Int}[ht:fH P t e m](hx:ev env x=some s.val)(hl:ev env lo=some (.int k il))(el:il=(l:Int))(hs:s.Ok)(hn:s.len=n)(h1:l≤n):
    Ry P N w0 env L ⟨d, .slice t x (some lo) none none,ty,ps,af,gd⟩ (s.sub m l n).val:=fun a w ha _=>by
  subst el hn;have ee:=Am ht.eK;have hu:P.underlying t=some (.slice (P.elem t)):=by rw[ee];exact ht.eK
  obtain⟨ad,len,cap,pv⟩:=s.ex;obtain⟨e1,e2,e3⟩:=Jy (c:=m) hs h1 hs.le ad len cap pv;have hle:=hs.le;have hr:=run_slice_l (P:=P) (w:=w) t ad len cap hu k (l:Int) (by omega) (by omega);rw[ee,lT w ht.size]at hr;simp only[Result.andThen,avb,e1]at hr;rw[e1]at pv;rw[e3]at hr;simp only[execOp,ha.ev hx,ha.ev hl,pv,auI,Option.map_none,run_sliceAt_slice (h:=hu),hr,Sem.run_bind,Result.andThen,Sem.run_pure]
end
theorem set_perm(x:ai): ∀(L:List ai) (i:Nat),i<L.length->(x::L.eraseIdx i).Perm (L.set i x)
  |[],_,h=>by simp at h
  |_::_,0,_=>by simp
  |a::L,i+1,h=>by
   simp only[awO,awg];exact(List.Perm.swap a x _).trans ((set_perm x L i (by simpa using h)).cons a)
theorem Mem.swap{w w':World}{E:ai}(h:Mem w0 L w){i:Nat}(hi:i<L.length)(h':Mem w [E] w'):Mem w0 (L.set i E) w':=
  ((h.call h').sub (L':=E::L.eraseIdx i) ((List.eraseIdx_sublist L i).cons_cons E)).perm (set_perm E L i hi)
theorem At.lt{L:List ai}{e:ai}{i:Nat}(h:L[i]? =some e):i<L.length:=(zz.1 h).1
class dS(P:Program)(t:TypeId)(e:outParam TypeId)(c:outParam Nat)(bP:outParam Nat):Prop where
  eK:P.underlying t=some (.slice e)
  row:(P.info? e).map (fun i=>(i.zero.map (·.cells.size),i.size,i.bytes))=some (some c,c,bP)
theorem dS.info{P:Program}{t e:TypeId}{c bP:Nat}(h:dS P t e c bP): ∃i z,P.info? e=some i/\i.zero=some z/\i.size=c/\i.bytes=bP/\z.cells.size=c:=by
  have h:=h.row
  cases hi:P.info? e with
  |none=>simp[hi]at h
  |some i=>
   cases hz:i.zero with
   |none=>simp[hi,hz]at h
   |some z=>simp[hi,hz]at h;exact⟨i,z,rfl,hz,h.2.1,h.2.2,h.1⟩
theorem uj{cs vs:Array Value}{o j:Nat}(ho:o+vs.size<=cs.size):(over cs o vs)[j]? =if o<=j/\j<o+vs.size then vs[j -o]?else cs[j]? :=by
  unfold over;simp only[avu];rw[at4,List.getElem?_append];have e1:(List.take o cs.toList).length=o:=by simp;omega
  rw[e1]
  by_cases h1:j<o
  ·rw[if_pos h1,if_neg (by omega),avJ,if_pos h1];simp
  ·rw[if_neg h1,List.getElem?_append]
   by_cases h2:j -o<vs.toList.length
   ·rw[if_pos h2,if_pos (by simp at h2;omega)];simp
   ·rw[if_neg h2,if_neg (by simp at h2;omega),avd]
    simp at h2⊢;congr 1;omega
theorem pw{cs vs:Array Value}{o:Nat}(ho:o+vs.size<=cs.size):(over cs o vs).size=cs.size:=by
  simp[over];omega
theorem Ct{P:Program}(g o:Nat)(t:TypeId)(fz:Nat×Nat): ∀(vs:List Value) (i:Nat) (cur:Array Value) (w:World),w.heap[g]? =some (.cells cur t fz)→Jv cur.size fz→o+i+vs.length≤cur.size→(∀v∈vs,v.oneCell'=true)→
    (storeCells ⟨g,o,none⟩ vs i).run P w= .ok () (w.setRow g (cur.toList.take (o+i)++vs++cur.toList.drop (o+i+vs.length)).toArray)
  |[],i,cur,w,hg,_,_,_=>by
   simp only[storeCells,auT,alM,avk,auO,Array.toArray_toList];rw[setRow_self w g cur t fz hg];rfl
  |v::rest,i,cur,w,hg,hf,hl,h1=>by
   have hi:o+i<cur.size:=by simp at hl;omega
   have Jz:(⟨g,o,none⟩:Addr).add i=⟨g,o+i,none⟩:=by unfold Addr.add;split<;>simp_all
   have wY:w.cell? ⟨g,o+i,none⟩=some cur[o+i]:=by simp[World.cell?,hg,hi]
   have YZ:w.frozen? ⟨g,o+i,none⟩=false:=by
      have:=hf (o+i) hi;obtain⟨a,b⟩:=fz;simp only[World.frozen?,hg];simp only[Bool.and_eq_false_iff,decide_eq_false_iff_not];omega
   have bD:(store ((⟨g,o,none⟩:Addr).add i) v).run P w= .ok () (w.setRow g (cur.setIfInBounds (o+i) v)):=by
      rw[Jz,run_store P w _ v _ (h1 v (by simp)),wY];simp[YZ,setCell_eq_setRow w g (o+i) cur t fz v hg]
   have ih:=Ct (P:=P) g o t fz rest (i+1) (cur.setIfInBounds (o+i) v) (w.setRow g (cur.setIfInBounds (o+i) v)) (setRow_heap w g cur _ t _ hg) (by simpa using hf) (by simp at hl⊢;omega) (fun x hx=>h1 x (by simp[hx]));simp only[storeCells,Sem.run_bind,bD,Result.andThen_ok,ih,setRow_setRow];congr 3;have e:=list_seg_step cur.toList (o+i) v rest (by simp at hl⊢;omega);simpa[Array.toList_setIfInBounds,avy]using e
section
variable {α:Type} {enc:α->Array Value} {c:Nat}
def aL(enc:α->Array Value)(xs:List α):List Value:=xs.flatMap fun x=>(enc x).toList
theorem iG[he:bp enc c]: ∀xs:List α,(aL enc xs).length=xs.length*c
  |[]=>by simp[aL]
  |x::xs=>by
   have:=iG xs;simp only[aL,awB,adr]at this⊢;rw[this,av1,he.size,ad2,auz];omega
theorem ow[he:bp enc c]: ∀(xs:List α) (i:Nat) (x:α),xs[i]? =some x-> ∀j,j<c->(aL enc xs)[i*c+j]? =(enc x)[j]?
  |[],i,x,h,_,_=>by simp at h
  |y::xs,0,x,h,j,hj=>by
   obtain rfl:y=x:=by simpa using h
   simp only[aL,awB,Nat.zero_mul,auL];rw[aus (by rw[av1,he.size];exact hj)];simp
  |y::xs,i+1,x,h,j,hj=>by
   have:=ow xs i x (by simpa using h) j hj;simp only[aL,awB]at this⊢;rw[auf (by rw[av1,he.size,auz];omega),av1,he.size];rw[←this];congr 1;rw[auz];omega
theorem Fk(hc:0<c)[he:bp enc c]{xs:List α}{k:Nat}{v:Value}(h:(aL enc xs)[k]? =some v): ∃x,xs[k/c]? =some x/\(enc x)[k%c]? =some v:=by
  have hk:k<xs.length*c:=by
    have:=(zz.1 h).1;rwa [iG]at this
  have hd:k/c<xs.length:=Nat.div_lt_of_lt_mul (by rwa [avs]);refine⟨xs[k/c],by simp[hd],?_⟩;rw[←ow xs (k/c) xs[k/c] (by simp[hd]) (k%c) (avV _ hc),←h];congr 1;rw[avs];exact aww k c
theorem wZ[he:bp enc c](xs:List α): ∀u∈aL enc xs,u.oneCell'=true:=fun u hu=>by
  obtain⟨x,_,hx⟩:=List.mem_flatMap.1 hu;exact(auR.1 (he.one x)) u (by simpa using hx)
theorem w7{h:Nat→Option Obj}{s:Sv}{xs:List α}{cs:Array Value}{T:TypeId}{fz:Nat×Nat}(ok:s.Ok)(hl:s.len=xs.length)(hb:h s.b=some (.cells cs T fz))
    (hc: ∀i x,xs[i]? =some x-> ∀j,j<c->cs[s.o+i*c+j]? =(enc x)[j]?):eZ enc c h s xs:=
  ⟨ok,hl,fun i x hi j hj=>by unfold nN;rw[hb];exact hc i x hi j hj⟩
theorem iQ{P:Program}{tx e':TypeId}(hk:P.underlying tx=some (.slice e'))(hc:0<c)[he:bp enc c]{w:World}{s:Sv}{xs:List α}(r:eZ enc c (hp w) s xs):Src P c tx s.val xs.length (aL enc xs) w:=by
  cases hn:s.nil with
  |true=>
   have:xs=[]:=by have:=(r.ok.nil hn).1;rw[r.len]at this;exact aun.1 this
   subst this;rw[Sv.sQ hn];exact Src.ofNil w hk 0
  |false=>
   rw[Sv.ik hn,r.len];refine Src.ofSlice w hk _ _ _ _ (iG xs) (fun j u hu=>?_) (wZ xs);obtain⟨x,hx,JA⟩:=Fk hc hu;have eL:=r.ok.sp (by have h1:=avI (auo _) (zz.1 hx).1;have:=r.len;have:=r.ok.le;omega);rw[eL,Addr.hQ,rU,←JA,←r.row _ x hx (j%c) (avV _ hc)];congr 1;have:=aww j c;rw[avs]at this;omega
theorem JB{P:Program}{t tx ty e:TypeId}{bP:Nat}(ht:dS P t e c bP)(hc:0<c)[he:bp enc c]{w0 w:World}{L:List ai}{i:Nat}{s:Sv}{xs ys:List α}{x:Value}
    (hw:Mem w0 L w) (hi:L[i]? =some (own enc c s xs)) (hs:Src P c tx x ys.length (aL enc ys) w) (hb:(xs.length+ys.length)*bP<=140737488355328) (fR:xs.length+ys.length<=140737488355328):
    ∃s' w',(Builtin.append_ #[t,tx] ty #[s.val,x]).run P w= .ok (Sv.val s') w'/\s'.Ok/\s'.len=(xs++ys).length/\Mem w0 (L.set i (own enc c s' (xs++ys))) w'/\((s'.nil=s.nil/\s'.b=s.b/\s'.o=s.o/\s'.cap=s.cap/\ ∀cs T fz,w.heap[s.b]? =some (.cells cs T fz)-> ∃cs',w'.heap[s.b]? =some (.cells cs' T fz))\/(s'.nil=false/\s'.o=0/\0<s'.cap/\ ∃cs,w'.heap[s'.b]? =some (.cells cs e (0,0)))):=by
  obtain⟨r,px⟩:=hw.get hi;obtain⟨i',z,bg,aK,bx,di,nn⟩:=ht.info;subst bx di;have hlen:=r.len;have hle:=r.ok.le
  have grow:s.cap<s.len+ys.length→ ∀(base:Option Addr),s.val= .slice base s.len s.cap→(Builtin.firstCells i'.size s.len (.slice base s.len s.cap)).run P w.drew= .ok (aL enc xs).toArray w.drew→
      ∃s' w',(Builtin.append_ #[t,tx] ty #[s.val,x]).run P w= .ok (Sv.val s') w'/\s'.Ok/\s'.len=(xs++ys).length/\Mem w0 (L.set i (own enc i'.size s' (xs++ys))) w'/\((s'.nil=s.nil/\s'.b=s.b/\s'.o=s.o/\s'.cap=s.cap/\ ∀cs T fz,w.heap[s.b]? =some (.cells cs T fz)-> ∃cs',w'.heap[s.b]? =some (.cells cs' T fz))\/(s'.nil=false/\s'.o=0/\0<s'.cap/\ ∃cs,w'.heap[s'.b]? =some (.cells cs e (0,0)))):=by
    intro hg base hv hold;have vG:=nextslicecap_le hg;have iR:Builtin.nextslicecap (s.len+ys.length) s.cap*i'.bytes<=281474976710656:=by
      have h2:Builtin.nextslicecap (s.len+ys.length) s.cap*i'.bytes<=2*(s.len+ys.length)*i'.bytes:=auj _ vG;rw[Nat.mul_assoc,hlen]at h2;rw[hlen];omega
    have hr:=run_append_grow_src w t tx ty e i' z ht.eK bg aK base s.len s.cap (aL enc xs) hold x ys.length (aL enc ys) hs hg (by omega) iR;have uk:=grownCap_ge w (s.len+ys.length) s.cap e;generalize grownCap w (s.len+ys.length) s.cap e=C at hr uk;refine⟨⟨false,w.heap.size,0,s.len+ys.length,C,none⟩,_,by rw[hv,hr];rfl,⟨(fun h=>by cases h),uk,by simp only;omega,fun _=>rfl⟩,by simp[hlen],hw.swap (At.lt hi) ?_, .inr ⟨rfl,rfl,(show 0<C by omega),_,Below.B6 w.drew _⟩⟩;have hm:=(Mem.init w).drew.alloc ((aL enc xs++aL enc ys).toArray++Builtin.zeroCells z.cells (C -(s.len+ys.length))) e;refine⟨hm.below,fun q hq=>?_,fun q hq k hk=>?_,by simp⟩
    ·obtain rfl:=auK.1 hq
     have fm:hp (w.drew.alloc (.cells ((aL enc xs++aL enc ys).toArray++Builtin.zeroCells z.cells (C -(s.len+ys.length))) e)) w.heap.size=some (.cells ((aL enc xs++aL enc ys).toArray++Builtin.zeroCells z.cells (C -(s.len+ys.length))) e (0,0)):=Below.B6 w.drew _;have eS:aL enc xs++aL enc ys=aL enc (xs++ys):=by simp[aL]
     rw[eS]at fm;rw[eS];have eQ:(aL enc (xs++ys)).length=(xs.length+ys.length)*i'.size:=by rw[iG];simp
     refine⟨w7 (enc:=enc) (c:=i'.size) (xs:=xs++ys) ⟨(fun h=>by cases h),uk,by simp only;omega,fun _=>rfl⟩ (by simp[hlen]) fm fun k y hy j hj=>?_,fun _=>⟨rfl,_,_,_,fm,?_,Jw _,fun _=>rfl⟩⟩
     ·have sR:=ow (enc:=enc) (xs++ys) k y hy j hj
      have bq:k*i'.size+j<(aL enc (xs++ys)).length:=by
          rw[eQ];have h1:=(zz.1 hy).1;rw[adr]at h1
          calc k*i'.size+j<k*i'.size+i'.size:=by omega
            _=(k+1)*i'.size:=by rw[auz];omega
            _<=_:=auj _ h1
      simp only[auL];rw[←sR,auW (by simpa using bq)];simp
     ·have h3:=size_zeroCells z.cells (C -(s.len+ys.length))
      rw[nn]at h3;simp only[auP,au0,h3,eQ,auL];rw[←auz,hlen];refine auj _ ?_;omega
    ·obtain rfl:=auK.1 hq
     obtain rfl:k=w.heap.size:=hk.2;simp
  rcases Bool.eq_false_or_eq_true s.nil with hn|hn
  ·
    have h0:=r.ok.nil hn;have eM:xs=[]:=by rw[hlen]at h0;exact aun.1 h0.1
    subst eM
    by_cases hy:ys.length=0
    ·have ox:ys=[]:=aun.1 hy
     subst ox;refine⟨s,w,?_,r.ok,by simpa using hlen,?_, .inl ⟨rfl,rfl,rfl,rfl,fun cs _ _ h=>⟨cs,h⟩⟩⟩
     ·rw[Sv.sQ hn]
      have sS:=hs.cells;simp only[alM]at sS;rcases hs.kind with⟨e',hk⟩|hk<;>simp[Builtin.append_,run_underlying ht.eK,run_underlying hk,sizeOf,typeInfo,bg,hs.len,sS]
     ·have:L.set i (own enc i'.size s ([]++[]))=L:=by
          rw[auT];refine au6 fun k=>?_;rw[au1]
          by_cases hk:i=k
          ·subst hk;rw[if_pos rfl,hi,if_pos (At.lt hi)]
          ·rw[if_neg hk]
      rw[this];exact hw
    ·refine grow (by omega) .none (by rw[Sv.sQ hn,h0.1,h0.2]) ?_
     rw[h0.1,h0.2];exact run_firstCells_none w.drew _ _ _ _
  ·
    obtain⟨eL,cs,T,fz,fm,eQ,nO,lV⟩:=px hn
    by_cases ql:s.len+ys.length<=s.cap
    ·have hmul:(s.len+ys.length)*i'.size<=s.cap*i'.size:=auj _ ql
     have eS:(aL enc ys).length=ys.length*i'.size:=iG ys
     have iR:s.o+s.len*i'.size+(aL enc ys).toArray.size<=cs.size:=by
        rw[au0,eS];rw[auz]at hmul;omega
     have bD:=Ct (P:=P) s.b (s.o+s.len*i'.size) T fz (aL enc ys) 0 cs w fm nO (by simpa using iR) hs.one
     have Cu:(storeCells ⟨s.b,s.o+s.len*i'.size,none⟩ (aL enc ys)).run P w= .ok () (w.setRow s.b (over cs (s.o+s.len*i'.size) (aL enc ys).toArray)):=by
        simpa[over]using bD
     refine⟨{s with len:=s.len+ys.length},w.setRow s.b (over cs (s.o+s.len*i'.size) (aL enc ys).toArray),?_,⟨(fun h=>by rw[hn]at h;cases h),ql,by simp only;omega,r.ok.sp⟩,by simp[hlen],?_, .inl ⟨rfl,rfl,rfl,rfl,fun Fl T2 Y0 h2=>by
        have h3:=fm.symm.trans h2
        cases h3
        exact⟨_,setRow_heap w s.b cs _ T fz fm⟩⟩⟩
     ·have my:({s with len:=s.len+ys.length}:Sv).val= .slice (some ⟨s.b,s.o,s.sp⟩) (s.len+ys.length) s.cap:=Sv.ik (s:={s with len:=s.len+ys.length}) hn
      rw[Sv.ik hn,my,eL];rcases hs.kind with⟨e',hk⟩|hk<;>simp[Builtin.append_,run_underlying ht.eK,run_underlying hk,sizeOf,typeInfo,bg,hs.len,ql,hs.cells,Addr.hQ,Cu]
     ·have mA:hp (w.setRow s.b (over cs (s.o+s.len*i'.size) (aL enc ys).toArray)) s.b=some (.cells (over cs (s.o+s.len*i'.size) (aL enc ys).toArray) T fz):=setRow_heap w s.b cs _ T fz fm
      refine hw.change hi (fun k hk=>hk) (fun k hk=>?_) (by simp[World.setRow]) ⟨rfl,rfl,rfl⟩ ⟨w7 ⟨(fun h=>by rw[hn]at h;cases h),ql,by simp only;omega,r.ok.sp⟩ (by simp[hlen]) mA fun k y hy j hj=>?_,fun _=>⟨eL,_,_,_,mA,?_,by rw[pw iR];exact nO,lV⟩⟩
      ·exact setRow_other w s.b k _ (fun e=>hk ⟨hn,e⟩)
      ·rw[uj iR]
       by_cases hk:k<xs.length
       ·rw[if_neg,←r.row k y (by rw[aus hk]at hy;exact hy) j hj]
        ·unfold nN;rw[fm]
        ·have:(k+1)*i'.size<=s.len*i'.size:=auj _ (by omega)
         rw[auz]at this;intro h;have:=h.1;simp only at this;omega
       ·rw[auf (by omega)]at hy
        have sR:=ow (enc:=enc) ys (k -xs.length) y hy j hj;have oy:s.len*i'.size+(k -xs.length)*i'.size=k*i'.size:=by rw[←auz];congr 1;omega
        have bq:(k -xs.length+1)*i'.size<=ys.length*i'.size:=auj _ (by have:=(zz.1 hy).1;omega);rw[auz]at bq;rw[if_pos ⟨by simp only;omega,by rw[au0,eS];simp only;omega⟩,←sR];simp only[avu];congr 1;omega
      ·rw[pw iR];exact eQ
    ·refine grow (by omega) _ (by rw[Sv.ik hn,eL]) ?_
     refine run_firstCells_some w.drew _ _ _ _ _ _ (by rw[iG,hlen]) fun j u hu=>?_;obtain⟨y,hy,JA⟩:=Fk hc hu;have:=r.row _ y hy (j%i'.size) (avV _ hc);rw[JA]at this;rw[Addr.hQ];show w.cell? _=_;rw[rU,←this];congr 1;have h9:=aww j i'.size;rw[avs]at h9;omega
theorem Fm{P:Program}{t tx ty e:TypeId}{bP:Nat}(ht:dS P t e c bP)(hc:0<c)[he:bp enc c]{w0 w:World}{L:List ai}{i:Nat}{s:Sv}{xs ys:List α}{x:Value}
    (hw:Mem w0 L w) (hi:L[i]? =some (own enc c s xs)) (hs:Src P c tx x ys.length (aL enc ys) w) (hb:(xs.length+ys.length)*bP<=140737488355328) (fR:xs.length+ys.length<=140737488355328):
    ∃s' w',(Builtin.append_ #[t,tx] ty #[s.val,x]).run P w= .ok (Sv.val s') w'/\s'.Ok/\s'.len=(xs++ys).length/\Mem w0 (L.set i (own enc c s' (xs++ys))) w':=by
  obtain⟨s',w',h1,h2,h3,h4,_⟩:=JB (ty:=ty) ht hc hw hi hs hb fR;exact⟨s',w',h1,h2,h3,h4⟩
theorem Pd(off:Nat): ∀(vs:List Value) (k:Nat) (cs:Array Value),off+k+vs.length≤cs.size→
    (vs.zipIdx k).foldl (fun cs (p:Value×Nat)=>cs.setIfInBounds (off+p.2) p.1) cs=(cs.toList.take (off+k)++vs++cs.toList.drop (off+k+vs.length)).toArray
  |[],k,cs,_=>by simp
  |v::vs,k,cs,h=>by
   simp only[List.zipIdx_cons,avq,ad2]at h⊢;rw[Pd off vs (k+1) _ (by simp;omega)];apply awE;have e1:(cs.setIfInBounds (off+k) v).toList=cs.toList.set (off+k) v:=by simp
   rw[e1];have bq:off+k<cs.toList.length:=by simp;omega
   have e2:(cs.toList.set (off+k) v).take (off+(k+1))=cs.toList.take (off+k)++[v]:=by
      rw[←avy,at6,awr (at5 _),auk bq];rfl
   have e3:(cs.toList.set (off+k) v).drop (off+(k+1)+vs.length)=cs.toList.drop (off+k+(vs.length+1)):=by
      rw[List.drop_set_of_lt (by omega)];congr 1;omega
   rw[e2,e3];simp
def idx(vals:List Value)(i:Nat):List (Nat×Value):=(vals.zipIdx i).map fun p=>(p.2,p.1)
theorem Pe[he:bp enc c]: ∀(xs:List α) (vals:List Value) (i:Nat) (cs:Array Value),vals.map Value.cells=xs.map enc→i*c+xs.length*c≤cs.size→
    Instr.fill (fun i=>some (i*c,c)) cs (idx vals i)=some (cs.toList.take (i*c)++aL enc xs++cs.toList.drop (i*c+xs.length*c)).toArray
  |[],[],i,cs,_,_=>by simp[idx,Instr.fill,aL]
  |[],_::_,_,_,h,_=>by simp at h
  |_::_,[],_,_,h,_=>by simp at h
  |x::xs,v::vals,i,cs,h,hs=>by
   simp only[aum,awx]at h;obtain⟨h1,h2⟩:=h;have eQ:v.cells.size=c:=by rw[h1];exact he.size x
   rw[ad2,auz,Nat.one_mul]at hs;simp only[idx,List.zipIdx_cons,aum,Instr.fill,eQ];rw[if_neg (by simp;omega)]
   have ef:v.cells.zipIdx.foldl (fun cs (p:Value×Nat)=>cs.setIfInBounds (i*c+p.2) p.1) cs=(cs.toList.take (i*c)++v.cells.toList++cs.toList.drop (i*c+c)).toArray:=by
      have:=Pd (i*c) v.cells.toList 0 cs (by simp;omega);simp only[avk]at this;rw[←Array.foldl_toList,Array.toList_zipIdx,this];simp[eQ]
   have Y1:(v.cells.zipIdx.foldl (fun cs (x:Value×Nat)=>match x with|(c',j)=>cs.setIfInBounds (i*c+j) c') cs)=(cs.toList.take (i*c)++v.cells.toList++cs.toList.drop (i*c+c)).toArray:=ef
   rw[Y1];have yR:(cs.toList.take (i*c)++v.cells.toList).length=(i+1)*c:=by simp[eQ,auz];omega
   have:=Pe xs vals (i+1) (cs.toList.take (i*c)++v.cells.toList++cs.toList.drop (i*c+c)).toArray h2 (by simp[eQ,auz];omega);unfold idx at this;rw[this];congr 1;apply awE;rw[List.take_left' yR,←av0 (j:=(i+1)*c) (i:=xs.length*c),List.drop_left' yR];simp only[aL,awB,h1,at4,List.append_cancel_left_eq];rw[av0,ad2,show i*c+c+xs.length*c=i*c+(xs.length+1)*c by rw[auz];omega]
end
section
variable {P:Program} {N:cA} {w0:World} {env:Env} {L:List ai} {l:List Oper} {Q:Exit->Act->World->Prop} {rest:List Oper} {d:Option Tmp} {ty:TypeId} {ps:String} {af:Array Edge}
variable {α:Type} {enc:α->Array Value} {c:Nat} {s:Sv} {xs ys:List α}
class gg(L:List ai)(s:Sv){α:outParam Type}(enc:outParam (α->Array Value))(c:outParam Nat)(xs:outParam (List α))(i:outParam Nat):Prop where
  h:L[i]? =some (own enc c s xs)
instance (priority:=high) gg.here {L:List ai}:gg (own enc c s xs::L) s enc c xs 0:=⟨rfl⟩
instance gg.there{L:List ai}{e:ai}{i:Nat}[q:gg L s enc c xs i]:gg (e::L) s enc c xs (i+1):=⟨by simpa using q.h⟩
theorem gg.holds{i:Nat}(q:gg L s enc c xs i):Holds w0 L enc c s xs:=fun _ hw=>(hw.get q.h).1
theorem Mem.dE{w:World}(enc:α->Array Value)(c:Nat)(h:Mem w0 L w):Mem w0 (own enc c Sv.none []::L) w:=
  h.call (E:=[own enc c Sv.none []]) ⟨Below.refl _ _,fun e he=>by
    obtain rfl:=auK.1 he;exact⟨eZ.nil enc c _,(fun h=>by cases h)⟩,fun e he k hk=>by
    obtain rfl:=auK.1 he;exact absurd hk.1 (by simp[Sv.none]),by simp⟩
theorem mB{t tx e:TypeId}{x y:Operand}{yv:Value}{bP i:Nat}[ht:dS P t e c bP][he:bp enc c](hx:ev env x=some s.val)(hy:ev env y=some yv)[q:gg L s enc c xs i](hc:0<c)
    (hs: ∀w,Mem w0 L w->Src P c tx yv ys.length (aL enc ys) w) (hb:(xs.length+ys.length)*bP<=140737488355328) (fR:xs.length+ys.length<=140737488355328) {L':Sv->List ai} [hu: ∀s',fZ L i (own enc c s' (xs++ys)) (L' s')]
    (hk: ∀s':Sv,s'.Ok->s'.len=(xs++ys).length->Sq P N w0 l Q rest (cr env d s'.val) (L' s')) (hd:dq N d=true:=by rfl):
    Sq P N w0 l Q (⟨d, .call {callee:= .builtin .append,args:= #[x,y],argTypes:= #[t,tx]},ty,ps,af,none⟩::rest) env L:=
  nK rfl hd fun a w ha hw=>by
    obtain⟨s',w',h1,h2,h3,h4⟩:=Fm (ty:=ty) ht hc hw q.h (hs w hw) hb fR;refine⟨s'.val,w',L' s',?_,by rw[←(hu s').h];exact h4,hk s' h2 h3⟩;simp[execOp,ha.ev hx,ha.ev hy,resolve,invoke,builtin,h1,Result.andThen]
theorem vH{w:World}{b:Nat}{cs:Array Value}{e:TypeId}(hb:b=w.heap.size)(n cap:Nat)(hn:n=xs.length)(hle:n≤cap)(fR:n≤140737488355328)(eQ:cap*c≤cs.size)(hc: ∀i x,xs[i]? =some x→ ∀j,j<c→cs[i*c+j]? =(enc x)[j]?):
    Mem w [own enc c ⟨false,b,0,n,cap,none⟩ xs] (w.alloc (.cells cs e)):=by
  subst hb;have hm:=(Mem.init w).alloc cs e;have fm:hp (w.alloc (.cells cs e)) w.heap.size=some (.cells cs e (0,0)):=Below.B6 w _;refine⟨hm.below,fun q hq=>?_,fun q hq k hk=>?_,by simp⟩
  ·obtain rfl:=auK.1 hq
   exact⟨w7 ⟨(fun h=>by cases h),hle,fR,fun _=>rfl⟩ hn fm (by simpa using hc),fun _=>⟨rfl,_,_,_,fm,by simpa using eQ,Jw _,fun _=>rfl⟩⟩
  ·obtain rfl:=auK.1 hq
   obtain rfl:k=w.heap.size:=hk.2;simp
theorem Fo{n c:Nat}(h0:0<n*c)(h:n*c<=16777216):n<=140737488355328:=by
  have:n*1≤n*c:=Nat.mul_le_mul_left _ (by rcases av5 c with rfl|h';·simp at h0
                                          ·exact h')
  omega
theorem Fp{t e:TypeId}{bP:Nat}(ht:dS P t e c bP)[he:bp enc c]{vals:List Value}(hv:vals.map Value.cells=xs.map enc)(hc:0<xs.length*c)(rV:xs.length*c≤16777216)(w:World):
    (Instr.buildSlice t xs.length (idx vals 0).toArray).run P w= .ok (.slice (some ⟨w.heap.size,0,none⟩) xs.length xs.length) (w.alloc (.cells (aL enc xs).toArray e)):=by
  obtain⟨i',z,bg,aK,bx,di,nn⟩:=ht.info;subst bx;have hf:=Pe (enc:=enc) (c:=i'.size) xs vals 0 ((Array.range (xs.length*i'.size)).map (z.cells[· %z.cells.size]!)) hv (by simp);have Y2:((Array.range (xs.length*i'.size)).map (z.cells[· %z.cells.size]!)).toList.drop (0*i'.size+xs.length*i'.size)=[]:=by simp
  rw[Y2]at hf;simp only[Nat.zero_mul,auw,auS,auT]at hf;have n1: ¬xs.length*i'.size>2^24:=by omega
  have n2: ¬xs.length*i'.size=0:=by omega
  simp[Instr.buildSlice,run_underlying ht.eK,sizeOf,typeInfo,zeroValue,bg,aK,n1,n2,hf,newRow,newObj,Sem.run,Result.andThen]
theorem nP{t e:TypeId}{bP n:Nat}[ht:dS P t e c bP][he:bp enc c]{ops:List (Nat×Operand)}{vals:List Value}(xs:List α)(hx:kt env ops=some (idx vals 0))(hv:vals.map Value.cells=xs.map enc)(hn:xs.length=n)(hc:0<n*c)(rV:n*c≤16777216)
    (hk: ∀b,Sq P N w0 l Q rest (cr env d (Sv.val ⟨false,b,0,n,n,none⟩)) (own enc c ⟨false,b,0,n,n,none⟩ xs::L)) (hd:dq N d=true:=by rfl):
    Sq P N w0 l Q (⟨d, .buildSlice t n ops.toArray,ty,ps,af,none⟩::rest) env L:=
  nK rfl hd fun a w ha hw=>by
    subst hn;have e1:(ops.toArray.map fun(p:Nat×Operand)=>match p with|(i,x)=>(i,a.eval x))=(idx vals 0).toArray:=by
      rw[←ha.kt hx];simp
    refine⟨_,_,_,?_,hw.call (vH (enc:=enc) (c:=c) (xs:=xs) (cs:=(aL enc xs).toArray) (e:=e) rfl xs.length xs.length rfl (at5 _) (Fo hc rV) (by simp[iG]) fun i x hx j hj=>by rw[←ow (enc:=enc) xs i x hx j hj];simp),hk _⟩;simp only[execOp,e1,Sem.run_bind,Fp ht hv hc rV w,Result.andThen,Sem.run_pure];rfl
theorem Y3{Lq:List ai}{n' j:Nat}{js:List Nat}{t e:TypeId}{bP n:Nat}{ops:List (Nat×Operand)}(hj:l[j]? =some ⟨d, .buildSlice t n ops.toArray,ty,ps,af,none⟩)[ht:dS P t e c bP][he:bp enc c]{vals:List Value}(xs:List α)(hx:kt env ops=some (idx vals 0))(hv:vals.map Value.cells=xs.map enc)(hn:xs.length=n)(hc:0<n*c)(rV:n*c≤16777216)
    (hk: ∀b,Fr P N w0 Lq l n' Q js (cr env d (Sv.val ⟨false,b,0,n,n,none⟩)) (own enc c ⟨false,b,0,n,n,none⟩ xs::L)) (hd:dq N d=true:=by rfl):
    Fr P N w0 Lq l n' Q (j::js) env L:=
  YN hj rfl hd fun a w ha hw=>by
    subst hn;have e1:(ops.toArray.map fun(p:Nat×Operand)=>match p with|(i,x)=>(i,a.eval x))=(idx vals 0).toArray:=by
      rw[←ha.kt hx];simp
    refine⟨_,_,[own enc c ⟨false,w.heap.size,0,xs.length,xs.length,none⟩ xs],?_,vH (enc:=enc) (c:=c) (xs:=xs) (cs:=(aL enc xs).toArray) (e:=e) rfl xs.length xs.length rfl (at5 _) (Fo hc rV) (by simp[iG]) fun i x hx j hj=>by rw[←ow (enc:=enc) xs i x hx j hj];simp,hk _⟩;simp only[execOp,e1,Sem.run_bind,Fp ht hv hc rV w,Result.andThen,Sem.run_pure];rfl
theorem Y4{zc:Array Value}(m n:Nat)(h:zc.size=c)(i j:Nat)(hi:i<n)(hj:j<c)(hm:n*c<=m):(madeCells zc m)[i*c+j]? =zc[j]? :=by
  have bq:i*c+j<m:=by
    have:(i+1)*c<=n*c:=auj _ hi;rw[auz]at this;omega
  have e1:(i*c+j)%zc.size=j:=by rw[h,avs,Nat.mul_add_mod];exact auJ hj
  have hz:j<zc.size:=by omega
  simp[madeCells,bq,e1,hz]
theorem JC{t e:TypeId}{bP n cap:Nat}{z:Value}(ht:dS P t e c bP)(hz:eY P e z){k k':IntKind}(x0:α)(h0:enc x0=z.cells)(hle:n≤cap)(hb:bP*cap≤281474976710656)(fR:cap≤140737488355328)(w:World):
    ∃w',(Instr.makeSlice t (.int k n) (.int k' cap)).run P w= .ok (Sv.val ⟨false,w.heap.size,0,n,cap,none⟩) w'/\Mem w [own enc c ⟨false,w.heap.size,0,n,cap,none⟩ (List.replicate n x0)] w':=by
  obtain⟨i',z',bg,aK,bx,di,nn⟩:=ht.info;obtain rfl:z'=z:=by
    have:=hz.zero;rw[bg,auI,aK]at this;exact at1 (at1 this)
  subst bx di;have mA:(i'.bytes:Int)*(cap:Int)<=281474976710656:=by
    have h:((i'.bytes*cap:Nat):Int)<=281474976710656:=by omega
    rwa [Int.natCast_mul]at h
  have hr:=run_make (P:=P) w t e i' _ ht.eK bg aK k k' n cap (by omega) (by omega) mA (by omega);simp only[avb]at hr;refine⟨_,hr,vH rfl n cap (by simp) hle (by omega) (by simp[size_madeCells]) fun i x hx j hj=>?_⟩;have hi:i<n:=by
    have:=(zz.1 hx).1;simpa using this
  obtain rfl:x0=x:=by rw[awq,if_pos hi]at hx;exact at1 hx
  rw[h0];exact Y4 _ n nn i j hi hj (auj _ hle)
theorem vI{t e:TypeId}{bP n cap:Nat}{z:Value}{x y:Operand}{k k':IntKind}{ix iy:Int}[ht:dS P t e c bP][hz:eY P e z](x0:α)(h0:enc x0=z.cells)(hx:ev env x=some (.int k ix))(hy:ev env y=some (.int k' iy))(ex:ix=(n:Int))(ey:iy=(cap:Int))(hle:n≤cap)(hb:bP*cap≤281474976710656)(fR:cap≤140737488355328)
    (hk: ∀b,Sq P N w0 l Q rest (cr env d (Sv.val ⟨false,b,0,n,cap,none⟩)) (own enc c ⟨false,b,0,n,cap,none⟩ (List.replicate n x0)::L)) (hd:dq N d=true:=by rfl):
    Sq P N w0 l Q (⟨d, .makeSlice t x y,ty,ps,af,none⟩::rest) env L:=
  nK rfl hd fun a w ha hw=>by
    subst ex ey;obtain⟨w',h1,h2⟩:=JC ht hz (k:=k) (k':=k') (n:=n) x0 h0 hle hb fR w;exact⟨_,w',_,by simp only[execOp,ha.ev hx,ha.ev hy,Sem.run_bind,h1,Result.andThen,Sem.run_pure],hw.call h2,hk _⟩
theorem Pf{w:World}{L':List ai}{i k j:Nat}{a a':α}{vs:Array Value}[he:bp enc c](hw:Mem w0 L w)(q:gg L s enc c xs i)(ha:xs[k]? =some a)(hv:vs.all (·.oneCell')=true)(hj:j+vs.size≤c)(sU:over (enc a) j vs=enc a')(hu:fZ L i (own enc c s (xs.set k a')) L'):
    ∃w',(storeCells ⟨s.b,s.o+k*c+j,none⟩ vs.toList).run P w= .ok () w'/\Mem w0 L' w':=by
  obtain⟨r,px⟩:=hw.get q.h;have hk:k<xs.length:=(zz.1 ha).1;have hn:=r.some hk;have hle:=r.ok.le;have hlen:=r.len;obtain⟨eL,cs,T,fz,fm,eQ,nO,lV⟩:=px hn;have hmul:(k+1)*c<=s.cap*c:=auj _ (by omega);have akz:=hmul;rw[auz]at hmul;have iR:s.o+k*c+j+vs.size<=cs.size:=by omega
  have bD:=Ct (P:=P) s.b (s.o+k*c+j) T fz vs.toList 0 cs w fm nO (by simpa using iR) (fun v my=>(auR.1 hv) v (by simpa using my));refine⟨w.setRow s.b (over cs (s.o+k*c+j) vs),by simpa[over]using bD,?_⟩;have mA:hp (w.setRow s.b (over cs (s.o+k*c+j) vs)) s.b=some (.cells (over cs (s.o+k*c+j) vs) T fz):=setRow_heap w s.b cs _ T fz fm;rw[←hu.h];refine hw.change q.h (fun k hk=>hk) (fun x hx=>setRow_other w s.b x _ (fun e=>hx ⟨hn,e⟩)) (by simp[World.setRow]) ⟨rfl,rfl,rfl⟩ ⟨w7 r.ok (by simpa using hlen) mA fun x y hy p iP=>?_,fun _=>⟨eL,_,_,_,mA,by rw[pw iR];exact eQ,by rw[pw iR];exact nO,lV⟩⟩;rw[uj iR]
  by_cases Pg:x=k
  ·subst Pg
   obtain rfl:a'=y:=by rw[auk hk]at hy;exact at1 hy
   rw[←sU,uj (by rw[he.size];exact hj)]
   by_cases h1:j<=p/\p<j+vs.size
   ·rw[if_pos h1,if_pos (by omega)];congr 1;omega
   ·rw[if_neg h1,if_neg (by omega),←r.row x a ha p iP]
    unfold nN;rw[fm]
  ·rw[auF (by omega)]at hy
   rw[if_neg,←r.row x y hy p iP]
   ·unfold nN;rw[fm]
   ·intro h
    rcases Nat.lt_or_gt_of_ne Pg with h'|h'
    ·have:(x+1)*c<=k*c:=auj _ h'
     rw[auz]at this;omega
    ·have:(k+1)*c<=x*c:=auj _ h'
     rw[auz]at this;omega
theorem mC{t:TypeId}{x y:Operand}{i k j n p:Nat}{a a':α}{v:Value}(sz:(P.info? t).map (·.size)=some n)[he:bp enc c](hx:ev env x=some (.pointer (some ⟨s.b,p,none⟩)))(hy:ev env y=some v)[q:gg L s enc c xs i](iP:p=s.o+k*c+j)
    (ha:xs[k]? =some a) (hv:v.cells.all (·.oneCell')=true) (hn:v.cells.size=n) (hj:j+n<=c) (sU:over (enc a) j v.cells=enc a') {L':List ai} [hu:fZ L i (own enc c s (xs.set k a')) L'] (hk:Sq P N w0 l Q rest env L'):
    Sq P N w0 l Q (⟨none, .store t x y,ty,ps,af,none⟩::rest) env L:=
  Fb rfl rfl fun aa w Cv hw=>by
    subst iP hn;obtain⟨w',h1,h2⟩:=Pf (P:=P) hw q ha hv hj sU hu;refine⟨w',_,?_,h2,hk⟩;simp only[execOp,Cv.ev hx,Cv.ev hy,Instr.storeAt,Instr.sureAddr,storeVar,Sem.run_bind,Sem.run_pure,Result.andThen,lT w sz];simp[h1]
theorem Y5{X:Type}{val:X→Value}{L':X→List ai}{pr:X→Prop}{f:FuncId}{xs:List Operand}{ts:Array TypeId}{vs:List Value}[hf:aH P f](hx:iF env xs=some vs)
    (hc: ∀w,Mem w0 L w->Calls P f vs.toArray w fun e w'=> ∃x,e= .returned (val x)/\pr x/\Mem w0 (L' x) w') (hk: ∀x,pr x->Sq P N w0 l Q rest (cr env d (val x)) (L' x)) (hd:dq N d=true:=by rfl):
    Sq P N w0 l Q (⟨d, .call {callee:= .value (.func f),args:=xs.toArray,argTypes:=ts},ty,ps,af,none⟩::rest) env L:=fun a w ha hw=>by
  unfold wpList;rw[if_pos (rT rfl)];refine .inl ?_;unfold Oper.wp;rw[E8 hf w rfl,ha.iF hx];exact(hc w hw).mono fun e w' ⟨x,he,hp,hm⟩=>by subst he;exact hk x hp _ _ (ha.put hd _) hm
theorem hY{N:Nat}{fn:Func}{R:Ending→World→Prop}{f:FuncId}{c:Code}{args:List Value}{w:World}(hf:P.funcs[f]? =some fn)(hb:fn.body=some c)(hN:fn.ntmps=N)(hle:Nat.ble args.length N=true)(hw:Mem w0 L w)
    (h:Cw P ⟨N,[],none⟩ w0 (sN P fn R) c (args.zipIdx.map fun p=>(p.2,p.1)) L):Calls P f args.toArray w R:=
  OF hf hb (h _ _ (by rw[hN];exact dC.enter args N (Nat.le_of_ble_eq_true hle)) hw)
theorem Fq{b n i:Nat}{cs:Array Value}{T:TypeId}[hi:Has L b cs T i][he:bp enc c](hU:cs=(aL enc xs).toArray)(hn:xs.length=n)(fR:n<=140737488355328:=by decide):Holds w0 L enc c ⟨false,b,0,n,n,none⟩ xs:=fun w hw=>by
  have hb:=hw.block hi.h;exact w7 ⟨(fun h=>by cases h),at5 _,fR,fun _=>rfl⟩ hn.symm hb fun k x hx j hj=>by
    rw[←ow (enc:=enc) xs k x hx j hj,hU];simp
def An(tmps:Array Value)(r:ResultVar):Sem Value:=match r with
  | .tmp t=>pure (tmps.getD t undef)
  | .cell c t=>do loadVar t (←asAddr (tmps.getD c undef))
theorem JD(fn:Func)(tmps:Array Value):results fn tmps=(do let vs←fn.results.mapM (An tmps);pure (if h:vs.size=1 then vs[0]else .tuple vs)):=by
  have:(fun r=>An tmps r)=(fun| .tmp t=>pure (tmps.getD t undef)| .cell a t=>do loadVar t (←asAddr (tmps.getD a undef)):ResultVar->Sem Value):=by
    funext r;cases r<;>rfl
  show _=(do let vs←fn.results.mapM (fun r=>An tmps r);pure (if h:vs.size=1 then vs[0]else .tuple vs));rw[this];rfl
def RV(P:Program)(N:cA)(w0:World)(env:Env)(L:List ai)(r:ResultVar)(v:Value):Prop:= ∀a w,dC N env a->Mem w0 L w->(An a.tmps r).run P w= .ok v w
theorem Ao{t:Nat}{v:Value}(hv:look env t=some v):RV P N w0 env L (.tmp t) v:=fun a w ha _=>by
  have:=ha.get _ _ hv;simp[An,this]
theorem Ap{t b i n:Nat}{T T':TypeId}{cs:Array Value}(hv:look env t=some (.pointer (some ⟨b,0,none⟩)))[ht:gK P T n][hi:Has L b cs T' i][hn:gB cs n]:RV P N w0 env L (.cell t T) (.agg cs):=fun a w ha hw=>by
  have h1:=ha.get _ _ hv;have h2:(loadVar T ⟨b,0,none⟩).run P w= .ok (.agg cs) w:=Jh w ht hn.h fun j _=>by rw[Addr.hQ,hw.cell hi.h,auL]
  simp[An,h1,asAddr,h2]
variable {fn:Func} {r1 r2 r3:ResultVar} {v1 v2 v3:Value}
theorem Y6{A B:Type}(f:A->Sem B)(x y:A):(#[x,y]:Array A).mapM f=(do let a←f x;let b←f y;pure #[a,b]):=by simp
theorem Y7{A B:Type}(f:A->Sem B)(x y z:A):(#[x,y,z]:Array A).mapM f=(do let a←f x;let b←f y;let c←f z;pure #[a,b,c]):=by simp
theorem Ph(hf:fn.results= #[r1])(h1:RV P N w0 env L r1 v1): ∀a w,dC N env a->Mem w0 L w->(results fn a.tmps).run P w= .ok v1 w:=fun a w ha hw=>by
  have e1:=h1 a w ha hw;rw[JD,hf];simp[e1]
theorem Y8(hf:fn.results= #[r1,r2])(h1:RV P N w0 env L r1 v1)(h2:RV P N w0 env L r2 v2): ∀a w,dC N env a->Mem w0 L w->(results fn a.tmps).run P w= .ok (.tuple #[v1,v2]) w:=fun a w ha hw=>by
  have e1:=h1 a w ha hw;have e2:=h2 a w ha hw;rw[JD,hf,Y6];simp[e1,e2]
theorem Y9(hf:fn.results= #[r1,r2,r3])(h1:RV P N w0 env L r1 v1)(h2:RV P N w0 env L r2 v2)(h3:RV P N w0 env L r3 v3): ∀a w,dC N env a->Mem w0 L w->(results fn a.tmps).run P w= .ok (.tuple #[v1,v2,v3]) w:=fun a w ha hw=>by
  have e1:=h1 a w ha hw;have e2:=h2 a w ha hw;have e3:=h3 a w ha hw;rw[JD,hf,Y7];simp[e1,e2,e3]
end
def aQ(b:UInt8):Array Value:= #[.int .u8 b.toNat]
instance:bp aQ 1:=⟨fun _=>rfl,fun _=>by simp[aQ,Value.oneCell']⟩
instance (b:UInt8):bO (aQ b) 0 (.int .u8 b.toNat):=⟨rfl⟩
def um(s:Sv):Array Value:= #[s.val]
instance:bp um 1:=⟨fun _=>rfl,fun s=>by simp[um,Sv.one]⟩
def b8(n:Nat):UInt8:=UInt8.ofNat n
theorem vJ(n:Nat):(b8 n).toNat=n%256:=by simp[b8]
theorem Za(n:Nat):b8 (n%256)=b8 n:=by
 apply awm.1;simp[vJ]
theorem Zb(n:Nat):IntKind.u8.wrap (n:Int)=((b8 n).toNat:Int):=by
 rw[vJ];simp[IntKind.wrap,IntKind.bits,IntKind.signed]
def be(n:Nat):Nat->List UInt8
 |0=>[]
 |k+1=>b8 (n/256^k)::be n k
theorem jV(n:Nat): ∀k,(be n k).length=k
 |0=>rfl
 |k+1=>by simp[be,jV n k]
def de(l:List UInt8):Nat:=l.foldl (fun a b=>a*256+b.toNat) 0
theorem Pj{xs:List UInt8}{i:Nat}{b:UInt8}(h:xs[i]? =some b):de (xs.take (i+1))=de (xs.take i)*256+b.toNat:=by
 rw[at6,h];simp[de]
theorem JE(xs:List UInt8): ∀i,i<=xs.length->de (xs.take i)<256^i
 |0,_=>by simp[de]
 |i+1,h=>by
  have:=JE xs i (by omega);rw[Pj (b:=xs[i]) (by simp),Nat.pow_succ];have:=xs[i].toNat_lt;omega
section
variable {P:Program} {N:cA} {w0:World} {env:Env} {L:List ai} {d:Option Tmp} {ty:TypeId} {ps:String} {af:Array Edge} {gd:Option (Nat×Bool)}
variable {x y:Operand} {k k':IntKind} {p q:Nat} {t u s:TypeId}
theorem Cx{a b:Int}(hx:ev env x=some (.int k a))(hy:ev env y=some (.int k b))(ea:a=p)(eb:b=q)(hq:0<q):
  Ry P N w0 env L ⟨d, .binOp .rem t x y u,ty,ps,af,gd⟩ (.int k ((p%q:Nat):Int)):=eR hx hy (by
 subst ea eb;rw[nj,if_neg (by omega),←Int.ofNat_tmod])
theorem Zc{a b:Int}(hx:ev env x=some (.int k a))(hy:ev env y=some (.int k b))(ea:a=p)(eb:b=q)(h:p*q<2^nb k):
  Ry P N w0 env L ⟨d, .binOp .mul t x y u,ty,ps,af,gd⟩ (.int k ((p*q:Nat):Int)):=eR hx hy (by
 subst ea eb;rw[nj,←Int.natCast_mul,qW h])
theorem Cy{n:Nat}{a:Int}[hs:mv P s k'][ht:mv P t .u8](hx:ev env x=some (.int k' a))(ea:a=n):
  Ry P N w0 env L ⟨d, .convert s t x,ty,ps,af,gd⟩ (.int .u8 (b8 n).toNat):=vB hx (by subst ea;exact Zb n)
theorem Zd{e:TypeId}{sv:Sv}{xs:List UInt8}(hs:P.underlying s=some (.slice e))(he:P.underlying e=some (.int .u8))(hd:P.underlying t=some .string)(hx:ev env x=some sv.val)(hR:Holds w0 L aQ 1 sv xs):
  Ry P N w0 env L ⟨d, .convert s t x,ty,ps,af,gd⟩ (.string ⟨xs.toArray⟩):=fun a w ha hw=>by
 have r:=hR w hw;have hr:(convert s t sv.val).run P w= .ok (.string ⟨xs.toArray⟩) w:=by
  cases hn:sv.nil with
  |true=>
   have:xs=[]:=by have:=(r.ok.nil hn).1;rw[r.len]at this;exact aun.1 this
   subst this;rw[Sv.sQ hn,run_convert_bytes_string w s t e none 0 0 hs he hd];rfl
  |false=>
   rw[Sv.ik hn,r.len];refine run_convert_bytes_back w s t e _ _ xs hs he hd fun j hj=>?_;rw[r.ok.sp (by have:=r.len;have:=r.ok.le;omega)];rw[Addr.hQ,rU];have:=r.row j xs[j] (by simp) 0 (by decide);simp only[av9,avk]at this;rw[this];rfl
 simp only[execOp,ha.ev hx,Sem.run_bind,hr,Result.andThen,Sem.run_pure]
theorem Ze{a b:ByteArray}(hx:ev env x=some (.string a))(hy:ev env y=some (.string b)):
  Ry P N w0 env L ⟨d, .binOp .eql t x y u,ty,ps,af,gd⟩ (.bool (a.toList==b.toList)):=fun aa w ha _=>by
 have h2:(eqGuard BinOp.eql t x y (.string a) (.string b)).run P w= .ok () w:=rfl;simp only[execOp,ha.ev hx,ha.ev hy,Sem.run_bind,h2,Result.andThen_ok,binOp_string_eql,Sem.run_pure]
theorem Zf{a b:ByteArray}(hx:ev env x=some (.string a))(hy:ev env y=some (.string b)):
  Ry P N w0 env L ⟨d, .binOp .neq t x y u,ty,ps,af,gd⟩ (.bool (!(a.toList==b.toList))):=fun aa w ha _=>by
 have h2:(eqGuard BinOp.neq t x y (.string a) (.string b)).run P w= .ok () w:=rfl;simp only[execOp,ha.ev hx,ha.ev hy,Sem.run_bind,h2,Result.andThen_ok,binOp_string_neq,Sem.run_pure]
end
section
variable {P:Program} {N:cA} {w0:World} {env:Env} {L:List ai} {l:List Oper} {Q:Exit->Act->World->Prop} {rest:List Oper} {d:Option Tmp} {ty:TypeId} {ps:String} {af:Array Edge}
end
def uo(b c:UInt8):UInt16:=UInt16.ofNat (b.toNat*256+c.toNat)
theorem JF(b c:UInt8):(uo b c).toNat=b.toNat*256+c.toNat:=by
 have:=b.toNat_lt;have:=c.toNat_lt;simp[uo];omega
theorem Pk(p q:Nat)(h:q<256):(p*256)|||q=p*256+q:=by
 have:=Nat.two_pow_add_eq_or_of_lt (i:=8) (b:=q) (by simpa using h) p;rw[show(2^8*p)=p*256 by rw[avs]]at this;exact this.symm
section
variable {P:Program} {N:cA} {w0:World} {env:Env} {L:List ai} {d:Option Tmp} {ty:TypeId} {ps:String} {af:Array Edge} {gd:Option (Nat×Bool)} {x y:Operand} {k:IntKind} {t u:TypeId}
theorem Pm{b:UInt8}{k':IntKind}(hx:ev env x=some (.int k b.toNat))(hy:ev env y=some (.int k' 8))(hk:k= .u16\/k= .i64:=by decide):
  Ry P N w0 env L ⟨d, .binOp .shl t x y u,ty,ps,af,gd⟩ (.int k ((b.toNat*256:Nat):Int)):=by
 have h:=Jo (P:=P) (N:=N) (w0:=w0) (L:=L) (d:=d) (ty:=ty) (ps:=ps) (af:=af) (gd:=gd) (t:=t) (u:=u) hx hy (by decide);have hb:=b.toNat_lt;have e:k.wrap ((b.toNat:Int)*2^min (Int.toNat 8) k.bits)=((b.toNat*256:Nat):Int):=by
  rcases hk with rfl|rfl<;>simp[IntKind.wrap,IntKind.bits,IntKind.signed]<;>omega
 rw[e]at h;exact h
theorem Pn{b c:UInt8}(hx:ev env x=some (.int k ((b.toNat*256:Nat):Int)))(hy:ev env y=some (.int k c.toNat))(hk:k= .u16\/k= .i64:=by decide):
  Ry P N w0 env L ⟨d, .binOp .or t x y u,ty,ps,af,gd⟩ (.int k ((uo b c).toNat:Nat)):=by
 have hb:=b.toNat_lt;have hc:=c.toNat_lt;rw[JF,←Pk _ _ hc];rcases hk with rfl|rfl
 ·exact Cn hx hy rfl rfl (by simp only[nb];omega) (by simp only[nb];omega)
 ·exact Cn hx hy rfl rfl (by simp only[nb];omega) (by simp only[nb];omega)
end
def ai.emp:ai:=⟨fun _=>False,fun _=>True,fun _ _ _ s=>s⟩
def ai.two(a b:ai):ai:=⟨fun k=>a.fp k\/b.fp k,fun h=>a.sat h/\b.sat h/\ ∀k,a.fp k-> ¬b.fp k,
  fun h h' e s=>⟨a.loc h h' (fun k hk=>e k (.inl hk)) s.1,b.loc h h' (fun k hk=>e k (.inr hk)) s.2.1,s.2.2⟩⟩
def ai.all:List ai->ai
  |[]=> .emp
  |e::r=> .two e (.all r)
theorem Mem.Cz{w0 w:World}{L:List ai}:Mem w0 (.emp::L) w↔Mem w0 L w:=
  ⟨fun h=>h.sub (auX _ _),fun h=>⟨h.below,fun e he=>by
    rcases auc.1 he with rfl|he
    ·exact trivial
    ·exact h.sat e he,fun e he k hk=>by
    rcases auc.1 he with rfl|he
    ·exact hk.elim
    ·exact h.kl e he k hk,auV.2 ⟨fun _ _ _ hk=>hk.elim,h.qi⟩⟩⟩
theorem Mem.yS{w0 w:World}{a b:ai}{L:List ai}:Mem w0 (.two a b::L) w↔Mem w0 (a::b::L) w:=by
  constructor
  ·intro h
   have hs:(a.sat fun k=>w.heap[k]?)/\(b.sat fun k=>w.heap[k]?)/\ ∀k,a.fp k-> ¬b.fp k:=h.sat (.two a b) (by simp);have hd:=auV.1 h.qi;refine⟨h.below,fun e he=>?_,fun e he k hk=>?_,?_⟩
   ·rcases auc.1 he with rfl|he
    ·exact hs.1
    ·rcases auc.1 he with rfl|he
     ·exact hs.2.1
     ·exact h.sat e (by simp[he])
   ·rcases auc.1 he with rfl|he
    ·exact h.kl (.two e b) (by simp) k (.inl hk)
    ·rcases auc.1 he with rfl|he
     ·exact h.kl (.two a e) (by simp) k (.inr hk)
     ·exact h.kl e (by simp[he]) k hk
   ·refine auV.2 ⟨fun x hx k hk=>?_,auV.2 ⟨fun x hx k hk=>hd.1 x hx k (.inr hk),hd.2⟩⟩
    rcases auc.1 hx with rfl|hx
    ·exact hs.2.2 k hk
    ·exact hd.1 x hx k (.inl hk)
  ·intro h
   have hd:=auV.1 h.qi;have Aq:=auV.1 hd.2;refine⟨h.below,fun e he=>?_,fun e he k hk=>?_,auV.2 ⟨fun x hx k hk=>?_,Aq.2⟩⟩
   ·rcases auc.1 he with rfl|he
    ·exact⟨h.sat a (by simp),h.sat b (by simp),fun k hk=>hd.1 b (by simp) k hk⟩
    ·exact h.sat e (by simp[he])
   ·rcases auc.1 he with rfl|he
    ·rcases hk with hk|hk
     ·exact h.kl a (by simp) k hk
     ·exact h.kl b (by simp) k hk
    ·exact h.kl e (by simp[he]) k hk
   ·rcases hk with hk|hk
    ·exact hd.1 x (by simp[hx]) k hk
    ·exact Aq.1 x hx k hk
theorem Mem.CA{w0 w:World}: ∀(es:List ai) {L:List ai},Mem w0 (.all es::L) w↔Mem w0 (es++L) w
  |[],_=>Mem.Cz
  |e::r,L=>by
   show Mem w0 (.two e (.all r)::L) w↔_;rw[Mem.yS];have sw: ∀(a b:ai) (K:List ai),Mem w0 (a::b::K) w↔Mem w0 (b::a::K) w:=fun a b K=>⟨fun h=>h.perm (List.Perm.swap _ _ _),fun h=>h.perm (List.Perm.swap _ _ _)⟩;rw[sw,Mem.CA r];exact⟨fun h=>h.perm (av6),fun h=>h.perm (av6).symm⟩
class Deep(τ:Type) where
  c:Nat
  cells:τ->Array Value
  size: ∀x,(cells x).size=c
  one: ∀x,(cells x).all (·.oneCell')=true
  cP:(Nat->Option Obj)->τ->Prop
  cE:τ->ai
  ku: ∀h x,(cE x).sat h->cP h x
  mono: ∀(w w':World) x,cP (hp w) x->Below w.heap.size w w'->cP (hp w') x
instance Deep.enc{τ:Type}[Deep τ]:bp (Deep.cells (τ:=τ)) (Deep.c τ):=⟨Deep.size,Deep.one⟩
@[reducible] def Deep.flat {τ:Type}(enc:τ->Array Value)(c:Nat)[he:bp enc c]:Deep τ:=⟨c,enc,he.size,he.one,fun _ _=>True,fun _=> .emp,fun _ _ _=>trivial,fun _ _ _ _ _=>trivial⟩
structure Sl(τ:Type) where
  sv:Sv
  xs:List τ
theorem ai.CB{h:Nat->Option Obj}: ∀{es:List ai},(ai.all es).sat h-> ∀e∈es,e.sat h
  |[],_,_,he=>by cases he
  |_::_,hs,e,he=>by
   rcases auc.1 he with rfl|he
   ·exact hs.1
   ·exact ai.CB hs.2.1 e he
instance Deep.slice{τ:Type}[d:Deep τ]:Deep (Sl τ) where
  c:=1
  cells a:=um a.sv
  size _:=rfl
  one a:=bp.one (enc:=um) (c:=1) a.sv
  cP h a:=eZ (Deep.cells (τ:=τ)) (Deep.c τ) h a.sv a.xs/\ ∀x∈a.xs,d.cP h x
  cE a:= .two (own (Deep.cells (τ:=τ)) (Deep.c τ) a.sv a.xs) (.all (a.xs.map d.cE))
  ku h _ hs:=⟨hs.1.1,fun x hx=>d.ku h x (ai.CB hs.2.1 _ (auq hx))⟩
  mono w w' _ hg hb:=⟨hg.1.mono hb,fun x hx=>d.mono w w' x (hg.2 x hx) hb⟩
theorem Mem.Ar{τ:Type}[d:Deep τ]{w0 w:World}{L:List ai}{a:Sl τ}:Mem w0 (Deep.cE a::L) w↔Mem w0 (own (Deep.cells (τ:=τ)) (Deep.c τ) a.sv a.xs::a.xs.map d.cE++L) w:=by
  show Mem w0 (.two _ (.all _)::L) w↔_;rw[Mem.yS];have sw: ∀(a b:ai) (K:List ai),Mem w0 (a::b::K) w↔Mem w0 (b::a::K) w:=fun a b K=>⟨fun h=>h.perm (List.Perm.swap _ _ _),fun h=>h.perm (List.Perm.swap _ _ _)⟩;rw[sw,Mem.CA];exact⟨fun h=>h.perm (av6),fun h=>h.perm (av6).symm⟩
section
variable {w0:World} {L:List ai} {τ:Type}
class Hd(w0:World)(L:List ai)(s:Sv){α:outParam Type}(enc:outParam (α->Array Value))(c:outParam Nat)(xs:outParam (List α)):Prop where
  h:Holds w0 L enc c s xs
class Gv(w0:World)(s:Sv){α:outParam Type}(enc:outParam (α->Array Value))(c:outParam Nat)(xs:outParam (List α)):Prop where
  h:eZ enc c (hp w0) s xs
instance (priority:=high) Hd.owned {s:Sv}{α:Type}{enc:α->Array Value}{c:Nat}{xs:List α}{i:Nat}[q:gg L s enc c xs i]:Hd w0 L s enc c xs:=⟨q.holds⟩
instance Hd.given{s:Sv}{α:Type}{enc:α->Array Value}{c:Nat}{xs:List α}[q:Gv w0 s enc c xs][bp enc c]:Hd w0 L s enc c xs:=⟨Jx q.h⟩
class Rg(lo hi n:Nat):Prop where
  h:lo<=hi/\hi<=n
instance Hd.sub{s:Sv}{α:Type}{enc:α->Array Value}{c:Nat}{xs:List α}{lo hi:Nat}[q:Hd w0 L s enc c xs][r:Rg lo hi xs.length]:Hd w0 L (s.sub c lo hi) enc c ((xs.drop lo).take (hi -lo)):=⟨q.h.sub r.h.1 r.h.2⟩
class dG(w0:World)(L:List ai){α:Type}(enc:α->Array Value)(c:Nat)(s:Sv)(xs:outParam (List α)):Prop where
  h:Holds w0 L enc c s xs
instance (priority:=high) dG.of {s:Sv}{α:Type}{enc:α->Array Value}{c:Nat}{xs:List α}[q:Hd w0 L s enc c xs]:dG w0 L enc c s xs:=⟨q.h⟩
instance dG.none{α:Type}{enc:α->Array Value}{c:Nat}:dG w0 L enc c Sv.none []:=⟨fun _ _=>eZ.nil enc c _⟩
class aX(w0:World)(L:List ai){τ:Type}[Deep τ](a:τ):Prop where
  h: ∀w,Mem w0 L w->Deep.cP (hp w) a
class cQ(w0:World){τ:Type}[Deep τ](a:τ):Prop where
  h:Deep.cP (hp w0) a
class Mb{τ:Type}(x:τ)(a:outParam (Sl τ)):Prop where
  h:x∈a.xs
instance aX.given[Deep τ]{a:τ}[q:cQ w0 a]:aX w0 L a:=⟨fun _ hw=>Deep.mono w0 _ a q.h hw.below⟩
instance (priority:=high) aX.owned [Deep τ]{a:τ}{i:Nat}[q:At L (Deep.cE a) i]:aX w0 L a:=⟨fun _ hw=>Deep.ku _ a (hw.get q.h)⟩
instance (priority:=low) aX.elem [Deep τ]{a:Sl τ}{x:τ}[q:aX w0 L a][m:Mb x a]:aX w0 L x:=⟨fun w hw=>(q.h w hw).2 x m.h⟩
class gL(τ:Type)[Deep τ](enc:outParam (τ->Array Value))(c:outParam Nat):Prop where
  hc:Deep.c τ=c
  h: ∀x:τ,Deep.cells x=enc x
instance (priority:=low) Hd.deep [d:Deep τ]{enc:τ->Array Value}{c:Nat}[f:gL τ enc c]{a:Sl τ}[q:aX w0 L a]:Hd w0 L a.sv enc c a.xs:=⟨fun w hw=>by
  have h:=(q.h w hw).1;have e:Deep.cells (τ:=τ)=enc:=funext f.h;rw[←e,←f.hc];exact h⟩
end
section
variable {P:Program} {N:cA} {w0:World} {env:Env} {L:List ai} {d:Option Tmp} {ty:TypeId} {ps:String} {af:Array Edge} {gd:Option (Nat×Bool)}
variable {α:Type} {enc:α->Array Value} {c:Nat} {s:Sv} {xs:List α}
theorem uq{t e:TypeId}{x:Operand}{m:Nat}[ht:fH P t e m](hx:ev env x=some s.val)[q:Hd w0 L s enc c xs]:
    Ry P N w0 env L ⟨d, .call {callee:= .builtin .len,args:= #[x],argTypes:= #[t]},ty,ps,af,gd⟩ (.int .i64 (xs.length:Nat)):=fun a w ha hw=>
  Cs (P:=P) (N:=N) (w0:=w0) (L:=L) (d:=d) (ty:=ty) (ps:=ps) (af:=af) (gd:=gd) hx (q.h w hw).ok (q.h w hw).len a w ha hw
theorem bf{t e:TypeId}{x ix:Operand}{m:Nat}{k:IntKind}{j:Int}[ht:fH P t e m](hx:ev env x=some s.val)(hj:ev env ix=some (.int k j))[q:Hd w0 L s enc c xs](i:Nat)(ej:j=(i:Int))(h1:i<xs.length):
    Ry P N w0 env L ⟨d, .indexAddr t x ix,ty,ps,af,gd⟩ (.pointer (some ⟨s.b,s.o+i*m,none⟩)):=fun a w ha hw=>
  pq (P:=P) (N:=N) (w0:=w0) (L:=L) (d:=d) (ty:=ty) (ps:=ps) (af:=af) (gd:=gd) hx hj ej (q.h w hw).ok (by rw[(q.h w hw).len];exact h1) a w ha hw
theorem gV{t:TypeId}{x:Operand}{p:Nat}{a:α}[ht:gK P t c][he:bp enc c][q:Hd w0 L s enc c xs](hx:ev env x=some (.pointer (some ⟨s.b,p,none⟩)))(i:Nat)(hi:xs[i]? =some a)(iP:p=s.o+i*c):
    Ry P N w0 env L ⟨d, .load t x,ty,ps,af,gd⟩ (.agg (enc a)):=Pb hx q.h hi iP
theorem bW{t:TypeId}{x:Operand}{p j:Nat}{a:α}{v:Value}[ht:gT P t][q:Hd w0 L s enc c xs](hx:ev env x=some (.pointer (some ⟨s.b,p,none⟩)))(i:Nat)(hi:xs[i]? =some a)(iP:p=s.o+i*c+j)(hj:j<c)[hv:bO (enc a) j v]:
    Ry P N w0 env L ⟨d, .load t x,ty,ps,af,gd⟩ v:=YY hx q.h hi iP hj hv.h
theorem Fs{t:TypeId}{x:Operand}{p j n:Nat}{a:α}{sub:Array Value}[ht:gK P t n][q:Hd w0 L s enc c xs](hx:ev env x=some (.pointer (some ⟨s.b,p,none⟩)))(i:Nat)(hi:xs[i]? =some a)(iP:p=s.o+i*c+j)(hj:j+n≤c)[hs:nk (enc a) j n sub]:
    Ry P N w0 env L ⟨d, .load t x,ty,ps,af,gd⟩ (.agg sub):=Pc hx q.h hi iP hj
theorem CC{t e:TypeId}{x lo hi:Operand}{k k':IntKind}{il ih:Int}[ht:fH P t e c](hx:ev env x=some s.val)(hl:ev env lo=some (.int k il))(hh:ev env hi=some (.int k' ih))[q:Hd w0 L s enc c xs](l h:Nat)(el:il=(l:Int))(eh:ih=(h:Int))(h1:l≤h)(h2:h≤xs.length):
    Ry P N w0 env L ⟨d, .slice t x (some lo) (some hi) none,ty,ps,af,gd⟩ (s.sub c l h).val:=fun a w ha hw=>
  Fj (P:=P) (N:=N) (w0:=w0) (L:=L) (d:=d) (ty:=ty) (ps:=ps) (af:=af) (gd:=gd) hx hl hh el eh (q.h w hw).ok h1 (by have:=(q.h w hw).len;have:=(q.h w hw).ok.le;omega) a w ha hw
theorem Po{t e:TypeId}{x hi:Operand}{k':IntKind}{ih:Int}[ht:fH P t e c](hx:ev env x=some s.val)(hh:ev env hi=some (.int k' ih))[q:Hd w0 L s enc c xs](h:Nat)(eh:ih=(h:Int))(h2:h≤xs.length):
    Ry P N w0 env L ⟨d, .slice t x none (some hi) none,ty,ps,af,gd⟩ (s.sub c 0 h).val:=fun a w ha hw=>
  wX (P:=P) (N:=N) (w0:=w0) (L:=L) (d:=d) (ty:=ty) (ps:=ps) (af:=af) (gd:=gd) hx hh eh (q.h w hw).ok (by have:=(q.h w hw).len;have:=(q.h w hw).ok.le;omega) a w ha hw
theorem CD{t e:TypeId}{x lo:Operand}{k:IntKind}{il:Int}[ht:fH P t e c](hx:ev env x=some s.val)(hl:ev env lo=some (.int k il))[q:Hd w0 L s enc c xs](l:Nat)(el:il=(l:Int))(h1:l≤xs.length):
    Ry P N w0 env L ⟨d, .slice t x (some lo) none none,ty,ps,af,gd⟩ (s.sub c l xs.length).val:=fun a w ha hw=>
  ui (P:=P) (N:=N) (w0:=w0) (L:=L) (d:=d) (ty:=ty) (ps:=ps) (af:=af) (gd:=gd) hx hl el (q.h w hw).ok (q.h w hw).len h1 a w ha hw
theorem JG{t e tb:TypeId}{x:Operand}{xs:List UInt8}(hs:P.underlying tb=some (.slice e))(he:P.underlying e=some (.int .u8))(hd:P.underlying t=some .string)(hx:ev env x=some s.val)[q:Hd w0 L s aQ 1 xs]:
    Ry P N w0 env L ⟨d, .convert tb t x,ty,ps,af,gd⟩ (.string ⟨xs.toArray⟩):=Zd hs he hd hx q.h
theorem w8{s t:TypeId}{x:Operand}{k:IntKind}{b:UInt8}[hs:mv P s .u8][ht:mv P t k](hx:ev env x=some (.int .u8 b.toNat))(hk:8≤nb k:=by decide):
    Ry P N w0 env L ⟨d, .convert s t x,ty,ps,af,gd⟩ (.int k b.toNat):=mw hx (avB b.toNat_lt (avr (by decide) hk))
theorem Zg{s t:TypeId}{x:Operand}{k:IntKind}{b:UInt16}[hs:mv P s .u16][ht:mv P t k](hx:ev env x=some (.int .u16 b.toNat))(hk:16≤nb k:=by decide):
    Ry P N w0 env L ⟨d, .convert s t x,ty,ps,af,gd⟩ (.int k b.toNat):=mw hx (avB b.toNat_lt (avr (by decide) hk))
end
section
variable {P:Program} {N:cA} {w0:World} {env:Env} {L:List ai} {l:List Oper} {Q:Exit->Act->World->Prop} {rest:List Oper} {d:Option Tmp} {ty:TypeId} {ps:String} {af:Array Edge} {gd:Option (Nat×Bool)}
class bV(P:Program)(f:FuncId)(w0:World)(L:List ai)(vs:List Value)(v:outParam Value)(pre:outParam Prop):Prop where
  h:pre-> ∀w,Mem w0 L w->Calls P f vs.toArray w fun e w'=>e= .returned v/\Mem w [] w'
class bY(P:Program)(f:FuncId)(w0:World)(L:List ai)(vs:List Value)(X:outParam Type)(val:outParam (X->Value))(L':outParam (X->List ai))(pr:outParam (X->Prop))(pre:outParam Prop):Prop where
  h:pre-> ∀w,Mem w0 L w->Calls P f vs.toArray w fun e w'=> ∃x,e= .returned (val x)/\pr x/\Mem w0 (L' x) w'
instance (priority:=high) bV.pure {f:FuncId}{vs:List Value}{v:Value}[h:rR P f vs v]:bV P f w0 L vs v True:=⟨fun _ w _=>h.h w⟩
theorem bK{f:FuncId}{xs:List Operand}{ts:Array TypeId}{vs:List Value}{v:Value}{pre:Prop}[hf:aH P f](hx:iF env xs=some vs)[hc:bV P f w0 L vs v pre](hp:pre):
    Yl P N w0 env L ⟨d, .call {callee:= .value (.func f),args:=xs.toArray,argTypes:=ts},ty,ps,af,gd⟩ v:=Ck hx fun w hw=>hc.h hp w hw
theorem bb{X:Type}{val:X→Value}{L':X→List ai}{pr:X→Prop}{pre:Prop}{f:FuncId}{xs:List Operand}{ts:Array TypeId}{vs:List Value}[hf:aH P f](hx:iF env xs=some vs)
    [hc:bY P f w0 L vs X val L' pr pre] (hp:pre) (hk: ∀x,pr x->Sq P N w0 l Q rest (cr env d (val x)) (L' x)) (hd:dq N d=true:=by rfl):
    Sq P N w0 l Q (⟨d, .call {callee:= .value (.func f),args:=xs.toArray,argTypes:=ts},ty,ps,af,none⟩::rest) env L:=Y5 hx (fun w hw=>hc.h hp w hw) hk hd
theorem Zh{Lq:List ai}{n j:Nat}{js:List Nat}{X:Type}{val:X→Value}{L':X→List ai}{pr:X→Prop}{pre:Prop}{f:FuncId}{xs:List Operand}{ts:Array TypeId}{vs:List Value}(hj:l[j]? =some ⟨d, .call {callee:= .value (.func f),args:=xs.toArray,argTypes:=ts},ty,ps,af,none⟩)[hf:aH P f](hx:iF env xs=some vs)
    [hc:bY P f w0 L vs X val L' pr pre] (hp:pre) (hL: ∀x w,Mem w0 (L' x) w->Mem w0 Lq w) (hk: ∀x,pr x->Fr P N w0 Lq l n Q js (cr env d (val x)) (L' x)) (hd:dq N d=true:=by rfl):
    Fr P N w0 Lq l n Q (j::js) env L:=YO hj hx (fun w hw=>hc.h hp w hw) hL hk hd
end
class ct(L:List ai)(i:Nat)(R:outParam (List ai)):Prop where
  h:L.eraseIdx i=R
instance ct.here{e:ai}{L:List ai}:ct (e::L) 0 L:=⟨rfl⟩
instance ct.there{e:ai}{L R:List ai}{i:Nat}[q:ct L i R]:ct (e::L) (i+1) (e::R):=⟨by simp[q.h]⟩
class ah(L L':List ai):Prop where
  h: ∃R,L.Perm (L'++R)
instance (priority:=high) ah.nil {L:List ai}:ah L []:=⟨⟨L, .refl _⟩⟩
instance (priority:=high) ah.same {L:List ai}:ah L L:=⟨⟨[],by simp⟩⟩
theorem py{e:ai}: ∀{L:List ai} {i:Nat},L[i]? =some e->L.Perm (e::L.eraseIdx i)
  |[],i,h=>by simp at h
  |x::L,0,h=>by obtain rfl:x=e:=by simpa using h
                simp
  |x::L,i+1,h=>by
   have:=py (L:=L) (i:=i) (by simpa using h);rw[awO];exact(this.cons x).trans (.swap _ _ _)
instance ah.cons{L L' R:List ai}{e:ai}{i:Nat}[a:At L e i][b:ct L i R][k:ah R L']:ah L (e::L'):=⟨by
  obtain⟨S,hS⟩:=k.h;exact⟨S,(py a.h).trans (by rw[b.h];exact hS.cons e)⟩⟩
theorem ah.mem{L L':List ai}[k:ah L L']{w0 w:World}(h:Mem w0 L w):Mem w0 L' w:=by
  obtain⟨R,hR⟩:=k.h;exact(h.perm hR).sub (List.sublist_append_left _ _)
theorem ur{P:Program}{N:cA}{w0:World}{env:Env}{L:List ai}{Q:Exit->Act->World->Prop}{c:Code}(L':List ai)(h: ∀w,Mem w0 L w->Mem w0 L' w)(hk:Cw P N w0 Q c env L'):Cw P N w0 Q c env L:=fun a w ha hw=>hk a w ha (h w hw)
theorem Zi{P:Program}{N:cA}{w0:World}{env:Env}{L:List ai}{Q:Exit->Act->World->Prop}{c:Code}(s:Sv){α:Type}{enc:α->Array Value}{n:Nat}{xs:List α}[q:Hd w0 L s enc n xs](hk:xs.length<=140737488355328->Cw P N w0 Q c env L):Cw P N w0 Q c env L:=
  fun a w ha hw=>hk (q.h w hw).bd a w ha hw
theorem pz{α:Type}{xs:List α}{i:Nat}{d:α}(h:i<xs.length):xs[i]? =some (xs.getD i d):=by
  simp[List.getD,h]
section
variable {P:Program} {N:cA} {w0:World} {env:Env} {L:List ai} {l:List Oper} {Q:Exit->Act->World->Prop} {rest:List Oper} {d:Option Tmp} {ty:TypeId} {ps:String} {af:Array Edge} {gd:Option (Nat×Bool)}
variable {α:Type} {enc:α->Array Value} {c:Nat} {s:Sv} {xs:List α}
theorem yT{x y:Operand}{t u:TypeId}{a b:List UInt8}(hx:ev env x=some (.string ⟨a.toArray⟩))(hy:ev env y=some (.string ⟨b.toArray⟩)):
    Ry P N w0 env L ⟨d, .binOp .eql t x y u,ty,ps,af,gd⟩ (.bool (decide (a=b))):=by
  have e:((⟨a.toArray⟩:ByteArray).toList==(⟨b.toArray⟩:ByteArray).toList)=decide (a=b):=by
    rw[ByteArray.toList_mk,ByteArray.toList_mk,awn];simp
  rw[←e];exact Ze hx hy
theorem Fu{x y:Operand}{t u:TypeId}{a b:List UInt8}(hx:ev env x=some (.string ⟨a.toArray⟩))(hy:ev env y=some (.string ⟨b.toArray⟩)):
    Ry P N w0 env L ⟨d, .binOp .neq t x y u,ty,ps,af,gd⟩ (.bool (!decide (a=b))):=by
  have e:((⟨a.toArray⟩:ByteArray).toList==(⟨b.toArray⟩:ByteArray).toList)=decide (a=b):=by
    rw[ByteArray.toList_mk,ByteArray.toList_mk,awn];simp
  rw[←e];exact Zf hx hy
theorem vK{t e:TypeId}{x:Operand}{u:TypeId}(ht:P.underlying t=some (.slice e))(hx:ev env x=some s.val):
    Ry P N w0 env L ⟨d, .binOp .eql t x (.const (.slice none 0 0)) u,ty,ps,af,gd⟩ (.bool s.nil):=fun a w ha _=>by
  have h1:(eqGuard BinOp.eql t x (.const (.slice none 0 0)) s.val (.slice none 0 0)).run P w= .ok () w:=by
    unfold Sv.val;split<;>rfl
  have h3:(Op.equal t s.val (.slice none 0 0)).run P w= .ok s.nil w:=by
    unfold Sv.val;split<;>rename_i hn<;>rw[run_equal_slice_nil w t e _ _ _ ht,hn]<;>rfl
  have h2:(binOp .eql t s.val (.slice none 0 0)).run P w= .ok (.bool s.nil) w:=by
    have:binOp .eql t s.val (.slice none 0 0)=(do pure (.bool (←Op.equal t s.val (.slice none 0 0)))):=by unfold Sv.val;split<;>rfl
    rw[this,Sem.run_bind,h3];rfl
  simp only[execOp,ha.ev hx,show a.eval (.const (.slice none 0 0))= .slice none 0 0 from rfl,Sem.run_bind,h1,Result.andThen_ok,h2,Sem.run_pure]
theorem Pp{t e:TypeId}{bP:Nat}(ht:dS P t e c bP)(w:World):(Instr.buildSlice t 0 #[]).run P w= .ok (.slice (some ⟨w.heap.size,0,none⟩) 0 0) (w.alloc (.cells #[] e)):=by
  obtain⟨i',z,bg,aK,bx,di,nn⟩:=ht.info;have:(Array.range 0:Array Nat)= #[]:=by simp
  simp[Instr.buildSlice,run_underlying ht.eK,sizeOf,typeInfo,bg,Instr.fill,newRow,newObj,Sem.run,Result.andThen,this]
theorem w9{t e:TypeId}{bP:Nat}(enc:α→Array Value)[ht:dS P t e c bP][he:bp enc c](hk: ∀b,Sq P N w0 l Q rest (cr env d (Sv.val ⟨false,b,0,0,0,none⟩)) (own enc c ⟨false,b,0,0,0,none⟩ []::L))(hd:dq N d=true:=by rfl):
    Sq P N w0 l Q (⟨d, .buildSlice t 0 #[],ty,ps,af,none⟩::rest) env L:=
  nK rfl hd fun a w _ hw=>by
    refine⟨_,_,_,?_,hw.call (vH (enc:=enc) (c:=c) (xs:=[]) (cs:= #[]) (e:=e) rfl 0 0 rfl (at5 _) (auo _) (by simp) (by simp)),hk _⟩;simp only[execOp,Sem.run_bind,List.map_toArray,au4,Pp ht w,Result.andThen,Sem.run_pure];rfl
end
instance:Deep UInt8:=Deep.flat aQ 1
instance:gL UInt8 aQ 1:=⟨rfl,fun _=>rfl⟩
def cw{τ:Type}(a:Sl τ):Array Value:= #[a.sv.val]
instance {τ:Type}:bp (cw (τ:=τ)) 1:=⟨fun _=>rfl,fun a=>bp.one (enc:=um) (c:=1) a.sv⟩
instance {τ:Type}[Deep τ]:gL (Sl τ) cw 1:=⟨rfl,fun _=>rfl⟩
instance {τ:Type}(a:Sl τ):bO (cw a) 0 a.sv.val:=⟨rfl⟩
def lx{τ:Type}(a:Sl (Sl τ)):List (List τ):=a.xs.map (·.xs)
theorem yU{τ:Type}(a:Sl (Sl τ)):(lx a).length=a.xs.length:=by simp[lx]
section
variable {L L' L1 L2 R R1 R2:List ai} {τ:Type}
def Tr(L L':List ai):Prop:= ∀(K:List ai) (w0 w:World),Mem w0 (L++K) w->Mem w0 (L'++K) w
theorem Tr.mem(h:Tr L L'){w0 w:World}(hw:Mem w0 L w):Mem w0 L' w:=by
  have:=h [] w0 w (by simpa using hw);simpa using this
theorem Tr.refl:Tr L L:=fun _ _ _ h=>h
theorem Tr.trans(h:Tr L L1)(h':Tr L1 L2):Tr L L2:=fun K w0 w hw=>h' K w0 w (h K w0 w hw)
theorem Tr.perm(h:L.Perm L'):Tr L L':=fun K _ _ hw=>Mem.perm hw (h.append_right K)
theorem Tr.left(h:Tr L L')(X:List ai):Tr (X++L) (X++L'):=fun K w0 w hw=>by
  have p: ∀Y:List ai,(X++Y++K).Perm (Y++(X++K)):=fun Y=>by
    rw[at4,←at4 Y];refine(List.perm_append_comm_assoc X Y K).trans ?_;rw[at4]
  exact(h (X++K) w0 w (hw.perm (p L))).perm (p L').symm
theorem Tr.right(h:Tr L L')(X:List ai):Tr (L++X) (L'++X):=fun K w0 w hw=>by
  rw[at4]at hw⊢;exact h (X++K) w0 w hw
theorem Tr.cons(h:Tr L L')(x:ai):Tr (x::L) (x::L'):=h.left [x]
theorem Tr.sub(h:L'.Sublist L):Tr L L':=fun K _ _ hw=>Mem.sub hw (h.append (.refl K))
theorem Tr.front{e:ai}{i:Nat}(hi:L[i]? =some e):Tr L (e::L.eraseIdx i):= .perm (py hi)
theorem Tr.back{e:ai}{i:Nat}(hi:L[i]? =some e):Tr (e::L.eraseIdx i) L:= .perm (py hi).symm
theorem Tr.emp:Tr (.emp::L) L:=fun _ _ _ hw=>Mem.Cz.1 hw
theorem Tr.Pq:Tr L (.emp::L):=fun _ _ _ hw=>Mem.Cz.2 hw
theorem Tr.two{a b:ai}:Tr (.two a b::L) (a::b::L):=fun _ _ _ hw=>Mem.yS.1 hw
theorem Tr.Ar[d:Deep τ]{a:Sl τ}:Tr (Deep.cE a::L) (own (Deep.cells (τ:=τ)) (Deep.c τ) a.sv a.xs::a.xs.map d.cE++L):=fun K w0 w hw=>by
  have:=Mem.Ar.1 hw;simpa using this
theorem Tr.Zj[d:Deep τ]{a:Sl τ}:Tr (own (Deep.cells (τ:=τ)) (Deep.c τ) a.sv a.xs::a.xs.map d.cE++L) (Deep.cE a::L):=fun K w0 w hw=>by
  refine Mem.Ar.2 ?_;simpa using hw
class Plain(τ:Type)[Deep τ]:Prop where
  h: ∀x:τ,Deep.cE x= .emp
theorem Tr.plain[Deep τ][p:Plain τ]: ∀{xs:List τ},Tr (xs.map Deep.cE++L) L
  |[]=> .refl
  |x::xs=>by
   rw[aum,p.h];exact Tr.emp.trans Tr.plain
theorem Tr.Pr[Deep τ][p:Plain τ]: ∀{xs:List τ},Tr L (xs.map Deep.cE++L)
  |[]=> .refl
  |x::xs=>by
   rw[aum,p.h];exact(Tr.Pr (xs:=xs)).trans Tr.Pq
theorem Ps[Deep τ]{enc:τ->Array Value}{c:Nat}[f:gL τ enc c](s:Sv)(xs:List τ):own (Deep.cells (τ:=τ)) (Deep.c τ) s xs=own enc c s xs:=by
  have e:Deep.cells (τ:=τ)=enc:=funext f.h;rw[e,f.hc]
theorem Tr.JH[d:Deep τ]{enc:τ->Array Value}{c:Nat}[f:gL τ enc c]{a:Sl τ}:Tr (Deep.cE a::L) (own enc c a.sv a.xs::(a.xs.map d.cE++L)):=by
  rw[←Ps];exact Tr.Ar
theorem Tr.CE[d:Deep τ]{enc:τ->Array Value}{c:Nat}[f:gL τ enc c]{a:Sl τ}:Tr (own enc c a.sv a.xs::(a.xs.map d.cE++L)) (Deep.cE a::L):=by
  rw[←Ps];exact Tr.Zj
theorem Tr.Zk[d:Deep τ]{enc:τ->Array Value}{c:Nat}[f:gL τ enc c][Plain τ]{a:Sl τ}:Tr (Deep.cE a::L) (own enc c a.sv a.xs::L):=Tr.JH.trans (Tr.plain.cons _)
theorem Tr.JI[d:Deep τ]{enc:τ->Array Value}{c:Nat}[f:gL τ enc c][Plain τ]{a:Sl τ}:Tr (own enc c a.sv a.xs::L) (Deep.cE a::L):=(Tr.Pr.cons _).trans Tr.CE
theorem Pt{α β:Type}(f:α->β){xs:List α}{i:Nat}{x:α}(hx:xs[i]? =some x):(xs.map f).Perm (f x::(xs.eraseIdx i).map f):=by
  have h1:=(Pu hx).map f;exact h1
where Pu {α:Type}: ∀{L:List α} {i:Nat} {e:α},L[i]? =some e->L.Perm (e::L.eraseIdx i)
  |[],i,e,h=>by simp at h
  |x::L,0,e,h=>by obtain rfl:x=e:=by simpa using h
                  simp
  |x::L,i+1,e,h=>by
   have:=Pu (L:=L) (i:=i) (e:=e) (by simpa using h);rw[awO];exact(this.cons x).trans (.swap _ _ _)
theorem Tr.pick[d:Deep τ]{enc:τ→Array Value}{c:Nat}[f:gL τ enc c]{a:Sl τ}{i:Nat}{x:τ}(hx:a.xs[i]? =some x):
    Tr (Deep.cE a::L) (own enc c a.sv a.xs::Deep.cE x::((a.xs.eraseIdx i).map d.cE++L)):=
  Tr.JH.trans (Tr.cons (Tr.right (Tr.perm (Pt d.cE hx)) L) _)
theorem Pv{α:Type}: ∀(xs:List α) (i:Nat) (y:α),(xs.set i y).eraseIdx i=xs.eraseIdx i
  |[],_,_=>by simp
  |_::_,0,_=>by simp
  |_::xs,i+1,y=>by simp[Pv xs i y]
theorem Tr.lay[d:Deep τ]{enc:τ→Array Value}{c:Nat}[f:gL τ enc c]{s:Sv}{xs:List τ}{i:Nat}{y:τ}(hi:i<xs.length):
    Tr (own enc c s (xs.set i y)::Deep.cE y::((xs.eraseIdx i).map d.cE++L)) (Deep.cE (⟨s,xs.set i y⟩:Sl τ)::L):=by
  have hy:(xs.set i y)[i]? =some y:=by simp[hi]
  have:=(Pt d.cE hy).symm;rw[Pv]at this;exact(Tr.cons (Tr.right (Tr.perm this) L) _).trans (Tr.CE (a:=⟨s,xs.set i y⟩))
class Take(L:List ai){τ:Type}[Deep τ](x:τ)(R:outParam (List ai)):Prop where
  h:Tr L (Deep.cE x::R)
class As(L:List ai){τ:Type}[Deep τ](xs:List τ)(R:outParam (List ai)):Prop where
  h:Tr L (xs.map Deep.cE++R)
instance (priority:=high) Take.at [Deep τ]{x:τ}{i:Nat}[a:At L (Deep.cE x) i][d:ct L i R]:Take L x R:=⟨by
  have:=Tr.front a.h;rwa [d.h]at this⟩
instance (priority:=low) Take.plain [Deep τ][p:Plain τ]{x:τ}:Take L x L:=⟨by rw[p.h];exact Tr.Pq⟩
instance Take.own[Deep τ][p:Plain τ]{enc:τ->Array Value}{c:Nat}[f:gL τ enc c]{s:Sv}{xs:List τ}{i:Nat}[a:At L (own enc c s xs) i][d:ct L i R]:Take L (⟨s,xs⟩:Sl τ) R:=⟨by
  have:=Tr.front a.h;rw[d.h]at this;exact this.trans (Tr.JI (a:=⟨s,xs⟩))⟩
instance As.nil[Deep τ]:As L ([]:List τ) L:=⟨.refl⟩
instance As.cons[Deep τ]{x:τ}{xs:List τ}[a:Take L x R1][b:As R1 xs R2]:As L (x::xs) R2:=⟨a.h.trans (b.h.cons _)⟩
instance:Plain UInt8:=⟨fun _=>rfl⟩
end
section
variable {P:Program} {N:cA} {w0:World} {env:Env} {L R R1 R2:List ai} {l:List Oper} {Q:Exit->Act->World->Prop} {rest:List Oper} {d:Option Tmp} {ty:TypeId} {ps:String} {af:Array Edge}
variable {τ:Type} [dp:Deep τ] {enc:τ->Array Value} {c:Nat}
theorem Zl{α:Type}{enc:α→Array Value}{c:Nat}{s:Sv}{xs ys:List α}{t tx e:TypeId}{x y:Operand}{yv:Value}{bP:Nat}[ht:dS P t e c bP][he:bp enc c](R:List ai)(hx:ev env x=some s.val)(hy:ev env y=some yv)
    (ho: ∀w,Mem w0 L w->Mem w0 (own enc c s xs::R) w) (hc:0<c) (hs: ∀w,Mem w0 L w->Src P c tx yv ys.length (aL enc ys) w) (hb:(xs.length+ys.length)*bP<=140737488355328) (fR:xs.length+ys.length<=140737488355328)
    (hk: ∀s':Sv,Sq P N w0 l Q rest (cr env d s'.val) (own enc c s' (xs++ys)::R)) (hd:dq N d=true:=by rfl):
    Sq P N w0 l Q (⟨d, .call {callee:= .builtin .append,args:= #[x,y],argTypes:= #[t,tx]},ty,ps,af,none⟩::rest) env L:=
  nK rfl hd fun a w ha hw=>by
    obtain⟨s',w',h1,h2,h3,h4⟩:=Fm (i:=0) (ty:=ty) ht hc (ho w hw) rfl (hs w hw) hb fR;refine⟨s'.val,w',_,?_,by simpa using h4,hk s'⟩;simp[execOp,ha.ev hx,ha.ev hy,resolve,invoke,builtin,h1,Result.andThen]
theorem Zm{s:Sv}{t tx e e':TypeId}{x y:Operand}{bP m:Nat}[f:gL τ enc c][ht:dS P t e c bP][CF:fH P tx e' m][he:bp enc c](a:Sl τ)(ys:List τ)(hx:ev env x=some a.sv.val)(hy:ev env y=some s.val)[q:Hd w0 L s enc c ys]
    [k1:Take L a R1] [k2:As R1 ys R2] (hc:0<c) (hb:(a.xs.length+ys.length)*bP<=140737488355328) (fR:a.xs.length+ys.length<=140737488355328)
    (hk: ∀a':Sl τ,a'.xs=a.xs++ys->Sq P N w0 l Q rest (cr env d a'.sv.val) (Deep.cE a'::R2)) (hd:dq N d=true:=by rfl):
    Sq P N w0 l Q (⟨d, .call {callee:= .builtin .append,args:= #[x,y],argTypes:= #[t,tx]},ty,ps,af,none⟩::rest) env L:=
  Zl (enc:=enc) (c:=c) (xs:=a.xs) (ys:=ys) (a.xs.map dp.cE++(ys.map dp.cE++R2)) hx hy (fun w hw=>((k1.h.trans (k2.h.cons _)).trans Tr.JH).mem hw) hc (fun w hw=>iQ CF.eK hc (q.h w hw)) hb fR
    (fun s' aa w ha hw=>hk ⟨s',a.xs++ys⟩ rfl aa w ha (by
      have t1:Tr (own enc c s' (a.xs++ys)::(a.xs.map dp.cE++(ys.map dp.cE++R2))) (Deep.cE (⟨s',a.xs++ys⟩:Sl τ)::R2):=by
        have:=Tr.CE (enc:=enc) (c:=c) (a:=(⟨s',a.xs++ys⟩:Sl τ)) (L:=R2);simpa using this
      exact t1.mem hw)) hd
theorem Mem.Fv{w:World}[f:gL τ enc c](h:Mem w0 L w):Mem w0 (Deep.cE (⟨Sv.none,[]⟩:Sl τ)::L) w:=
  (Tr.CE (enc:=enc) (c:=c) (a:=(⟨Sv.none,[]⟩:Sl τ)) (L:=L)).mem (by simpa using h.dE enc c)
def uu{τ:Type}(s:Sl (Sl τ))(i:Nat):Sl τ:=s.xs.getD i ⟨Sv.none,[]⟩
theorem Fw{τ:Type}{s:Sl (Sl τ)}{i:Nat}{x:Sl τ}(h:s.xs[i]? =some x):uu s i=x:=by simp[uu,h]
theorem Fx{τ:Type}{s:Sl (Sl τ)}{i:Nat}(h:s.xs.length<=i):uu s i=⟨Sv.none,[]⟩:=by simp[uu,h]
theorem CG{τ:Type}(s:Sl (Sl τ))(i:Nat):(uu s i).xs=(lx s).getD i []:=by
  rcases aud i s.xs.length with h|h
  ·have:s.xs[i]? =some s.xs[i]:=by simp[h]
   simp[Fw this,lx,h]
  ·rw[Fx h];simp[lx,h]
theorem xd{h:Nat->Option Obj}:Deep.cP h (⟨Sv.none,[]⟩:Sl τ):=⟨eZ.nil _ _ _,fun _ hx=>by cases hx⟩
def Sl.nil{τ:Type}:Sl τ:=⟨Sv.none,[]⟩
instance aX.none:aX w0 L (Sl.nil:Sl τ):=⟨fun _ _=>xd⟩
instance aX.uu{s:Sl (Sl τ)}{i:Nat}[q:aX w0 L s]:aX w0 L (uu s i):=⟨fun w hw=>by
  rcases aud i s.xs.length with h|h
  ·have hx:s.xs[i]? =some s.xs[i]:=by simp[h]
   rw[Fw hx];exact(q.h w hw).2 _ (atl hx)
  ·rw[Fx h];exact xd⟩
theorem Tr.Pw{L:List ai}[f:gL τ enc c]: ∀n,Tr L ((List.replicate n (⟨Sv.none,[]⟩:Sl τ)).map Deep.cE++L)
  |0=> .refl
  |n+1=>by
   rw[awM,aum];exact(Tr.Pw n).trans fun K w0 w hw=>Mem.Fv (enc:=enc) (c:=c) hw
theorem Zn{t e:TypeId}{bP n cap:Nat}{x y:Operand}{k k':IntKind}{ix iy:Int}[f:gL τ enc c][ht:dS P t e 1 bP][hz:eY P e (.slice none 0 0)](hx:ev env x=some (.int k ix))(hy:ev env y=some (.int k' iy))(ex:ix=(n:Int))(ey:iy=(cap:Int))(hle:n≤cap)(hb:bP*cap≤281474976710656)(fR:cap≤140737488355328)
    (hk: ∀a:Sl (Sl τ),a.xs=List.replicate n ⟨Sv.none,[]⟩->Sq P N w0 l Q rest (cr env d a.sv.val) (Deep.cE a::L)) (hd:dq N d=true:=by rfl):
    Sq P N w0 l Q (⟨d, .makeSlice t x y,ty,ps,af,none⟩::rest) env L:=
  vI (enc:=cw (τ:=τ)) (n:=n) (cap:=cap) (⟨Sv.none,[]⟩:Sl τ) rfl hx hy ex ey hle hb fR (fun b a w ha hw=>hk ⟨⟨false,b,0,n,cap,none⟩,List.replicate n ⟨Sv.none,[]⟩⟩ rfl a w ha
    (((Tr.Pw (enc:=enc) (c:=c) n).cons _|>.trans (Tr.CE (enc:=cw) (c:=1) (a:=(⟨⟨false,b,0,n,cap,none⟩,List.replicate n ⟨Sv.none,[]⟩⟩:Sl (Sl τ))))).mem hw)) hd
end
section
variable {P:Program} {N:cA} {w0:World} {env:Env} {L:List ai} {l:List Oper} {Q:Exit->Act->World->Prop} {rest:List Oper} {d:Option Tmp} {ty:TypeId} {ps:String} {af:Array Edge}
end
theorem Sv.jW(s:Sv):s.val.cells= #[s.val]:=by unfold Sv.val;split<;>rfl
theorem Tr.Zo{τ:Type}[Deep τ][Plain τ]{enc:τ→Array Value}{c:Nat}[gL τ enc c]{a:Sl (Sl τ)}{x:Sl τ}{i:Nat}{B:List ai}(hx:a.xs[i]? =some x):
    Tr (B++[Deep.cE a]) (own cw 1 a.sv a.xs::own enc c x.sv x.xs::(B++(a.xs.eraseIdx i).map Deep.cE)):=by
  refine(Tr.perm (List.perm_append_comm (l₁:=B) (l₂:=[Deep.cE a]))).trans ?_;refine(Tr.pick (L:=B) hx).trans (Tr.cons (Tr.Zk.trans (Tr.cons (Tr.perm List.perm_append_comm) _)) _)
theorem Tr.Zp{τ:Type}[Deep τ][Plain τ]{enc:τ→Array Value}{c:Nat}[gL τ enc c]{s y:Sv}{xs:List (Sl τ)}{ys:List τ}{i:Nat}{B:List ai}(hi:i<xs.length):
    Tr (own cw 1 s (xs.set i ⟨y,ys⟩)::own enc c y ys::(B++(xs.eraseIdx i).map Deep.cE)) (Deep.cE (⟨s,xs.set i ⟨y,ys⟩⟩:Sl (Sl τ))::B):=by
  refine Tr.trans ?_ (Tr.lay (L:=B) hi);exact Tr.cons ((Tr.JI (a:=(⟨y,ys⟩:Sl τ))).trans (Tr.cons (Tr.perm List.perm_append_comm) _)) _
theorem Fy{P:Program}{N:cA}{w0:World}{env:Env}{L:List ai}{l:List Oper}{Q:Exit→Act→World→Prop}{rest:List Oper}{ty:TypeId}{ps:String}{af:Array Edge}{τ:Type}{t:TypeId}{x y:Operand}{i k p:Nat}{s:Sv}{xs:List (Sl τ)}{a:Sl τ}(a':Sl τ)
    (sz:(P.info? t).map (·.size)=some 1) (hx:ev env x=some (.pointer (some ⟨s.b,p,none⟩))) (hy:ev env y=some a'.sv.val) [q:gg L s (cw (τ:=τ)) 1 xs i] (iP:p=s.o+k*1) (ha:xs[k]? =some a) {L':List ai} [hu:fZ L i (own cw 1 s (xs.set k a')) L'] (hk:Sq P N w0 l Q rest env L'):
    Sq P N w0 l Q (⟨none, .store t x y,ty,ps,af,none⟩::rest) env L:=
  mC (j:=0) (a':=a') sz hx hy (q:=q) iP ha (by rw[Sv.jW];simp[Sv.one]) (by rw[Sv.jW];rfl) (by decide) (by rw[Sv.jW];rfl) hk
section
variable {P:Program} {N:cA} {w0:World} {env:Env} {L:List ai} {l:List Oper} {Q:Exit->Act->World->Prop} {rest:List Oper} {d:Option Tmp} {ty:TypeId} {ps:String} {af:Array Edge} {gd:Option (Nat×Bool)}
variable {fs:List Nat} {F:Act->Prop} {k:Nat}
theorem mD{o:Oper}{v:Value}{j t:Nat}{b g:Bool}(hg:o.guard=some (j,b))(hj:(l[j]?).bind (·.dst)=some t)(hv:look env t=some (.bool g))(ht:g=b)(h:Yl P N w0 env L o v)
    (hk:Sq P N w0 l Q rest (cr env o.dst v) L) (hd:dq N o.dst=true:=by rfl):Sq P N w0 l Q (o::rest) env L:=fun a w ha hw=>by
  unfold wpList;rw[yO ha hg hj hv,ht,beq_self_eq_true,if_pos rfl];exact .inl (Ai ha hw h fun w' hK=>hk _ _ (ha.put hd v) hK)
end
theorem xe{P:Program}{N:cA}{w0:World}{env:Env}{L:List ai}{d:Option Tmp}{ty:TypeId}{ps:String}{af:Array Edge}{gd:Option (Nat×Bool)}{c x y:Operand}{g:Bool}{v:Value}(hc:ev env c=some (.bool g))(ht:g=true)(hx:ev env x=some v)(hy:ev env y=some (.bool false)):
    Ry P N w0 env L ⟨d, .pick c x y,ty,ps,af,gd⟩ v:=by
  subst ht;have h:=Jf (P:=P) (N:=N) (w0:=w0) (L:=L) (d:=d) (ty:=ty) (ps:=ps) (af:=af) (gd:=gd) hc hx hy;simpa using h
abbrev aJ:=List UInt8
def dec(n:Nat):aJ:=Lib.decDigits n
variable {n top:Nat} {s t:aJ} {c:UInt8}
theorem qm(h:n<10):dec n=[UInt8.ofNat (48+n)]:=by rw[dec,Lib.decDigits,dif_pos h]
theorem sV(h:10<=n):dec n=dec (n/10)++[UInt8.ofNat (48+n%10)]:=by
 rw[dec,Lib.decDigits,dif_neg (by omega)];rfl
def lW(c:UInt8):Bool:=decide (48<=c.toNat/\c.toNat<=57)
def val(s:aJ):Nat:=s.foldl (fun a c=>10*a+(c.toNat -48)) 0
theorem Fz:val (s++[c])=10*val s+(c.toNat -48):=by simp[val,avQ]
theorem CH{d:Nat}(h:d<10):(UInt8.ofNat (48+d)).toNat=48+d:=by
 rw[UInt8.toNat_ofNat'];omega
theorem JJ: ∀n,(dec n).all lW=true:=by
 intro n
 induction n using Nat.strongRecOn with
 |_ n ih=>
  rcases aud n 10 with h|h
  ·rw[qm h];have:=CH h;simp[lW,this];omega
  rw[sV h,List.all_append,ih (n/10) (by omega)];have:=CH (avV n (show 0<10 by decide));simp[lW,this];omega
theorem JK: ∀n,val (dec n)=n:=by
 intro n
 induction n using Nat.strongRecOn with
 |_ n ih=>
  rcases aud n 10 with h|h
  ·rw[qm h];have:=CH h;simp[val];omega
  rw[sV h,Fz,ih (n/10) (by omega),CH (avV n (by decide))];omega
theorem Px:dec n≠[]:=by
 rcases aud n 10 with h|h
 ·rw[qm h];simp
 rw[sV h];simp
def FA(s:aJ):Prop:=s≠[]/\(s.length<=1\/s.head?≠some 48)
theorem Zq: ∀n,0<n->(dec n).head?≠some 48:=by
 intro n
 induction n using Nat.strongRecOn with
 |_ n ih=>
  intro hn;rcases aud n 10 with h|h
  ·rw[qm h];intro e;simp only[List.head?_cons,avz]at e;have h2:=congrArg UInt8.toNat e;rw[CH h]at h2;have:(48:UInt8).toNat=48:=rfl;omega
  rw[sV h,List.head?_append]
  cases hd:(dec (n/10)).head? with
  |none=>exact absurd (List.head?_eq_none_iff.1 hd) Px
  |some x=>
   have:=ih (n/10) (by omega) (by omega);rw[hd]at this;simpa using this
theorem JL(n:Nat):FA (dec n):=by
 refine⟨Px,?_⟩;rcases av5 n with rfl|h
 ·left;rw[qm (by decide)];simp
 exact .inr (Zq n h)
theorem Zr: ∀{s:aJ},FA s->s.all lW=true->dec (val s)=s:=by
 intro s;have key: ∀k (s:aJ),s.length=k->FA s->s.all lW=true->dec (val s)=s:=by
  intro k
  induction k with
  |zero=>intro s hl hp _;exact absurd (aun.1 hl) hp.1
  |succ k ih=>
   intro s hl hp hd;obtain⟨t,c,rfl⟩: ∃t c,s=t++[c]:=by
    rcases List.eq_nil_or_concat s with h|⟨t,c,h⟩
    ·exact absurd h hp.1
    exact⟨t,c,by simpa using h⟩
   rw[List.all_append,af0]at hd;have hc:48<=c.toNat/\c.toNat<=57:=by
    have:=hd.2;simpa[lW]using this
   have rW:UInt8.ofNat (48+(c.toNat -48))=c:=by
    rw[show 48+(c.toNat -48)=c.toNat by omega];exact UInt8.ofNat_toNat
   rw[Fz]
   by_cases ht:t=[]
   ·subst ht;rw[show val []=0 from rfl,Nat.mul_zero,auL,qm (by omega),rW];rfl
   have bq:t.length=k:=by simpa using hl
   have Zs:FA t:=by
    refine⟨ht,?_⟩;rcases hp.2 with h|h
    ·left;simp only[adr,ad2,alM]at h;omega
    right;rw[List.head?_append]at h
    cases EX:t.head? with
    |none=>simp
    |some x=>rw[EX]at h;simpa using h
   have JM:=ih t bq Zs hd.1;have hv:0<val t:=by
    rcases av5 (val t)with h0|h0
    ·
     exfalso;rw[h0,qm (by decide)]at JM;rcases hp.2 with h|h
     ·simp only[adr,ad2,alM]at h;have:=avx.2 ht;omega
     rw[←JM]at h;exact h rfl
    exact h0
   rw[sV (by omega),show(10*val t+(c.toNat -48))/10=val t by omega,JM,show(10*val t+(c.toNat -48))%10=c.toNat -48 by omega,rW]
 exact key s.length s rfl
def bF(s:aJ)(top:Nat):Option Nat:=if(s≠[]/\(s.length<=1\/s.head?≠some 48)/\s.all lW=true/\val s<=top)then some (val s)else none
theorem jX:bF s top=some n↔s=dec n/\n<=top:=by
 unfold bF;constructor
 ·
  intro h;split at h
  ·rename_i h1;obtain⟨h2,h3,h4,h5⟩:=h1;obtain rfl:=at1 h;exact⟨(Zr ⟨h2,h3⟩ h4).symm,h5⟩
  cases h
 rintro⟨rfl,h⟩;obtain⟨h1,h2⟩:=JL n;rw[if_pos ⟨h1,h2,JJ n,by rw[JK];exact h⟩,JK]
theorem uv(h:n<=top):bF (dec n) top=some n:=jX.2 ⟨rfl,h⟩
theorem jY: ∀k n,n<10^k->0<k->(dec n).length<=k:=by
 intro k
 induction k with
 |zero=>intro n _ h;omega
 |succ k ih=>
  intro n h _;rcases aud n 10 with h1|h1
  ·rw[qm h1];simp
  rw[sV h1,adr];have hk:0<k:=by
   rcases av5 k with rfl|hk
   ·simp at h;omega
   exact hk
  have:=ih (n/10) (by rw[Nat.pow_succ]at h;omega) hk;simpa using this
theorem vL(h:lW c=false):c∉dec n:=fun hc=>by
 have:=aue.1 (JJ n) c hc;rw[h]at this;cases this
def ba(c:UInt8):aJ->List aJ
 |[]=>[[]]
 |x::s=>if x=c then[]::ba c s else match ba c s with
  |[]=>[[x]]
  |p::r=>(x::p)::r
theorem CI: ∀s,ba c s≠[]
 |[]=>by simp[ba]
 |x::s=>by
  rw[ba];split
  ·simp
  split<;>simp
theorem Au(h:c∉s):ba c s=[s]:=by
 induction s with
 |nil=>rfl
 |cons x s ih=>
  rw[ba,if_neg (fun e=>h (by simp[e])),ih (fun hc=>h (aui _ hc))]
theorem sW(h:c∉s):ba c (s++c::t)=s::ba c t:=by
 induction s with
 |nil=>rw[auS,ba,if_pos rfl]
 |cons x s ih=>
  rw[avm,ba,if_neg (fun e=>h (by simp[e])),ih (fun hc=>h (aui _ hc))]
theorem Av: ∀(s:aJ),(c∉s/\ba c s=[s])\/ ∃a b,s=a++c::b/\c∉a/\ba c s=a::ba c b
 |[]=> .inl ⟨by simp,rfl⟩
 |x::s=>by
  by_cases hx:x=c
  ·subst hx;exact .inr ⟨[],s,rfl,by simp,by rw[ba,if_pos rfl]⟩
  rcases Av s with⟨h1,h2⟩|⟨a,b,h1,h2,h3⟩
  ·left;have:c∉x::s:=fun h=>(auc.1 h).elim (fun e=>hx e.symm) h1;exact⟨this,Au this⟩
  right;have:c∉x::a:=fun h=>(auc.1 h).elim (fun e=>hx e.symm) h2;exact⟨x::a,b,by rw[h1];rfl,this,by rw[h1,←avm,sW this]⟩
theorem JN{a:aJ}(h:ba c s=[a]):s=a/\c∉s:=by
 rcases Av (c:=c) s with⟨h1,h2⟩|⟨x,y,h1,h2,h3⟩
 ·rw[h2]at h;exact⟨(List.cons.inj h).1,h1⟩
 rw[h3]at h;exact absurd (List.cons.inj h).2 (CI y)
theorem CJ{a b:aJ}{r:List aJ}(h:ba c s=a::b::r): ∃u,s=a++c::u/\c∉a/\ba c u=b::r:=by
 rcases Av (c:=c) s with⟨h1,h2⟩|⟨x,y,h1,h2,h3⟩
 ·rw[h2]at h;cases(List.cons.inj h).2
 rw[h3]at h;obtain⟨e1,e2⟩:=List.cons.inj h;subst e1;exact⟨y,h1,h2,e2⟩
def mE(s:aJ):Array Value:= #[.string ⟨s.toArray⟩]
instance:bp mE 1:=⟨fun _=>rfl,fun s=>by simp[mE,Value.oneCell']⟩
instance (s:aJ):bO (mE s) 0 (.string ⟨s.toArray⟩):=⟨rfl⟩
theorem sX(s:aJ):(⟨s.toArray⟩:ByteArray).size=s.length:=by simp[ByteArray.size]
theorem Zt(s:aJ)(i:Nat):(⟨s.toArray⟩:ByteArray)[i]? =s[i]? :=by
 by_cases h:i<s.length
 ·rw[ByteArray.getElem?_lt' _ _ (by rw[sX];exact h),at2 h];rfl
 rw[ByteArray.getElem?_ge' _ _ (by rw[sX];exact h),aub (by omega)]
theorem Zu(a b:aJ):(⟨a.toArray⟩:ByteArray)++⟨b.toArray⟩=⟨(a++b).toArray⟩:=by
 have:((⟨a.toArray⟩:ByteArray)++⟨b.toArray⟩).data=(a++b).toArray:=by
  rw[ByteArray.data_append];simp
 cases e:(⟨a.toArray⟩:ByteArray)++⟨b.toArray⟩with
 |mk d=>rw[e]at this;rw[←this]
theorem Zv(s:ByteArray):s=⟨s.data.toList.toArray⟩:=by cases s;simp
theorem JO(c:UInt8): ∀s:aJ,(ba c s).length<=s.length+1
 |[]=>by simp[ba]
 |x::s=>by
  have ih:=JO c s;rw[ba];split
  ·simp;omega
  split
  ·simp
  rename_i p r h;rw[h]at ih;simp at ih⊢;omega
section
variable {P:Program} {N:cA} {w0:World} {env:Env} {L:List ai} {d:Option Tmp} {ty t u:TypeId} {ps:String} {af:Array Edge} {gd:Option (Nat×Bool)} {x y lo hi:Operand} {k k':IntKind} {a b s:aJ}
theorem qZ(ht:P.underlying t=some .string)(hx:ev env x=some (.string ⟨s.toArray⟩)):
  Ry P N w0 env L ⟨d, .call {callee:= .builtin .len,args:= #[x],argTypes:= #[t]},ty,ps,af,gd⟩ (.int .i64 (s.length:Nat)):=fun aa w ha _=>by
 have h:(Builtin.len_ #[t] ty #[.string ⟨s.toArray⟩]).run P w= .ok (goInt s.length) w:=by
  rw[run_len_string w t ty _ ht,sX]
 simp[execOp,ha.ev hx,resolve,invoke,builtin,h,Result.andThen,goInt]
theorem vM{j:Int}(i:Nat)(hu:P.underlying t=some .string)(hx:ev env x=some (.string ⟨s.toArray⟩))(hj:ev env y=some (.int k j))(ej:j=(i:Int))(h:i<s.length):
  Ry P N w0 env L ⟨d, .index t x y,ty,ps,af,gd⟩ (.int .u8 ((s.getD i 0).toNat:Nat)):=Jm hu hx hj (by omega) (by
 subst ej;rw[Zt,avb,at2 h];simp[List.getD,h])
theorem jq(hx:ev env x=some (.string ⟨a.toArray⟩))(hy:ev env y=some (.string ⟨b.toArray⟩))(h:a.length+b.length<4294967296):
  Ry P N w0 env L ⟨d, .binOp .add t x y u,ty,ps,af,gd⟩ (.string ⟨(a++b).toArray⟩):=fun aa w ha _=>by
 have h2:(eqGuard BinOp.add t x y (.string ⟨a.toArray⟩) (.string ⟨b.toArray⟩)).run P w= .ok () w:=rfl;have hl: ¬(((⟨a.toArray⟩:ByteArray).size+(⟨b.toArray⟩:ByteArray).size:Nat):Int)>IntKind.i64.max:=by
  rw[sX,sX,show IntKind.i64.max=9223372036854775807 from rfl];omega
 have h3:(Op.stringOp .add (⟨a.toArray⟩:ByteArray) ⟨b.toArray⟩).run P w= .ok (.string ⟨(a++b).toArray⟩) w:=by
  simp only[Op.stringOp,hl,if_false,Zu];rfl
 simp only[execOp,ha.ev hx,ha.ev hy,Sem.run_bind,h2,Result.andThen_ok,binOp_string_add,h3,Sem.run_pure]
theorem Ry.as{o:Oper}{v v':Value}(h:Ry P N w0 env L o v)(e:v=v'):Ry P N w0 env L o v':=e▸h
theorem Zw{p:Nat}{v1 v2:Int}(hx:ev env x=some (.int .u8 v1))(hy:ev env y=some (.int k' v2))(ea:v1=p)(hp:p<16)(eb:v2=4:=by rfl):
  Ry P N w0 env L ⟨d, .binOp .shl t x y u,ty,ps,af,gd⟩ (.int .u8 ((p*16:Nat):Int)):=by
 subst ea eb;refine Ry.as (Jo hx hy (by decide)) (congrArg (Value.int .u8) ?_);have e:((p:Int)*2^min (4:Int).toNat IntKind.u8.bits)=((p*16:Nat):Int):=by
  rw[show(2:Int)^min (4:Int).toNat IntKind.u8.bits=16 by decide];omega
 rw[e];exact qW (by simp only[nb];omega)
theorem FB{p q:Nat}{v1 v2:Int}(hx:ev env x=some (.int k v1))(hy:ev env y=some (.int k v2))(ea:v1=p)(eb:v2=q)(h:q<=p)(h2:p<2^nb k:=by first|(simp only[nb];omega)|exact(awG _)):
  Ry P N w0 env L ⟨d, .binOp .sub t x y u,ty,ps,af,gd⟩ (.int k ((p -q:Nat):Int)):=eR hx hy (by
 subst ea eb;rw[nj,show(p:Int) -(q:Int)=((p -q:Nat):Int) by omega,qW (by omega)])
theorem Py{n:Nat}(hs:(P.underlying t).isSome=true)(hd:P.underlying u=some .string)(hx:ev env x=some (.int k n))(h:n<128):
  Ry P N w0 env L ⟨d, .convert t u x,ty,ps,af,gd⟩ (.string ⟨[UInt8.ofNat n].toArray⟩):=fun aa w ha _=>by
 have hr:=run_convert_int_string (P:=P) w t u k n hs hd;have he:Utf8.encode (n:Int)=⟨[UInt8.ofNat n].toArray⟩:=by
  have hv:Utf8.valid (n:Int)=true:=by simp[Utf8.valid];omega
  unfold Utf8.encode;simp only[hv,if_true,avb,h]
 rw[he]at hr;simp only[execOp,ha.ev hx,Sem.run_bind,hr,Result.andThen,Sem.run_pure]
end
variable {s a b:aJ} {c:UInt8}
theorem Pz(h:c∉s):Lib.index s [c]= -1:=by
 induction s with
 |nil=>rfl
 |cons x s ih=>
  have hx:x≠c:=fun e=>h (by simp[e]);have hp:([c]:aJ).isPrefixOf (x::s)=false:=by
   simp only[List.isPrefixOf,Bool.and_true];simpa using fun e=>hx e.symm
  rw[Lib.index,hp,ih (fun hc=>h (aui _ hc))];rfl
theorem PA(h:c∉a):Lib.index (a++c::b) [c]=(a.length:Int):=by
 induction a with
 |nil=>
  rw[auS,Lib.index,if_pos (by simp[List.isPrefixOf])];rfl
 |cons x a ih=>
  have hx:x≠c:=fun e=>h (by simp[e]);have hp:([c]:aJ).isPrefixOf (x::(a++c::b))=false:=by
   simp only[List.isPrefixOf,Bool.and_true];simpa using fun e=>hx e.symm
  rw[avm,Lib.index,hp,ih (fun hc=>h (aui _ hc)),if_neg (by simp),if_neg (by simp only[beq_iff_eq];omega)];simp
def aN(c:UInt8)(s:aJ):aJ×aJ×Bool:=Lib.cut s [c]
theorem PB(h:c∉s):aN c s=(s,[],false):=by
 rw[aN,Lib.cut,Pz h,if_neg (by decide)]
theorem PC(h:c∉a):aN c (a++c::b)=(a,b,true):=by
 rw[aN,Lib.cut,PA h,if_pos (by omega)];simp
theorem PD(c:UInt8): ∀(n:Nat) (s:ByteArray),s.size<=n->(Lib.splitB ⟨#[c]⟩ 0 (Lib.countB s ⟨#[c]⟩) s).map (·.data.toList)=ba c s.data.toList:=by
 intro n
 induction n with
 |zero=>
  intro s hs;have hz:s.data.toList=[]:=by
   apply aun.1;have:=Lib.size_eq s;omega
  have hi:Lib.indexB s ⟨#[c]⟩= -1:=by
   show Lib.index s.data.toList [c]= -1;rw[hz];rfl
  rw[Lib.splitB_miss _ _ _ _ hi,hz];simp[hz,ba]
 |succ n ih=>
  intro s hs;rcases Av (c:=c) s.data.toList with⟨h1,h2⟩|⟨a,b,h1,h2,h3⟩
  ·have hi:Lib.indexB s ⟨#[c]⟩= -1:=Pz h1;rw[Lib.splitB_miss _ _ _ _ hi,h2];rfl
  have hi:Lib.indexB s ⟨#[c]⟩=(a.length:Int):=by
   show Lib.index s.data.toList [c]=_;rw[h1];exact PA h2
  have eQ:(⟨#[c]⟩:ByteArray).size=1:=rfl;have hlen:s.size=a.length+(b.length+1):=by rw[Lib.size_eq,h1];simp
  rw[Lib.countB_hit s _ a.length (by rw[eQ];decide) hi,awH 1,Lib.splitB,if_neg (by rw[hi];simp only[beq_iff_eq];omega),hi,h3];have e1:((a.length:Int)).toNat=a.length:=by omega
  rw[e1,aum];have ed: ∀x y:Nat,(s.extract x y).data.toList=(s.data.toList.drop x).take (y -x):=fun x y=>Lib.extract_data s x y;have e2:(s.extract 0 (a.length+0)).data.toList=a:=by rw[ed,h1];simp
  have e3:(s.extract (a.length+(⟨#[c]⟩:ByteArray).size) s.size).data.toList=b:=by
   rw[ed,h1,eQ,hlen];simp;exact aug (by omega)
  rw[e2,ih _ (by have:=Lib.size_eq (s.extract (a.length+(⟨#[c]⟩:ByteArray).size) s.size);rw[e3]at this;omega),e3]
theorem Zx(c:UInt8)(s:ByteArray):Lib.countB s ⟨#[c]⟩+1=(ba c s.data.toList).length:=by
 rw[←PD c s.size s (at5 _),aur,Lib.splitB_all _ (at5 _) 0 _ s rfl]
end Go.ax
namespace Go.Kb
abbrev Key:=BitVec 128
def bl(k:Key)(i:Nat):Nat:=k.toNat/2^(8*(15 -i))%2^8
theorem jJ(k:Key)(i:Nat):bl k i<256:=avV _ (by decide)
theorem Zy(k:Key)(i j:Nat)(hj:j<8):(bl k i).testBit j=k.toNat.testBit (8*(15 -i)+j):=by
 unfold bl;rw[Nat.testBit_mod_two_pow,Nat.testBit_div_two_pow];simp[hj,awH]
theorem Zz(k:Key)(n:Nat)(h:n<128):k.getMsbD n=k.toNat.testBit (127 -n):=by
 simp only[BitVec.getMsbD,BitVec.getLsbD,h,decide_true,au2]
theorem FC(k:Key)(n:Nat)(h:n<128):k.getMsbD n=(bl k (n/8)).testBit (7 -n%8):=by
 rw[Zz k n h,Zy k (n/8) (7 -n%8) (by omega)];congr 1;omega
theorem PE(k:Key)(n:Nat)(h:128<=n):k.getMsbD n=false:=by
 simp only[BitVec.getMsbD];simp;omega
theorem FD{a b:Key}(h: ∀n,n<128->a.getMsbD n=b.getMsbD n):a=b:=BitVec.eq_of_getMsbD_eq fun i hi=>h i hi
theorem ZA{x y:Nat}(hx:x<256)(hy:y<256)(h: ∀j,j<8->x.testBit j=y.testBit j):x=y:=by
 refine Nat.eq_of_testBit_eq fun j=>?_;rcases aud j 8 with hj|hj
 ·exact h j hj
 have hp:2^8<=2^j:=avr (by decide) hj;rw[Nat.testBit_lt_two_pow (avB hx hp),Nat.testBit_lt_two_pow (avB hy hp)]
theorem uw{a b:Key}(h: ∀i,i<16->bl a i=bl b i):a=b:=
 FD fun n hn=>by rw[FC a n hn,FC b n hn,h (n/8) (by omega)]
theorem ZB{k:Key}{i x:Nat}(hi:i<16)(hx:x<256)(h: ∀m,m<8->k.getMsbD (8*i+m)=x.testBit (7 -m)):bl k i=x:=
 ZA (jJ k i) hx fun j hj=>by
  have:=h (7 -j) (by omega);rw[FC k _ (by omega),show(8*i+(7 -j))/8=i by omega,show 7 -(8*i+(7 -j))%8=j by omega,show 7 -(7 -j)=j by omega]at this;exact this
def oz(f:Nat->Nat):Key:=BitVec.ofNat 128 ((List.range 16).foldl (fun a i=>a*2^8+f i%2^8) 0)
theorem FE(f:Nat->Nat): ∀n,(List.range n).foldl (fun a i=>a*2^8+f i%2^8) 0<2^(8*n)
 |0=>by simp
 |n+1=>by
  rw[avi,avQ];have:=FE f n;have h2:f n%2^8<2^8:=avV _ (by decide);simp only[avq,List.foldl_nil];rw[Nat.mul_add,av9,Nat.pow_add];omega
theorem PF(f:Nat->Nat): ∀n i,i<n->(List.range n).foldl (fun a i=>a*2^8+f i%2^8) 0/2^(8*(n -1 -i))%2^8=f i%2^8
 |0,i,h=>by omega
 |n+1,i,h=>by
  rw[avi,avQ];simp only[avq,List.foldl_nil];generalize hF:(List.range n).foldl (fun a i=>a*2^8+f i%2^8) 0=F
  by_cases hi:i=n
  ·subst hi;rw[show i+1 -1 -i=0 by omega];simp
  have ih:=PF f n i (by omega);rw[hF]at ih;rw[show 8*(n+1 -1 -i)=8+8*(n -1 -i) by omega,Nat.pow_add,←Nat.div_div_eq_div_mul];have:(F*2^8+f n%2^8)/2^8=F:=by
   have h2:f n%2^8<2^8:=avV _ (by decide);omega
  rw[this];exact ih
theorem ux(f:Nat->Nat)(i:Nat)(h:i<16):bl (oz f) i=f i%2^8:=by
 unfold bl oz;have e:((List.range 16).foldl (fun a i=>a*2^8+f i%2^8) 0)%2^128=(List.range 16).foldl (fun a i=>a*2^8+f i%2^8) 0:=auJ (FE f 16);rw[avH,e];exact PF f 16 i h
def CK(k:Key)(i x:Nat):Key:=oz fun j=>if j=i then x else bl k j
theorem PG(k:Key)(i x j:Nat)(hj:j<16)(hx:x<256):bl (CK k i x) j=if j=i then x else bl k j:=by
 unfold CK;rw[ux _ j hj];split
 ·omega
 have:=jJ k j;omega
def bR(k:Key):Array Value:=((List.range 16).map fun i=>Value.int .u8 (bl k i)).toArray
theorem eU(k:Key):(bR k).size=16:=by unfold bR;simp
theorem jr(k:Key)(i:Nat)(h:i<16):(bR k)[i]? =some (.int .u8 (bl k i)):=by unfold bR;simp[h]
theorem PH(k:Key)(i:Nat)(h:16<=i):(bR k)[i]? =none:=by unfold bR;simp;omega
theorem JP{A:Array Value}{k:Key}(hs:A.size=16)(h: ∀i,i<16->A[i]? =some (.int .u8 (bl k i))):A=bR k:=by
 apply au8;intro i;rcases aud i 16 with hi|hi
 ·rw[h i hi,jr k i hi]
 rw[PH k i hi];simp;omega
theorem ZC(k:Key)(i x:Nat)(hi:i<16)(hx:x<256):(bR k).setIfInBounds i (.int .u8 x)=bR (CK k i x):=by
 refine JP (by simp[eU]) fun j hj=>?_;rw[auN,PG k i x j hj hx]
 by_cases h:i=j
 ·subst h;simp[eU,hi]
 rw[if_neg h,if_neg (fun e=>h e.symm),jr k j hj]
theorem JQ{a b:Key}(h:bR a=bR b):a=b:=uw fun i hi=>by
 have h1:=jr a i hi;rw[h,jr b i hi]at h1;simp at h1;omega
def eF(k:Key)(n:Int):Key:=if n<1 then 0#128 else(k>>>(128 -n.toNat))<<<(128 -n.toNat)
theorem yV(k:Key)(n:Int)(i:Nat):(eF k n).getMsbD i=(decide ((i:Int)<n)&&k.getMsbD i):=by
 unfold eF;split
 ·
  have: ¬((i:Int)<n):=by omega
  simp[this]
 rcases aud i 128 with hi|hi
 ·
  rw[BitVec.getMsbD_shiftLeft,BitVec.getMsbD_ushiftRight]
  by_cases hn:(i:Int)<n
  ·
   have h1:i+(128 -n.toNat)<128:=by omega
   have h2:i+(128 -n.toNat) -(128 -n.toNat)=i:=by omega
   simp[hn,h1,h2]
  have h1: ¬i+(128 -n.toNat)<128:=by omega
  simp[hn,h1]
 rw[PE _ _ hi,PE _ _ hi];simp
theorem PI(k:Key)(n:Int)(h:128<=n):eF k n=k:=FD fun i hi=>by
 rw[yV];have:(i:Int)<n:=by omega
 simp[this]
theorem ZD(k:Key)(n:Int)(h:n<1):eF k n=0#128:=by unfold eF;rw[if_pos h]
theorem PJ(k:Key)(n m:Int):eF (eF k n) m=eF k (min n m):=FD fun i _=>by
 rw[yV,yV,yV,←Bool.and_assoc];congr 1;rw[←Bool.decide_and,decide_eq_decide];omega
theorem ZE(k:Key)(n:Int):eF k n=k↔ ∀i:Nat,i<128->n<=(i:Int)->k.getMsbD i=false:=by
 constructor
 ·
  intro h i hi hn;rw[←h,yV];have: ¬(i:Int)<n:=by omega
  simp[this]
 intro h;refine FD fun i hi=>?_;rw[yV]
 by_cases hn:(i:Int)<n
 ·simp[hn]
 rw[h i hi (by omega)];simp
theorem CL(k:Key)(n:Nat)(i:Nat)(hi:i<16):bl (eF k n) i=if 8*i+8<=n then bl k i else if 8*i<=n then bl k i/2^(8 -(n -8*i))*2^(8 -(n -8*i))else 0:=by
 have hb:=jJ k i;have bq:(if 8*i+8<=n then bl k i else if 8*i<=n then bl k i/2^(8 -(n -8*i))*2^(8 -(n -8*i))else 0)<256:=by
  split
  ·exact hb
  split
  ·exact avI (Nat.div_mul_le_self _ _) hb
  omega
 refine ZB hi bq fun m hm=>?_;rw[yV,FC k _ (by omega),show(8*i+m)/8=i by omega,show 7 -(8*i+m)%8=7 -m by omega];split
 ·
  have:((8*i+m:Nat):Int)<(n:Int):=by omega
  simp only[this,decide_true,au2]
 split
 ·
  generalize ht:8 -(n -8*i)=t;rw[Nat.testBit_mul_two_pow,Nat.testBit_div_two_pow]
  by_cases bq:((8*i+m:Nat):Int)<(n:Int)
  ·
   have h1:t<=7 -m:=by omega
   simp only[bq,h1,decide_true,au2];rw[show 7 -m -t+t=7 -m by omega]
  have h1: ¬t<=7 -m:=by omega
  simp only[bq,h1,decide_false,awt]
 have: ¬((8*i+m:Nat):Int)<(n:Int):=by omega
 simp only[this,decide_false,awt,Nat.zero_testBit]
def FF(k:Key)(n:Int):Int:=if 0<=n/\n<128 then(if k.getMsbD n.toNat then 1 else 0)else 0
def ZF(k:Key)(n:Int):Int:=if 0<=n/\n<32 then 8*FF k (4*n)+4*FF k (4*n+1)+2*FF k (4*n+2)+FF k (4*n+3)else 0
structure cK where
 bits:Int
 len:Int
 key:Key
 deriving DecidableEq
def bu(p:cK):Bool:=decide (p.bits=32\/p.bits=128)&&decide (0<=p.len)&&decide (p.len<=p.bits)&&decide (eF p.key p.len=p.key)
theorem uy(p:cK):bu p=true↔(p.bits=32\/p.bits=128)/\0<=p.len/\p.len<=p.bits/\eF p.key p.len=p.key:=by
 unfold bu;simp[and_assoc]
def ZG(p:cK)(k:Key):Bool:=bu p&&decide (eF k p.bits=k)&&decide (eF k p.len=p.key)
def ZH(p q:cK):Bool:=bu p&&bu q&&decide (p.bits=q.bits)&&decide (p.len<=q.len)&&decide (eF q.key p.len=p.key)
def eG(p q:cK):Bool:=bu p&&bu q&&(if p.bits≠q.bits then decide (p.bits=32)else if p.key≠q.key then decide (p.key.toNat<q.key.toNat)else decide (p.len<q.len))
def cW(p:cK):Array Value:= #[.int .i64 p.bits, .int .i64 p.len]++bR p.key
theorem oA(p:cK):(cW p).size=18:=by unfold cW;rw[auP,eU];rfl
theorem yW(p:cK):(cW p)[0]? =some (.int .i64 p.bits):=by unfold cW;rw[Array.getElem?_append];rfl
theorem yX(p:cK):(cW p)[1]? =some (.int .i64 p.len):=by unfold cW;rw[Array.getElem?_append];rfl
theorem q8(p:cK)(j:Nat):(cW p)[2+j]? =(bR p.key)[j]? :=by
 unfold cW;rw[Array.getElem?_append,if_neg (by simp)];congr 1;simp
theorem PK{a b:cK}(h:cW a=cW b):a=b:=by
 have h0:=yW a;rw[h,yW]at h0;have h1:=yX a;rw[h,yX]at h1;have h2:a.key=b.key:=JQ (au8 fun i=>by rw[←q8,←q8,h])
 cases a;cases b
 simp at h0 h1 h2⊢;exact⟨h0.symm,h1.symm,h2⟩
theorem PL(k:Key):oz (bl k)=k:=uw fun i hi=>by
 rw[ux _ i hi];have:=jJ k i;omega
theorem PM{a b:Key}{i:Nat}(hi:i<16)(hs: ∀j,j<i->bl a j=bl b j)(hd:bl a i<bl b i):a.toNat<b.toNat:=by
 have key: ∀n,n<=16->i<n->(List.range n).foldl (fun x j=>x*2^8+bl a j%2^8) 0<(List.range n).foldl (fun x j=>x*2^8+bl b j%2^8) 0:=by
  intro n
  induction n with
  |zero=>intro _ h;omega
  |succ n ih=>
   intro hn iO;rw[avi,avQ,avQ];simp only[avq,List.foldl_nil];have ha:=jJ a n;have hb:=jJ b n
   by_cases h:i=n
   ·
    subst h;have e:(List.range i).foldl (fun x j=>x*2^8+bl a j%2^8) 0=(List.range i).foldl (fun x j=>x*2^8+bl b j%2^8) 0:=by
     have aux: ∀(l:List Nat) (z:Nat),(∀j∈l,bl a j=bl b j)->l.foldl (fun x j=>x*2^8+bl a j%2^8) z=l.foldl (fun x j=>x*2^8+bl b j%2^8) z:=by
      intro l
      induction l with
      |nil=>intro z _;rfl
      |cons x l ih=>intro z hl;simp only[avq];rw[hl x (by simp)];exact ih _ fun j hj=>hl j (by simp[hj])
     exact aux _ _ fun j hj=>hs j (auB.1 hj)
    rw[e];omega
   have:=ih (by omega) (by omega);omega
 have Aw:=key 16 (at5 _) hi;have ea:a.toNat=(List.range 16).foldl (fun x j=>x*2^8+bl a j%2^8) 0:=by
  conv=>lhs;rw[←PL a]
  unfold oz;rw[avH];exact auJ (FE (bl a) 16)
 have eb:b.toNat=(List.range 16).foldl (fun x j=>x*2^8+bl b j%2^8) 0:=by
  conv=>lhs;rw[←PL b]
  unfold oz;rw[avH];exact auJ (FE (bl b) 16)
 rw[ea,eb];exact Aw
def rX(a b:Key):Int:=if a.toNat<b.toNat then -1 else if b.toNat<a.toNat then 1 else 0
theorem PN(a b:Key):rX a b=0↔a=b:=by
 unfold rX;constructor
 ·
  intro h;split at h
  ·omega
  split at h
  ·omega
  exact BitVec.eq_of_toNat_eq (by omega)
 rintro rfl;simp
theorem ZI(a b:Key):rX a b<0↔a.toNat<b.toNat:=by
 unfold rX;split
 ·simp[*]
 split<;>simp[*]
theorem FG(p:cK):bu p=true↔(p.bits=32\/p.bits=128)/\0<=p.len/\p.len<=p.bits/\ ∀i:Nat,i<128->p.len<=(i:Int)->p.key.getMsbD i=false:=by
 rw[uy,ZE]
theorem nQ{p q:cK}(hp:bu p=true)(hq:bu q=true):eG p q=true↔p.bits<q.bits\/(p.bits=q.bits/\(p.key.toNat<q.key.toNat\/(p.key.toNat=q.key.toNat/\p.len<q.len))):=by
 obtain⟨p1,_⟩:=(uy p).1 hp;obtain⟨q1,_⟩:=(uy q).1 hq;have ek:p.key=q.key↔p.key.toNat=q.key.toNat:=⟨fun h=>by rw[h],BitVec.eq_of_toNat_eq⟩;unfold eG;rw[hp,hq,au2,au2]
 by_cases hb:p.bits=q.bits
 ·
  rw[if_neg (by simpa using hb)]
  by_cases hk:p.key=q.key
  ·rw[if_neg (by simpa using hk)];rw[ek]at hk;simp;omega
  rw[if_pos hk];rw[ek]at hk;simp;omega
 rw[if_pos hb];simp;omega
theorem ZJ{p q:cK}:p=q↔p.bits=q.bits/\p.key.toNat=q.key.toNat/\p.len=q.len:=by
 constructor
 ·rintro rfl;exact⟨rfl,rfl,rfl⟩
 rintro⟨h1,h2,h3⟩;have:=BitVec.eq_of_toNat_eq h2
 cases p;cases q;simp_all
structure Rt where
 p:cK
 dN:UInt16
 deriving DecidableEq
def bQ:Rt:=⟨⟨0,0,0#128⟩,0⟩
def ay(r:Rt):Array Value:=cW r.p++ #[.int .u16 r.dN.toNat]
theorem gW(r:Rt):(ay r).size=19:=by unfold ay;rw[auP,oA];rfl
theorem nR(r:Rt)(j:Nat)(h:j<18):(ay r)[j]? =(cW r.p)[j]? :=by
 unfold ay;rw[auW (by rw[oA];exact h)]
theorem uz(r:Rt):(ay r)[18]? =some (.int .u16 r.dN.toNat):=by
 unfold ay;rw[awd (by rw[oA];omega),oA];rfl
def sY(xs:List Rt)(i:Nat):Bool:=match xs[i]?with
 |none=>true
 |some r=>bu r.p&&match i with
  |0=>true
  |j+1=>match xs[j]?with
   |none=>true
   |some q=>eG q.p r.p
def sZ(xs:List Rt)(n:Nat):Bool:=(List.range n).all (sY xs)
def cS(xs:List Rt):Bool:=decide (xs.length<=256)&&sZ xs xs.length
theorem PO(xs:List Rt):sZ xs 0=true:=rfl
theorem JR(xs:List Rt)(n:Nat):sZ xs (n+1)=(sZ xs n&&sY xs n):=by
 simp[sZ,avi]
theorem PQ{xs:List Rt}(h:256<xs.length):cS xs=false:=by
 simp[cS];omega
theorem FH{xs:List Rt}{i:Nat}(hi:i<xs.length)(h:sY xs i=false):cS xs=false:=by
 have:sZ xs xs.length=false:=by
  rw[sZ,List.all_eq_false];exact⟨i,auB.2 hi,by simp[h]⟩
 simp[cS,this]
theorem PR{xs:List Rt}(h:xs.length<=256)(ho:sZ xs xs.length=true):cS xs=true:=by simp[cS,h,ho]
theorem PS{xs:List Rt}{i:Nat}{r:Rt}(hi:xs[i]? =some r)(h:bu r.p=false):sY xs i=false:=by simp[sY,hi,h]
theorem JS{xs:List Rt}{r:Rt}(hi:xs[0]? =some r):sY xs 0=bu r.p:=by simp[sY,hi]
theorem FI{xs:List Rt}{i:Nat}{q r:Rt}(hi:xs[i+1]? =some r)(hq:xs[i]? =some q):sY xs (i+1)=(bu r.p&&eG q.p r.p):=by simp[sY,hi,hq]
theorem ZK{xs:List Rt}{i:Nat}{q r:Rt}(h0:0<i)(hi:xs[i]? =some r)(hq:xs[i -1]? =some q):sY xs i=(bu r.p&&eG q.p r.p):=by
 obtain⟨j,rfl⟩: ∃j,i=j+1:=⟨i -1,by omega⟩;exact FI hi (by simpa using hq)
theorem PT{xs:List Rt}{i:Nat}{q r:Rt}(hi:xs[i]? =some r)(hq:xs[i -1]? =some q):sY xs i=(bu r.p&& !(decide (0<(i:Int))&& !eG q.p r.p)):=by
 rcases av5 i with h|h
 ·subst h;rw[JS hi];simp
 rw[ZK h hi hq];simp[h]
theorem get_some{α:Type}{xs:List α}{i:Nat}(h:i<xs.length): ∃r,xs[i]? =some r:=⟨xs[i],by simp[h]⟩
theorem PU{a b:Rt}(h:ay a=ay b):a=b:=by
 have hp:cW a.p=cW b.p:=au8 fun j=>by
  rcases aud j 18 with hj|hj
  ·rw[←nR a j hj,←nR b j hj,h]
  rw[auu (by rw[oA];exact hj),auu (by rw[oA];exact hj)]
 have hh:=uz a;rw[h,uz b]at hh;have e1:b.dN=a.dN:=by
  apply UInt16.toNat_inj.1;simp only[avz,Value.int.injEq,true_and]at hh;omega
 obtain⟨p,q⟩:=a;obtain⟨p',q'⟩:=b;simp only at e1 hp;rw[PK hp,e1]
open Go.ax
variable {s:aJ} {c:UInt8} {k:Key}
def jZ(n:Nat):UInt8:=if n<10 then UInt8.ofNat (48+n)else UInt8.ofNat (87+n)
def lh(c:UInt8):Option Nat:=if 48<=c.toNat/\c.toNat<=57 then some (c.toNat -48)else if 97<=c.toNat/\c.toNat<=102 then some (c.toNat -87)else none
theorem ZL{n:Nat}(h:n<16):(jZ n).toNat=if n<10 then 48+n else 87+n:=by
 unfold jZ;split
 ·rw[UInt8.toNat_ofNat'];omega
 rw[UInt8.toNat_ofNat'];omega
theorem FJ{n:Nat}(h:n<16):lh c=some n↔c=jZ n:=by
 have ht:=ZL h;constructor
 ·
  intro h1;apply awm.1;rw[ht];unfold lh at h1;split at h1
  ·have:=at1 h1;split<;>omega
  split at h1
  ·have:=at1 h1;split<;>omega
  cases h1
 rintro rfl;unfold lh;rw[ht];split
 ·rw[if_pos (by omega)];congr 1;omega
 rw[if_neg (by omega),if_pos (by omega)];congr 1;omega
theorem JT{n:Nat}(h:lh c=some n):n<16:=by
 unfold lh at h;split at h
 ·have:=at1 h;omega
 split at h
 ·have:=at1 h;omega
 cases h
theorem ZM{n:Nat}(h:n<16){c:UInt8}(hc:lh c=none):jZ n≠c:=fun e=>by
 have:=(FJ h).2 e.symm;rw[hc]at this;cases this
def s0(k:Key):aJ:=dec (bl k 0)++46::(dec (bl k 1)++46::(dec (bl k 2)++46::dec (bl k 3)))
def iq(k:Key)(i:Nat):Nat:=if i%2=0 then bl k (i/2)/16 else bl k (i/2)%16
theorem CM(k:Key)(i:Nat):iq k i<16:=by
 have:=jJ k (i/2);unfold iq;split<;>omega
def oB(k:Key):aJ:=(List.range 32).map fun i=>jZ (iq k i)
def q9(k:Key)(bits:Int):aJ:=if bits=32 then s0 k else oB k
def four(a b c d:Nat):Key:=oz fun i=>if i=0 then a else if i=1 then b else if i=2 then c else if i=3 then d else 0
def lj(s:aJ):Option Key:=match ba 46 s with
 |[a,b,c,d]=>match bF a 255,bF b 255,bF c 255,bF d 255 with
  |some a,some b,some c,some d=>some (four a b c d)
  |_,_,_,_=>none
 |_=>none
def FK(s:aJ):Bool:=s.all fun c=>(lh c).isSome
def lX(s:aJ)(i:Nat):Nat:=(lh (s.getD i 0)).getD 0
def Ax(s:aJ):Key:=oz fun i=>16*lX s (2*i)+lX s (2*i+1)
def nS(s:aJ):Option Key:=if s.length=32/\FK s=true then some (Ax s)else none
def nT(s:aJ):Option (Key×Int):=match lj s with
 |some k=>some (k,32)
 |none=>(nS s).map fun k=>(k,128)
theorem yY{a b c d:Nat}(ha:a<=255)(hb:b<=255)(hc:c<=255)(hd:d<=255){i:Nat}(hi:i<16):bl (four a b c d) i=if i=0 then a else if i=1 then b else if i=2 then c else if i=3 then d else 0:=by
 rw[four,ux _ _ hi];split
 ·omega
 split
 ·omega
 split
 ·omega
 split<;>omega
theorem PW:eF k 32=k↔ ∀i,4<=i->i<16->bl k i=0:=by
 constructor
 ·
  intro h i h1 h2;have:=CL k 32 i h2;rw[show eF k ((32:Nat):Int)=k from h]at this;rw[this,if_neg (by omega)];split
  ·
   have hb:=jJ k i;obtain rfl:i=4:=by omega
   rw[show(8 -(32 -8*4))=8 by decide];omega
  rfl
 intro h;refine uw fun i hi=>?_;rw[show eF k 32=eF k ((32:Nat):Int)from rfl,CL k 32 i hi];split
 ·rfl
 have:=h i (by omega) hi;rw[this];split<;>simp
theorem PX:lj s=some k↔eF k 32=k/\s=s0 k:=by
 constructor
 ·
  intro h;unfold lj at h;split at h
  ·
   rename_i a b c d hs;obtain⟨u1,e1,_,h1⟩:=CJ hs;obtain⟨u2,e2,_,h2⟩:=CJ h1;obtain⟨u3,e3,_,h3⟩:=CJ h2;obtain⟨e4,_⟩:=JN h3;split at h
   ·
    rename_i na nb nc nd ha hb hc hd;obtain⟨ea,la⟩:=jX.1 ha;obtain⟨eb,lb⟩:=jX.1 hb;obtain⟨ec,lc⟩:=jX.1 hc;obtain⟨ed,ld⟩:=jX.1 hd;obtain rfl:=at1 h;refine⟨PW.2 fun i h1 h2=>?_,?_⟩
    ·rw[yY la lb lc ld h2,if_neg (by omega),if_neg (by omega),if_neg (by omega),if_neg (by omega)]
    rw[s0,yY la lb lc ld (by decide),yY la lb lc ld (by decide),yY la lb lc ld (by decide),yY la lb lc ld (by decide)];simp only[if_true,Nat.one_ne_zero,if_false,(by decide:(2:Nat)≠0),(by decide:(2:Nat)≠1),(by decide:(3:Nat)≠0),(by decide:(3:Nat)≠1),(by decide:(3:Nat)≠2)];rw[e1,e2,e3,e4,ea,eb,ec,ed]
   cases h
  cases h
 rintro⟨h,rfl⟩;have hn: ∀n,(46:UInt8)∉dec n:=fun n=>vL (by decide);have hs:ba 46 (s0 k)=[dec (bl k 0),dec (bl k 1),dec (bl k 2),dec (bl k 3)]:=by
  rw[s0,sW (hn _),sW (hn _),sW (hn _),Au (hn _)]
 have hl: ∀i,bl k i<=255:=fun i=>by have:=jJ k i;omega
 have e:lj (s0 k)=some (four (bl k 0) (bl k 1) (bl k 2) (bl k 3)):=by
  unfold lj;rw[hs];simp only[uv (hl _)]
 rw[e];refine congrArg some (uw fun i hi=>?_);rw[yY (hl _) (hl _) (hl _) (hl _) hi];rcases aud i 4 with h4|h4
 ·
  have:i=0\/i=1\/i=2\/i=3:=by omega
  rcases this with rfl|rfl|rfl|rfl<;>simp
 rw[if_neg (by omega),if_neg (by omega),if_neg (by omega),if_neg (by omega),PW.1 h i h4 hi]
theorem JU(k:Key){i:Nat}(h:i<32):(oB k)[i]? =some (jZ (iq k i)):=by simp[oB,h]
theorem CN(k:Key):(oB k).length=32:=by simp[oB]
theorem PY(k:Key){i:Nat}(h:i<32):lX (oB k) i=iq k i:=by
 unfold lX;rw[List.getD,JU k h,avM,(FJ (CM k i)).2 rfl];rfl
theorem ZN(k:Key):FK (oB k)=true:=by
 unfold FK oB;rw[List.all_map,aue];intro i _;simp only[Function.comp];rw[(FJ (CM k i)).2 rfl];rfl
theorem PZ:nS s=some k↔s=oB k:=by
 constructor
 ·
  intro h;unfold nS at h;split at h
  ·
   rename_i h1;obtain⟨hl,ha⟩:=h1;obtain rfl:=at1 h;have hh: ∀i,i<32-> ∃n,n<16/\s[i]? =some (jZ n)/\lX s i=n:=fun i hi=>by
    have fo:i<s.length:=by omega
    have hm:s[i]? =some (s.getD i 0):=by simp[List.getD,fo]
    have:=aue.1 ha _ (atl hm);obtain⟨n,hn⟩:=auE.1 this;have bq:=JT hn;exact⟨n,bq,by rw[hm,(FJ bq).1 hn],by rw[lX,hn];rfl⟩
   have hb: ∀j,j<16->bl (Ax s) j=16*lX s (2*j)+lX s (2*j+1):=fun j hj=>by
    obtain⟨n,h1,_,h2⟩:=hh (2*j) (by omega);obtain⟨m,h3,_,h4⟩:=hh (2*j+1) (by omega);rw[Ax,ux _ _ hj];omega
   refine au6 fun i=>?_;rcases aud i 32 with hi|hi
   ·
    obtain⟨n,h1,h2,h3⟩:=hh i hi;rw[h2,JU _ hi];have hn:iq (Ax s) i=n:=by
     unfold iq;rw[hb (i/2) (by omega)];have xh:=fun j (hj:j<32)=>hh j hj;split
     ·rename_i he;obtain⟨m,h5,_,h6⟩:=hh (2*(i/2)+1) (by omega);rw[show 2*(i/2)=i by omega,h3,show i+1=2*(i/2)+1 by omega,h6];omega
     rename_i he;obtain⟨m,h5,_,h6⟩:=hh (2*(i/2)) (by omega);rw[show 2*(i/2)+1=i by omega,h3,h6];omega
    rw[hn]
   rw[aub (by omega),aub (by rw[CN];omega)]
  cases h
 rintro rfl;unfold nS;rw[if_pos ⟨CN k,ZN k⟩];congr 1;refine uw fun j hj=>?_;rw[Ax,ux _ _ hj,PY k (by omega),PY k (by omega)];have hb:=jJ k j;have e1:iq k (2*j)=bl k j/16:=by unfold iq;rw[if_pos (by omega),show 2*j/2=j by omega]
 have e2:iq k (2*j+1)=bl k j%16:=by unfold iq;rw[if_neg (by omega),show(2*j+1)/2=j by omega]
 rw[e1,e2];omega
theorem P0(k:Key){c:UInt8}(hc:lh c=none):c∉oB k:=fun h=>by
 obtain⟨i,_,hi⟩:=ava.1 h;exact ZM (CM k i) hc hi
theorem ZO(k:Key):lj (oB k)=none:=by
 unfold lj;rw[Au (P0 k (by decide))]
theorem CO{b:Int}:nT s=some (k,b)↔bu ⟨b,b,k⟩=true/\s=q9 k b:=by
 rw[uy];simp only;constructor
 ·
  intro h;unfold nT at h;split at h
  ·rename_i k' hk;obtain⟨rfl,rfl⟩:=Prod.mk.inj (at1 h);obtain⟨h1,h2⟩:=PX.1 hk;exact⟨⟨.inl rfl,by decide,auY _,h1⟩,by rw[q9,if_pos rfl];exact h2⟩
  obtain⟨k',hk,he⟩:=avC.1 h;obtain⟨rfl,rfl⟩:=Prod.mk.inj he;exact⟨⟨.inr rfl,by decide,auY _,PI _ _ (auY _)⟩,by rw[q9,if_neg (by decide)];exact PZ.1 hk⟩
 rintro⟨⟨h1,_,_,h2⟩,rfl⟩;rcases h1 with rfl|rfl
 ·rw[q9,if_pos rfl,nT,PX.2 ⟨h2,rfl⟩]
 rw[q9,if_neg (by decide),nT,ZO,PZ.2 rfl];rfl
def s8(p:cK):aJ:=q9 p.key p.bits++47::dec p.len.toNat
def lY(s:aJ):Option cK:=match ba 47 s with
 |[a,b]=>match nT a,bF b 128 with
  |some (k,bits),some n=>if bu ⟨bits,(n:Int),k⟩=true then some ⟨bits,(n:Int),k⟩else none
  |_,_=>none
 |_=>none
theorem JV{k:Key}{b:Int}{c:UInt8}(h1:lh c=none)(h2:c≠46)(h3:lW c=false):c∉q9 k b:=by
 unfold q9;split
 ·unfold s0;have hn: ∀n,c∉dec n:=fun n=>vL h3;simp[hn,h2]
 exact P0 k h1
theorem ZP{p:cK}(h:bu p=true):bu ⟨p.bits,p.bits,p.key⟩=true:=by
 obtain⟨h1,h2,h3,h4⟩:=(uy p).1 h;refine(uy _).2 ⟨h1,by simp only;omega,auY _,?_⟩;show eF p.key p.bits=p.key
 conv=>lhs;rw[←h4]
 rw[PJ,show min p.len p.bits=p.len by omega,h4]
theorem FL{p:cK}:lY s=some p↔bu p=true/\s=s8 p:=by
 constructor
 ·
  intro h;unfold lY at h;split at h
  ·
   rename_i a b hs;obtain⟨u,e1,_,h1⟩:=CJ hs;obtain⟨e2,_⟩:=JN h1;split at h
   ·
    rename_i k bits n hk hn;split at h
    ·rename_i hm;obtain rfl:=at1 h;refine⟨hm,?_⟩;obtain⟨_,ek⟩:=CO.1 hk;obtain⟨en,_⟩:=jX.1 hn;rw[s8,e1,e2,ek,en];rfl
    cases h
   cases h
  cases h
 rintro⟨hm,rfl⟩;obtain⟨h1,h2,h3,h4⟩:=(uy p).1 hm;unfold lY;rw[s8,sW (JV (by decide) (by decide) (by decide)),Au (vL (by decide))];simp only[CO.2 ⟨ZP hm,rfl⟩];rw[uv (by rcases h1 with h|h<;>omega)]
 have e:(⟨p.bits,((p.len.toNat:Nat):Int),p.key⟩:cK)=p:=by
  obtain⟨b,l,k⟩:=p;simp only at h2⊢;rw[auU h2]
 simp only[e,hm,if_true]
def yZ(r:Rt):aJ:=s8 r.p++32::dec r.dN.toNat
def qn(s:aJ):Option Rt:=match ba 32 s with
 |[a,b]=>match lY a,bF b 65535 with
  |some p,some n=>some ⟨p,UInt16.ofNat n⟩
  |_,_=>none
 |_=>none
theorem ZQ{p:cK}:(32:UInt8)∉s8 p:=by
 unfold s8;rw[at7,auc];rintro(h|h|h)
 ·exact JV (by decide) (by decide) (by decide) h
 ·cases h
 exact vL (by decide) h
theorem P1{r:Rt}:qn s=some r↔bu r.p=true/\s=yZ r:=by
 constructor
 ·
  intro h;unfold qn at h;split at h
  ·
   rename_i a b hs;obtain⟨u,e1,_,h1⟩:=CJ hs;obtain⟨e2,_⟩:=JN h1;split at h
   ·
    rename_i p n hp hn;obtain rfl:=at1 h;obtain⟨hm,ep⟩:=FL.1 hp;obtain⟨en,ln⟩:=jX.1 hn;refine⟨hm,?_⟩;rw[yZ,e1,e2,ep,en];have:(UInt16.ofNat n).toNat=n:=by rw[UInt16.toNat_ofNat'];omega
    simp only[this]
   cases h
  cases h
 rintro⟨hm,rfl⟩;unfold qn;rw[yZ,sW ZQ,Au (vL (by decide))];simp only[FL.2 ⟨hm,rfl⟩];rw[uv (by have:=r.dN.toNat_lt;omega)];simp only[UInt16.ofNat_toNat]
variable {s:aJ} {i n top:Nat} {c:UInt8}
def s9(c:UInt8):Int:=match lh c with
 |some n=>(n:Int)
 |none=> -1
def CP(s:aJ)(top:Nat):Int:=match bF s top with
 |some n=>(n:Int)
 |none=> -1
theorem P2(h:i<s.length):s.take (i+1)=s.take i++[s.getD i 0]:=by
 rw[List.take_succ_eq_append_getElem h];simp[List.getD,h]
theorem FM(h:i<s.length):val (s.take (i+1))=10*val (s.take i)+((s.getD i 0).toNat -48):=by rw[P2 h,Fz]
theorem P3(h:i<s.length)(h1:(s.take i).all lW=true)(h2:48<=(s.getD i 0).toNat/\(s.getD i 0).toNat<=57):(s.take (i+1)).all lW=true:=by
 rw[P2 h,List.all_append,h1];simp only[avW,av7,lW];simpa using h2
theorem ZR: ∀k (s:aJ),s.length=k->s.all lW=true->val s<10^k:=by
 intro k
 induction k with
 |zero=>intro s hl _;rw[aun.1 hl];simp[val]
 |succ k ih=>
  intro s hl hd;obtain⟨t,c,rfl⟩: ∃t c,s=t++[c]:=by
   rcases List.eq_nil_or_concat s with h|⟨t,c,h⟩
   ·subst h;simp at hl
   exact⟨t,c,by simpa using h⟩
  rw[List.all_append,af0]at hd;have hc:48<=c.toNat/\c.toNat<=57:=by
   have:=hd.2;simpa[lW]using this
  have:=ih t (by simpa using hl) hd.1;rw[Fz,Nat.pow_succ];omega
theorem ZS(h:i<=5)(hi:i<=s.length)(h1:(s.take i).all lW=true):val (s.take i)<100000:=by
 have:=ZR i (s.take i) (by simp;omega) h1;exact avB this (avr (by decide) h)
theorem ZT(a b:aJ):val a<=val (a++b):=by
 have key: ∀(b:aJ) (m:Nat),m<=b.foldl (fun a c=>10*a+(c.toNat -48)) m:=by
  intro b
  induction b with
  |nil=>intro m;exact at5 _
  |cons x b ih=>intro m;exact awu (show m<=10*m+(x.toNat -48) by omega) (ih _)
 unfold val;rw[avQ];exact key b _
theorem JW(h:0<s.length):s.head?=some (s.getD 0 0):=by
 cases s with
 |nil=>simp at h
 |cons x s=>rfl
theorem ZU(ht:top<=65535)(h:s.length=0\/5<s.length\/(1<s.length/\(s.getD 0 0).toNat=48)):bF s top=none:=by
 cases e:bF s top with
 |none=>rfl
 |some n=>
  obtain⟨rfl,hn⟩:=jX.1 e;have hl:=jY 5 n (by omega) (by decide);have hp:=JL n;have h0:=avx.2 hp.1;rcases h with h|h|⟨h,h2⟩
  ·omega
  ·omega
  rcases hp.2 with h3|h3
  ·omega
  rw[JW h0]at h3;exact absurd (congrArg some (awm.1 h2:(dec n).getD 0 0=48)) h3
theorem ZV(h:s=[]\/(1<s.length/\(s.getD 0 0).toNat=48)):bF s top=none:=by
 cases e:bF s top with
 |none=>rfl
 |some n=>
  obtain⟨rfl,hn⟩:=jX.1 e;have hp:=JL n;have h0:=avx.2 hp.1;rcases h with h|⟨h,h2⟩
  ·exact absurd h hp.1
  rcases hp.2 with h3|h3
  ·omega
  rw[JW h0]at h3;exact absurd (congrArg some (awm.1 h2:(dec n).getD 0 0=48)) h3
theorem P4(h:i<s.length)(h2:(s.getD i 0).toNat<48\/57<(s.getD i 0).toNat):bF s top=none:=by
 cases e:bF s top with
 |none=>rfl
 |some n=>
  obtain⟨rfl,hn⟩:=jX.1 e;have:=aue.1 (JJ n) ((dec n).getD i 0) (by simp[List.getD,h]);simp only[lW,decide_eq_true_eq]at this;omega
theorem P5(h:top<val (s.take i)):bF s top=none:=by
 cases e:bF s top with
 |none=>rfl
 |some n=>
  obtain⟨rfl,hn⟩:=jX.1 e;have:=ZT ((dec n).take i) ((dec n).drop i);rw[auO,JK]at this;omega
theorem P6(h:s≠[])(h1: ¬(1<s.length/\(s.getD 0 0).toNat=48))(h2:s.all lW=true)(h3:val s<=top):bF s top=some (val s):=by
 unfold bF;rw[if_pos];refine⟨h,?_,h2,h3⟩;have h0:=avx.2 h;rcases aud 1 s.length with h4|h4
 ·right;rw[JW h0];intro e;exact h1 ⟨h4,by rw[at1 e];rfl⟩
 exact .inl h4
end Go.Kb

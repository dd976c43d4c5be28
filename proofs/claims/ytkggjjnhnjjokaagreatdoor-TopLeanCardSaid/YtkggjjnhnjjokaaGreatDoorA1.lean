/- Part of a proof. -/
import Derived.WalkKit
import Derived.Deep.Quiet
import Derived.Laws.CopyRow
import Derived.RangeFuncRecord
import Derived.RangeFuncCalls
import Derived.OrdersIn
import Derived.IntWalk
import Derived.StillTail
import Derived.Deep.MidRow
import Derived.Deep.AppendSrc
import Derived.Laws.MakeOwn
import Derived.Laws.Append
import Derived.Laws.Slices
import Derived.Laws.AppendOwn
import Derived.Laws.IdiomStrings
import Derived.Laws.Strings
import Derived.Laws.Cover3
import Derived.Lib.ItoaNum
import Derived.Laws.DeepStrings4
import Derived.Laws.Runes
import Derived.Lib.Strings
import Derived.Lib.SplitLaws
import Derived.Lib.CutLaws
import GoSem.Core.Value
set_option maxRecDepth 20000
set_option linter.unusedSimpArgs false
set_option linter.unusedVariables false
theorem ad2:type_of% @List.getElem?_eq_some_iff:=List.getElem?_eq_some_iff
theorem af0:type_of% @List.length_append:=List.length_append
theorem alM:type_of% @List.mem_of_getElem?:=List.mem_of_getElem?
theorem anc:type_of% @Bool.and_eq_true:=Bool.and_eq_true
theorem asY:type_of% @Option.some.inj:=Option.some.inj
theorem asZ:type_of% @List.length_cons:=List.length_cons
theorem as0:type_of% @List.length_nil:=List.length_nil
theorem as1:type_of% @List.getElem?_eq_getElem:=List.getElem?_eq_getElem
theorem as2:type_of% @List.mem_cons:=List.mem_cons
theorem as3:type_of% @Nat.lt_or_ge:=Nat.lt_or_ge
theorem as4:type_of% @Nat.le_refl:=Nat.le_refl
theorem as5:type_of% @List.mem_cons_self:=List.mem_cons_self
theorem as6:type_of% @List.length_take:=List.length_take
theorem as7:type_of% @List.getElem?_eq_none:=List.getElem?_eq_none
theorem as8:type_of% @List.mem_append:=List.mem_append
theorem as9:type_of% @List.length_drop:=List.length_drop
theorem ata:type_of% @List.getElem?_append_right:=List.getElem?_append_right
theorem atb:type_of% @List.getElem?_append_left:=List.getElem?_append_left
theorem atc:type_of% @Classical.byContradiction:=Classical.byContradiction
theorem atd:type_of% @List.mem_cons_of_mem:=List.mem_cons_of_mem
theorem ate:type_of% @List.append_assoc:=List.append_assoc
theorem atf:type_of% @List.take_add_one:=List.take_add_one
theorem atg:type_of% @List.getElem?_map:=List.getElem?_map
theorem ath:type_of% @List.take_of_length_le:=List.take_of_length_le
theorem ati:type_of% @List.length_eq_zero_iff:=List.length_eq_zero_iff
theorem atj:type_of% @List.getElem?_set_self:=List.getElem?_set_self
theorem atk:type_of% @List.all_eq_true:=List.all_eq_true
theorem atl:type_of% @List.mem_filter:=List.mem_filter
theorem atm:type_of% @Nat.mul_le_mul_right:=Nat.mul_le_mul_right
theorem atn:type_of% @List.pairwise_cons:=List.pairwise_cons
theorem ato:type_of% @List.getElem?_of_mem:=List.getElem?_of_mem
theorem atp:type_of% @List.mem_map_of_mem:=List.mem_map_of_mem
theorem atq:type_of% @List.map_cons:=List.map_cons
theorem atr:type_of% @List.take_length:=List.take_length
theorem att:type_of% @List.getElem?_set_ne:=List.getElem?_set_ne
theorem atu:type_of% @List.nil_sublist:=List.nil_sublist
theorem atv:type_of% @Nat.zero_le:=Nat.zero_le
theorem atw:type_of% @List.filter_cons:=List.filter_cons
theorem atx:type_of% @List.mem_or_eq_of_mem_set:=List.mem_or_eq_of_mem_set
theorem aty:type_of% @List.mem_range:=List.mem_range
theorem atz:type_of% @List.take_append_drop:=List.take_append_drop
theorem atA:type_of% @List.mem_append_left:=List.mem_append_left
theorem atB:type_of% @Nat.add_mul:=Nat.add_mul
theorem atC:type_of% @List.length_set:=List.length_set
theorem atD:type_of% @Bool.false_eq_true:=Bool.false_eq_true
theorem atE:type_of% @List.map_append:=List.map_append
theorem atF:type_of% @Nat.zero_add:=Nat.zero_add
theorem atG:type_of% @List.mem_singleton:=List.mem_singleton
theorem atH:type_of% @List.take_zero:=List.take_zero
theorem atI:type_of% @List.getElem?_set:=List.getElem?_set
theorem atJ:type_of% @Option.map_some:=Option.map_some
theorem atK:type_of% @List.append_nil:=List.append_nil
theorem atL:type_of% @List.length_map:=List.length_map
theorem atM:type_of% @Array.all_eq_true_iff_forall_mem:=Array.all_eq_true_iff_forall_mem
theorem atN:type_of% @Nat.mod_eq_of_lt:=Nat.mod_eq_of_lt
theorem atO:type_of% @List.sublist_cons_self:=List.sublist_cons_self
theorem atP:type_of% @List.getD_eq_getElem?_getD:=List.getD_eq_getElem?_getD
theorem atQ:type_of% @List.nil_append:=List.nil_append
theorem atS:type_of% @Nat.lt_of_lt_of_le:=Nat.lt_of_lt_of_le
theorem atT:type_of% @List.length_replicate:=List.length_replicate
theorem atU:type_of% @Bool.true_and:=Bool.true_and
theorem atV:type_of% @List.pairwise_iff_getElem:=List.pairwise_iff_getElem
theorem atW:type_of% @Int.le_refl:=Int.le_refl
theorem atX:type_of% @Array.getElem?_setIfInBounds:=Array.getElem?_setIfInBounds
theorem atY:type_of% @Int.ediv_eq_zero_of_lt:=Int.ediv_eq_zero_of_lt
theorem atZ:type_of% @Nat.add_zero:=Nat.add_zero
theorem at0:type_of% @Bool.not_eq_true':=Bool.not_eq_true'
theorem at1:type_of% @List.size_toArray:=List.size_toArray
theorem at2:type_of% @Option.isSome_iff_exists:=Option.isSome_iff_exists
theorem at3:type_of% @List.filter_append:=List.filter_append
theorem at4:type_of% @Int.toNat_natCast:=Int.toNat_natCast
theorem at5:type_of% @List.ext_getElem?:=List.ext_getElem?
theorem at6:type_of% @List.map_congr_left:=List.map_congr_left
theorem at7:type_of% @List.mem_map:=List.mem_map
theorem aua:type_of% @List.range_succ:=List.range_succ
theorem aub:type_of% @Int.toNat_of_nonneg:=Int.toNat_of_nonneg
theorem auc:type_of% @Nat.pow_le_pow_right:=Nat.pow_le_pow_right
theorem aud:type_of% @List.map_nil:=List.map_nil
theorem aue:type_of% @List.mem_iff_getElem?:=List.mem_iff_getElem?
theorem auf:type_of% @Bool.false_ne_true:=Bool.false_ne_true
theorem aug:type_of% @List.getElem?_drop:=List.getElem?_drop
theorem auh:type_of% @Int.add_mul_ediv_right:=Int.add_mul_ediv_right
theorem aui:type_of% @Bool.or_eq_true:=Bool.or_eq_true
theorem auj:type_of% @List.getElem?_toArray:=List.getElem?_toArray
theorem auk:type_of% @List.contains_iff_mem:=List.contains_iff_mem
theorem aul:type_of% @List.getElem_of_mem:=List.getElem_of_mem
theorem aum:type_of% @List.take_succ_cons:=List.take_succ_cons
theorem aun:type_of% @List.getElem?_range:=List.getElem?_range
theorem auo:type_of% @Nat.testBit_lt_two_pow:=Nat.testBit_lt_two_pow
theorem aup:type_of% @List.cons_append:=List.cons_append
theorem auq:type_of% @List.set_cons_zero:=List.set_cons_zero
theorem aur:type_of% @List.mem_append_right:=List.mem_append_right
theorem aus:type_of% @Nat.add_sub_cancel_left:=Nat.add_sub_cancel_left
theorem aut:type_of% @Nat.mul_comm:=Nat.mul_comm
theorem auu:type_of% @List.drop_zero:=List.drop_zero
theorem auv:type_of% @Option.bind_some:=Option.bind_some
theorem auw:type_of% @List.flatten_cons:=List.flatten_cons
theorem auy:type_of% @Nat.eq_zero_or_pos:=Nat.eq_zero_or_pos
theorem auz:type_of% @Int.add_sub_cancel:=Int.add_sub_cancel
theorem auA:type_of% @List.foldl_cons:=List.foldl_cons
theorem auB:type_of% @Nat.add_assoc:=Nat.add_assoc
theorem auC:type_of% @Array.getElem?_eq_some_iff:=Array.getElem?_eq_some_iff
theorem auD:type_of% @Option.some.injEq:=Option.some.injEq
theorem auE:type_of% @Array.getElem?_eq_none:=Array.getElem?_eq_none
theorem auF:type_of% @Array.ext_getElem?:=Array.ext_getElem?
theorem auG:type_of% @Nat.lt_of_le_of_lt:=Nat.lt_of_le_of_lt
theorem auH:type_of% @List.filter_eq_nil_iff:=List.filter_eq_nil_iff
theorem auI:type_of% @List.take_succ_eq_append_getElem:=List.take_succ_eq_append_getElem
theorem auJ:type_of% @Nat.sub_self:=Nat.sub_self
theorem auK:type_of% @List.nodup_append:=List.nodup_append
theorem auL:type_of% @Nat.mul_one:=Nat.mul_one
theorem auM:type_of% @Nat.testBit_div_two_pow:=Nat.testBit_div_two_pow
theorem auN:type_of% @Bool.and_self:=Bool.and_self
theorem auO:type_of% @Int.mul_nonneg:=Int.mul_nonneg
theorem auP:type_of% @List.pairwise_append:=List.pairwise_append
theorem auQ:type_of% @BitVec.toNat_ofNat:=BitVec.toNat_ofNat
theorem auR:type_of% @Bool.true_eq_false:=Bool.true_eq_false
theorem auS:type_of% @List.getElem_mem:=List.getElem_mem
theorem auT:type_of% @Option.getD_some:=Option.getD_some
theorem auU:type_of% @List.all_toArray:=List.all_toArray
theorem auV:type_of% @List.mem_of_find?_eq_some:=List.mem_of_find?_eq_some
theorem auW:type_of% @List.set_append_right:=List.set_append_right
theorem auX:type_of% @List.length_filter_le:=List.length_filter_le
theorem auY:type_of% @Int.add_comm:=Int.add_comm
theorem auZ:type_of% @List.find?_eq_none:=List.find?_eq_none
theorem au0:type_of% @List.mem_of_mem_take:=List.mem_of_mem_take
theorem au1:type_of% @Nat.eq_of_testBit_eq:=Nat.eq_of_testBit_eq
theorem au2:type_of% @List.all_cons:=List.all_cons
theorem au3:type_of% @Int.zero_add:=Int.zero_add
theorem au4:type_of% @Bool.not_false:=Bool.not_false
theorem au5:type_of% @List.drop_drop:=List.drop_drop
theorem au6:type_of% @Option.map_eq_some_iff:=Option.map_eq_some_iff
theorem au7:type_of% @Array.length_toList:=Array.length_toList
theorem au8:type_of% @List.drop_succ_cons:=List.drop_succ_cons
theorem au9:type_of% @List.drop_eq_getElem_cons:=List.drop_eq_getElem_cons
theorem ava:type_of% @List.filter_nil:=List.filter_nil
theorem avb:type_of% @Int.ediv_nonneg:=Int.ediv_nonneg
theorem avc:type_of% @Nat.mod_lt:=Nat.mod_lt
theorem avd:type_of% @Nat.div_add_mod:=Nat.div_add_mod
theorem ave:type_of% @Int.emod_nonneg:=Int.emod_nonneg
theorem avf:type_of% @List.singleton_append:=List.singleton_append
theorem avg:type_of% @Nat.xor_lt_two_pow:=Nat.xor_lt_two_pow
theorem avh:type_of% @List.perm_middle:=List.perm_middle
theorem avi:type_of% @List.all_nil:=List.all_nil
theorem avj:type_of% @Int.emod_lt_of_pos:=Int.emod_lt_of_pos
theorem avk:type_of% @Bool.false_and:=Bool.false_and
theorem avl:type_of% @List.nodup_cons:=List.nodup_cons
theorem avm:type_of% @UInt8.toNat_inj:=UInt8.toNat_inj
theorem avn:type_of% @Bool.eq_iff_iff:=Bool.eq_iff_iff
theorem avo:type_of% @List.length_pos_iff:=List.length_pos_iff
theorem avp:type_of% @List.filter_sublist:=List.filter_sublist
theorem avq:type_of% @Nat.le_trans:=Nat.le_trans
theorem avr:type_of% @List.map_set:=List.map_set
theorem avs:type_of% @Array.getElem?_append_left:=Array.getElem?_append_left
theorem avt:type_of% @List.not_mem_nil:=List.not_mem_nil
theorem avu:type_of% @List.drop_length:=List.drop_length
theorem avv:type_of% @List.getElem?_take:=List.getElem?_take
theorem avw:type_of% @List.set_cons_succ:=List.set_cons_succ
theorem avx:type_of% @List.append_of_mem:=List.append_of_mem
theorem avy:type_of% @List.prefix_rfl:=List.prefix_rfl
theorem avz:type_of% @List.foldl_append:=List.foldl_append
theorem avA:type_of% @Nat.lt_trichotomy:=Nat.lt_trichotomy
theorem avB:type_of% @Bool.false_or:=Bool.false_or
theorem avC:type_of% @List.getElem?_replicate:=List.getElem?_replicate
theorem avD:type_of% @List.take_set_of_le:=List.take_set_of_le
theorem avE:type_of% @List.getElem_cons_drop:=List.getElem_cons_drop
theorem avF:type_of% @Option.toList_some:=Option.toList_some
theorem avG:type_of% @Int.add_mul_emod_self_right:=Int.add_mul_emod_self_right
theorem avH:type_of% @BitVec.eq_of_toNat_eq:=BitVec.eq_of_toNat_eq
theorem avI:type_of% @Nat.min_eq_left:=Nat.min_eq_left
theorem avJ:type_of% @List.cons.injEq:=List.cons.injEq
theorem avK:type_of% @List.sum_cons:=List.sum_cons
theorem avL:type_of% @Int.ediv_neg_of_neg_of_pos:=Int.ediv_neg_of_neg_of_pos
theorem avM:type_of% @List.flatMap_cons:=List.flatMap_cons
theorem avN:type_of% @Array.size_append:=Array.size_append
theorem avO:type_of% @Int.emod_eq_of_lt:=Int.emod_eq_of_lt
theorem avP:type_of% @Nat.add_eq:=Nat.add_eq
theorem avQ:type_of% @List.mem_of_mem_drop:=List.mem_of_mem_drop
theorem avR:type_of% @Array.ext':=Array.ext'
theorem avS:type_of% @Nat.div_lt_of_lt_mul:=Nat.div_lt_of_lt_mul
theorem avT:type_of% @List.contains_eq_mem:=List.contains_eq_mem
theorem avU:type_of% @List.set_set:=List.set_set
theorem avV:type_of% @List.replicate_succ:=List.replicate_succ
theorem avW:type_of% @List.eraseIdx_cons_succ:=List.eraseIdx_cons_succ
theorem avX:type_of% @Nat.lt_or_gt_of_ne:=Nat.lt_or_gt_of_ne
theorem avY:type_of% @List.sum_append:=List.sum_append
theorem avZ:type_of% @List.drop_eq_nil_of_le:=List.drop_eq_nil_of_le
theorem av0:type_of% @List.length_range:=List.length_range
theorem av1:type_of% @Nat.pow_succ:=Nat.pow_succ
theorem av2:type_of% @Nat.add_comm:=Nat.add_comm
theorem av3:type_of% @Int.mul_le_mul:=Int.mul_le_mul
theorem av4:type_of% @Bool.not_eq_true:=Bool.not_eq_true
theorem av5:type_of% @List.mem_reverse:=List.mem_reverse
theorem av6:type_of% @List.flatten_nil:=List.flatten_nil
theorem av7:type_of% @List.cons.inj:=List.cons.inj
theorem av8:type_of% @Prod.mk.injEq:=Prod.mk.injEq
namespace Go.ax
open Go.RowKit
structure aj where
 fp:Nat->Prop
 sat:(Nat->Option Obj)->Prop
 loc: ∀h h':Nat->Option Obj,(∀k,fp k->h' k=h k)->sat h->sat h'
def aq(b:Nat)(cs:Array Value)(T:TypeId):aj:=⟨fun k=>k=b,fun h=>h b=some (.cells cs T (0,0)),fun _ _ e s=>by rw[e b rfl];exact s⟩
structure Mem(w0:World)(L:List aj)(w:World):Prop where
 below:Below w0.heap.size w0 w
 sat: ∀e∈L,e.sat fun k=>w.heap[k]?
 kf: ∀e∈L,∀k,e.fp k->w0.heap.size<=k/\k<w.heap.size
 pW:L.Pairwise fun a b=> ∀k,a.fp k-> ¬b.fp k
theorem Mem.init(w:World):Mem w [] w:=⟨Below.refl _ _,by simp,by simp,by simp⟩
theorem Mem.OM{w w':World}(h:Below w.heap.size w w'):Mem w [] w':=⟨h,by simp,by simp,by simp⟩
variable {w0:World}{L:List aj}
theorem Mem.le{w:World}(h:Mem w0 L w):w0.heap.size<=w.heap.size:=h.below.size
theorem Mem.call{w0:World}{L E:List aj}{w w':World}(h:Mem w0 L w)(h':Mem w E w'):Mem w0 (E++L) w':=by
 refine⟨h.below.trans (h'.below.mono h.le),fun e he=>?_,fun e he k hk=>?_,?_⟩
 ·
  rcases as8.1 he with he|he
  ·
   exact h'.sat e he
  exact e.loc _ _ (fun k hk=>h'.below.block k (h.kf e he k hk).2) (h.sat e he)
 ·
  rcases as8.1 he with he|he
  ·
   have:=h'.kf e he k hk;have:=h.le;omega
  have:=h.kf e he k hk;have:=h'.below.size;omega
 refine auP.2 ⟨h'.pW,h.pW,fun a ha b hb k hk kC=>?_⟩;have:=h'.kf a ha k hk;have:=h.kf b hb k kC;omega
theorem Mem.step{w w':World}(h:Mem w0 L w)(h':Below w.heap.size w w'):Mem w0 L w':=h.call (E:=[]) (.OM h')
theorem Mem.drew{w:World}(h:Mem w0 L w):Mem w0 L w.drew:=h.step ((Below.refl _ _).drew)
theorem Mem.E5{w:World}(h:Mem w0 L w):Mem w0 L {w with drawn:=w.drawn+1}:=h.step ((Below.refl _ _).drew)
theorem Mem.sub{w0:World}{L L':List aj}{w:World}(h:Mem w0 L w)(s:L'.Sublist L):Mem w0 L' w:=
 ⟨h.below,fun e he=>h.sat e (s.subset he),fun e he=>h.kf e (s.subset he),h.pW.sublist s⟩
theorem Mem.perm{w0:World}{L L':List aj}{w:World}(h:Mem w0 L w)(s:L.Perm L'):Mem w0 L' w:=
 ⟨h.below,fun e he=>h.sat e (s.mem_iff.2 he),fun e he=>h.kf e (s.mem_iff.2 he),s.pairwise h.pW (fun rD k hk kC=>rD k kC hk)⟩
theorem Mem.get{w:World}(h:Mem w0 L w){i:Nat}{e:aj}(hi:L[i]? =some e):e.sat fun k=>w.heap[k]? :=h.sat e (alM hi)
theorem Below.E6(w:World)(o:Obj):(w.alloc o).heap[w.heap.size]? =some o:=by
 show(w.heap.push o)[w.heap.size]? =some o;simp
theorem Mem.alloc{w:World}(h:Mem w0 L w)(cs:Array Value)(T:TypeId):Mem w0 (aq w.heap.size cs T::L) (w.alloc (.cells cs T)):=by
 refine h.call (E:=[aq w.heap.size cs T]) ⟨(Below.refl _ _).alloc (as4 _) _,fun e he=>?_,fun e he k hk=>?_,by simp⟩
 ·
  simp at he;subst he;exact Below.E6 w _
 simp at he;subst he;have:k=w.heap.size:=hk;subst this;simp
theorem Mem.change{w w':World}(h:Mem w0 L w){i:Nat}{e e':aj}(hi:L[i]? =some e)(vl: ∀k,e'.fp k->e.fp k)
  (hB: ∀k,¬e.fp k->w'.heap[k]? =w.heap[k]?) (hs:w'.heap.size=w.heap.size) (ho:w'.os=w.os/\w'.tape=w.tape/\w'.output=w.output)
  (Jb:e'.sat fun k=>w'.heap[k]?):Mem w0 (L.set i e') w':=by
 have E7:i<L.length:=by
  rcases as3 i L.length with h'|h'
  ·
   exact h'
  ·
   simp[as7 h']at hi
 have E8:L[i]=e:=by simpa[as1 E7]using hi
 have ON:e∈L:=E8▸auS E7;refine⟨⟨ho.1.trans h.below.os,ho.2.1.trans h.below.tape,ho.2.2.trans h.below.output,hs▸h.below.size,fun k hk=>?_⟩,fun x hx=>?_,fun x hx k hk=>?_,?_⟩
 ·
  rw[hB k (fun hf=>by have:=h.kf e ON k hf;omega)];exact h.below.block k hk
 ·
  obtain⟨j,hj,oR⟩:=aul hx;rw[List.getElem_set]at oR;split at oR
  ·
   subst oR;exact Jb
  ·
   rename_i bM;have iX:j<L.length:=by simpa using hj
   subst oR;have hd:=h.pW;rw[atV]at hd;refine(L[j]).loc _ _ (fun k hk=>hB k (fun hf=>?_)) (h.sat _ (auS iX));rw[←E8]at hf;rcases avX bM with bc|bc
   ·
    exact hd i j E7 iX bc k hf hk
   ·
    exact hd j i iX E7 bc k hk hf
 ·
  rw[hs];obtain⟨j,hj,oR⟩:=aul hx;rw[List.getElem_set]at oR;split at oR
  ·
   subst oR;exact h.kf e ON k (vl k hk)
  ·
   subst oR;exact h.kf _ (auS _) k hk
 ·
  rw[atV];intro p q hp hq As k hk kC;have hd:=h.pW;rw[atV]at hd;rw[List.getElem_set]at hk kC;have bX:p<L.length:=by simpa using hp
  have E9:q<L.length:=by simpa using hq
  have:=hd p q bX E9 As k;split at hk<;>split at kC
  ·
   omega
  ·
   rename_i h1 h2;subst h1;exact this (by rw[E8];exact vl k hk) kC
  ·
   rename_i h1 h2;subst h2;exact this hk (by rw[E8];exact vl k kC)
  ·
   exact this hk kC
theorem Mem.cell{w:World}(h:Mem w0 L w){i b:Nat}{cs:Array Value}{T:TypeId}(hi:L[i]? =some (aq b cs T))(o:Nat):w.cell? ⟨b,o,none⟩=cs[o]? :=by
 have:w.heap[b]? =some (.cells cs T (0,0)):=h.get hi;simp[World.cell?,this]
theorem Mem.block{w:World}(h:Mem w0 L w){i b:Nat}{cs:Array Value}{T:TypeId}(hi:L[i]? =some (aq b cs T)):w.heap[b]? =some (.cells cs T (0,0)):=h.get hi
theorem Mem.setRow{w:World}(h:Mem w0 L w){i b:Nat}{cs:Array Value}{T:TypeId}(hi:L[i]? =some (aq b cs T))(cs':Array Value):Mem w0 (L.set i (aq b cs' T)) (w.setRow b cs'):=by
 have hb:=h.block hi;refine h.change hi (fun k hk=>hk) (fun k hk=>?_) (by simp[World.setRow]) ⟨rfl,rfl,rfl⟩ ?_
 ·
  exact setRow_other w b k cs' (fun e=>hk e)
 exact setRow_heap w b cs cs' T (0,0) hb
def iY(ro:Option Nat):Fence:={fn:=fun _=>True,depth:=none,alive:=false,round:=ro}
def qC(l:List Oper):Bool:=l.all fun o=>match o.op with
 | .defer _=>false
 |_=>true
theorem OO{l:List Oper}(h:qC l=true){i:Nat}{o:Oper}(hi:l.toArray[i]? =some o): ∀c,o.op≠ .defer c:=fun c e=>by
 have hm:o∈l:=by simpa using Array.mem_of_getElem? hi
 have:=atk.1 h o hm;rw[e]at this;cases this
class jA(Q:Exit->Act->World->Prop):Prop where
 h: ∀a w,¬Q .outgrown a w
instance jA.then{K:Act->World->Prop}{Q:Exit->Act->World->Prop}[q:jA Q]:jA (Exit.then K Q):=⟨fun a w h=>q.h a w h⟩
instance jA.block{id:Nat}{Q:Exit->Act->World->Prop}[q:jA Q]:jA (Exit.inBlock id Q):=⟨fun a w h=>q.h a w h⟩
variable {P:Program} {ro:Option Nat}
theorem OP{f:FuncId}{args:Array Value}{w:World}{R:Ending->World->Prop}(h:Calls P f args w R):CallsIn (iY ro) 0 P f args w R:=by
 have h':CallsIn Fence.wide 0 P f args w R:=callsIn_wide.2 h
 cases ro with
 |none=>exact h'
 |some l=>exact h'.inRound l
theorem XT{row:String}{args:Array Value}{w:World}{R:Value->World->Prop}(h:Rows P row args w R):RowsIn (iY ro) 0 P row args w R:=fun c cs _=>by
 obtain⟨v,w',hR,hs⟩:=h c cs;refine⟨v,w',hR,?_⟩;have h':StepsIn (Machine.fenced P Fence.wide) P _ _:=stepsIn_wide.2 hs;exact h'
theorem XU{o:Oper}{a:Act}{w:World}{K:Act->World->Prop}{Q:Exit->Act->World->Prop}(cA: ∀c,o.op≠ .defer c)(h:o.wp P a w K Q):o.wpIn (iY ro) 0 P a w K Q:=by
 refine⟨fun _ _=>trivial,?_⟩;rw[Oper.semAt_eq _ _ _ cA];unfold Oper.wp at h;generalize(execOp a.eval o).run P w=r at h⊢;unfold Oper.upon at h;unfold Oper.uponIn;split at h
 ·
  exact h
 ·
  exact h
 ·
  exact h
 ·
  exact⟨fun e=>(by cases e),OP h⟩
 ·
  exact⟨fun e=>(by cases e),XT h⟩
 ·
  exact h
 exact h.elim
theorem CA{ops:Array Oper}{Q:Exit->Act->World->Prop}[q:jA Q](cA: ∀(i:Nat) (o:Oper),ops[i]? =some o-> ∀c,o.op≠ .defer c): ∀(l:List Nat) (a:Act) (w:World),wpOps P ops Q l a w->wpOpsIn (iY ro) 0 P ops Q l a w
 |[],_,_,h=>h
 |i::rest,a,w,h=>by
  unfold wpOps at h;unfold wpOpsIn;split at h
  ·
   rename_i ho;simp only[ho];exact CA cA rest a w h
  rename_i o ho;simp only[ho];split at h
  ·
   rename_i hw;rw[if_pos hw];rcases h with h|⟨_,a',w',h⟩
   ·
    exact Oper.wpIn_mono (fun a w h=>CA cA rest a w h) (XU (cA i o ho) h)
   exact absurd h (q.h a' w')
  rename_i hw;rw[if_neg hw];exact⟨fun _ _=>trivial,CA cA rest _ w h⟩
theorem XV{id:Nat}{l:List Oper}{Q:Exit->Act->World->Prop}{a:Act}{w:World}[jA Q](cA:qC l=true)(h:wpList P l.toArray Q l a w):(Code.region id l.toArray false).wpIn (iY ro) 0 P Q a w:=
 wpIn_region (CA (fun _ _ hi=>OO cA hi) _ a w (by rw[List.range_eq_range',←au7,wpOps_eq_wpList l.toArray.toList 0 (by simp)];exact h))
theorem Jc{id:Nat}{l:List Oper}{Q:Exit->Act->World->Prop}{a:Act}{w:World}[jA Q](cA:qC l=true)(hm:P.follows .mixedOrders=true)
  (h:wpAny P .any l.toArray Q l.toArray.size (Array.replicate l.toArray.size false) a {w with drawn:=w.drawn+1}):(Code.region id l.toArray true).wpIn (iY ro) 0 P Q a w:=
 wpIn_region_draw fun t=>CA (fun _ _ hi=>OO cA hi) _ a _ (by
  simp only[Region.schedule,hm,Bool.true_or,if_true];exact wpAny_sound l.toArray.size t _ a _ h)
theorem XW{id:Nat}{l:List Oper}{C:World->Prop}{Q:Exit->Act->World->Prop}{a:Act}{w:World}[jA Q](cA:qC l=true)(hm:P.follows .mixedOrders=true)(hB:Region.lexB .any l.toArray=true)(hC:C {w with drawn:=w.drawn+1})
  (h:wpQuiet P l.toArray C (fun a'=> ∀w',C w'->Q .normal a' w') l a):(Code.region id l.toArray true).wpIn (iY ro) 0 P Q a w:=by
 simp only[Region.lexB,anc]at hB;refine Jc cA hm (wpAny_of_quiet (Q:=fun a'=> ∀w',C w'->Q .normal a' w') (fun _ w' gN h=>h w' gN) _ _ _ _ hC ?_);have:=wpAnyQ_lex (C:=C) (md:= .any) hB.1 l 0 (Array.replicate l.toArray.size false) a (by simp) (by simpa using hB.2) h;simpa using this
def mark(D:Nat):Deferred:={target:= .collected D,args:= #[]}
def qD(P:Program)(fn:Func)(R:Ending->World->Prop):Exit->Act->World->Prop:=fun e a w=>(e= .normal\/e= .ret)/\bodyPostM (iY none) 0 P fn R e a w
instance jA.end{fn:Func}{R:Ending->World->Prop}:jA (qD P fn R):=⟨fun a w h=>by rcases h.1 with h|h<;>cases h⟩
theorem OQ{f:FuncId}{fn:Func}{c:Code}{args:Array Value}{w:World}{R:Ending->World->Prop}(hf:P.funcs[f]? =some fn)(hb:fn.body=some c)
  (h:c.wpIn (iY none) 0 P (qD P fn R) {tmps:=args++Array.replicate (fn.ntmps -args.size) undef,defers:=[]} w):Calls P f args w R:=
 callsIn_wide.1 (callsIn_of_wp_marks (F:=iY none) (n:=0) hf hb trivial (wpIn_mono h fun _ _ _ h=>h.2))
section
variable {P:Program} {l:List Oper} {C:World->Prop} {Q:Exit->Act->World->Prop} {n:Nat} {fs:List Nat}
def fr(l:List Oper)(fs:List Nat)(v:Nat->Value)(a0:Act):Nat->Act
 |0=>a0
 |k+1=>if fs.contains k=true then fr l fs v a0 k else match l[k]?with
  |some o=>(fr l fs v a0 k).put o.dst (v k)
  |none=>fr l fs v a0 k
def dV(l:List Oper)(j:Nat):Option Tmp:=(l[j]?).bind (·.dst)
theorem kg(a:Act)(d:Option Tmp)(v:Value)(t:Nat)(h:d≠some t):(a.put d v).tmps[t]? =a.tmps[t]? :=by
 cases d with
 |none=>rfl
 |some d=>
  have:d≠t:=fun e=>h (by rw[e]);simp[Act.put,this]
theorem tX(a:Act)(d:Option Tmp)(v:Value):(a.put d v).tmps.size=a.tmps.size:=by cases d<;>simp[Act.put]
theorem tY(a:Act)(d:Option Tmp)(v:Value):(a.put d v).defers=a.defers:=by cases d<;>rfl
theorem OR(a b:Act)(d:Nat)(v:Value)(h:a.tmps.size=b.tmps.size):(a.put (some d) v).tmps[d]? =(b.put (some d) v).tmps[d]? :=by
 simp[Act.put,atX,h]
theorem yH{v:Nat->Value}{a0:Act}{k:Nat}{o:Oper}(hf:fs.contains k=false)(h:l[k]? =some o):fr l fs v a0 (k+1)=(fr l fs v a0 k).put o.dst (v k):=by
 show(if fs.contains k=true then _ else match l[k]?with|some o=>(fr l fs v a0 k).put o.dst (v k)|none=>fr l fs v a0 k)=_;rw[hf,h];rfl
theorem Au{v:Nat->Value}{a0:Act}{k:Nat}(hf:fs.contains k=true):fr l fs v a0 (k+1)=fr l fs v a0 k:=by
 show(if fs.contains k=true then _ else match l[k]?with|some o=>(fr l fs v a0 k).put o.dst (v k)|none=>fr l fs v a0 k)=_;rw[hf];rfl
theorem CB{v:Nat->Value}{a0:Act}{k:Nat}(h:l[k]? =none):fr l fs v a0 (k+1)=fr l fs v a0 k:=by
 show(if fs.contains k=true then _ else match l[k]?with|some o=>(fr l fs v a0 k).put o.dst (v k)|none=>fr l fs v a0 k)=_;rw[h];split<;>rfl
theorem CC(v:Nat->Value)(a0:Act): ∀k,(fr l fs v a0 k).tmps.size=a0.tmps.size
 |0=>rfl
 |k+1=>by
  cases hf:fs.contains k with
  |true=>rw[Au hf];exact CC v a0 k
  |false=>
   cases ho:l[k]?with
   |none=>rw[CB ho];exact CC v a0 k
   |some o=>rw[yH hf ho,tX];exact CC v a0 k
theorem Fa(v:Nat->Value)(a0:Act): ∀k,(fr l fs v a0 k).defers=a0.defers
 |0=>rfl
 |k+1=>by
  cases hf:fs.contains k with
  |true=>rw[Au hf];exact Fa v a0 k
  |false=>
   cases ho:l[k]?with
   |none=>rw[CB ho];exact Fa v a0 k
   |some o=>rw[yH hf ho,tY];exact Fa v a0 k
theorem yI(v:Nat->Value)(a0:Act)(t k:Nat): ∀m,k<=m->(∀j,k<=j->j<m->fs.contains j=false->dV l j≠some t)->(fr l fs v a0 m).tmps[t]? =(fr l fs v a0 k).tmps[t]?
 |0,h,_=>by obtain rfl:k=0:=by omega
            rfl
 |m+1,h,hn=>by
  by_cases e:k=m+1
  ·
   subst e;rfl
  have ih:=yI v a0 t k m (by omega) fun j h1 h2=>hn j h1 (by omega);rw[←ih]
  cases hf:fs.contains m with
  |true=>rw[Au hf]
  |false=>
   cases ho:l[m]?with
   |none=>rw[CB ho]
   |some o=>
    rw[yH hf ho];exact kg _ _ _ _ (by simpa[dV,ho]using hn m (by omega) (by omega) hf)
def CD(l:List Oper)(fs:List Nat)(n:Nat):Bool:=
 (List.range n).all fun k=>match l[k]?with
  |none=>false
  |some o=>
   (match o.op with| .select .. =>false|_=>true)&&
   (o.after.all fun e=> !Region.binds .any e||decide (e.on<k))&&
   (List.range n).all fun j=>match dV l j with
    |none=>true
    |some d=>(!(o.looksAt l.toArray).contains d||(decide (j<k)&&(!fs.contains j||fs.contains k)&&o.after.any fun e=>Region.binds .any e&&e.on==j))&&(j==k||o.dst !=some d)
structure CE(l:List Oper)(fs:List Nat)(n k:Nat)(o:Oper):Prop where
 wR: ∀cs b,o.op≠ .select cs b
 back: ∀e∈o.after,Region.binds .any e=true->e.on<k
 reads: ∀j d,j<n->dV l j=some d->d∈o.looksAt l.toArray->j<k/\(fs.contains j=true->fs.contains k=true)/\ ∃e∈o.after,Region.binds .any e=true/\e.on=j
 one: ∀j d,j<n->dV l j=some d->j≠k->o.dst≠some d
theorem Fb(h:CD l fs n=true)(k:Nat)(hk:k<n): ∃o,l[k]? =some o/\CE l fs n k o:=by
 have:=atk.1 h k (aty.2 hk)
 cases ho:l[k]?with
 |none=>simp[ho]at this
 |some o=>
  rw[ho]at this;simp only[anc]at this;obtain⟨⟨h1,h2⟩,h3⟩:=this;refine⟨o,rfl,⟨fun cs b e=>by rw[e]at h1;simp at h1,fun e he hb=>?_,fun j d hj hd hl=>?_,fun j d hj hd bM=>?_⟩⟩
  ·
   have:=(atM.1 h2) e he;simpa[hb]using this
  ·
   have:=atk.1 h3 j (aty.2 hj);rw[hd]at this;simp only[anc,aui,at0,decide_eq_true_eq]at this;rcases this.1 with h4|h4
   ·
    exact absurd hl (by simpa using h4)
   obtain⟨⟨h5,h6⟩,h7⟩:=h4;obtain⟨e,he,hb⟩:=Array.any_eq_true'.1 h7;simp only[anc,beq_iff_eq]at hb;exact⟨h5,fun jh=>h6.elim (fun h=>by rw[h]at jh;cases jh) id,e,he,hb.1,hb.2⟩
  have:=atk.1 h3 j (aty.2 hj);rw[hd]at this;simp only[anc,aui,beq_iff_eq]at this;rcases this.2 with h4|h4
  ·
   exact absurd h4 bM
  simpa using h4
def vm(P:Program)(o:Oper)(a:Act)(C:World->Prop)(v:Value):Prop:= ∀w,C w->o.quietAt P a (Mem w []) w v
def Jd(P:Program)(l:List Oper)(fs:List Nat)(C:World->Prop)(v:Nat->Value)(a0:Act)(k:Nat):Prop:=
 ∀o,l[k]? =some o->(Region.wanted o (yielded l.toArray (fr l fs v a0 k).tmps)=true->vm P o (fr l fs v a0 k) C (v k))/\
  (Region.wanted o (yielded l.toArray (fr l fs v a0 k).tmps)=false->v k=undef)
def nQ(P:Program)(ops:Array Oper)(fs:List Nat)(C:World->Prop)(F:Act->Prop):Nat->List Oper->Act->Prop
 |_,[],a=>F a
 |k,o::rest,a=>if fs.contains k=true then nQ P ops fs C F (k+1) rest a
  else if Region.wanted o (yielded ops a.tmps)=true then∃v,vm P o a C v/\nQ P ops fs C F (k+1) rest (a.put o.dst v)else nQ P ops fs C F (k+1) rest (a.put o.dst undef)
theorem Je{F:Act->Prop}: ∀(m k:Nat) (a0:Act) (v0:Nat->Value),k+m<=l.length->nQ P l.toArray fs C F k ((l.drop k).take m) (fr l fs v0 a0 k)->
  ∃v,(∀j,j<k->v j=v0 j)/\(∀j,k<=j->j<k+m->fs.contains j=false->Jd P l fs C v a0 j)/\F (fr l fs v a0 (k+m))
 |0,k,a0,v0,_,h=>⟨v0,fun _ _=>rfl,fun j h1 h2=>by omega,by simpa[nQ]using h⟩
 |m+1,k,a0,v0,hle,h=>by
  have hk:k<l.length:=by omega
  have ed:l.drop k=l[k]::l.drop (k+1):=au9 hk;rw[ed,aum]at h;have OS:l[k]? =some l[k]:=as1 hk;have agree: ∀v v':Nat->Value,∀j,(∀i,i<j->v i=v' i)->fr l fs v a0 j=fr l fs v' a0 j:=by
   intro v v' j
   induction j with
   |zero=>intro _;rfl
   |succ j ih=>
    intro hh;have e:=ih fun i hi=>hh i (by omega)
    cases hf:fs.contains j with
    |true=>rw[Au hf,Au hf,e]
    |false=>
     cases ho:l[j]?with
     |none=>rw[CB ho,CB ho,e]
     |some o=>rw[yH hf ho,yH hf ho,e,hh j (by omega)]
  unfold nQ at h
  cases yJ:fs.contains k with
  |true=>
   rw[if_pos yJ]at h;obtain⟨v,g1,g2,g3⟩:=Je m (k+1) a0 v0 (by omega) (by rw[Au yJ];exact h);refine⟨v,fun j hj=>g1 j (by omega),fun j h3 h4 h5=>?_,by rw[show k+(m+1)=k+1+m by omega];exact g3⟩
   by_cases hj:j=k
   ·
    subst hj;rw[yJ]at h5;cases h5
   ·
    exact g2 j (by omega) (by omega) h5
  |false=>
   rw[if_neg (by rw[yJ];exact auf)]at h;have step: ∀u:Value,nQ P l.toArray fs C F (k+1) ((l.drop (k+1)).take m) ((fr l fs v0 a0 k).put l[k].dst u)->
     ((Region.wanted l[k] (yielded l.toArray (fr l fs v0 a0 k).tmps)=true->vm P l[k] (fr l fs v0 a0 k) C u)/\(Region.wanted l[k] (yielded l.toArray (fr l fs v0 a0 k).tmps)=false->u=undef))->
     ∃v,(∀j,j<k->v j=v0 j)/\(∀j,k<=j->j<k+(m+1)->fs.contains j=false->Jd P l fs C v a0 j)/\F (fr l fs v a0 (k+(m+1))):=by
    intro u h2 hu
    let v1:Nat->Value:=fun j=>if j=k then u else v0 j
    have e1:fr l fs v1 a0 k=fr l fs v0 a0 k:=agree _ _ k fun i hi=>by simp[v1,show i≠k by omega]
    have e2:fr l fs v1 a0 (k+1)=(fr l fs v0 a0 k).put l[k].dst u:=by
     rw[yH yJ OS,e1];simp[v1]
    obtain⟨v,g1,g2,g3⟩:=Je m (k+1) a0 v1 (by omega) (by rw[e2];exact h2);have e3:fr l fs v a0 k=fr l fs v0 a0 k:=agree _ _ k fun i hi=>by rw[g1 i (by omega)];simp[v1,show i≠k by omega]
    have e4:v k=u:=by rw[g1 k (by omega)];simp[v1]
    refine⟨v,fun j hj=>by rw[g1 j (by omega)];simp[v1,show j≠k by omega],fun j h3 h4 h5=>?_,by rw[show k+(m+1)=k+1+m by omega];exact g3⟩
    by_cases hj:j=k
    ·
     subst hj;intro o ho;rw[OS]at ho;cases ho;rw[e3,e4];exact hu
    ·
     exact g2 j (by omega) (by omega) h5
   split at h
   ·
    rename_i hw;obtain⟨u,h1,h2⟩:=h;exact step u h2 ⟨fun _=>h1,fun hf=>by rw[hw]at hf;cases hf⟩
   ·
    rename_i hw;exact step undef h ⟨fun ht=>absurd ht hw,fun _=>rfl⟩
def OT(P:Program)(w:World)(R:Value->World->List aj->Prop):Result Next->Prop
 | .ok (.value v) w'=> ∃E,R v w' E
 | .ok (.enter f args) w'=>w'=w/\Calls P f args w fun e qE=> ∃v E,e= .returned v/\R v qE E
 |_=>False
def vn(P:Program)(l:List Oper)(n:Nat)(Q:Exit->Act->World->Prop)(w0:World)(Lq:List aj):List Nat->Act->List aj->Prop
 |[],af,L=> ∀w,Mem w0 L w->wpList P l.toArray Q (l.drop n) af w
 |j::js,af,L=> ∃o,l[j]? =some o/\o.guard=none/\ ∀w,Mem w0 L w->OT P w (fun v w' L'=>Mem w0 L' w'/\(∀w,Mem w0 L' w->Mem w0 Lq w)/\vn P l n Q w0 Lq js (af.put o.dst v) L') ((execOp af.eval o).run P w)
def tZ(l:List Oper):List Nat->Bool
 |j::k::r=>(match l[k]?with|some o=>o.after.any fun e=>Region.binds .any e&&e.on==j|none=>false)&&tZ l (k::r)
 |_=>true
theorem OU: ∀(rs:List Nat) (j0:Nat),tZ l (j0::rs)=true-> ∀i∈rs,∃p∈j0::rs,∃o,l[i]? =some o/\ ∃e∈o.after,Region.binds .any e=true/\e.on=p
 |[],_,_,i,hi=>by cases hi
 |k::r,j0,h,i,hi=>by
  simp only[tZ,anc]at h;rcases as2.1 hi with rfl|hi
  ·
   cases ho:l[i]?with
   |none=>rw[ho]at h;simp at h
   |some o=>
    rw[ho]at h;obtain⟨e,he,hb⟩:=Array.any_eq_true'.1 h.1;simp only[anc,beq_iff_eq]at hb;exact⟨j0,by simp,o,rfl,e,he,hb.1,hb.2⟩
  obtain⟨p,hp,o,ho,e,he,hb⟩:=OU r k h.2 i hi;exact⟨p,atd _ hp,o,ho,e,he,hb⟩
structure wS(P:Program)(l:List Oper)(fs:List Nat)(Q:Exit->Act->World->Prop)(w0:World)(L0:List aj)(n:Nat)(v:Nat->Value)(a0:Act)(rs:List Nat)(af:Act)(listed:Array Bool)(a:Act)(w:World):Prop where
 inv:HeadInv .any l.toArray n listed
 mem: ∃L,Mem w0 L w/\(∀w,Mem w0 L w->Mem w0 L0 w)/\vn P l n Q w0 L0 rs af L
 size:a.tmps.size=a0.tmps.size
 rE:af.tmps.size=a0.tmps.size
 defers:a.defers=a0.defers
 ua:af.defers=a0.defers
 iC: ∃ds,fs=ds++rs
 todo: ∀j,j<n->fs.contains j=true->(listed.getD j true=false↔j∈rs)
 done: ∀j d,j<n->listed.getD j true=true->dV l j=some d->a.tmps[d]? =af.tmps[d]?
 rest: ∀d,(∀j,j<n->listed.getD j true=true->dV l j≠some d)->a.tmps[d]? =a0.tmps[d]?
 full: ∀d,(∀j,j<n->fs.contains j=true->listed.getD j true=true->dV l j≠some d)->af.tmps[d]? =(fr l fs v a0 n).tmps[d]?
variable {w0:World} {L0:List aj}
theorem Jf{listed:Array Bool}{i:Nat}(h:listed.getD i true=false):i<listed.size:=by
 rcases as3 i listed.size with h'|h'
 ·
  exact h'
 simp[auE h']at h
theorem OV{v:Nat->Value}{a0 a af:Act}{rs:List Nat}{listed:Array Bool}{w:World}(H:wS P l fs Q w0 L0 n v a0 rs af listed a w){k:Nat}{o:Oper}(ho:CE l fs n k o)
  (rF: ∀e∈o.after,Region.binds .any e=true->listed.getD e.on false=true) (t:Nat) (ht:t∈o.looksAt l.toArray):a.tmps[t]? =af.tmps[t]? :=by
 by_cases hw: ∃j,j<n/\dV l j=some t
 ·
  obtain⟨j,hj,hd⟩:=hw;obtain⟨_,_,e,he,hb,fV⟩:=ho.reads j t hj hd ht;have hl:=rF e he hb;rw[fV]at hl;have XX:listed.getD j true=true:=by
   have CF:j<listed.size:=by
    rcases as3 j listed.size with h|h
    ·
     exact h
    ·
     simp[auE h]at hl
   simp[CF]at hl⊢;exact hl
  exact H.done j t hj XX hd
 ·
  have h1: ∀j,j<n->dV l j≠some t:=fun j hj hd=>hw ⟨j,hj,hd⟩;rw[H.rest t fun j hj _=>h1 j hj,H.full t fun j hj _ _=>h1 j hj];exact(yI v a0 t 0 n (by omega) fun j _ h2 _=>h1 j h2).symm
theorem XY{v:Nat->Value}{a0 a af:Act}{rs:List Nat}{listed:Array Bool}{w:World}(H:wS P l fs Q w0 L0 n v a0 rs af listed a w){k:Nat}{o:Oper}(hk:k<n)(yJ:fs.contains k=false)(ho:CE l fs n k o)(hB:CD l fs n=true)
  (rF: ∀e∈o.after,Region.binds .any e=true->listed.getD e.on false=true) (t:Nat) (ht:t∈o.looksAt l.toArray):a.tmps[t]? =(fr l fs v a0 k).tmps[t]? :=by
 rw[OV H ho rF t ht]
 by_cases hw: ∃j,j<n/\dV l j=some t
 ·
  obtain⟨j,hj,hd⟩:=hw;obtain⟨Fc,XZ,_⟩:=ho.reads j t hj hd ht;have uniq: ∀i,i<n->i≠j->dV l i≠some t:=fun i hi mJ he=>by
   obtain⟨oi,wT,nR⟩:=Fb hB i hi;exact nR.one j t hj hd (Ne.symm mJ) (by simpa[dV,wT]using he)
  rw[H.full t fun i hi hf _ he=>?_]
  ·
   exact yI v a0 t k n (by omega) fun i h1 h2 _=>uniq i h2 (by omega)
  ·
   by_cases mJ:i=j
   ·
    subst mJ;have:=XZ hf;rw[yJ]at this;cases this
   ·
    exact uniq i hi mJ he
 ·
  have h1: ∀j,j<n->dV l j≠some t:=fun j hj hd=>hw ⟨j,hj,hd⟩;rw[H.full t fun j hj _ _=>h1 j hj,yI v a0 t 0 n (by omega) fun j _ h2 _=>h1 j h2];exact(yI v a0 t 0 k (by omega) fun j _ h2 _=>h1 j (by omega)).symm
theorem Jg{a b:Act}{o:Oper}{ops:Array Oper}(h: ∀t∈o.looksAt ops,a.tmps[t]? =b.tmps[t]?): ∀x∈o.op.operands,a.eval x=b.eval x:=by
 intro x hx
 cases x with
 |tmp t=>
  have:t∈o.looksAt ops:=by
   unfold Oper.looksAt;refine atA _ (List.mem_filterMap.2 ⟨.tmp t,by simpa using hx,rfl⟩)
  simp[Act.eval,h t this]
 |_=>rfl
theorem OW{a b:Act}{o:Oper}{ops:Array Oper}(h: ∀t∈o.looksAt ops,a.tmps[t]? =b.tmps[t]?):Region.wanted o (yielded ops a.tmps)=Region.wanted o (yielded ops b.tmps):=by
 unfold Region.wanted
 cases hg:o.guard with
 |none=>rfl
 |some p=>
  obtain⟨j,b'⟩:=p;have:yielded ops a.tmps j=yielded ops b.tmps j:=by
   unfold yielded
   cases hd:(ops[j]?).bind (·.dst)with
   |none=>rfl
   |some d=>
    have hm:d∈o.looksAt ops:=by unfold Oper.looksAt;rw[hg];simp[hd]
    simp[h d hm]
  simp[this]
def Av(size n:Nat):Array Bool:=((List.range size).map fun i=>decide (i<n)).toArray
theorem X0{v:Nat->Value}{a0 a af:Act}{rs:List Nat}{listed:Array Bool}{w w':World}(H:wS P l fs Q w0 L0 n v a0 rs af listed a w){i:Nat}{o:Oper}(hi:i<n)(kh:fs.contains i=false)(yK:l[i]? =some o)(ho:CE l fs n i o)(hB:CD l fs n=true)
  (hr:i∈Region.ready .any l.toArray listed) (gN:Mem w [] w'):wS P l fs Q w0 L0 n v a0 rs af (listed.setIfInBounds i true) (a.put o.dst (v i)) w':=by
 have iZ:=(mem_ready.1 hr).1;have lE:dV l i=o.dst:=by simp[dV,yK]
 have bc:=Jf iZ;have iD: ∀j,j≠i->(listed.setIfInBounds i true).getD j true=listed.getD j true:=fun j cy=>getD_set_ne true (Ne.symm cy);have qF:(listed.setIfInBounds i true).getD i true=true:=by simp[bc]
 obtain⟨L,hL,nw,hF⟩:=H.mem;have uniq: ∀d,dV l i=some d-> ∀j,j<n->j≠i->dV l j≠some d:=fun d hd j hj cy he=>by
  obtain⟨oj,X1,jh⟩:=Fb hB j hj;exact jh.one i d hi hd (Ne.symm cy) (by simpa[dV,X1]using he)
 refine⟨H.inv.set hr hi,⟨L,by simpa using hL.call gN,nw,hF⟩,by rw[tX];exact H.size,H.rE,by rw[tY];exact H.defers,H.ua,H.iC,fun j hj hf=>?_,fun j d hj hl hd=>?_,fun d hd=>?_,fun d hd=>?_⟩
 ·
  rw[iD j (fun e=>by subst e;rw[kh]at hf;cases hf)];exact H.todo j hj hf
 ·
  by_cases cy:j=i
  ·
   subst cy;have Fe:=hd;rw[lE]at hd;rw[hd,H.full d fun j' jh sJ _=>uniq d Fe j' jh (fun e=>by subst e;rw[kh]at sJ;cases sJ)];have e1:(fr l fs v a0 n).tmps[d]? =(fr l fs v a0 (j+1)).tmps[d]? :=yI v a0 d (j+1) n (by omega) fun i' h1 h2 _=>uniq d Fe i' h2 (by omega);rw[e1,yH kh yK,hd];exact OR _ _ _ _ (by rw[H.size,CC])
  ·
   rw[iD j cy]at hl;rw[kg _ _ _ _ (ho.one j d hj hd cy)];exact H.done j d hj hl hd
 ·
  have h1:o.dst≠some d:=by
   have:=hd i hi qF;rwa [lE]at this
  rw[kg _ _ _ _ h1];refine H.rest d fun j hj hl=>?_
  by_cases cy:j=i
  ·
   subst cy;rw[lE];exact h1
  ·
   exact hd j hj (by rw[iD j cy];exact hl)
 ·
  refine H.full d fun j hj hf hl=>?_;exact hd j hj hf (by rw[iD j (fun e=>by subst e;rw[kh]at hf;cases hf)];exact hl)
theorem X2{v:Nat->Value}{a0 a af:Act}{i:Nat}{rs:List Nat}{listed:Array Bool}{w w':World}(H:wS P l fs Q w0 L0 n v a0 (i::rs) af listed a w){o:Oper}(hi:i<n)(kh:fs.contains i=true)(cA:fs.Nodup)(yK:l[i]? =some o)(ho:CE l fs n i o)
  (hr:i∈Region.ready .any l.toArray listed) {u:Value} {L':List aj} (gN:Mem w0 L' w') (nw: ∀w,Mem w0 L' w->Mem w0 L0 w) (hF:vn P l n Q w0 L0 rs (af.put o.dst u) L'):
  wS P l fs Q w0 L0 n v a0 rs (af.put o.dst u) (listed.setIfInBounds i true) (a.put o.dst u) w':=by
 have iZ:=(mem_ready.1 hr).1;have lE:dV l i=o.dst:=by simp[dV,yK]
 have bc:=Jf iZ;have iD: ∀j,j≠i->(listed.setIfInBounds i true).getD j true=listed.getD j true:=fun j cy=>getD_set_ne true (Ne.symm cy);have qF:(listed.setIfInBounds i true).getD i true=true:=by simp[bc]
 obtain⟨ds,yL⟩:=H.iC;have Ff:i∉rs:=fun h=>by
  rw[yL]at cA;have:=(auK.1 cA).2.1;exact(avl.1 this).1 h
 refine⟨H.inv.set hr hi,⟨L',gN,nw,hF⟩,by rw[tX];exact H.size,by rw[tX];exact H.rE,by rw[tY];exact H.defers,by rw[tY];exact H.ua,⟨ds++[i],by rw[yL];simp⟩,fun j hj hf=>?_,fun j d hj hl hd=>?_,fun d hd=>?_,fun d hd=>?_⟩
 ·
  by_cases cy:j=i
  ·
   subst cy;rw[qF];simp[Ff]
  ·
   rw[iD j cy,H.todo j hj hf];simp[cy]
 ·
  by_cases cy:j=i
  ·
   subst cy;rw[lE]at hd;rw[hd];exact OR _ _ _ _ (by rw[H.size,H.rE])
  ·
   rw[iD j cy]at hl;rw[kg _ _ _ _ (ho.one j d hj hd cy),kg _ _ _ _ (ho.one j d hj hd cy)];exact H.done j d hj hl hd
 ·
  have h1:o.dst≠some d:=by
   have:=hd i hi qF;rwa [lE]at this
  rw[kg _ _ _ _ h1];refine H.rest d fun j hj hl=>?_
  by_cases cy:j=i
  ·
   subst cy;rw[lE];exact h1
  ·
   exact hd j hj (by rw[iD j cy];exact hl)
 ·
  have h1:o.dst≠some d:=by
   have:=hd i hi kh qF;rwa [lE]at this
  rw[kg _ _ _ _ h1];refine H.full d fun j hj hf hl=>?_
  by_cases cy:j=i
  ·
   subst cy;rw[lE];exact h1
  ·
   exact hd j hj hf (by rw[iD j cy];exact hl)
theorem X3{v:Nat->Value}{a0 a af:Act}{rs:List Nat}{listed:Array Bool}{w:World}(H:wS P l fs Q w0 L0 n v a0 rs af listed a w)(ja: ∀j,j<n->listed.getD j true=true):a=af:=by
 have:a.tmps=af.tmps:=by
  apply auF;intro d
  by_cases hw: ∃j,j<n/\dV l j=some d
  ·
   obtain⟨j,hj,hd⟩:=hw;exact H.done j d hj (ja j hj) hd
  have h1: ∀j,j<n->dV l j≠some d:=fun j hj hd=>hw ⟨j,hj,hd⟩;rw[H.rest d fun j hj _=>h1 j hj,H.full d fun j hj _ _=>h1 j hj];exact(yI v a0 d 0 n (by omega) fun j _ h2 _=>h1 j h2).symm
 have h2:a.defers=af.defers:=by rw[H.defers,H.ua]
 cases a;cases af
 simp_all
def left(n:Nat)(listed:Array Bool):Nat:=((List.range n).filter fun i=> !listed.getD i true).length
theorem OX{listed:Array Bool}{i:Nat}(hi:i<n)(iZ:listed.getD i true=false):left n listed=left n (listed.setIfInBounds i true)+1:=by
 have bc:=Jf iZ;have key: ∀m,i<m->((List.range m).filter fun j=> !listed.getD j true).length=((List.range m).filter fun j=> !(listed.setIfInBounds i true).getD j true).length+1:=by
  intro m
  induction m with
  |zero=>intro h;omega
  |succ m ih=>
   intro h;rw[aua,at3,at3,af0,af0]
   by_cases e:i=m
   ·
    subst e;have h1:((List.range i).filter fun j=> !listed.getD j true)=((List.range i).filter fun j=> !(listed.setIfInBounds i true).getD j true):=by
     apply List.filter_congr;intro j hj;rw[getD_set_ne true (by have:=aty.1 hj;omega)]
    rw[h1];simp only[atw,iZ,au4,if_true,ava,asZ,as0];simp[bc]
   have:=ih (by omega);have h2:(listed.setIfInBounds i true).getD m true=listed.getD m true:=getD_set_ne true e;simp only[atw,h2,ava];omega
 exact key n hi
theorem Jh{v:Nat->Value}{a0:Act}(hB:CD l fs n=true)(hn:n<l.length)(hs:Region.sinkB .any l.toArray n=true)(hc:Region.chainB .any l.toArray n=true)
  (Ji:Region.seqB .any l.toArray (l.length -n) n (Av l.length n)=true) (cA:fs.Nodup) (bc: ∀j∈fs,j<n) (CG:tZ l fs=true) (hq: ∀k,k<n->fs.contains k=false->Jd P l fs (Mem w0 L0) v a0 k):
  ∀(m:Nat) (rs:List Nat) (af:Act) (listed:Array Bool) (a:Act) (w:World),left n listed=m->wS P l fs Q w0 L0 n v a0 rs af listed a w->wpAny P .any l.toArray Q (m+(l.length -n)) listed a w
 |0,rs,af,listed,a,w,hm,H=>by
  have ja: ∀j,j<n->listed.getD j true=true:=fun j hj=>by
   cases h:listed.getD j true with
   |true=>rfl
   |false=>
    have:j∈(List.range n).filter fun i=> !listed.getD i true:=atl.2 ⟨List.mem_range.2 hj,by rw[h];rfl⟩;rw[ati.1 hm]at this
    cases this
  have e1:=X3 H ja;have e2:listed=Av l.length n:=by
   apply auF;intro j;have fj:listed.size=l.length:=by simpa using H.inv.size
   by_cases hj:j<l.length
   ·
    have CF:j<listed.size:=by omega
    simp only[Av,auj,atg,aun hj,atJ,Array.getElem?_eq_getElem CF]
    by_cases wU:j<n
    ·
     have:=ja j wU;simp[CF]at this;simp[this,wU]
    ·
     have:=H.inv.tail j (by omega) (by simpa using hj);simp[CF]at this;simp[this,wU]
   ·
    simp[Av,show ¬j<l.length from hj];omega
  have e3:rs=[]:=by
   cases rs with
   |nil=>rfl
   |cons r yM=>
    obtain⟨ds,yL⟩:=H.iC;have hr:r∈fs:=by rw[yL];simp
    have:=(H.todo r (bc r hr) (by simpa using hr)).2 (by simp);rw[ja r (bc r hr)]at this;cases this
  subst e1 e2 e3;obtain⟨L,hL,_,hF⟩:=H.mem;have:=wpAny_of_seq (P:=P) (md:= .any) (Q':=Q) (l.drop n) n (Av l.length n) a w (fun j=>by simp[aug]) (by rw[as9];exact Ji) (hF w hL);rw[as9]at this;rw[atF];exact this
 |m+1,rs,af,listed,a,w,hm,H=>by
  rw[show m+1+(l.length -n)=(m+(l.length -n))+1 by omega];obtain⟨i0,yN,Fg,CH⟩: ∃i,i<n/\listed.getD i true=false/\ ∀j,j<i->listed.getD j true=true:=by
   have bM: ∃i,i<n/\listed.getD i true=false:=by
    cases hf:(List.range n).filter fun i=> !listed.getD i true with
    |nil=>rw[left,hf]at hm;cases hm
    |cons i r=>
     have:i∈(List.range n).filter fun i=> !listed.getD i true:=by rw[hf];simp
     obtain⟨h1,h2⟩:=atl.1 this;exact⟨i,aty.1 h1,by simpa using h2⟩
   obtain⟨i,h1,h2⟩:=bM
   induction i using Nat.strongRecOn with
   |_ i ih=>
    by_cases h: ∃j,j<i/\listed.getD j true=false
    ·
     obtain⟨j,hj,eS⟩:=h;exact ih j hj (by omega) eS
    ·
     refine⟨i,h1,h2,fun j hj=>?_⟩
     cases hh:listed.getD j true with
     |true=>rfl
     |false=>exact absurd ⟨j,hj,hh⟩ h
  have fj:listed.size=l.length:=by simpa using H.inv.size
  have CI:i0∈Region.ready .any l.toArray listed:=by
   obtain⟨o,ho,bD⟩:=Fb hB i0 yN;refine mem_ready.2 ⟨Fg,o,by simpa using ho,fun e he hb=>?_⟩;have h1:=bD.back e he hb;have h2:=CH e.on h1;have h3:e.on<listed.size:=by omega
   simp[h3]at h2⊢;exact h2
  refine⟨fun h=>(by rw[h]at CI;cases CI),fun i hi=>?_⟩;have hG:i<n:=by
   rcases as3 i n with h|h
   ·
    exact h
   ·
    exact absurd hi (tail_waits hs hc (by simpa using hn) H.inv _ i0 rfl yN Fg i h)
  obtain⟨o,ho,bD⟩:=Fb hB i hG;obtain⟨iZ,o',pX,rF⟩:=mem_ready.1 hi;have:o'=o:=by simpa[ho]using pX.symm
  subst this;have ub:left n (listed.setIfInBounds i true)=m:=by have:=OX hG iZ;omega
  obtain⟨L,hL,nw,hF⟩:=H.mem
  cases kh:fs.contains i with
  |false=>
   have Fh:=XY H hG kh bD hB rF;have ew:=OW (ops:=l.toArray) Fh;have ee:execOp a.eval o'=execOp (fr l fs v a0 i).eval o':=execOp_congr o' bD.wR (Jg Fh);obtain⟨Jj,oS⟩:=hq i hG kh o' ho;have next: ∀w',Mem w [] w'->wpAny P .any l.toArray Q (m+(l.length -n)) (listed.setIfInBounds i true) (a.put o'.dst (v i)) w':=fun w' gN=>
    Jh hB hn hs hc Ji cA bc CG hq m rs af _ _ w' ub (X0 H hG kh ho bD hB hi gN)
   unfold wpOp;simp only[pX];rw[ew];split
   ·
    rename_i rG;have h1:=Jj rG w (nw w hL);refine .inl ?_;unfold Oper.wp;rw[ee];unfold Oper.quietAt at h1;generalize(execOp (fr l fs v a0 i).eval o').run P w=r at h1;unfold Oper.quietUpon at h1;split at h1
    ·
     obtain⟨rfl,rfl⟩:=h1;exact next _ (Mem.init _)
    ·
     obtain⟨rfl,e⟩:=h1;rw[e]at next;exact next _ (Mem.init _)
    ·
     obtain⟨rfl,vo⟩:=h1;exact vo.mono fun e qE ⟨he,hm⟩=>by subst he;exact next _ hm
    ·
     exact h1.elim
   ·
    rename_i rG;have:=oS (by simpa using rG);rw[this]at next;exact next w (Mem.init _)
  |true=>
   have Ff:i∈rs:=(H.todo i hG kh).1 iZ
   cases rs with
   |nil=>cases Ff
   |cons r yM=>
    have CJ:i=r:=by
     rcases as2.1 Ff with h|h
     ·
      exact h
     ·
      exfalso;obtain⟨ds,yL⟩:=H.iC;have X4:tZ l (r::yM)=true:=by
       rw[yL]at CG;have key: ∀ds:List Nat,tZ l (ds++r::yM)=true->tZ l (r::yM)=true:=by
        intro ds
        induction ds with
        |nil=>exact id
        |cons d ds ih=>
         intro hh
         cases ds with
         |nil=>simp only[aup,atQ,tZ,anc]at hh;exact hh.2
         |cons d' ds'=>simp only[aup,tZ,anc]at hh;exact ih hh.2
       exact key ds CG
      obtain⟨p,hp,op,bV,e,he,hb,fV⟩:=OU yM r X4 i h;have:op=o':=by rw[ho]at bV;exact(asY bV).symm
      subst this;have hl:=rF e he hb;rw[fV]at hl;have OY:p∈fs:=by rw[yL];exact aur _ hp
      have h1:=(H.todo p (bc p OY) (by simpa using OY)).2 hp;rw[getD_both h1]at hl
      cases hl
    subst CJ;obtain⟨of,rH,hg,gO⟩:=hF;have:of=o':=by rw[ho]at rH;exact(asY rH).symm
    subst this;have Fh:=OV H bD rF;have ee:execOp a.eval of=execOp af.eval of:=execOp_congr of bD.wR (Jg Fh);have h1:=gO w hL;have next: ∀u w' E,(Mem w0 E w'/\(∀w,Mem w0 E w->Mem w0 L0 w)/\vn P l n Q w0 L0 yM (af.put of.dst u) E)->wpAny P .any l.toArray Q (m+(l.length -n)) (listed.setIfInBounds i true) (a.put of.dst u) w':=fun u w' E ⟨gN,Aw,X5⟩=>
     Jh hB hn hs hc Ji cA bc CG hq m yM (af.put of.dst u) _ _ w' ub (X2 H hG kh cA ho bD hi gN Aw X5)
    unfold wpOp;simp only[pX];rw[if_pos (by simp[Region.wanted,hg])];refine .inl ?_;unfold Oper.wp;rw[ee];generalize(execOp af.eval of).run P w=r at h1;unfold OT at h1;split at h1
    ·
     obtain⟨E,hR⟩:=h1;exact next _ _ E hR
    ·
     obtain⟨rfl,vo⟩:=h1;exact vo.mono fun e qE ⟨u,E,he,hR⟩=>by subst he;exact next u _ E hR
    ·
     exact h1.elim
def Fi(l:List Oper)(fs:List Nat)(n:Nat):Bool:=
 CD l fs n&&decide (n<l.length)&&Region.sinkB .any l.toArray n&&Region.chainB .any l.toArray n&&Region.seqB .any l.toArray (l.length -n) n (Av l.length n)&&
  decide fs.Nodup&&(fs.all fun j=>decide (j<n))&&tZ l fs
theorem X6{id:Nat}{ro:Option Nat}[jA Q]{a:Act}{w:World}(n:Nat)(cA:qC l=true)(hm:P.follows .mixedOrders=true)(hB:Fi l fs n=true){L:List aj}(hC:Mem w0 L {w with drawn:=w.drawn+1})(nw: ∀w,Mem w0 L w->Mem w0 L0 w)
  (h:nQ P l.toArray fs (Mem w0 L0) (fun a'=>vn P l n Q w0 L0 fs a' L) 0 (l.take n) a):(Code.region id l.toArray true).wpIn (iY ro) 0 P Q a w:=by
 simp only[Fi,anc,decide_eq_true_eq]at hB;obtain⟨⟨⟨⟨⟨⟨⟨h1,h2⟩,h3⟩,h4⟩,h5⟩,h6⟩,h7⟩,h8⟩:=hB;have X7: ∀j∈fs,j<n:=fun j hj=>by have:=atk.1 h7 j hj;simpa using this
 obtain⟨v,_,g2,g3⟩:=Je (P:=P) (C:=Mem w0 L0) (l:=l) (fs:=fs) n 0 a (fun _=>undef) (by omega) (by simpa[fr]using h);refine Jc cA hm ?_;have Jk:HeadInv .any l.toArray n (Array.replicate l.toArray.size false):=
  ⟨by simp,fun j oj _ hl=>(by rw[getD_replicate_false]at hl;cases hl),fun t _ ht=>getD_in (by simpa using ht) (getD_replicate_false _ _)⟩
 have ub:left n (Array.replicate l.toArray.size false)=n:=by
  unfold left;rw[List.filter_eq_self.2 (fun j hj=>?_),av0];have jh:=aty.1 hj;simp[show j<l.length by omega]
 rw[atF]at g3;have:=Jh (P:=P) (Q:=Q) (w0:=w0) (L0:=L0) (v:=v) (a0:=a) h1 h2 h3 h4 h5 h6 X7 h8 (fun k hk hf=>g2 k (by omega) (by omega) hf) n fs (fr l fs v a n) (Array.replicate l.toArray.size false) a _ ub
  ⟨Jk,⟨L,hC,nw,g3⟩,rfl,CC v a n,rfl,Fa v a n,⟨[],rfl⟩,fun j hj hf=>?_,fun j d hj hl=>?_,fun _ _=>rfl,fun _ _=>rfl⟩
 ·
  rw[show n+(l.length -n)=l.toArray.size by simp;omega]at this;exact this
 ·
  have:j∈fs:=by simpa using hf
  simp[show j<l.length by omega,this]
 ·
  simp[show j<l.length by omega]at hl
end
abbrev Env:=List (Nat×Value)
theorem Fj{a b:Nat}(h: ¬a=b):Nat.beq a b=false:=by
 cases hb:Nat.beq a b with
 |false=>rfl
 |true=>exact absurd (Nat.eq_of_beq_eq_true hb) h
def look:Env->Nat->Option Value
 |[],_=>none
 |(k,v)::r,d=>match Nat.beq k d with
  |true=>some v
  |false=>look r d
structure cc where
 n:Nat
 ds:List Nat
 ro:Option Nat
structure cO(N:cc)(env:Env)(a:Act):Prop where
 size:a.tmps.size=N.n
 get: ∀d v,look env d=some v->a.tmps[d]? =some v
 defers:a.defers=N.ds.map mark
def ev(env:Env):Operand->Option Value
 | .tmp t=>look env t
 | .const v=>some v
 | .global g=>some (.pointer (some ⟨g,0,none⟩))
 | .func f=>some (.func (.func f) #[] #[])
theorem cO.ev{N:cc}{env:Env}{a:Act}(h:cO N env a){x:Operand}{v:Value}(e:ev env x=some v):a.eval x=v:=by
 match x,e with
 | .tmp t,e=>
  have:=h.get t v e;simp[Act.eval,this]
 | .const u,e=>simpa[ax.ev,Act.eval]using e
 | .global g,e=>simpa[ax.ev,Act.eval]using e
 | .func f,e=>simpa[ax.ev,Act.eval]using e
def hH(env:Env):List Operand->Option (List Value)
 |[]=>some []
 |x::r=>match ev env x,hH env r with
  |some v,some vs=>some (v::vs)
  |_,_=>none
theorem cO.hH{N:cc}{env:Env}{a:Act}(h:cO N env a): ∀{xs:List Operand} {vs:List Value},hH env xs=some vs->xs.map a.eval=vs
 |[],vs,e=>by simp[ax.hH]at e;simp[e]
 |x::r,vs,e=>by
  unfold ax.hH at e;split at e
  ·
   rename_i v X8 hv Ax;simp only[auD]at e;subst e;simp[h.ev hv,h.hH Ax]
  simp at e
theorem gD{env:Env}:hH env []=some []:=rfl
theorem dy{env:Env}{x:Operand}{r:List Operand}{v:Value}{vs:List Value}(h:ev env x=some v)(h':hH env r=some vs):hH env (x::r)=some (v::vs):=by
 simp[hH,h,h']
def cB(env:Env):Option Tmp->Value->Env
 |some d,v=>(d,v)::env
 |none,_=>env
def du(N:cc):Option Tmp->Bool
 |some d=>Nat.ble (d+1) N.n
 |none=>true
theorem cO.put{N:cc}{env:Env}{a:Act}(h:cO N env a){dst:Option Tmp}(hd:du N dst=true)(v:Value):cO N (cB env dst v) (a.put dst v):=by
 cases dst with
 |none=>exact h
 |some d=>
  have bc:d<N.n:=Nat.le_of_ble_eq_true hd;refine⟨by simp[Act.put,h.size],fun d' v' hv=>?_,h.defers⟩;simp only[cB,look]at hv;simp only[Act.put,atX]
  by_cases he:d=d'
  ·
   subst he;simp at hv;simp[hv,h.size,bc]
  have:Nat.beq d d'=false:=Fj he;rw[this]at hv;rw[if_neg he];exact h.get d' v' hv
def Sub(Fk env:Env):Prop:= ∀d v,look Fk d=some v->look env d=some v
theorem Sub.refl(env:Env):Sub env env:=fun _ _ h=>h
theorem Sub.nil(env:Env):Sub [] env:=fun _ _ h=>by simp[look]at h
theorem Sub.cons{r env:Env}{d:Nat}{v:Value}(hv:look env d=some v)(h:Sub r env):Sub ((d,v)::r) env:=fun d' v' h'=>by
 simp only[look]at h'
 by_cases he:d=d'
 ·
  subst he;simp at h';rw[←h'];exact hv
 have:Nat.beq d d'=false:=Fj he;rw[this]at h';exact h d' v' h'
theorem cO.sub{N:cc}{env Fk:Env}{a:Act}(h:cO N env a)(s:Sub Fk env):cO N Fk a:=⟨h.size,fun d v e=>h.get d v (s d v e),h.defers⟩
theorem cO.enter(args:List Value)(N:Nat)(h:args.length<=N):cO ⟨N,[],none⟩ (args.zipIdx.map fun p=>(p.2,p.1)) {tmps:=args.toArray++Array.replicate (N -args.toArray.size) undef,defers:=[]}:=by
 refine⟨by simp;omega,fun d v e=>?_,rfl⟩;have key: ∀(l:List Value) (k:Nat),look ((l.zipIdx k).map fun p=>(p.2,p.1)) d=some v->k<=d/\l[d -k]? =some v:=by
  intro l
  induction l with
  |nil=>intro k h;simp[look]at h
  |cons x r ih=>
   intro k h;simp only[List.zipIdx_cons,atq,look]at h
   by_cases he:k=d
   ·
    subst he;simp at h;simp[h]
   have:Nat.beq k d=false:=Fj he;rw[this]at h;obtain⟨h1,h2⟩:=ih (k+1) h;refine⟨by omega,?_⟩;rw[show d -k=(d -(k+1))+1 by omega,List.getElem?_cons_succ];exact h2
 have hh:=(key args 0 e).2;rw[Nat.sub_zero]at hh;have bc:d<args.length:=by
  rcases as3 d args.length with h'|h'
  ·
   exact h'
  simp[as7 h']at hh
 rw[avs (by simpa using bc)];simpa using hh
section
variable {P:Program} {N:cc} {w0:World} {env:Env} {L:List aj} {d:Option Tmp} {ty:TypeId} {ps:String} {af:Array Edge} {gd:Option (Nat×Bool)}
def Ry(P:Program)(N:cc)(w0:World)(env:Env)(L:List aj)(o:Oper)(v:Value):Prop:=
 ∀a w,cO N env a->Mem w0 L w->(execOp a.eval o).run P w= .ok (.value v) w
def Yl(P:Program)(N:cc)(w0:World)(env:Env)(L:List aj)(o:Oper)(v:Value):Prop:=
 ∀a,cO N env a->vm P o a (Mem w0 L) v
theorem Ry.yl{o:Oper}{v:Value}(h:Ry P N w0 env L o v):Yl P N w0 env L o v:=fun a ha w hw=>by
 unfold Oper.quietAt;rw[h a w ha hw];exact⟨rfl,rfl⟩
theorem aU{x:Operand}{v:Value}(hx:ev env x=some v):Ry P N w0 env L ⟨d, .move x,ty,ps,af,gd⟩ v:=fun a w ha _=>by
 simp only[execOp,ha.ev hx,Sem.run_pure]
theorem eI{x:Operand}{v:Value}(hx:ev env x=some v):Ry P N w0 env L ⟨d, .assign x,ty,ps,af,gd⟩ v:=fun a w ha _=>by
 simp only[execOp,ha.ev hx,Sem.run_pure]
theorem Jl{c x y:Operand}{g:Bool}{vx vy:Value}(hc:ev env c=some (.bool g))(hx:ev env x=some vx)(hy:ev env y=some vy):
  Ry P N w0 env L ⟨d, .pick c x y,ty,ps,af,gd⟩ (if g=true then vx else vy):=fun a w ha _=>by
 simp only[execOp,ha.ev hx,ha.ev hc,ha.ev hy,Sem.run_bind,Sem.run_pure,asBool,Result.andThen]
theorem wV{c x y:Operand}{g b:Bool}(hc:ev env c=some (.bool g))(hx:ev env x=some (if g=true then .bool b else undef))(hy:ev env y=some (.bool false)):
  Ry P N w0 env L ⟨d, .pick c x y,ty,ps,af,gd⟩ (.bool (g&&b)):=by
 have h:=Jl (P:=P) (N:=N) (w0:=w0) (L:=L) (d:=d) (ty:=ty) (ps:=ps) (af:=af) (gd:=gd) hc hx hy
 cases g<;>simpa using h
theorem wW{c x y:Operand}{g b:Bool}(hc:ev env c=some (.bool g))(hx:ev env x=some (.bool true))(hy:ev env y=some (if(!g)=true then .bool b else undef)):
  Ry P N w0 env L ⟨d, .pick c x y,ty,ps,af,gd⟩ (.bool (g||b)):=by
 have h:=Jl (P:=P) (N:=N) (w0:=w0) (L:=L) (d:=d) (ty:=ty) (ps:=ps) (af:=af) (gd:=gd) hc hx hy
 cases g<;>simpa using h
theorem jM{x:Operand}{g:Bool}{t:TypeId}(hx:ev env x=some (.bool g)):Ry P N w0 env L ⟨d, .unOp .not t x,ty,ps,af,gd⟩ (.bool (!g)):=fun a w ha _=>by
 simp only[execOp,ha.ev hx,Op.unary,Sem.run_bind,Sem.run_pure,Result.andThen]
theorem aJ{x:Operand}{vs:Array Value}{i:Nat}{v:Value}(hx:ev env x=some (.tuple vs))(hv:vs[i]? =some v):Ry P N w0 env L ⟨d, .extract x i,ty,ps,af,gd⟩ v:=fun a w ha _=>by
 simp only[execOp,ha.ev hx,Instr.extract,hv,Sem.run_bind,Sem.run_pure,Result.andThen]
def lZ(op:BinOp)(k:IntKind)(a b:Int):Option Value:=
 match op with
 | .add=>some (.int k (k.wrap (a+b)))
 | .sub=>some (.int k (k.wrap (a -b)))
 | .mul=>some (.int k (k.wrap (a*b)))
 | .quo=>if b=0 then none else some (.int k (k.wrap (a.tdiv b)))
 | .rem=>if b=0 then none else some (.int k (a.tmod b))
 | .and=>some (.int k (k.wrap (BitVec.ofInt k.bits a&&&BitVec.ofInt k.bits b).toNat))
 | .or=>some (.int k (k.wrap (BitVec.ofInt k.bits a|||BitVec.ofInt k.bits b).toNat))
 | .xor=>some (.int k (k.wrap (BitVec.ofInt k.bits a^^^BitVec.ofInt k.bits b).toNat))
 | .andNot=>some (.int k (k.wrap (BitVec.ofInt k.bits a&&& ~~~BitVec.ofInt k.bits b).toNat))
 | .eql=>some (.bool (decide (a=b)))
 | .neq=>some (.bool (!decide (a=b)))
 | .lss=>some (.bool (decide (a<b)))
 | .leq=>some (.bool (decide (a<=b)))
 | .gtr=>some (.bool (decide (b<a)))
 | .geq=>some (.bool (decide (b<=a)))
 |_=>none
theorem Jm(op:BinOp)(t:TypeId)(x y:Operand)(k k':IntKind)(a b:Int)(w:World):(eqGuard op t x y (.int k a) (.int k' b)).run P w= .ok () w:=by
 cases op<;>rfl
theorem X9{op:BinOp}{k:IntKind}{a b:Int}{v:Value}(t:TypeId)(h:lZ op k a b=some v)(w:World):(binOp op t (.int k a) (.int k b)).run P w= .ok v w:=by
 cases op<;>simp only[lZ,auD,reduceCtorEq]at h<;>(try split at h)<;>(try simp only[auD,reduceCtorEq]at h)<;>(try subst h)<;>
  simp_all[binOp,Op.intArith,Op.intDiv,Op.intBits,Op.intCmp]<;>rfl
theorem dz{op:BinOp}{k:IntKind}{x y:Operand}{a b:Int}{v:Value}{t u:TypeId}(hx:ev env x=some (.int k a))(hy:ev env y=some (.int k b))(h:lZ op k a b=some v):
  Ry P N w0 env L ⟨d, .binOp op t x y u,ty,ps,af,gd⟩ v:=fun a w ha _=>by
 simp only[execOp,ha.ev hx,ha.ev hy,Sem.run_bind,Jm,X9 t h,Sem.run_pure,Result.andThen]
end
def wX:TypeDesc->Bool
 | .struct _| .array _ _=>true
 |_=>false
class fE(P:Program)(t:TypeId)(n:outParam Nat):Prop where
 row: ∃d,P.underlying t=some d/\wX d=true
 size:(P.info? t).map (·.size)=some n
class fW(P:Program)(t:TypeId):Prop where
 one: ∃d,P.underlying t=some d/\wX d=false
 size:(P.info? t).map (·.size)=some 1
class dG(P:Program)(s:TypeId)(i:Nat)(off:outParam Nat):Prop where
 Ya: ∃fs f m,P.underlying s=some (.struct fs)/\fs[i]? =some f/\f.offset=off/\(P.info? f.type).map (·.size)=some (m+1)
class vp(P:Program)(t:TypeId)(n m:outParam Nat):Prop where
 arr: ∃e,P.underlying t=some (.array n e)/\(P.info? e).map (·.size)=some m
class fw(P:Program)(t:TypeId)(e:outParam TypeId)(m:outParam Nat):Prop where
 fa:P.underlying t=some (.slice e)
 size:(P.info? e).map (·.size)=some m
class nS(P:Program)(t:TypeId)(k:outParam IntKind):Prop where
 fa:P.underlying t=some (.int k)
class eJ(P:Program)(t:TypeId)(v:outParam Value):Prop where
 zero:(P.info? t).map (·.zero)=some (some v)
class aI(P:Program)(f:FuncId):Prop where
 fn: ∃fn,P.funcs[f]? =some fn∧fn.body.isNone=false∧(fn.name== "runtime.NumGoroutine")=false
class Has(L:List aj)(b:Nat)(cs:outParam (Array Value))(T:outParam TypeId)(i:outParam Nat):Prop where
 h:L[i]? =some (aq b cs T)
instance (priority:=high) Has.here {L:List aj}{b:Nat}{cs:Array Value}{T:TypeId}:Has (aq b cs T::L) b cs T 0:=⟨rfl⟩
instance Has.there{L:List aj}{e:aj}{b:Nat}{cs:Array Value}{T:TypeId}{i:Nat}[q:Has L b cs T i]:Has (e::L) b cs T (i+1):=⟨by simpa using q.h⟩
class fF(L:List aj)(i:Nat)(e:aj)(L':outParam (List aj)):Prop where
 h:L.set i e=L'
instance fF.here{L:List aj}{x e:aj}:fF (x::L) 0 e (e::L):=⟨rfl⟩
instance fF.there{L L':List aj}{x e:aj}{i:Nat}[q:fF L i e L']:fF (x::L) (i+1) e (x::L'):=⟨by simp[q.h]⟩
class cg(cs:Array Value)(o:Nat)(v:outParam Value):Prop where
 h:cs[o]? =some v
class nT(cs:Array Value)(o n:Nat)(sub:outParam (Array Value)):Prop where
 size:sub.size=n
 h: ∀j,j<n->cs[o+j]? =sub[j]?
class gk(cs:Array Value)(n:outParam Nat):Prop where
 h:cs.size=n
 one:cs.all (·.oneCell')=true
class kD(P:Program)(f:FuncId)(vs:List Value)(v:outParam Value):Prop where
 h: ∀w,Calls P f vs.toArray w fun e w'=>e= .returned v/\Mem w [] w'
class Ay(P:Program)(t:TypeId)(x y:Value)(r:outParam Bool):Prop where
 h: ∀w,(Op.equalIn 10000 t x y).run P w= .ok r w
 plain:P.eqGuardType P.depth t=false
 agg: ∃xs ys,x= .agg xs/\y= .agg ys
section
variable {P:Program} (w:World)
theorem OZ{t:TypeId}{i:TypeInfo}(h:P.info? t=some i):(typeInfo t).run P w= .ok i w:=by
 simp[typeInfo,h]
theorem l5{t:TypeId}{n:Nat}(h:(P.info? t).map (·.size)=some n):(sizeOf t).run P w= .ok n w:=by
 cases hi:P.info? t with
 |none=>simp[hi]at h
 |some i=>simp[hi]at h;simp[sizeOf,OZ w hi,h]
theorem Fl{t:TypeId}{v:Value}(h:eJ P t v):(zeroValue t).run P w= .ok v w:=by
 have h:=h.zero
 cases hi:P.info? t with
 |none=>simp[hi]at h
 |some i=>simp[hi]at h;simp[zeroValue,OZ w hi,h]
theorem Fm{t:TypeId}{d:TypeDesc}(h:P.underlying t=some d):(isAgg t).run P w= .ok (wX d) w:=by
 cases d<;>simp[isAgg,run_underlying h,wX]
theorem O0{t:TypeId}(h:fW P t){a:Addr}{v:Value}(hc:w.cell? a=some v):(loadVar t a).run P w= .ok v w:=by
 obtain⟨d,hu,hd⟩:=h.one;simp[loadVar,Fm w hu,hd,hc]
theorem Jn{t:TypeId}{n:Nat}(h:fE P t n){a:Addr}{cs:Array Value}(hn:cs.size=n)(hc: ∀j,j<n->w.cell? (a.add j)=cs[j]?):(loadVar t a).run P w= .ok (.agg cs) w:=by
 obtain⟨d,hu,hd⟩:=h.row;have hl:(loadCells a n).run P w= .ok cs w:=by
  have:=run_loadCells_list (P:=P) w a cs.toList (fun j v hv=>by
   have hj:j<n:=by
    have:=(ad2.1 hv).1;simpa[hn]using this
   rw[hc j hj];simpa using hv)
  simpa[hn]using this
 simp[loadVar,Fm w hu,hd,l5 w h.size,hl]
end
section
variable {P:Program} {N:cc} {w0:World} {env:Env} {L:List aj} {d:Option Tmp} {ty:TypeId} {ps:String} {af:Array Edge} {gd:Option (Nat×Bool)}
theorem Addr.ie(b o j:Nat):(⟨b,o,none⟩:Addr).add j=⟨b,o+j,none⟩:=by
 unfold Addr.add;split<;>simp_all
theorem Az{t:TypeId}{x:Operand}{p:Addr}{v:Value}(ht:fW P t)(hx:ev env x=some (.pointer (some p)))(hc: ∀w,Mem w0 L w->w.cell? p=some v):
  Ry P N w0 env L ⟨d, .load t x,ty,ps,af,gd⟩ v:=fun a w ha hw=>by
 simp only[execOp,ha.ev hx,Instr.loadAt,Instr.sureAddr,Sem.run_bind,Sem.run_pure,Result.andThen,O0 w ht (hc w hw)]
theorem CK{t:TypeId}{x:Operand}{p:Addr}{n:Nat}{cs:Array Value}(ht:fE P t n)(hx:ev env x=some (.pointer (some p)))(hn:cs.size=n)(hc: ∀w,Mem w0 L w-> ∀j,j<n->w.cell? (p.add j)=cs[j]?):
  Ry P N w0 env L ⟨d, .load t x,ty,ps,af,gd⟩ (.agg cs):=fun a w ha hw=>by
 simp only[execOp,ha.ev hx,Instr.loadAt,Instr.sureAddr,Sem.run_bind,Sem.run_pure,Result.andThen,Jn w ht hn (hc w hw)]
theorem uc{t:TypeId}{x:Operand}{i b o:Nat}{cs:Array Value}{T:TypeId}{v:Value}(hx:ev env x=some (.pointer (some ⟨b,o,none⟩)))[ht:fW P t][hi:Has L b cs T i](hc:cs[o]? =some v):
  Ry P N w0 env L ⟨d, .load t x,ty,ps,af,gd⟩ v:=Az ht hx fun w hw=>by rw[hw.cell hi.h];exact hc
theorem bO{t:TypeId}{x:Operand}{i b o:Nat}{cs:Array Value}{T:TypeId}{v:Value}(hx:ev env x=some (.pointer (some ⟨b,o,none⟩)))[ht:fW P t][hi:Has L b cs T i][hc:cg cs o v]:
  Ry P N w0 env L ⟨d, .load t x,ty,ps,af,gd⟩ v:=uc hx hc.h
theorem gE{t:TypeId}{x:Operand}{i b n:Nat}{cs:Array Value}{T:TypeId}(hx:ev env x=some (.pointer (some ⟨b,0,none⟩)))[ht:fE P t n][hi:Has L b cs T i][hn:gk cs n]:
  Ry P N w0 env L ⟨d, .load t x,ty,ps,af,gd⟩ (.agg cs):=CK ht hx hn.h fun w hw j _=>by rw[Addr.ie,hw.cell hi.h,atF]
theorem hK{t:TypeId}{x:Operand}{i b o n:Nat}{cs sub:Array Value}{T:TypeId}(hx:ev env x=some (.pointer (some ⟨b,o,none⟩)))[ht:fE P t n][hi:Has L b cs T i][hs:nT cs o n sub]:
  Ry P N w0 env L ⟨d, .load t x,ty,ps,af,gd⟩ (.agg sub):=CK ht hx hs.size fun w hw j hj=>by rw[Addr.ie,hw.cell hi.h];exact hs.h j hj
theorem aL{s:TypeId}{x:Operand}{fi off b o o':Nat}[hf:dG P s fi off](hx:ev env x=some (.pointer (some ⟨b,o,none⟩)))(ho:Nat.add o off=o'):
  Ry P N w0 env L ⟨d, .fieldAddr s x fi,ty,ps,af,gd⟩ (.pointer (some ⟨b,o',none⟩)):=fun a w ha _=>by
 obtain⟨fs,f,m,hu,kh,rH,fj⟩:=hf.Ya;subst ho rH;simp only[execOp,ha.ev hx,Instr.fieldAt,Sem.run_bind,run_underlying hu,Result.andThen,kh,Instr.sureAddr,Sem.run_pure,fieldPlace,l5 w fj,Nat.succ_ne_zero,if_false,Addr.ie,avP]
theorem wY{t:TypeId}{x ix:Operand}{n m b o:Nat}{k:IntKind}{j:Int}[ht:vp P t n m](hx:ev env x=some (.pointer (some ⟨b,o,none⟩)))(hj:ev env ix=some (.int k j))(h0:0<=j)(h1:j<n):
  Ry P N w0 env L ⟨d, .indexAddr t x ix,ty,ps,af,gd⟩ (.pointer (some ⟨b,o+j.toNat*m,none⟩)):=fun a w ha _=>by
 obtain⟨e,hu,fj⟩:=ht.arr;simp only[execOp,ha.ev hx,ha.ev hj,Instr.indexAt,asIntOf,Sem.run_bind,run_underlying hu,Result.andThen,Instr.sureAddr,Sem.run_pure,l5 w fj,h0,h1,and_self,if_true,Addr.ie]
theorem ny{t:TypeId}{x ix:Operand}{n b:Nat}{k:IntKind}{j:Int}[ht:vp P t n 1](hx:ev env x=some (.pointer (some ⟨b,0,none⟩)))(hj:ev env ix=some (.int k j))(h0:0<=j)(h1:j<n):
  Ry P N w0 env L ⟨d, .indexAddr t x ix,ty,ps,af,gd⟩ (.pointer (some ⟨b,j.toNat,none⟩)):=by
 have:=wY (P:=P) (t:=t) (N:=N) (w0:=w0) (L:=L) (d:=d) (ty:=ty) (ps:=ps) (af:=af) (gd:=gd) hx hj h0 h1;simpa using this
theorem O1{t e:TypeId}{x ix:Operand}{m b o len cap:Nat}{k:IntKind}{j:Int}[ht:fw P t e m](hx:ev env x=some (.slice (some ⟨b,o,none⟩) len cap))(hj:ev env ix=some (.int k j))(h0:0<=j)(h1:j<len):
  Ry P N w0 env L ⟨d, .indexAddr t x ix,ty,ps,af,gd⟩ (.pointer (some ⟨b,o+j.toNat*m,none⟩)):=fun a w ha _=>by
 simp only[execOp,ha.ev hx,ha.ev hj,Instr.indexAt,asIntOf,Sem.run_bind,run_underlying ht.fa,Result.andThen,Sem.run_pure,l5 w ht.size,h0,h1,and_self,if_true,Addr.ie]
theorem vq{s t:TypeId}{x:Operand}{k k':IntKind}{n m:Int}[hs:nS P s k'][ht:nS P t k](hx:ev env x=some (.int k' n))(hm:k.wrap n=m):
  Ry P N w0 env L ⟨d, .convert s t x,ty,ps,af,gd⟩ (.int k m):=fun a w ha _=>by
 subst hm;simp only[execOp,ha.ev hx,convert,Sem.run_bind,run_underlying hs.fa,run_underlying ht.fa,Result.andThen,Conv.intToInt,Sem.run_pure]
theorem yO{t e:TypeId}{x:Operand}{m len cap:Nat}{p:Option Addr}[ht:fw P t e m](hx:ev env x=some (.slice p len cap)):
  Ry P N w0 env L ⟨d, .call {callee:= .builtin .len,args:= #[x],argTypes:= #[t]},ty,ps,af,gd⟩ (.int .i64 len):=fun a w ha _=>by
 simp[execOp,ha.ev hx,resolve,invoke,builtin,Builtin.len_,run_underlying ht.fa,goInt,Result.andThen]
theorem Fo{f:FuncId}(hf:aI P f){ρ:Operand->Value}{xs:List Operand}{ts:Array TypeId}(w:World)(Yb:ρ (.func f)= .func (.func f) #[] #[]):
  (execOp ρ ⟨d, .call {callee:= .value (.func f),args:=xs.toArray,argTypes:=ts},ty,ps,af,gd⟩).run P w= .ok (.enter f (xs.map ρ).toArray) w:=by
 obtain⟨fn,h1,h2,h3⟩:=hf.fn;have CL: ¬fn.body=none:=fun e=>by simp[e]at h2
 have wZ: ¬fn.name= "runtime.NumGoroutine" :=by simpa using h3
 simp[execOp,resolve,Yb,Deferred.ofValue,invoke,callFunc,h1,CL,wZ,Result.andThen]
theorem AA{f:FuncId}{xs:List Operand}{ts:Array TypeId}{vs:List Value}{v:Value}[hf:aI P f](hx:hH env xs=some vs)
  (hc: ∀w,Mem w0 L w->Calls P f vs.toArray w fun e w'=>e= .returned v/\Mem w [] w'):
  Yl P N w0 env L ⟨d, .call {callee:= .value (.func f),args:=xs.toArray,argTypes:=ts},ty,ps,af,gd⟩ v:=fun a ha w hw=>by
 unfold Oper.quietAt;rw[Fo hf w rfl,ha.hH hx];exact⟨rfl,hc w hw⟩
theorem rI{f:FuncId}{xs:List Operand}{ts:Array TypeId}{vs:List Value}{v:Value}[hf:aI P f](hx:hH env xs=some vs)[hc:kD P f vs v]:
  Yl P N w0 env L ⟨d, .call {callee:= .value (.func f),args:=xs.toArray,argTypes:=ts},ty,ps,af,gd⟩ v:=AA hx fun w _=>hc.h w
theorem O2{op:BinOp}{t:TypeId}(hm:P.eqGuardType P.depth t=false)(x y:Operand)(xs ys:Array Value)(w:World):(eqGuard op t x y (.agg xs) (.agg ys)).run P w= .ok () w:=run_eqGuard_agg w op t x y xs ys hm
theorem Jo{x y:Operand}{t u:TypeId}{vx vy:Value}{r:Bool}(hx:ev env x=some vx)(hy:ev env y=some vy)[h:Ay P t vx vy r]:
  Ry P N w0 env L ⟨d, .binOp .eql t x y u,ty,ps,af,gd⟩ (.bool r):=fun a w ha _=>by
 obtain⟨xs,ys,e1,e2⟩:=h.agg;subst e1 e2;simp only[execOp,ha.ev hx,ha.ev hy,Sem.run_bind,O2 h.plain,Result.andThen,run_eql_struct,h.h,Sem.run_pure]
theorem Fp{x y:Operand}{t u:TypeId}{vx vy:Value}{r:Bool}(hx:ev env x=some vx)(hy:ev env y=some vy)[h:Ay P t vx vy r]:
  Ry P N w0 env L ⟨d, .binOp .neq t x y u,ty,ps,af,gd⟩ (.bool (!r)):=fun a w ha _=>by
 obtain⟨xs,ys,e1,e2⟩:=h.agg;subst e1 e2;simp only[execOp,ha.ev hx,ha.ev hy,Sem.run_bind,O2 h.plain,Result.andThen,run_neq_struct,h.h,Sem.run_pure]
theorem O3{x y:Operand}{t u:TypeId}{a b:Bool}(hx:ev env x=some (.bool a))(hy:ev env y=some (.bool b))(ht:P.underlying t=some .bool):
  Ry P N w0 env L ⟨d, .binOp .eql t x y u,ty,ps,af,gd⟩ (.bool (a==b)):=fun aa w ha _=>by
 have h1:(Op.equal t (.bool a) (.bool b)).run P w= .ok (a==b) w:=run_equalIn_bool' w 9999 t a b ht;have h2:(eqGuard BinOp.eql t x y (.bool a) (.bool b)).run P w= .ok () w:=rfl;simp only[execOp,ha.ev hx,ha.ev hy,Sem.run_bind,h2,Result.andThen_ok,binOp,h1,Sem.run_pure]
theorem wrap64_in{n:Int}(h: -9223372036854775808<=n/\n<=9223372036854775807):IntKind.i64.wrap n=n:=IntWalk.i64_in n h
theorem sK{x y:Operand}{a b:Int}{t u:TypeId}(hx:ev env x=some (.int .i64 a))(hy:ev env y=some (.int .i64 b))(h: -9223372036854775808<=a+b/\a+b<=9223372036854775807):
  Ry P N w0 env L ⟨d, .binOp .add t x y u,ty,ps,af,gd⟩ (.int .i64 (a+b)):=dz hx hy (by rw[lZ,wrap64_in h])
theorem vr{x y:Operand}{a b:Int}{t u:TypeId}(hx:ev env x=some (.int .i64 a))(hy:ev env y=some (.int .i64 b))(h: -9223372036854775808<=a -b/\a -b<=9223372036854775807):
  Ry P N w0 env L ⟨d, .binOp .sub t x y u,ty,ps,af,gd⟩ (.int .i64 (a -b)):=dz hx hy (by rw[lZ,wrap64_in h])
theorem rJ{x y:Operand}{a b:Int}{t u:TypeId}(hx:ev env x=some (.int .i64 a))(hy:ev env y=some (.int .i64 b))(h: -9223372036854775808<=a*b/\a*b<=9223372036854775807):
  Ry P N w0 env L ⟨d, .binOp .mul t x y u,ty,ps,af,gd⟩ (.int .i64 (a*b)):=dz hx hy (by rw[lZ,wrap64_in h])
theorem mK{x y:Operand}{a b:Int}{t u:TypeId}(hx:ev env x=some (.int .i64 a))(hy:ev env y=some (.int .i64 b))(h:0<=a/\a<=9223372036854775807)(hb:0<b):
  Ry P N w0 env L ⟨d, .binOp .quo t x y u,ty,ps,af,gd⟩ (.int .i64 (a/b)):=dz hx hy (by
 have h2:a/b<=a:=Int.ediv_le_self _ h.1;have h3:0<=a/b:=avb h.1 (by omega);rw[lZ,if_neg (by omega),Int.tdiv_eq_ediv_of_nonneg h.1,wrap64_in (by omega)])
theorem AB{x y:Operand}{a b:Int}{k:IntKind}{t u:TypeId}(hx:ev env x=some (.int k a))(hy:ev env y=some (.int k b))(h:0<=a)(hb:0<b):
  Ry P N w0 env L ⟨d, .binOp .rem t x y u,ty,ps,af,gd⟩ (.int k (a%b)):=dz hx hy (by
 rw[lZ,if_neg (by omega),Int.tmod_eq_emod_of_nonneg h])
def kU(env:Env):List (Nat×Operand)->Option (List (Nat×Value))
 |[]=>some []
 |(i,x)::r=>match ev env x,kU env r with
  |some v,some vs=>some ((i,v)::vs)
  |_,_=>none
theorem O4:kU env []=some []:=rfl
theorem CM{i:Nat}{x:Operand}{r:List (Nat×Operand)}{v:Value}{vs:List (Nat×Value)}(h:ev env x=some v)(h':kU env r=some vs):kU env ((i,x)::r)=some ((i,v)::vs):=by
 simp[kU,h,h']
theorem cO.kU{a:Act}(h:cO N env a): ∀{xs:List (Nat×Operand)} {vs:List (Nat×Value)},kU env xs=some vs->(xs.map fun p=>(p.1,a.eval p.2))=vs
 |[],vs,e=>by simp[ax.kU]at e;simp[e]
 |(i,x)::r,vs,e=>by
  unfold ax.kU at e;split at e
  ·
   rename_i v X8 hv Ax;simp only[auD]at e;subst e;simp[h.ev hv,h.kU Ax]
  simp at e
class pY(P:Program)(t:TypeId)(vs:List (Nat×Value))(v:outParam Value):Prop where
 h: ∀w,(Instr.build t vs.toArray).run P w= .ok v w
theorem di{t:TypeId}{xs:List (Nat×Operand)}{vs:List (Nat×Value)}{v:Value}(hx:kU env xs=some vs)(hb: ∀w,(Instr.build t vs.toArray).run P w= .ok v w):
  Ry P N w0 env L ⟨d, .build t xs.toArray,ty,ps,af,gd⟩ v:=fun a w ha _=>by
 have e:(xs.toArray.map fun(p:Nat×Operand)=>match p with|(i,x)=>(i,a.eval x))=vs.toArray:=by
  rw[←ha.kU hx];simp
 simp only[execOp,e,Sem.run_bind,hb w,Result.andThen,Sem.run_pure]
theorem gF{t:TypeId}{xs:List (Nat×Operand)}{vs:List (Nat×Value)}{v:Value}(hx:kU env xs=some vs)[hb:pY P t vs v]:
  Ry P N w0 env L ⟨d, .build t xs.toArray,ty,ps,af,gd⟩ v:=di hx hb.h
theorem O5{k:IntKind}{i:Int}{y:Nat}(h0:0<=i)(h1:i<=y)(c:BoundsCode)(w:World):(Instr.sliceBound (.int k i) y c).run P w= .ok i.toNat w:=by
 simp[Instr.sliceBound,asIntOf,h0,h1]
theorem O6{t:TypeId}{x hi:Operand}{n m b o:Nat}{k:IntKind}{h:Int}[ht:vp P t n m](hx:ev env x=some (.pointer (some ⟨b,o,none⟩)))(hh:ev env hi=some (.int k h))(h0:0<=h)(h1:h<=n):
  Ry P N w0 env L ⟨d, .slice t x none (some hi) none,ty,ps,af,gd⟩ (.slice (some ⟨b,o,none⟩) h.toNat n):=fun a w ha _=>by
 obtain⟨e,hu,fj⟩:=ht.arr;have e0:(⟨b,o,none⟩:Addr).add 0=⟨b,o,none⟩:=rfl;simp[execOp,ha.ev hx,ha.ev hh,Instr.sliceAt,run_underlying hu,Instr.sureAddr,Instr.sliceBounds,O5 h0 h1,l5 w fj,Result.andThen,e0]
theorem yP{t:TypeId}{x:Operand}{n m b o:Nat}[ht:vp P t n m](hx:ev env x=some (.pointer (some ⟨b,o,none⟩))):
  Ry P N w0 env L ⟨d, .slice t x none none none,ty,ps,af,gd⟩ (.slice (some ⟨b,o,none⟩) n n):=fun a w ha _=>by
 obtain⟨e,hu,fj⟩:=ht.arr;have e0:(⟨b,o,none⟩:Addr).add 0=⟨b,o,none⟩:=rfl;simp[execOp,ha.ev hx,Instr.sliceAt,run_underlying hu,Instr.sureAddr,Instr.sliceBounds,l5 w fj,Result.andThen,e0]
theorem O7{t:TypeId}{x lo:Operand}{n m b o:Nat}{k:IntKind}{l:Int}[ht:vp P t n m](hx:ev env x=some (.pointer (some ⟨b,o,none⟩)))(hl:ev env lo=some (.int k l))(h0:0<=l)(h1:l<n):
  Ry P N w0 env L ⟨d, .slice t x (some lo) none none,ty,ps,af,gd⟩ (.slice (some ⟨b,o+l.toNat*m,none⟩) (n -l.toNat) (n -l.toNat)):=fun a w ha _=>by
 obtain⟨e,hu,fj⟩:=ht.arr;have e0:(if n=l.toNat then(⟨b,o,none⟩:Addr)else(⟨b,o,none⟩:Addr).add (l.toNat*m))=⟨b,o+l.toNat*m,none⟩:=by rw[if_neg (by omega),Addr.ie]
 simp[execOp,ha.ev hx,ha.ev hl,Instr.sliceAt,run_underlying hu,Instr.sureAddr,Instr.sliceBounds,O5 h0 (Int.le_of_lt h1),l5 w fj,Result.andThen,e0]
def nb:IntKind->Nat
 | .i8=>7| .i16=>15| .i32=>31| .i64=>63| .u8=>8| .u16=>16| .u32=>32| .u64=>64
theorem Yc(k:IntKind):nb k<=k.bits:=by cases k<;>decide
theorem qG{k:IntKind}{n:Nat}(h:n<2^nb k):k.wrap (n:Int)=n:=by
 cases k<;>simp[IntKind.wrap,IntKind.bits,IntKind.signed,nb]at* <;>omega
theorem AD(b n:Nat):BitVec.ofInt b (n:Int)=BitVec.ofNat b n:=by
 apply avH;simp
theorem rK{k:IntKind}{n:Nat}(h:n<2^nb k):n<2^k.bits:=atS h (auc (by decide) (Yc k))
variable {x y:Operand} {k k':IntKind} {p q:Nat} {t u:TypeId}
theorem O8{a b:Int}(hx:ev env x=some (.int k a))(hy:ev env y=some (.int k b))(ea:a=p)(eb:b=q)(hp:p<2^nb k)(hq:q<2^nb k):
  Ry P N w0 env L ⟨d, .binOp .and t x y u,ty,ps,af,gd⟩ (.int k ((p&&&q:Nat):Int)):=dz hx hy (by
 subst ea eb;simp only[lZ,AD,BitVec.toNat_and,auQ,atN (rK hp),atN (rK hq)];rw[qG (Nat.and_lt_two_pow _ hq)])
theorem CN{a b:Int}(hx:ev env x=some (.int k a))(hy:ev env y=some (.int k b))(ea:a=p)(eb:b=q)(hp:p<2^nb k)(hq:q<2^nb k):
  Ry P N w0 env L ⟨d, .binOp .or t x y u,ty,ps,af,gd⟩ (.int k ((p|||q:Nat):Int)):=dz hx hy (by
 subst ea eb;simp only[lZ,AD,BitVec.toNat_or,auQ,atN (rK hp),atN (rK hq)];rw[qG (Nat.or_lt_two_pow hp hq)])
theorem Jp{a b:Int}(hx:ev env x=some (.int k a))(hy:ev env y=some (.int k b))(ea:a=p)(eb:b=q)(hp:p<2^nb k)(hq:q<2^nb k):
  Ry P N w0 env L ⟨d, .binOp .xor t x y u,ty,ps,af,gd⟩ (.int k ((p^^^q:Nat):Int)):=dz hx hy (by
 subst ea eb;simp only[lZ,AD,BitVec.toNat_xor,auQ,atN (rK hp),atN (rK hq)];rw[qG (avg hp hq)])
theorem Yd(hp:p<2^nb k)(hq:q<2^nb k):lZ .andNot k p q=some (.int k ((p&&&(2^k.bits -1 -q):Nat):Int)):=by
 simp only[lZ,AD,BitVec.toNat_and,BitVec.toNat_not,auQ,atN (rK hp),atN (rK hq)];rw[qG (auG Nat.and_le_left hp)]
theorem Ye{a b:Int}(h:0<=b)(w:World):(binOp .shr t (.int k a) (.int k' b)).run P w= .ok (.int k (a.fdiv (2^min b.toNat k.bits))) w:=by
 simp[binOp,Op.shift,show ¬b<0 by omega]
theorem Yf{a b:Int}(h:0<=b)(w:World):(binOp .shl t (.int k a) (.int k' b)).run P w= .ok (.int k (k.wrap (a*2^min b.toNat k.bits))) w:=by
 simp[binOp,Op.shift,show ¬b<0 by omega]
theorem CO{a b:Int}(hx:ev env x=some (.int k a))(hy:ev env y=some (.int k b))(ea:a=p)(eb:b=q)(h:p+q<2^nb k):
  Ry P N w0 env L ⟨d, .binOp .add t x y u,ty,ps,af,gd⟩ (.int k ((p+q:Nat):Int)):=dz hx hy (by
 subst ea eb;rw[lZ,←Int.natCast_add,qG h])
theorem Jq{a b:Int}{ts:Array TypeId}(hx:ev env x=some (.int k a))(hy:ev env y=some (.int k b)):
  Ry P N w0 env L ⟨d, .call {callee:= .builtin .min,args:= #[x,y],argTypes:=ts},ty,ps,af,gd⟩ (.int k (min a b)):=fun aa w ha _=>by
 have e:(if b<a then b else a)=min a b:=by rw[Int.min_def];split<;>split<;>omega
 simp[execOp,ha.ev hx,ha.ev hy,resolve,invoke,builtin,Builtin.min_,Builtin.min2,e]
theorem w7{a b:Int}{ts:Array TypeId}(hx:ev env x=some (.int k a))(hy:ev env y=some (.int k b)):
  Ry P N w0 env L ⟨d, .call {callee:= .builtin .max,args:= #[x,y],argTypes:=ts},ty,ps,af,gd⟩ (.int k (max a b)):=fun aa w ha _=>by
 have e:(if a<b then b else a)=max a b:=by rw[Int.max_def];split<;>split<;>omega
 simp[execOp,ha.ev hx,ha.ev hy,resolve,invoke,builtin,Builtin.max_,Builtin.max2,e]
theorem O9{ix:Operand}{s:ByteArray}{j:Int}{v:Nat}(hu:P.underlying t=some .string)(hx:ev env x=some (.string s))(hj:ev env ix=some (.int k j))(h0:0<=j)(hv:(s[j.toNat]?).map (·.toNat)=some v):
  Ry P N w0 env L ⟨d, .index t x ix,ty,ps,af,gd⟩ (.int .u8 v):=fun a w ha _=>by
 cases hs:s[j.toNat]?with
 |none=>simp[hs]at hv
 |some b=>
  simp[hs]at hv;simp[execOp,ha.ev hx,ha.ev hj,Instr.index,asIntOf,run_underlying hu,h0,hs,hv,Result.andThen]
theorem kE{s:TypeId}{n:Nat}[hs:nS P s k'][ht:nS P t k](hx:ev env x=some (.int k' n))(hn:n<2^nb k):
  Ry P N w0 env L ⟨d, .convert s t x,ty,ps,af,gd⟩ (.int k n):=vq hx (qG hn)
theorem Jr{s:TypeId}{n:Int}[hs:nS P s k'][ht:nS P t k](hx:ev env x=some (.int k' n))(h0:0<=n)(hn:n.toNat<2^nb k):
  Ry P N w0 env L ⟨d, .convert s t x,ty,ps,af,gd⟩ (.int k n):=vq hx (by
 have:=qG hn;rwa [aub h0]at this)
theorem w8{b:Int}(hx:ev env x=some (.int k p))(hy:ev env y=some (.int k' b))(hp:p<2^nb k)(hb:0<=b):
  Ry P N w0 env L ⟨d, .binOp .shr t x y u,ty,ps,af,gd⟩ (.int k ((p/2^b.toNat:Nat):Int)):=fun a w ha _=>by
 have e:((p:Int).fdiv (2^min b.toNat k.bits))=((p/2^b.toNat:Nat):Int):=by
  rw[Int.fdiv_eq_ediv_of_nonneg _ (Int.pow_nonneg (by decide)),show((2:Int)^min b.toNat k.bits)=((2^min b.toNat k.bits:Nat):Int) by simp,←Int.natCast_ediv];congr 1
  by_cases h:b.toNat<=k.bits
  ·
   rw[avI h]
  ·
   rw[Nat.min_eq_right (by omega),Nat.div_eq_of_lt (rK hp),Nat.div_eq_of_lt (atS (rK hp) (auc (by decide) (by omega)))]
 simp only[execOp,ha.ev hx,ha.ev hy,Sem.run_bind,Jm,Ye hb,e,Sem.run_pure,Result.andThen]
theorem Fq{a b:Int}(hx:ev env x=some (.int k a))(hy:ev env y=some (.int k' b))(hb:0<=b):
  Ry P N w0 env L ⟨d, .binOp .shl t x y u,ty,ps,af,gd⟩ (.int k (k.wrap (a*2^min b.toNat k.bits))):=fun aa w ha _=>by
 simp only[execOp,ha.ev hx,ha.ev hy,Sem.run_bind,Jm,Yf hb,Sem.run_pure,Result.andThen]
end
section
variable {P:Program} {N:cc} {w0:World} {env:Env} {L:List aj} {l:List Oper} {Q:Exit->Act->World->Prop} {F:Act->Prop} {fs:List Nat} {k:Nat} {rest:List Oper}
def Ex(N:cc)(w0:World)(Q:Exit->Act->World->Prop)(e:Exit)(env:Env)(L:List aj):Prop:= ∀a w,cO N env a->Mem w0 L w->Q e a w
def Sq(P:Program)(N:cc)(w0:World)(l:List Oper)(Q:Exit->Act->World->Prop)(rest:List Oper)(env:Env)(L:List aj):Prop:=
 ∀a w,cO N env a->Mem w0 L w->wpList P l.toArray Q rest a w
def Qt(P:Program)(N:cc)(w0:World)(l:List Oper)(fs:List Nat)(F:Act->Prop)(k:Nat)(rest:List Oper)(env:Env)(L:List aj):Prop:=
 ∀a,cO N env a->nQ P l.toArray fs (Mem w0 L) F k rest a
theorem fc(h:Ex N w0 Q .normal env L):Sq P N w0 l Q [] env L:=h
theorem Pa(h:Ex N w0 Q .normal env L):Qt P N w0 l fs (fun a'=> ∀w',Mem w0 L w'->Q .normal a' w') k [] env L:=fun a ha w' gN=>h a w' ha gN
def Fr(P:Program)(N:cc)(w0:World)(Lq:List aj)(l:List Oper)(n:Nat)(Q:Exit->Act->World->Prop)(fs:List Nat)(env:Env)(L:List aj):Prop:=
 (∀w,Mem w0 L w->Mem w0 Lq w)-> ∀a,cO N env a->vn P l n Q w0 Lq fs a L
theorem w9{n:Nat}{gs:List Nat}{L':List aj}(h:Fr P N w0 L l n Q gs env L')(hq: ∀w,Mem w0 L' w->Mem w0 L w:=by exact fun _ h=>h):Qt P N w0 l fs (fun a'=>vn P l n Q w0 L gs a' L') k [] env L:=fun a ha=>h hq a ha
theorem xd{n:Nat}{Lq:List aj}(h:Sq P N w0 l Q (l.drop n) env L):Fr P N w0 Lq l n Q [] env L:=fun _ a ha w hw=>h a w ha hw
theorem Yg{o:Oper}(hk:Qt P N w0 l fs F (k+1) rest env L)(hf:fs.contains k=true:=by rfl):Qt P N w0 l fs F k (o::rest) env L:=fun a ha=>by
 unfold nQ;rw[if_pos hf];exact hk a ha
theorem qH{o:Oper}{y:Nat->Option Bool}(h:o.guard=none):Region.wanted o y=true:=by simp[Region.wanted,h]
theorem yQ{o:Oper}{a:Act}{j t:Nat}{b g:Bool}(ha:cO N env a)(h:o.guard=some (j,b))(hj:(l[j]?).bind (·.dst)=some t)(hv:look env t=some (.bool g)):
  Region.wanted o (yielded l.toArray a.tmps)=(g==b):=by
 have:=ha.get _ _ hv;simp[Region.wanted,h,yielded,hj,this]
theorem Js{o:Oper}{a:Act}{j t:Nat}{b c g:Bool}(ha:cO N env a)(h:o.guard=some (j,b))(hj:(l[j]?).bind (·.dst)=some t)(hv:look env t=some (if c=true then .bool g else undef)):
  Region.wanted o (yielded l.toArray a.tmps)=(c&&(g==b)):=by
 have:=ha.get _ _ hv
 cases c
 ·
  simp only[atD,if_false]at this;simp[Region.wanted,h,yielded,hj,this,undef]
 ·
  simp only[if_true]at this;simp[Region.wanted,h,yielded,hj,this]
theorem AE{o:Oper}{a:Act}{w:World}{v:Value}{K:Act->World->Prop}(ha:cO N env a)(hw:Mem w0 L w)(h:Yl P N w0 env L o v)(hk: ∀w',Mem w0 L w'->K (a.put o.dst v) w'):o.wp P a w K Q:=by
 have h1:=h a ha w hw;unfold Oper.quietAt at h1;unfold Oper.wp;generalize(execOp a.eval o).run P w=r at h1;unfold Oper.quietUpon at h1;split at h1
 ·
  obtain⟨rfl,rfl⟩:=h1;exact hk _ hw
 ·
  obtain⟨rfl,rfl⟩:=h1;exact hk _ hw
 ·
  obtain⟨rfl,hc⟩:=h1;exact hc.mono fun e qE ⟨he,hm⟩=>by subst he;exact hk _ (by simpa using hw.call hm)
 exact h1.elim
theorem eC{o:Oper}{v:Value}(h:Yl P N w0 env L o v)(hk:Sq P N w0 l Q rest (cB env o.dst v) L)(hg:o.guard=none:=by rfl)(hd:du N o.dst=true:=by rfl):Sq P N w0 l Q (o::rest) env L:=fun a w ha hw=>by
 unfold wpList;rw[if_pos (qH hg)];exact .inl (AE ha hw h fun w' gN=>hk _ _ (ha.put hd v) gN)
theorem ag{o:Oper}{v:Value}(h:Ry P N w0 env L o v)(hk:Sq P N w0 l Q rest (cB env o.dst v) L)(hg:o.guard=none:=by rfl)(hd:du N o.dst=true:=by rfl):Sq P N w0 l Q (o::rest) env L:=eC h.yl hk hg hd
theorem qI{o:Oper}{v:Value}(h:Yl P N w0 env L o v)(hk:Qt P N w0 l fs F (k+1) rest (cB env o.dst v) L)(hg:o.guard=none:=by rfl)(hd:du N o.dst=true:=by rfl)(hf:fs.contains k=false:=by rfl):Qt P N w0 l fs F k (o::rest) env L:=fun a ha=>by
 unfold nQ;rw[if_neg (by rw[hf];exact auf)];rw[if_pos (qH hg)];exact⟨v,h a ha,hk _ (ha.put hd v)⟩
theorem bE{o:Oper}{v:Value}(h:Ry P N w0 env L o v)(hk:Qt P N w0 l fs F (k+1) rest (cB env o.dst v) L)(hg:o.guard=none:=by rfl)(hd:du N o.dst=true:=by rfl)(hf:fs.contains k=false:=by rfl):Qt P N w0 l fs F k (o::rest) env L:=qI h.yl hk hg hd hf
theorem look_eq{t:Nat}{u v:Value}(h:look env t=some u)(e:u=v):look env t=some v:=by rw[h,e]
theorem gG{o:Oper}{v:Value}{j t:Nat}{g:Bool}(hg:o.guard=some (j,true))(hj:(l[j]?).bind (·.dst)=some t)(hv:look env t=some (.bool g))(h:g=true->Yl P N w0 env L o v)
  (hk:Sq P N w0 l Q rest (cB env o.dst (if g=true then v else undef)) L) (hd:du N o.dst=true:=by rfl):Sq P N w0 l Q (o::rest) env L:=fun a w ha hw=>by
 unfold wpList;rw[yQ ha hg hj hv]
 cases g
 ·
  exact hk _ _ (ha.put hd undef) hw
 ·
  exact .inl (AE ha hw (h rfl) fun w' gN=>hk _ _ (ha.put hd v) gN)
theorem fO{o:Oper}{v:Value}{j t:Nat}{g:Bool}(hg:o.guard=some (j,true))(hj:(l[j]?).bind (·.dst)=some t)(hv:look env t=some (.bool g))(h:g=true->Yl P N w0 env L o v)
  (hk:Qt P N w0 l fs F (k+1) rest (cB env o.dst (if g=true then v else undef)) L) (hd:du N o.dst=true:=by rfl) (hf:fs.contains k=false:=by rfl):Qt P N w0 l fs F k (o::rest) env L:=fun a ha=>by
 unfold nQ;rw[if_neg (by rw[hf];exact auf)];rw[yQ ha hg hj hv]
 cases g
 ·
  exact hk _ (ha.put hd undef)
 ·
  exact⟨v,h rfl a ha,hk _ (ha.put hd v)⟩
theorem bn{o:Oper}{v:Value}{j t:Nat}{g:Bool}(hg:o.guard=some (j,false))(hj:(l[j]?).bind (·.dst)=some t)(hv:look env t=some (.bool g))(h:(!g)=true->Yl P N w0 env L o v)
  (hk:Sq P N w0 l Q rest (cB env o.dst (if(!g)=true then v else undef)) L) (hd:du N o.dst=true:=by rfl):Sq P N w0 l Q (o::rest) env L:=fun a w ha hw=>by
 unfold wpList;rw[yQ ha hg hj hv]
 cases g
 ·
  exact .inl (AE ha hw (h rfl) fun w' gN=>hk _ _ (ha.put hd v) gN)
 ·
  exact hk _ _ (ha.put hd undef) hw
theorem eK{o:Oper}{v:Value}{j t:Nat}{g:Bool}(hg:o.guard=some (j,false))(hj:(l[j]?).bind (·.dst)=some t)(hv:look env t=some (.bool g))(h:(!g)=true->Yl P N w0 env L o v)
  (hk:Qt P N w0 l fs F (k+1) rest (cB env o.dst (if(!g)=true then v else undef)) L) (hd:du N o.dst=true:=by rfl) (hf:fs.contains k=false:=by rfl):Qt P N w0 l fs F k (o::rest) env L:=fun a ha=>by
 unfold nQ;rw[if_neg (by rw[hf];exact auf)];rw[yQ ha hg hj hv]
 cases g
 ·
  exact⟨v,h rfl a ha,hk _ (ha.put hd v)⟩
 ·
  exact hk _ (ha.put hd undef)
theorem oT{o:Oper}{v:Value}{j t:Nat}{c g:Bool}(hg:o.guard=some (j,true))(hj:(l[j]?).bind (·.dst)=some t)(hv:look env t=some (if c=true then .bool g else undef))(h:(c&&g)=true->Yl P N w0 env L o v)
  (hk:Sq P N w0 l Q rest (cB env o.dst (if(c&&g)=true then v else undef)) L) (hd:du N o.dst=true:=by rfl):Sq P N w0 l Q (o::rest) env L:=fun a w ha hw=>by
 unfold wpList;rw[Js ha hg hj hv]
 cases c<;>cases g
 ·
  exact hk _ _ (ha.put hd undef) hw
 ·
  exact hk _ _ (ha.put hd undef) hw
 ·
  exact hk _ _ (ha.put hd undef) hw
 ·
  exact .inl (AE ha hw (h rfl) fun w' gN=>hk _ _ (ha.put hd v) gN)
theorem vt{o:Oper}{v:Value}{j t:Nat}{c g:Bool}(hg:o.guard=some (j,false))(hj:(l[j]?).bind (·.dst)=some t)(hv:look env t=some (if c=true then .bool g else undef))(h:(c&& !g)=true->Yl P N w0 env L o v)
  (hk:Sq P N w0 l Q rest (cB env o.dst (if(c&& !g)=true then v else undef)) L) (hd:du N o.dst=true:=by rfl):Sq P N w0 l Q (o::rest) env L:=fun a w ha hw=>by
 unfold wpList;rw[Js ha hg hj hv]
 cases c<;>cases g
 ·
  exact hk _ _ (ha.put hd undef) hw
 ·
  exact hk _ _ (ha.put hd undef) hw
 ·
  exact .inl (AE ha hw (h rfl) fun w' gN=>hk _ _ (ha.put hd v) gN)
 ·
  exact hk _ _ (ha.put hd undef) hw
theorem sL{o:Oper}{v:Value}{j t:Nat}{c g:Bool}(hg:o.guard=some (j,false))(hj:(l[j]?).bind (·.dst)=some t)(hv:look env t=some (if c=true then .bool g else undef))(h:(c&& !g)=true->Yl P N w0 env L o v)
  (hk:Qt P N w0 l fs F (k+1) rest (cB env o.dst (if(c&& !g)=true then v else undef)) L) (hd:du N o.dst=true:=by rfl) (hf:fs.contains k=false:=by rfl):Qt P N w0 l fs F k (o::rest) env L:=fun a ha=>by
 unfold nQ;rw[if_neg (by rw[hf];exact auf)];rw[Js ha hg hj hv]
 cases c<;>cases g
 ·
  exact hk _ (ha.put hd undef)
 ·
  exact hk _ (ha.put hd undef)
 ·
  exact⟨v,h rfl a ha,hk _ (ha.put hd v)⟩
 ·
  exact hk _ (ha.put hd undef)
theorem xe{x:Operand}{c g:Bool}{v u:Value}(hc:c=true)(h:ev env x=some (if(c&&g)=true then v else u)):ev env x=some (if g=true then v else u):=by subst hc;simpa using h
theorem az{x:Operand}{g:Bool}{v u:Value}(hg:g=true)(h:ev env x=some (if g=true then v else u)):ev env x=some v:=by rw[h,if_pos hg]
variable {d:Option Tmp} {ty:TypeId} {ps:String} {af:Array Edge}
theorem oU{o:Oper}(hg:o.guard=none)(hd:du N o.dst=true)
  (h: ∀a w,cO N env a->Mem w0 L w-> ∃v w' L',(execOp a.eval o).run P w= .ok (.value v) w'/\Mem w0 L' w'/\Sq P N w0 l Q rest (cB env o.dst v) L'):Sq P N w0 l Q (o::rest) env L:=fun a w ha hw=>by
 unfold wpList;rw[if_pos (qH hg)];obtain⟨v,w',L',h1,h2,h3⟩:=h a w ha hw;refine .inl ?_;unfold Oper.wp;rw[h1];exact h3 _ _ (ha.put hd v) h2
theorem Fs{o:Oper}(hg:o.guard=none)(hd:o.dst=none)
  (h: ∀a w,cO N env a->Mem w0 L w-> ∃w' L',(execOp a.eval o).run P w= .ok .skip w'/\Mem w0 L' w'/\Sq P N w0 l Q rest env L'):Sq P N w0 l Q (o::rest) env L:=fun a w ha hw=>by
 unfold wpList;rw[if_pos (qH hg)];obtain⟨w',L',h1,h2,h3⟩:=h a w ha hw;refine .inl ?_;unfold Oper.wp;rw[h1];show wpList P l.toArray Q rest (a.put o.dst undef) w';rw[hd];exact h3 _ _ ha h2
theorem Jt{t:TypeId}{x:Operand}{v:Value}(hx:ev env x=some v)(hk: ∀b,Sq P N w0 l Q rest (cB env d (.pointer (some ⟨b,0,none⟩))) (aq b v.cells t::L))(hd:du N d=true:=by rfl):
  Sq P N w0 l Q (⟨d, .box t x,ty,ps,af,none⟩::rest) env L:=
 oU rfl hd fun a w ha hw=>⟨_,_,_,by simp only[execOp,ha.ev hx,Instr.box,newVar,newRow,Sem.run_bind,newObj,Sem.run,Result.andThen,Sem.run_pure];rfl,hw.alloc v.cells t,hk _⟩
theorem Pb{t:TypeId}{z:Value}[hz:eJ P t z](hk: ∀b,Sq P N w0 l Q rest (cB env d (.pointer (some ⟨b,0,none⟩))) (aq b z.cells t::L))(hd:du N d=true:=by rfl):
  Sq P N w0 l Q (⟨d, .alloc t,ty,ps,af,none⟩::rest) env L:=
 oU rfl hd fun a w ha hw=>⟨_,_,_,by simp only[execOp,Instr.alloc,newVar,newRow,Sem.run_bind,Fl w hz,newObj,Sem.run,Result.andThen,Sem.run_pure];rfl,hw.alloc z.cells t,hk _⟩
theorem bN{t:TypeId}{x:Operand}{cs:Array Value}(hx:ev env x=some (.agg cs))(hk: ∀b,Sq P N w0 l Q rest (cB env d (.pointer (some ⟨b,0,none⟩))) (aq b cs t::L))(hd:du N d=true:=by rfl):
  Sq P N w0 l Q (⟨d, .box t x,ty,ps,af,none⟩::rest) env L:=Jt hx hk hd
theorem bl{t:TypeId}{cs:Array Value}[hz:eJ P t (.agg cs)](hk: ∀b,Sq P N w0 l Q rest (cB env d (.pointer (some ⟨b,0,none⟩))) (aq b cs t::L))(hd:du N d=true:=by rfl):
  Sq P N w0 l Q (⟨d, .alloc t,ty,ps,af,none⟩::rest) env L:=Pb (z:= .agg cs) hk hd
theorem Yh{cs:Array Value}(h:cs.all (·.oneCell')=true)(a b:Nat):(cs.extract a b).all (·.oneCell')=true:=by
 rw[atM]at h⊢;intro v hv;have:v∈(cs.extract a b).toList:=Array.mem_toList_iff.2 hv;rw[Array.toList_extract]at this;simp only[List.extract]at this;exact h v (by simpa using avQ (au0 this))
theorem eU{t:TypeId}{x y:Operand}{i b o:Nat}{cs:Array Value}{T:TypeId}{v:Value}(hx:ev env x=some (.pointer (some ⟨b,o,none⟩)))(hy:ev env y=some v)[ht:fW P t][hh:Has L b cs T i](ho:o<cs.size)(hv:v.oneCell'=true){cs':Array Value}{L':List aj}(iE:cs.setIfInBounds o v=cs')[hu:fF L i (aq b cs' T) L'](hk:Sq P N w0 l Q rest env L'):
  Sq P N w0 l Q (⟨none, .store t x y,ty,ps,af,none⟩::rest) env L:=
 Fs rfl rfl fun a w ha hw=>by
  have hi:=hh.h;have hb:=hw.block hi;have hc:w.cell? ⟨b,o,none⟩=some cs[o]:=by rw[hw.cell hi];simp[ho]
  have hf:w.frozen? ⟨b,o,none⟩=false:=frozen_of_row w b o cs T hb;subst iE;refine⟨w.setCell ⟨b,o,none⟩ v,_,?_,?_,hk⟩
  ·
   have h1:(storeCells ⟨b,o,none⟩ [v]).run P w= .ok () (w.setCell ⟨b,o,none⟩ v):=by
    have:=run_storeCells_at (P:=P) b o T [v] 0 cs w hb (by simp;omega) (by simpa using hv);rw[this,setCell_eq_setRow w b o cs T (0,0) v hb];congr 2;apply avR;simp[List.set_eq_take_append_cons_drop,ho]
   have iE:v.cells= #[v]:=by cases v<;>simp_all[Value.oneCell',Value.cells]
   simp only[execOp,ha.ev hx,ha.ev hy,Instr.storeAt,Instr.sureAddr,storeVar,Sem.run_bind,Sem.run_pure,Result.andThen,l5 w ht.size,iE];simp[h1]
  ·
   rw[setCell_eq_setRow w b o cs T (0,0) v hb];rw[←hu.h];exact hw.setRow hi _
def over(cs:Array Value)(o:Nat)(vs:Array Value):Array Value:=(cs.toList.take o++vs.toList++cs.toList.drop (o+vs.size)).toArray
theorem CP{t:TypeId}{x y:Operand}{i b o n:Nat}{cs vs:Array Value}{T:TypeId}(hx:ev env x=some (.pointer (some ⟨b,o,none⟩)))(hy:ev env y=some (.agg vs))[ht:fE P t n][hh:Has L b cs T i][hs:gk vs n](ho:o+n<=cs.size){cs':Array Value}{L':List aj}(iE:over cs o vs=cs')[hu:fF L i (aq b cs' T) L'](hk:Sq P N w0 l Q rest env L'):
  Sq P N w0 l Q (⟨none, .store t x y,ty,ps,af,none⟩::rest) env L:=
 Fs rfl rfl fun a w ha hw=>by
  have hi:=hh.h;have hn:=hs.h;have hv:=hs.one;have hb:=hw.block hi;subst iE;refine⟨_,_,?_,by rw[←hu.h];exact hw.setRow hi _,hk⟩;have h1:=run_storeCells_at (P:=P) b o T vs.toList 0 cs w hb (by simp;omega) (fun v l6=>(atM.1 hv) v (by simpa using l6));simp only[execOp,ha.ev hx,ha.ev hy,Instr.storeAt,Instr.sureAddr,storeVar,Value.cells,Sem.run_bind,Sem.run_pure,Result.andThen,l5 w ht.size,hn];simp[h1,over]
theorem xf{t:TypeId}{x y:Operand}{i b n:Nat}{cs vs:Array Value}{T:TypeId}(hx:ev env x=some (.pointer (some ⟨b,0,none⟩)))(hy:ev env y=some (.agg vs))[ht:fE P t n][hh:Has L b cs T i][hs:gk vs n][hc:gk cs n]{L':List aj}[hu:fF L i (aq b vs T) L'](hk:Sq P N w0 l Q rest env L'):
  Sq P N w0 l Q (⟨none, .store t x y,ty,ps,af,none⟩::rest) env L:=by
 have hn:=hs.h;have Yi:=hc.h;refine CP hx hy (by omega) (?_:over cs 0 vs=vs) hk;apply avR;simp[over];omega
theorem Ju{x y:Operand}{tx gP e:TypeId}{i b o dl dc sl sc:Nat}{a:Addr}{cs vs:Array Value}{T:TypeId}(hx:ev env x=some (.slice (some ⟨b,o,none⟩) dl dc))(hy:ev env y=some (.slice (some a) sl sc))
  [ht:fw P tx e 1] [hh:Has L b cs T i] (hn:vs.size=Nat.min sl dl) (nz: ∀w,Mem w0 L w-> ∀j,j<vs.size->w.cell? (a.add j)=vs[j]?) (hv:vs.all (·.oneCell')=true) (ho:o+vs.size<=cs.size)
  {cs':Array Value} {L':List aj} (iE:over cs o vs=cs') [hu:fF L i (aq b cs' T) L'] (hk:Sq P N w0 l Q rest (cB env d (.int .i64 vs.size)) L') (hd:du N d=true:=by rfl):
  Sq P N w0 l Q (⟨d, .call {callee:= .builtin .copy,args:= #[x,y],argTypes:= #[tx,gP]},ty,ps,af,none⟩::rest) env L:=
 oU rfl hd fun aa w ha hw=>by
  have hi:=hh.h;have hb:=hw.block hi;subst iE;have gO:=run_copy_row (P:=P) w tx gP ty e b o dl dc a sl sc cs T vs.toList ht.fa ht.size hb (by simpa using hn)
   (fun j v l6=>by
    have hj:j<vs.size:=by simpa using(ad2.1 l6).1
    rw[nz w hw j hj];simpa using l6) (by simpa using ho) (fun v l6=>(atM.1 hv) v (by simpa using l6))
  refine⟨_,w.setRow b (over cs o vs),_,?_,by rw[←hu.h];exact hw.setRow hi _,hk⟩;simp[execOp,ha.ev hx,ha.ev hy,resolve,invoke,builtin,gO,Result.andThen,goInt,over]
end
section
variable {P:Program} {N:cc} {w0:World} {env:Env} {L Lq:List aj} {l:List Oper} {n j:Nat} {js:List Nat} {Q:Exit->Act->World->Prop} {d:Option Tmp} {ty:TypeId} {ps:String} {af:Array Edge}
theorem Yj{X:Type}{val:X->Value}{L':X->List aj}{pr:X->Prop}{f:FuncId}{xs:List Operand}{ts:Array TypeId}{vs:List Value}(hj:l[j]? =some ⟨d, .call {callee:= .value (.func f),args:=xs.toArray,argTypes:=ts},ty,ps,af,none⟩)[hf:aI P f](hx:hH env xs=some vs)
  (hc: ∀w,Mem w0 L w->Calls P f vs.toArray w fun e w'=> ∃x,e= .returned (val x)/\pr x/\Mem w0 (L' x) w') (hL: ∀x w,Mem w0 (L' x) w->Mem w0 Lq w) (hk: ∀x,pr x->Fr P N w0 Lq l n Q js (cB env d (val x)) (L' x)) (hd:du N d=true:=by rfl):
  Fr P N w0 Lq l n Q (j::js) env L:=fun _ a ha=>
 ⟨_,hj,rfl,fun w hw=>by
  rw[Fo hf w rfl,ha.hH hx];exact⟨rfl,(hc w hw).mono fun e w' ⟨x,he,hp,hm⟩=>⟨val x,L' x,he,hm,hL x,hk x hp (hL x) _ (ha.put hd _)⟩⟩⟩
end
section
variable {P:Program} {N:cc} {w0:World} {env:Env} {L:List aj} {Q:Exit->Act->World->Prop}
def Cw(P:Program)(N:cc)(w0:World)(Q:Exit->Act->World->Prop)(c:Code)(env:Env)(L:List aj):Prop:= ∀a w,cO N env a->Mem w0 L w->c.wpIn (iY N.ro) 0 P Q a w
theorem eE{x y:Code}(h:Cw P N w0 (Exit.then (y.wpIn (iY N.ro) 0 P Q) Q) x env L):Cw P N w0 Q (.seq x y) env L:=fun a w ha hw=>wpIn_seq (h a w ha hw)
theorem fe{id:Nat}{l:List Oper}[jA Q](h:Sq P N w0 l Q l env L)(cA:qC l=true:=by kernel_rfl):Cw P N w0 Q (.region id l.toArray false) env L:=fun a w ha hw=>XV cA (h a w ha hw)
theorem Jv{ops:Array Oper}{C:World->Prop}{F:Act->Prop}(hC: ∀w w',C w->Mem w [] w'->C w'): ∀(rest:List Oper) (k:Nat) (a:Act),nQ P ops [] C F k rest a->wpQuiet P ops C F rest a
 |[],_,_,h=>h
 |o::rest,k,a,h=>by
  unfold nQ at h;rw[if_neg (by simp)]at h;unfold wpQuiet;split
  ·
   rename_i hw;rw[if_pos hw]at h;obtain⟨v,h1,h2⟩:=h;refine⟨v,fun w Fu=>?_,Jv hC rest (k+1) _ h2⟩;have h3:=h1 w Fu;unfold Oper.quietAt at h3⊢;generalize(execOp a.eval o).run P w=r at h3;unfold Oper.quietUpon at h3⊢;split at h3
   ·
    exact h3
   ·
    exact h3
   ·
    exact⟨h3.1,by obtain⟨rfl,vo⟩:=h3;exact vo.mono fun e qE ⟨he,hm⟩=>⟨he,hC _ _ Fu hm⟩⟩
   exact h3.elim
  rename_i hw;rw[if_neg hw]at h;exact Jv hC rest (k+1) _ h
theorem gm{id:Nat}{l:List Oper}[jA Q](hm:P.follows .mixedOrders=true)(hB:Region.lexB .any l.toArray=true)(h:Qt P N w0 l [] (fun a'=> ∀w',Mem w0 L w'->Q .normal a' w') 0 l env L)(cA:qC l=true:=by kernel_rfl):Cw P N w0 Q (.region id l.toArray true) env L:=fun a _ ha hw=>
 XW cA (C:=Mem w0 L) hm hB hw.E5 (by simpa using Jv (fun w w' Fu gN=>by simpa using Fu.call gN) l 0 a (h a ha))
theorem Pc{id:Nat}{l:List Oper}[jA Q](n:Nat)(fs:List Nat)(Lq:List aj)(hq: ∀w,Mem w0 L w->Mem w0 Lq w)(hm:P.follows .mixedOrders=true)(hB:Fi l fs n=true)(h:Qt P N w0 l fs (fun a'=>vn P l n Q w0 Lq fs a' L) 0 (l.take n) env Lq)(cA:qC l=true:=by kernel_rfl):Cw P N w0 Q (.region id l.toArray true) env L:=fun a _ ha hw=>
 X6 n cA hm hB hw.E5 hq (h a ha)
theorem yR{id:Nat}{l:List Oper}[jA Q](n:Nat)(fs:List Nat)(hm:P.follows .mixedOrders=true)(hB:Fi l fs n=true)(h:Qt P N w0 l fs (fun a'=>vn P l n Q w0 L fs a' L) 0 (l.take n) env L)(cA:qC l=true:=by kernel_rfl):Cw P N w0 Q (.region id l.toArray true) env L:=
 Pc n fs L (fun _ h=>h) hm hB h cA
theorem gn{c:Operand}{x y:Code}{g:Bool}(hc:ev env c=some (.bool g))(hx:g=true->Cw P N w0 Q x env L)(hy:g=false->Cw P N w0 Q y env L):Cw P N w0 Q (.cond c x y) env L:=fun a w ha hw=>
 wpIn_cond_split (ha.ev hc) (fun h=>hx h a w ha hw) (fun h=>hy h a w ha hw)
theorem ud{id:Nat}{c:Code}(h:Cw P N w0 (Exit.inBlock id Q) c env L):Cw P N w0 Q (.block id c) env L:=fun a w ha hw=>wpIn_block (h a w ha hw)
theorem sM(h:Ex N w0 Q .normal env L):Cw P N w0 Q .skip env L:=fun a w ha hw=>wpIn_skip (h a w ha hw)
theorem CQ{id:Nat}(h:Ex N w0 Q (.exit id) env L):Cw P N w0 Q (.exit id) env L:=fun a w ha hw=>wpIn_exit (h a w ha hw)
theorem sN(h:Ex N w0 Q .ret env L):Cw P N w0 Q .ret env L:=fun a w ha hw=>wpIn_ret (h a w ha hw)
theorem bR{c:Code}{X:Type}(kF:X->Env)(LI:X->List aj)(inv:X->Prop)(m:X->Nat)(x0:X)(h0:inv x0)(hs:Sub (kF x0) env)(hL: ∀w,Mem w0 L w->Mem w0 (LI x0) w)
  (round: ∀x,inv x->Cw P N w0 (Exit.then (fun a w=> ∃x',inv x'/\m x'<m x/\cO N (kF x') a/\Mem w0 (LI x') w) Q) c (kF x) (LI x)):Cw P N w0 Q (.loop c) env L:=by
 intro a0 w1 yS mL b k cs l8 hb hr;have key: ∀n x,m x=n->inv x-> ∀a w,cO N (kF x) a->Mem w0 (LI x) w->
   ∃e a' w',Q e a' w'/\ArrivesIn (Machine.fenced P (iY N.ro)) P (lone (b.atR a (.code c:: .inLoop c::k)) cs w) b k cs e a' w':=by
  intro n
  induction n using Nat.strongRecOn with
  |_ n ih=>
   intro x hm hI a w ha hw;obtain⟨e,qJ,qK,hq,nA⟩:=round x hI a w ha hw b (.inLoop c::k) cs l8 hb hr
   cases e with
   |normal=>
    obtain⟨x',Jw,bc,vu,gN⟩:=hq;obtain⟨Jy,Jz,JA,JB,JC⟩:=ih (m x') (hm▸bc) x' rfl Jw qJ qK vu gN;exact⟨Jy,Jz,JA,JB, .of_steps (StepsIn.trans nA (.one (fenced_calm hb hr rfl) stepR_inLoop)) JC⟩
   |exit id=>exact⟨_,qJ,qK,hq, .pass (x:= .inLoop c) rfl (fun _ _=> .inl (by simp)) nA⟩
   |goto l=>exact⟨_,qJ,qK,hq, .pass (x:= .inLoop c) rfl (fun _ _=> .inl (by simp)) nA⟩
   |ret=>exact⟨_,qJ,qK,hq, .pass (x:= .inLoop c) rfl (fun _ _=> .inl (by simp)) nA⟩
   |panic ch=>exact⟨_,qJ,qK,hq, .pass (x:= .inLoop c) rfl (fun _ _=> .inl (by simp)) nA⟩
   |outgrown=>exact⟨_,qJ,qK,hq, .pass (x:= .inLoop c) rfl (fun _ _=> .inl (by simp)) nA⟩
 obtain⟨e,a',w',hq,nA⟩:=key _ x0 rfl h0 a0 w1 (yS.sub hs) (hL w1 mL);exact⟨e,a',w',hq, .of_steps (.one (fenced_calm hb hr rfl) stepR_loop) nA⟩
theorem AF{x y:Code}{X:Type}(CR:X->Env)(LJ:X->List aj)(J:X->Prop)
  (h:Cw P N w0 (Exit.then (fun a w=> ∃s,J s/\cO N (CR s) a/\Mem w0 (LJ s) w) Q) x env L) (hy: ∀s,J s->Cw P N w0 Q y (CR s) (LJ s)):Cw P N w0 Q (.seq x y) env L:=fun a w ha hw=>
 wpIn_seq (wpIn_mono (h a w ha hw) fun e a' w' hq=>by
  cases e with
  |normal=>obtain⟨s,hs,hr,hm⟩:=hq;exact hy s hs a' w' hr hm
  |exit id=>exact hq
  |goto l=>exact hq
  |ret=>exact hq
  |panic ch=>exact hq
  |outgrown=>exact hq)
theorem dR{y:Code}{Q':Exit->Act->World->Prop}(h:Cw P N w0 Q y env L):Ex N w0 (Exit.then (y.wpIn (iY N.ro) 0 P Q) Q') .normal env L:=h
theorem pZ{X:Type}{CR:X->Env}{LJ:X->List aj}{J:X->Prop}(s:X)(hJ:J s)(hs:Sub (CR s) env)(hL: ∀w,Mem w0 L w->Mem w0 (LJ s) w):
  Ex N w0 (Exit.then (fun a w=> ∃s,J s/\cO N (CR s) a/\Mem w0 (LJ s) w) Q) .normal env L:=fun _ w ha hw=>⟨s,hJ,ha.sub hs,hL w hw⟩
theorem bm{X:Type}{kF:X->Env}{LI:X->List aj}{inv:X->Prop}{m:X->Nat}{x:X}(x':X)(hI:inv x')(hm:m x'<m x)(hs:Sub (kF x') env)(hL: ∀w,Mem w0 L w->Mem w0 (LI x') w):
  Ex N w0 (Exit.then (fun a w=> ∃x',inv x'/\m x'<m x/\cO N (kF x') a/\Mem w0 (LI x') w) Q) .normal env L:=fun _ w ha hw=>⟨x',hI,hm,ha.sub hs,hL w hw⟩
theorem xh{K:Act->World->Prop}{id:Nat}(h:Ex N w0 Q (.exit id) env L):Ex N w0 (Exit.then K Q) (.exit id) env L:=h
theorem yT{K:Act->World->Prop}(h:Ex N w0 Q .ret env L):Ex N w0 (Exit.then K Q) .ret env L:=h
theorem vw{id:Nat}(h:Ex N w0 Q .normal env L):Ex N w0 (Exit.inBlock id Q) .normal env L:=h
theorem CS{id:Nat}(h:Ex N w0 Q .normal env L):Ex N w0 (Exit.inBlock id Q) (.exit id) env L:=fun a w ha hw=>by
 simp only[Exit.inBlock,if_true];exact h a w ha hw
theorem Pd{id Fv:Nat}(bM:Nat.beq Fv id=false)(h:Ex N w0 Q (.exit Fv) env L):Ex N w0 (Exit.inBlock id Q) (.exit Fv) env L:=fun a w ha hw=>by
 have: ¬Fv=id:=fun e=>by subst e;simp at bM
 simp only[Exit.inBlock,this,if_false];exact h a w ha hw
theorem AG{id:Nat}(h:Ex N w0 Q .ret env L):Ex N w0 (Exit.inBlock id Q) .ret env L:=h
variable {fn:Func} {R:Ending->World->Prop}
theorem eV{n:Nat}{e:Exit}(he:e= .ret\/e= .normal){v:Value}(hr: ∀a w,cO ⟨n,[],none⟩ env a->Mem w0 L w->(results fn a.tmps).run P w= .ok v w)(h: ∀w,Mem w0 L w->R (.returned v) w):Ex ⟨n,[],none⟩ w0 (qD P fn R) e env L:=fun a w ha hw=>by
 have key:LeavesInM (iY none) 0 P fn a.tmps R a.defers .returning w:=by
  rw[ha.defers];exact⟨v,hr a w ha hw,h w hw⟩
 rcases he with rfl|rfl
 ·
  exact⟨.inr rfl,key⟩
 exact⟨.inl rfl,key⟩
theorem jb{t:Nat}{v:Value}(hf:fn.results= #[.tmp t])(hv:look env t=some v): ∀a w,cO N env a->Mem w0 L w->(results fn a.tmps).run P w= .ok v w:=fun a w ha _=>by
 have:=ha.get _ _ hv;simp[results,hf,this]
theorem Fw{t:Nat}{T T':TypeId}{b i n:Nat}{cs:Array Value}(hf:fn.results= #[.cell t T])(hv:look env t=some (.pointer (some ⟨b,0,none⟩)))[ht:fE P T n][hi:Has L b cs T' i][hn:gk cs n]:
  ∀a w,cO N env a->Mem w0 L w->(results fn a.tmps).run P w= .ok (.agg cs) w:=fun a w ha hw=>by
 have h1:=ha.get _ _ hv;have h2:(loadVar T ⟨b,0,none⟩).run P w= .ok (.agg cs) w:=Jn w ht hn.h fun j _=>by rw[Addr.ie,hw.cell hi.h,atF]
 simp[results,hf,h1,asAddr,h2]
theorem rL{N:Nat}{f:FuncId}{c:Code}{args:List Value}{w:World}(hf:P.funcs[f]? =some fn)(hb:fn.body=some c)(hN:fn.ntmps=N)(hle:Nat.ble args.length N=true)
  (h:Cw P ⟨N,[],none⟩ w (qD P fn R) c (args.zipIdx.map fun p=>(p.2,p.1)) []):Calls P f args.toArray w R:=
 OQ hf hb (h _ _ (by rw[hN];exact cO.enter args N (Nat.le_of_ble_eq_true hle)) (Mem.init w))
end
theorem Z0(a b:Bool):((a&&b)=true)=(a=true/\b=true):=anc a b
theorem Z1(a b:Bool):((a||b)=true)=(a=true\/b=true):=aui a b
theorem Z2{x y:Bool}:(x&&y)=false↔x=false\/y=false:=Bool.and_eq_false_iff
theorem Z3{x y:Bool}:(x||y)=false↔x=false/\y=false:=Bool.or_eq_false_iff
theorem Z4(b:Bool):((!b)=true)=(b=false):=at0 b
theorem Z5(b:Bool):((!b)=false)=(b=true):=Bool.not_eq_false' b
theorem Z6{p:Prop}[inst:Decidable p]:(decide p=true)=p:=decide_eq_true_eq
theorem Z7{p:Prop}{x:Decidable p}:decide p=false↔ ¬p:=decide_eq_false_iff_not
theorem Z8(b:Bool):(¬b=true)=(b=false):=av4 b
theorem Z9(b:Bool):(¬b=false)=(b=true):=Bool.not_eq_false b
structure Sv where
  nil:Bool
  b:Nat
  o:Nat
  len:Nat
  cap:Nat
  sp:Option Nat
def Sv.val(s:Sv):Value:=match s.nil with
  |true=> .slice none 0 0
  |false=> .slice (some ⟨s.b,s.o,s.sp⟩) s.len s.cap
structure Sv.Ok(s:Sv):Prop where
  nil:s.nil=true->s.len=0/\s.cap=0
  le:s.len<=s.cap
  bd:s.len<=140737488355328
  sp:0<s.cap->s.sp=none
theorem Sv.Ok.some{s:Sv}(h:s.Ok)(hl:0<s.len):s.nil=false:=by
  cases hn:s.nil with
  |false=>rfl
  |true=>have:=h.nil hn;omega
theorem Sv.jc{s:Sv}(h:s.nil=false):s.val= .slice (some ⟨s.b,s.o,s.sp⟩) s.len s.cap:=by simp[Sv.val,h]
theorem Sv.ue{s:Sv}(h:s.nil=true):s.val= .slice none 0 0:=by simp[Sv.val,h]
def Sv.none:Sv:=⟨true,0,0,0,0, .none⟩
theorem Sv.CT:Sv.none.Ok:=⟨fun _=>⟨rfl,rfl⟩,as4 _,atv _,fun _=>rfl⟩
theorem Sv.one(s:Sv):s.val.oneCell'=true:=by unfold Sv.val;split<;>rfl
def oV(h:Nat->Option Obj)(b o:Nat):Option Value:=match h b with
  |some (.cells cs _ _)=>cs[o]?
  |_=>none
abbrev hp(w:World):Nat->Option Obj:=fun k=>w.heap[k]?
theorem uf(w:World)(b o:Nat):w.cell? ⟨b,o,none⟩=oV (hp w) b o:=by
  unfold World.cell? oV;split<;>simp_all
class bu{α:Type}(enc:α->Array Value)(c:outParam Nat):Prop where
  size: ∀x,(enc x).size=c
  one: ∀x,(enc x).all (·.oneCell')=true
structure dJ{α:Type}(enc:α->Array Value)(c:Nat)(h:Nat->Option Obj)(s:Sv)(xs:List α):Prop where
  ok:s.Ok
  len:s.len=xs.length
  row: ∀i x,xs[i]? =some x-> ∀j,j<c->oV h s.b (s.o+i*c+j)=(enc x)[j]?
theorem dJ.some{α:Type}{enc:α->Array Value}{c:Nat}{h:Nat->Option Obj}{s:Sv}{xs:List α}(r:dJ enc c h s xs){i:Nat}(hi:i<xs.length):s.nil=false:=r.ok.some (by rw[r.len];omega)
theorem dJ.nil{α:Type}(enc:α->Array Value)(c:Nat)(h:Nat->Option Obj):dJ enc c h Sv.none ([]:List α):=⟨Sv.CT,rfl,by simp⟩
theorem dJ.bd{α:Type}{enc:α->Array Value}{c:Nat}{h:Nat->Option Obj}{s:Sv}{xs:List α}(r:dJ enc c h s xs):xs.length<=140737488355328:=by have:=r.ok.bd;have:=r.len;omega
theorem dJ.mono{α:Type}{enc:α->Array Value}{c:Nat}[he:bu enc c]{w w':World}{s:Sv}{xs:List α}(r:dJ enc c (hp w) s xs)(hb:Below w.heap.size w w'):dJ enc c (hp w') s xs:=
  ⟨r.ok,r.len,fun i x hi j hj=>by
    have h:=r.row i x hi j hj;rw[←h];have Pe:((enc x)[j]?).isSome:=by rw[Array.getElem?_eq_getElem (by rw[he.size];exact hj)];rfl
    rw[←h]at Pe;have bc:s.b<w.heap.size:=by
      rcases as3 s.b w.heap.size with h'|h'
      ·exact h'
      ·simp[oV,hp,auE h']at Pe
    have e:(hp w') s.b=(hp w) s.b:=hb.block s.b bc;unfold oV;rw[e]⟩
def JD(n:Nat)(fz:Nat×Nat):Prop:= ∀j,j<n-> ¬(fz.1<=j/\j<fz.2)
theorem JE(n:Nat):JD n (0,0):=fun j _ h=>by have:=h.2;simp at this
def own{α:Type}(enc:α->Array Value)(c:Nat)(s:Sv)(xs:List α):aj:=
  ⟨fun k=>s.nil=false/\k=s.b,fun h=>dJ enc c h s xs/\(s.nil=false->s.sp= .none/\ ∃cs T fz,h s.b=some (.cells cs T fz)/\s.o+s.cap*c<=cs.size/\JD cs.size fz/\(1<c->fz=(0,0))),
   fun h h' e st=>by
    cases hn:s.nil with
    |true=>
     refine⟨⟨st.1.ok,st.1.len,fun i x hi=>?_⟩,fun h=>by cases h⟩;have:=st.1.some (ad2.1 hi).1;rw[hn]at this;cases this
    |false=>
     have e1:=e s.b ⟨hn,rfl⟩;refine⟨⟨st.1.ok,st.1.len,fun i x hi j hj=>?_⟩,fun _=>?_⟩
     ·rw[←st.1.row i x hi j hj];unfold oV;rw[e1]
     ·rw[e1];exact st.2 hn⟩
section
variable {P:Program} {N:cc} {w0:World} {env:Env} {L:List aj} {d:Option Tmp} {ty:TypeId} {ps:String} {af:Array Edge} {gd:Option (Nat×Bool)}
variable {α:Type} {enc:α->Array Value} {c:Nat} {s:Sv} {xs:List α}
def Holds(w0:World)(L:List aj){α:Type}(enc:α->Array Value)(c:Nat)(s:Sv)(xs:List α):Prop:= ∀w,Mem w0 L w->dJ enc c (hp w) s xs
theorem JF[bu enc c](r:dJ enc c (hp w0) s xs):Holds w0 L enc c s xs:=fun _ hw=>r.mono hw.below
class At(L:List aj)(e:aj)(i:outParam Nat):Prop where
  h:L[i]? =some e
instance (priority:=high) At.here {L:List aj}{e:aj}:At (e::L) e 0:=⟨rfl⟩
instance At.there{L:List aj}{e x:aj}{i:Nat}[q:At L e i]:At (x::L) e (i+1):=⟨by simpa using q.h⟩
theorem yU{t e:TypeId}{x:Operand}{m n:Nat}[ht:fw P t e m](hx:ev env x=some s.val)(hs:s.Ok)(hn:s.len=n):
    Ry P N w0 env L ⟨d, .call {callee:= .builtin .len,args:= #[x],argTypes:= #[t]},ty,ps,af,gd⟩ (.int .i64 n):=by
  subst hn
  cases h:s.nil with
  |false=>rw[Sv.jc h]at hx;exact yO hx
  |true=>
   rw[Sv.ue h]at hx;rw[(hs.nil h).1];exact yO hx
theorem nU{t e:TypeId}{x ix:Operand}{m i:Nat}{k:IntKind}{j:Int}[ht:fw P t e m](hx:ev env x=some s.val)(hj:ev env ix=some (.int k j))(ej:j=(i:Int))(hs:s.Ok)(h1:i<s.len):
    Ry P N w0 env L ⟨d, .indexAddr t x ix,ty,ps,af,gd⟩ (.pointer (some ⟨s.b,s.o+i*m,none⟩)):=by
  subst ej;rw[Sv.jc (hs.some (by omega)),hs.sp (by have:=hs.le;omega)]at hx;have:=O1 (P:=P) (N:=N) (w0:=w0) (L:=L) (d:=d) (ty:=ty) (ps:=ps) (af:=af) (gd:=gd) (t:=t) hx hj (by omega) (by omega);simpa using this
theorem Pf{t:TypeId}{x:Operand}{i p:Nat}{a:α}[ht:fE P t c][he:bu enc c](hx:ev env x=some (.pointer (some ⟨s.b,p,none⟩)))(hR:Holds w0 L enc c s xs)(hi:xs[i]? =some a)(fG:p=s.o+i*c):
    Ry P N w0 env L ⟨d, .load t x,ty,ps,af,gd⟩ (.agg (enc a)):=CK ht hx (he.size a) fun w hw j hj=>by
  rw[Addr.ie,uf,fG,(hR w hw).row i a hi j hj]
theorem JG{t:TypeId}{x:Operand}{i p j:Nat}{a:α}{v:Value}[ht:fW P t](hx:ev env x=some (.pointer (some ⟨s.b,p,none⟩)))(hR:Holds w0 L enc c s xs)(hi:xs[i]? =some a)(fG:p=s.o+i*c+j)(hj:j<c)(hv:(enc a)[j]? =some v):
    Ry P N w0 env L ⟨d, .load t x,ty,ps,af,gd⟩ v:=Az ht hx fun w hw=>by
  rw[uf,fG,(hR w hw).row i a hi j hj,hv]
theorem JH{t:TypeId}{x:Operand}{i p j n:Nat}{a:α}{sub:Array Value}[ht:fE P t n](hx:ev env x=some (.pointer (some ⟨s.b,p,none⟩)))(hR:Holds w0 L enc c s xs)(hi:xs[i]? =some a)(fG:p=s.o+i*c+j)(hj:j+n≤c)[hs:nT (enc a) j n sub]:
    Ry P N w0 env L ⟨d, .load t x,ty,ps,af,gd⟩ (.agg sub):=CK ht hx hs.size fun w hw k hk=>by
  rw[Addr.ie,uf,fG,auB,(hR w hw).row i a hi (j+k) (by omega)];exact hs.h k hk
def Sv.sub(s:Sv)(c lo hi:Nat):Sv:=⟨s.nil,s.b,if s.cap=lo then s.o else s.o+lo*c,hi -lo,s.cap -lo,s.sp⟩
theorem Sv.Ok.sub{lo hi:Nat}(h:s.Ok)(h2:hi<=s.cap)(h3:hi<=s.len):(s.sub c lo hi).Ok:=
  ⟨fun hn=>by have:=h.nil hn;simp only[Sv.sub];omega,by simp only[Sv.sub];omega,by have:=h.bd;simp only[Sv.sub];omega,fun hc=>h.sp (by simp only[Sv.sub]at hc;omega)⟩
theorem dJ.sub{h:Nat->Option Obj}(r:dJ enc c h s xs){lo hi:Nat}(h1:lo<=hi)(h2:hi<=xs.length):dJ enc c h (s.sub c lo hi) ((xs.drop lo).take (hi -lo)):=by
  have hl:=r.len;have hc:=r.ok.le;refine⟨r.ok.sub (by omega) (by omega),by simp[Sv.sub];omega,fun i x nR j hj=>?_⟩;have bc:i<hi -lo:=by
    have:=(ad2.1 nR).1;simp at this;omega
  rw[avv,if_pos bc,aug]at nR;have:=r.row (lo+i) x nR j hj;rw[←this];have e:(s.sub c lo hi).o=s.o+lo*c:=by
    simp only[Sv.sub];rw[if_neg (by omega)]
  rw[e,show(s.sub c lo hi).b=s.b from rfl];congr 1;rw[atB];omega
theorem Holds.sub(r:Holds w0 L enc c s xs){lo hi:Nat}(h1:lo<=hi)(h2:hi<=xs.length):Holds w0 L enc c (s.sub c lo hi) ((xs.drop lo).take (hi -lo)):=fun w hw=>(r w hw).sub h1 h2
theorem AH{t e:TypeId}(hu:P.underlying t=some (.slice e)):P.elem t=e:=by simp[Program.elem,hu]
theorem JI{lo hi:Nat}(hs:s.Ok)(h2:lo<=hi)(h:hi<=s.cap): ∀a len cap,s.val= .slice a len cap->len=s.len/\cap=s.cap/\sliced a lo hi cap c=(s.sub c lo hi).val:=by
  intro a len cap e
  cases hn:s.nil with
  |true=>
   rw[Sv.ue hn]at e;obtain⟨rfl,rfl,rfl⟩:=by simpa using e
   have:=hs.nil hn;have e2:(s.sub c lo hi).nil=true:=hn;rw[Sv.ue e2];have:lo=0:=by omega
   have:hi=0:=by omega
   subst lo hi;exact⟨by omega,by omega,by simp[sliced]⟩
  |false=>
   rw[Sv.jc hn]at e;obtain⟨rfl,rfl,rfl⟩:=by simpa using e
   have e2:(s.sub c lo hi).nil=false:=hn;rw[Sv.jc e2];refine⟨rfl,rfl,?_⟩;simp only[sliced,Sv.sub]
   by_cases hc:s.cap=lo
   ·simp[hc]
   ·have ig:=hs.sp (by omega)
    simp[hc,ig,Addr.ie]
theorem Sv.ex(s:Sv): ∃ad len cap,s.val= .slice ad len cap:=by unfold Sv.val;split<;>exact⟨_,_,_,rfl⟩
theorem Fx{t e:TypeId}{x lo hi:Operand}{m l h:Nat}{k k':IntKind}{il ih:Int}[ht:fw P t e m](hx:ev env x=some s.val)(hl:ev env lo=some (.int k il))(hh:ev env hi=some (.int k' ih))(el:il=(l:Int))(eh:ih=(h:Int))(hs:s.Ok)(h1:l≤h)(h2:h≤s.cap):
    Ry P N w0 env L ⟨d, .slice t x (some lo) (some hi) none,ty,ps,af,gd⟩ (s.sub m l h).val:=fun a w ha _=>by
  subst el eh;have ee:=AH ht.fa;have hu:P.underlying t=some (.slice (P.elem t)):=by rw[ee];exact ht.fa
  obtain⟨ad,len,cap,oW⟩:=s.ex;obtain⟨e1,e2,e3⟩:=JI (c:=m) hs h1 h2 ad len cap oW;have hr:=run_slice_lh (P:=P) (w:=w) t ad len cap hu k k' (l:Int) (h:Int) (by omega) (by omega) (by omega);rw[ee,l5 w ht.size]at hr;simp only[Result.andThen,at4,e3]at hr;simp only[execOp,ha.ev hx,ha.ev hl,ha.ev hh,oW,atJ,Option.map_none,run_sliceAt_slice (h:=hu),hr,Sem.run_bind,Result.andThen,Sem.run_pure]
theorem xi{t e:TypeId}{x hi:Operand}{m h:Nat}{k':IntKind}{ih:Int}[ht:fw P t e m](hx:ev env x=some s.val)(hh:ev env hi=some (.int k' ih))(eh:ih=(h:Int))(hs:s.Ok)(h2:h≤s.cap):
    Ry P N w0 env L ⟨d, .slice t x none (some hi) none,ty,ps,af,gd⟩ (s.sub m 0 h).val:=fun a w ha _=>by
  subst eh;have ee:=AH ht.fa;have hu:P.underlying t=some (.slice (P.elem t)):=by rw[ee];exact ht.fa
  obtain⟨ad,len,cap,oW⟩:=s.ex;obtain⟨e1,e2,e3⟩:=JI (c:=m) hs (atv h) h2 ad len cap oW;have hr:=run_slice_h (P:=P) (w:=w) t ad len cap hu k' (h:Int) (by omega) (by omega);rw[ee,l5 w ht.size]at hr;simp only[Result.andThen,at4,e3]at hr;simp only[execOp,ha.ev hx,ha.ev hh,oW,atJ,Option.map_none,run_sliceAt_slice (h:=hu),hr,Sem.run_bind,Result.andThen,Sem.run_pure]
theorem ug{t e:TypeId}{x lo:Operand}{m l n:Nat}{k:IntKind}{il:Int}[ht:fw P t e m](hx:ev env x=some s.val)(hl:ev env lo=some (.int k il))(el:il=(l:Int))(hs:s.Ok)(hn:s.len=n)(h1:l≤n):
    Ry P N w0 env L ⟨d, .slice t x (some lo) none none,ty,ps,af,gd⟩ (s.sub m l n).val:=fun a w ha _=>by
  subst el hn;have ee:=AH ht.fa;have hu:P.underlying t=some (.slice (P.elem t)):=by rw[ee];exact ht.fa
  obtain⟨ad,len,cap,oW⟩:=s.ex;obtain⟨e1,e2,e3⟩:=JI (c:=m) hs h1 hs.le ad len cap oW;have hle:=hs.le;have hr:=run_slice_l (P:=P) (w:=w) t ad len cap hu k (l:Int) (by omega) (by omega);rw[ee,l5 w ht.size]at hr;simp only[Result.andThen,at4,e1]at hr;rw[e1]at oW;rw[e3]at hr;simp only[execOp,ha.ev hx,ha.ev hl,oW,atJ,Option.map_none,run_sliceAt_slice (h:=hu),hr,Sem.run_bind,Result.andThen,Sem.run_pure]
end
theorem set_perm(x:aj): ∀(L:List aj) (i:Nat),i<L.length->(x::L.eraseIdx i).Perm (L.set i x)
  |[],_,h=>by simp at h
  |_::_,0,_=>by simp
  |a::L,i+1,h=>by
   simp only[avW,avw];exact(List.Perm.swap a x _).trans ((set_perm x L i (by simpa using h)).cons a)
theorem Mem.swap{w w':World}{E:aj}(h:Mem w0 L w){i:Nat}(hi:i<L.length)(h':Mem w [E] w'):Mem w0 (L.set i E) w':=
  ((h.call h').sub (L':=E::L.eraseIdx i) ((List.eraseIdx_sublist L i).cons_cons E)).perm (set_perm E L i hi)
theorem At.lt{L:List aj}{e:aj}{i:Nat}(h:L[i]? =some e):i<L.length:=(ad2.1 h).1
class fH(P:Program)(t:TypeId)(e:outParam TypeId)(c:outParam Nat)(cL:outParam Nat):Prop where
  fa:P.underlying t=some (.slice e)
  row:(P.info? e).map (fun i=>(i.zero.map (·.cells.size),i.size,i.bytes))=some (some c,c,cL)
theorem fH.info{P:Program}{t e:TypeId}{c cL:Nat}(h:fH P t e c cL): ∃i z,P.info? e=some i/\i.zero=some z/\i.size=c/\i.bytes=cL/\z.cells.size=c:=by
  have h:=h.row
  cases hi:P.info? e with
  |none=>simp[hi]at h
  |some i=>
   cases hz:i.zero with
   |none=>simp[hi,hz]at h
   |some z=>simp[hi,hz]at h;exact⟨i,z,rfl,hz,h.2.1,h.2.2,h.1⟩
theorem vz{cs vs:Array Value}{o j:Nat}(ho:o+vs.size<=cs.size):(over cs o vs)[j]? =if o<=j/\j<o+vs.size then vs[j -o]?else cs[j]? :=by
  unfold over;simp only[auj];rw[ate,List.getElem?_append];have e1:(List.take o cs.toList).length=o:=by simp;omega
  rw[e1]
  by_cases h1:j<o
  ·rw[if_pos h1,if_neg (by omega),avv,if_pos h1];simp
  ·rw[if_neg h1,List.getElem?_append]
   by_cases h2:j -o<vs.toList.length
   ·rw[if_pos h2,if_pos (by simp at h2;omega)];simp
   ·rw[if_neg h2,if_neg (by simp at h2;omega),aug]
    simp at h2⊢;congr 1;omega
theorem oX{cs vs:Array Value}{o:Nat}(ho:o+vs.size<=cs.size):(over cs o vs).size=cs.size:=by
  simp[over];omega
theorem CU{P:Program}(g o:Nat)(t:TypeId)(fz:Nat×Nat): ∀(vs:List Value) (i:Nat) (cur:Array Value) (w:World),w.heap[g]? =some (.cells cur t fz)→JD cur.size fz→o+i+vs.length≤cur.size→(∀v∈vs,v.oneCell'=true)→
    (storeCells ⟨g,o,none⟩ vs i).run P w= .ok () (w.setRow g (cur.toList.take (o+i)++vs++cur.toList.drop (o+i+vs.length)).toArray)
  |[],i,cur,w,hg,_,_,_=>by
   simp only[storeCells,atK,as0,atZ,atz,Array.toArray_toList];rw[setRow_self w g cur t fz hg];rfl
  |v::rest,i,cur,w,hg,hf,hl,h1=>by
   have hi:o+i<cur.size:=by simp at hl;omega
   have JJ:(⟨g,o,none⟩:Addr).add i=⟨g,o+i,none⟩:=by unfold Addr.add;split<;>simp_all
   have AI:w.cell? ⟨g,o+i,none⟩=some cur[o+i]:=by simp[World.cell?,hg,hi]
   have Yk:w.frozen? ⟨g,o+i,none⟩=false:=by
      have:=hf (o+i) hi;obtain⟨a,b⟩:=fz;simp only[World.frozen?,hg];simp only[Bool.and_eq_false_iff,decide_eq_false_iff_not];omega
   have bq:(store ((⟨g,o,none⟩:Addr).add i) v).run P w= .ok () (w.setRow g (cur.setIfInBounds (o+i) v)):=by
      rw[JJ,run_store P w _ v _ (h1 v (by simp)),AI];simp[Yk,setCell_eq_setRow w g (o+i) cur t fz v hg]
   have ih:=CU (P:=P) g o t fz rest (i+1) (cur.setIfInBounds (o+i) v) (w.setRow g (cur.setIfInBounds (o+i) v)) (setRow_heap w g cur _ t _ hg) (by simpa using hf) (by simp at hl⊢;omega) (fun x hx=>h1 x (by simp[hx]));simp only[storeCells,Sem.run_bind,bq,Result.andThen_ok,ih,setRow_setRow];congr 3;have e:=list_seg_step cur.toList (o+i) v rest (by simp at hl⊢;omega);simpa[Array.toList_setIfInBounds,auB]using e
section
variable {α:Type} {enc:α->Array Value} {c:Nat}
def aK(enc:α->Array Value)(xs:List α):List Value:=xs.flatMap fun x=>(enc x).toList
theorem iK[he:bu enc c]: ∀xs:List α,(aK enc xs).length=xs.length*c
  |[]=>by simp[aK]
  |x::xs=>by
   have:=iK xs;simp only[aK,avM,af0]at this⊢;rw[this,au7,he.size,asZ,atB];omega
theorem oY[he:bu enc c]: ∀(xs:List α) (i:Nat) (x:α),xs[i]? =some x-> ∀j,j<c->(aK enc xs)[i*c+j]? =(enc x)[j]?
  |[],i,x,h,_,_=>by simp at h
  |y::xs,0,x,h,j,hj=>by
   obtain rfl:y=x:=by simpa using h
   simp only[aK,avM,Nat.zero_mul,atF];rw[atb (by rw[au7,he.size];exact hj)];simp
  |y::xs,i+1,x,h,j,hj=>by
   have:=oY xs i x (by simpa using h) j hj;simp only[aK,avM]at this⊢;rw[ata (by rw[au7,he.size,atB];omega),au7,he.size];rw[←this];congr 1;rw[atB];omega
theorem Fy(hc:0<c)[he:bu enc c]{xs:List α}{k:Nat}{v:Value}(h:(aK enc xs)[k]? =some v): ∃x,xs[k/c]? =some x/\(enc x)[k%c]? =some v:=by
  have hk:k<xs.length*c:=by
    have:=(ad2.1 h).1;rwa [iK]at this
  have hd:k/c<xs.length:=avS (by rwa [aut]);refine⟨xs[k/c],by simp[hd],?_⟩;rw[←oY xs (k/c) xs[k/c] (by simp[hd]) (k%c) (avc _ hc),←h];congr 1;rw[aut];exact avd k c
theorem xj[he:bu enc c](xs:List α): ∀u∈aK enc xs,u.oneCell'=true:=fun u hu=>by
  obtain⟨x,_,hx⟩:=List.mem_flatMap.1 hu;exact(atM.1 (he.one x)) u (by simpa using hx)
theorem xk{h:Nat→Option Obj}{s:Sv}{xs:List α}{cs:Array Value}{T:TypeId}{fz:Nat×Nat}(ok:s.Ok)(hl:s.len=xs.length)(hb:h s.b=some (.cells cs T fz))
    (hc: ∀i x,xs[i]? =some x-> ∀j,j<c->cs[s.o+i*c+j]? =(enc x)[j]?):dJ enc c h s xs:=
  ⟨ok,hl,fun i x hi j hj=>by unfold oV;rw[hb];exact hc i x hi j hj⟩
theorem jN{P:Program}{tx e':TypeId}(hk:P.underlying tx=some (.slice e'))(hc:0<c)[he:bu enc c]{w:World}{s:Sv}{xs:List α}(r:dJ enc c (hp w) s xs):Src P c tx s.val xs.length (aK enc xs) w:=by
  cases hn:s.nil with
  |true=>
   have:xs=[]:=by have:=(r.ok.nil hn).1;rw[r.len]at this;exact ati.1 this
   subst this;rw[Sv.ue hn];exact Src.ofNil w hk 0
  |false=>
   rw[Sv.jc hn,r.len];refine Src.ofSlice w hk _ _ _ _ (iK xs) (fun j u hu=>?_) (xj xs);obtain⟨x,hx,JK⟩:=Fy hc hu;have ig:=r.ok.sp (by have h1:=auG (atv _) (ad2.1 hx).1;have:=r.len;have:=r.ok.le;omega);rw[ig,Addr.ie,uf,←JK,←r.row _ x hx (j%c) (avc _ hc)];congr 1;have:=avd j c;rw[aut]at this;omega
theorem JL{P:Program}{t tx ty e:TypeId}{cL:Nat}(ht:fH P t e c cL)(hc:0<c)[he:bu enc c]{w0 w:World}{L:List aj}{i:Nat}{s:Sv}{xs ys:List α}{x:Value}
    (hw:Mem w0 L w) (hi:L[i]? =some (own enc c s xs)) (hs:Src P c tx x ys.length (aK enc ys) w) (hb:(xs.length+ys.length)*cL<=140737488355328) (jO:xs.length+ys.length<=140737488355328):
    ∃s' w',(Builtin.append_ #[t,tx] ty #[s.val,x]).run P w= .ok (Sv.val s') w'/\s'.Ok/\s'.len=(xs++ys).length/\Mem w0 (L.set i (own enc c s' (xs++ys))) w':=by
  obtain⟨r,oZ⟩:=hw.get hi;obtain⟨i',z,bg,aH,bA,dj,nV⟩:=ht.info;subst bA dj;have hlen:=r.len;have hle:=r.ok.le
  have grow:s.cap<s.len+ys.length→ ∀(base:Option Addr),s.val= .slice base s.len s.cap→(Builtin.firstCells i'.size s.len (.slice base s.len s.cap)).run P w.drew= .ok (aK enc xs).toArray w.drew→
      ∃s' w',(Builtin.append_ #[t,tx] ty #[s.val,x]).run P w= .ok (Sv.val s') w'/\s'.Ok/\s'.len=(xs++ys).length/\Mem w0 (L.set i (own enc i'.size s' (xs++ys))) w':=by
    intro hg base hv hold;have yV:=nextslicecap_le hg;have jB:Builtin.nextslicecap (s.len+ys.length) s.cap*i'.bytes<=281474976710656:=by
      have h2:Builtin.nextslicecap (s.len+ys.length) s.cap*i'.bytes<=2*(s.len+ys.length)*i'.bytes:=atm _ yV;rw[Nat.mul_assoc,hlen]at h2;rw[hlen];omega
    have hr:=run_append_grow_src w t tx ty e i' z ht.fa bg aH base s.len s.cap (aK enc xs) hold x ys.length (aK enc ys) hs hg (by omega) jB;have uh:=grownCap_ge w (s.len+ys.length) s.cap e;generalize grownCap w (s.len+ys.length) s.cap e=C at hr uh;refine⟨⟨false,w.heap.size,0,s.len+ys.length,C,none⟩,_,by rw[hv,hr];rfl,⟨(fun h=>by cases h),uh,by simp only;omega,fun _=>rfl⟩,by simp[hlen],hw.swap (At.lt hi) ?_⟩;have hm:=(Mem.init w).drew.alloc ((aK enc xs++aK enc ys).toArray++Builtin.zeroCells z.cells (C -(s.len+ys.length))) e;refine⟨hm.below,fun q hq=>?_,fun q hq k hk=>?_,by simp⟩
    ·obtain rfl:=atG.1 hq
     have fx:hp (w.drew.alloc (.cells ((aK enc xs++aK enc ys).toArray++Builtin.zeroCells z.cells (C -(s.len+ys.length))) e)) w.heap.size=some (.cells ((aK enc xs++aK enc ys).toArray++Builtin.zeroCells z.cells (C -(s.len+ys.length))) e (0,0)):=Below.E6 w.drew _;have eL:aK enc xs++aK enc ys=aK enc (xs++ys):=by simp[aK]
     rw[eL]at fx;rw[eL];have fj:(aK enc (xs++ys)).length=(xs.length+ys.length)*i'.size:=by rw[iK];simp
     refine⟨xk (enc:=enc) (c:=i'.size) (xs:=xs++ys) ⟨(fun h=>by cases h),uh,by simp only;omega,fun _=>rfl⟩ (by simp[hlen]) fx fun k y hy j hj=>?_,fun _=>⟨rfl,_,_,_,fx,?_,JE _,fun _=>rfl⟩⟩
     ·have yW:=oY (enc:=enc) (xs++ys) k y hy j hj
      have bc:k*i'.size+j<(aK enc (xs++ys)).length:=by
          rw[fj];have h1:=(ad2.1 hy).1;rw[af0]at h1
          calc k*i'.size+j<k*i'.size+i'.size:=by omega
            _=(k+1)*i'.size:=by rw[atB];omega
            _<=_:=atm _ h1
      simp only[atF];rw[←yW,avs (by simpa using bc)];simp
     ·have h3:=size_zeroCells z.cells (C -(s.len+ys.length))
      rw[nV]at h3;simp only[avN,at1,h3,fj,atF];rw[←atB,hlen];refine atm _ ?_;omega
    ·obtain rfl:=atG.1 hq
     obtain rfl:k=w.heap.size:=hk.2;simp
  cases hn:s.nil with
  |true=>
   have h0:=r.ok.nil hn;have eM:xs=[]:=by rw[hlen]at h0;exact ati.1 h0.1
   subst eM
   by_cases hy:ys.length=0
   ·have mM:ys=[]:=ati.1 hy
    subst mM;refine⟨s,w,?_,r.ok,by simpa using hlen,?_⟩
    ·rw[Sv.ue hn]
     have qL:=hs.cells;simp only[as0]at qL;rcases hs.kind with⟨e',hk⟩|hk<;>simp[Builtin.append_,run_underlying ht.fa,run_underlying hk,sizeOf,typeInfo,bg,hs.len,qL]
    ·have:L.set i (own enc i'.size s ([]++[]))=L:=by
          rw[atK];refine at5 fun k=>?_;rw[atI]
          by_cases hk:i=k
          ·subst hk;rw[if_pos rfl,hi,if_pos (At.lt hi)]
          ·rw[if_neg hk]
     rw[this];exact hw
   ·refine grow (by omega) .none (by rw[Sv.ue hn,h0.1,h0.2]) ?_
    rw[h0.1,h0.2];exact run_firstCells_none w.drew _ _ _ _
  |false=>
   obtain⟨ig,cs,T,fz,fx,fj,nB,nW⟩:=oZ hn
   by_cases o8:s.len+ys.length<=s.cap
   ·have hmul:(s.len+ys.length)*i'.size<=s.cap*i'.size:=atm _ o8
    have eL:(aK enc ys).length=ys.length*i'.size:=iK ys
    have jB:s.o+s.len*i'.size+(aK enc ys).toArray.size≤cs.size:=by
        rw[at1,eL];rw[atB]at hmul;omega
    have bq:=CU (P:=P) s.b (s.o+s.len*i'.size) T fz (aK enc ys) 0 cs w fx nB (by simpa using jB) hs.one
    have yX:(storeCells ⟨s.b,s.o+s.len*i'.size,none⟩ (aK enc ys)).run P w= .ok () (w.setRow s.b (over cs (s.o+s.len*i'.size) (aK enc ys).toArray)):=by
        simpa[over]using bq
    refine⟨{s with len:=s.len+ys.length},w.setRow s.b (over cs (s.o+s.len*i'.size) (aK enc ys).toArray),?_,⟨(fun h=>by rw[hn]at h;cases h),o8,by simp only;omega,r.ok.sp⟩,by simp[hlen],?_⟩
    ·have l6:({s with len:=s.len+ys.length}:Sv).val= .slice (some ⟨s.b,s.o,s.sp⟩) (s.len+ys.length) s.cap:=Sv.jc (s:={s with len:=s.len+ys.length}) hn
     rw[Sv.jc hn,l6,ig];rcases hs.kind with⟨e',hk⟩|hk<;>simp[Builtin.append_,run_underlying ht.fa,run_underlying hk,sizeOf,typeInfo,bg,hs.len,o8,hs.cells,Addr.ie,yX]
    ·have cN:hp (w.setRow s.b (over cs (s.o+s.len*i'.size) (aK enc ys).toArray)) s.b=some (.cells (over cs (s.o+s.len*i'.size) (aK enc ys).toArray) T fz):=setRow_heap w s.b cs _ T fz fx
     refine hw.change hi (fun k hk=>hk) (fun k hk=>?_) (by simp[World.setRow]) ⟨rfl,rfl,rfl⟩ ⟨xk ⟨(fun h=>by rw[hn]at h;cases h),o8,by simp only;omega,r.ok.sp⟩ (by simp[hlen]) cN fun k y hy j hj=>?_,fun _=>⟨ig,_,_,_,cN,?_,by rw[oX jB];exact nB,nW⟩⟩
     ·exact setRow_other w s.b k _ (fun e=>hk ⟨hn,e⟩)
     ·rw[vz jB]
      by_cases hk:k<xs.length
      ·rw[if_neg,←r.row k y (by rw[atb hk]at hy;exact hy) j hj]
       ·unfold oV;rw[fx]
       ·have:(k+1)*i'.size<=s.len*i'.size:=atm _ (by omega)
        rw[atB]at this;intro h;have:=h.1;simp only at this;omega
      ·rw[ata (by omega)]at hy
       have yW:=oY (enc:=enc) ys (k -xs.length) y hy j hj;have pa:s.len*i'.size+(k -xs.length)*i'.size=k*i'.size:=by rw[←atB];congr 1;omega
       have bc:(k -xs.length+1)*i'.size<=ys.length*i'.size:=atm _ (by have:=(ad2.1 hy).1;omega);rw[atB]at bc;rw[if_pos ⟨by simp only;omega,by rw[at1,eL];simp only;omega⟩,←yW];simp only[auj];congr 1;omega
     ·rw[oX jB];exact fj
   ·refine grow (by omega) _ (by rw[Sv.jc hn,ig]) ?_
    refine run_firstCells_some w.drew _ _ _ _ _ _ (by rw[iK,hlen]) fun j u hu=>?_;obtain⟨y,hy,JK⟩:=Fy hc hu;have:=r.row _ y hy (j%i'.size) (avc _ hc);rw[JK]at this;rw[Addr.ie];show w.cell? _=_;rw[uf,←this];congr 1;have h9:=avd j i'.size;rw[aut]at h9;omega
theorem Pg(off:Nat): ∀(vs:List Value) (k:Nat) (cs:Array Value),off+k+vs.length≤cs.size→
    (vs.zipIdx k).foldl (fun cs (p:Value×Nat)=>cs.setIfInBounds (off+p.2) p.1) cs=(cs.toList.take (off+k)++vs++cs.toList.drop (off+k+vs.length)).toArray
  |[],k,cs,_=>by simp
  |v::vs,k,cs,h=>by
   simp only[List.zipIdx_cons,auA,asZ]at h⊢;rw[Pg off vs (k+1) _ (by simp;omega)];apply avR;have e1:(cs.setIfInBounds (off+k) v).toList=cs.toList.set (off+k) v:=by simp
   rw[e1];have bc:off+k<cs.toList.length:=by simp;omega
   have e2:(cs.toList.set (off+k) v).take (off+(k+1))=cs.toList.take (off+k)++[v]:=by
      rw[←auB,atf,avD (as4 _),atj bc];rfl
   have e3:(cs.toList.set (off+k) v).drop (off+(k+1)+vs.length)=cs.toList.drop (off+k+(vs.length+1)):=by
      rw[List.drop_set_of_lt (by omega)];congr 1;omega
   rw[e2,e3];simp
def idx(vals:List Value)(i:Nat):List (Nat×Value):=(vals.zipIdx i).map fun p=>(p.2,p.1)
theorem Ph[he:bu enc c]: ∀(xs:List α) (vals:List Value) (i:Nat) (cs:Array Value),vals.map Value.cells=xs.map enc→i*c+xs.length*c≤cs.size→
    Instr.fill (fun i=>some (i*c,c)) cs (idx vals i)=some (cs.toList.take (i*c)++aK enc xs++cs.toList.drop (i*c+xs.length*c)).toArray
  |[],[],i,cs,_,_=>by simp[idx,Instr.fill,aK]
  |[],_::_,_,_,h,_=>by simp at h
  |_::_,[],_,_,h,_=>by simp at h
  |x::xs,v::vals,i,cs,h,hs=>by
   simp only[atq,avJ]at h;obtain⟨h1,h2⟩:=h;have fj:v.cells.size=c:=by rw[h1];exact he.size x
   rw[asZ,atB,Nat.one_mul]at hs;simp only[idx,List.zipIdx_cons,atq,Instr.fill,fj];rw[if_neg (by simp;omega)]
   have ef:v.cells.zipIdx.foldl (fun cs (p:Value×Nat)=>cs.setIfInBounds (i*c+p.2) p.1) cs=(cs.toList.take (i*c)++v.cells.toList++cs.toList.drop (i*c+c)).toArray:=by
      have:=Pg (i*c) v.cells.toList 0 cs (by simp;omega);simp only[atZ]at this;rw[←Array.foldl_toList,Array.toList_zipIdx,this];simp[fj]
   have Ym:(v.cells.zipIdx.foldl (fun cs (x:Value×Nat)=>match x with|(c',j)=>cs.setIfInBounds (i*c+j) c') cs)=(cs.toList.take (i*c)++v.cells.toList++cs.toList.drop (i*c+c)).toArray:=ef
   rw[Ym];have p0:(cs.toList.take (i*c)++v.cells.toList).length=(i+1)*c:=by simp[fj,atB];omega
   have:=Ph xs vals (i+1) (cs.toList.take (i*c)++v.cells.toList++cs.toList.drop (i*c+c)).toArray h2 (by simp[fj,atB];omega);unfold idx at this;rw[this];congr 1;apply avR;rw[List.take_left' p0,←au5 (j:=(i+1)*c) (i:=xs.length*c),List.drop_left' p0];simp only[aK,avM,h1,ate,List.append_cancel_left_eq];rw[au5,asZ,show i*c+c+xs.length*c=i*c+(xs.length+1)*c by rw[atB];omega]
end
section
variable {P:Program} {N:cc} {w0:World} {env:Env} {L:List aj} {l:List Oper} {Q:Exit->Act->World->Prop} {rest:List Oper} {d:Option Tmp} {ty:TypeId} {ps:String} {af:Array Edge}
variable {α:Type} {enc:α->Array Value} {c:Nat} {s:Sv} {xs ys:List α}
class fI(L:List aj)(s:Sv){α:outParam Type}(enc:outParam (α->Array Value))(c:outParam Nat)(xs:outParam (List α))(i:outParam Nat):Prop where
  h:L[i]? =some (own enc c s xs)
instance (priority:=high) fI.here {L:List aj}:fI (own enc c s xs::L) s enc c xs 0:=⟨rfl⟩
instance fI.there{L:List aj}{e:aj}{i:Nat}[q:fI L s enc c xs i]:fI (e::L) s enc c xs (i+1):=⟨by simpa using q.h⟩
theorem fI.holds{i:Nat}(q:fI L s enc c xs i):Holds w0 L enc c s xs:=fun _ hw=>(hw.get q.h).1
theorem Mem.dA{w:World}(enc:α->Array Value)(c:Nat)(h:Mem w0 L w):Mem w0 (own enc c Sv.none []::L) w:=
  h.call (E:=[own enc c Sv.none []]) ⟨Below.refl _ _,fun e he=>by
    obtain rfl:=atG.1 he;exact⟨dJ.nil enc c _,(fun h=>by cases h)⟩,fun e he k hk=>by
    obtain rfl:=atG.1 he;exact absurd hk.1 (by simp[Sv.none]),by simp⟩
theorem kV{t tx e:TypeId}{x y:Operand}{yv:Value}{cL i:Nat}[ht:fH P t e c cL][he:bu enc c](hx:ev env x=some s.val)(hy:ev env y=some yv)[q:fI L s enc c xs i](hc:0<c)
    (hs: ∀w,Mem w0 L w->Src P c tx yv ys.length (aK enc ys) w) (hb:(xs.length+ys.length)*cL<=140737488355328) (jO:xs.length+ys.length<=140737488355328) {L':Sv->List aj} [hu: ∀s',fF L i (own enc c s' (xs++ys)) (L' s')]
    (hk: ∀s':Sv,s'.Ok->s'.len=(xs++ys).length->Sq P N w0 l Q rest (cB env d s'.val) (L' s')) (hd:du N d=true:=by rfl):
    Sq P N w0 l Q (⟨d, .call {callee:= .builtin .append,args:= #[x,y],argTypes:= #[t,tx]},ty,ps,af,none⟩::rest) env L:=
  oU rfl hd fun a w ha hw=>by
    obtain⟨s',w',h1,h2,h3,h4⟩:=JL (ty:=ty) ht hc hw q.h (hs w hw) hb jO;refine⟨s'.val,w',L' s',?_,by rw[←(hu s').h];exact h4,hk s' h2 h3⟩;simp[execOp,ha.ev hx,ha.ev hy,resolve,invoke,builtin,h1,Result.andThen]
theorem yY{w:World}{b:Nat}{cs:Array Value}{e:TypeId}(hb:b=w.heap.size)(n cap:Nat)(hn:n=xs.length)(hle:n≤cap)(jO:n≤140737488355328)(fj:cap*c≤cs.size)(hc: ∀i x,xs[i]? =some x→ ∀j,j<c→cs[i*c+j]? =(enc x)[j]?):
    Mem w [own enc c ⟨false,b,0,n,cap,none⟩ xs] (w.alloc (.cells cs e)):=by
  subst hb;have hm:=(Mem.init w).alloc cs e;have fx:hp (w.alloc (.cells cs e)) w.heap.size=some (.cells cs e (0,0)):=Below.E6 w _;refine⟨hm.below,fun q hq=>?_,fun q hq k hk=>?_,by simp⟩
  ·obtain rfl:=atG.1 hq
   exact⟨xk ⟨(fun h=>by cases h),hle,jO,fun _=>rfl⟩ hn fx (by simpa using hc),fun _=>⟨rfl,_,_,_,fx,by simpa using fj,JE _,fun _=>rfl⟩⟩
  ·obtain rfl:=atG.1 hq
   obtain rfl:k=w.heap.size:=hk.2;simp
theorem JM{n c:Nat}(h0:0<n*c)(h:n*c<=16777216):n<=140737488355328:=by
  have:n*1≤n*c:=Nat.mul_le_mul_left _ (by rcases auy c with rfl|h';·simp at h0
                                          ·exact h')
  omega
theorem JN{t e:TypeId}{cL:Nat}(ht:fH P t e c cL)[he:bu enc c]{vals:List Value}(hv:vals.map Value.cells=xs.map enc)(hc:0<xs.length*c)(vA:xs.length*c≤16777216)(w:World):
    (Instr.buildSlice t xs.length (idx vals 0).toArray).run P w= .ok (.slice (some ⟨w.heap.size,0,none⟩) xs.length xs.length) (w.alloc (.cells (aK enc xs).toArray e)):=by
  obtain⟨i',z,bg,aH,bA,dj,nV⟩:=ht.info;subst bA;have hf:=Ph (enc:=enc) (c:=i'.size) xs vals 0 ((Array.range (xs.length*i'.size)).map (z.cells[· %z.cells.size]!)) hv (by simp);have Yn:((Array.range (xs.length*i'.size)).map (z.cells[· %z.cells.size]!)).toList.drop (0*i'.size+xs.length*i'.size)=[]:=by simp
  rw[Yn]at hf;simp only[Nat.zero_mul,atH,atQ,atK]at hf;have n1: ¬xs.length*i'.size>2^24:=by omega
  have n2: ¬xs.length*i'.size=0:=by omega
  simp[Instr.buildSlice,run_underlying ht.fa,sizeOf,typeInfo,zeroValue,bg,aH,n1,n2,hf,newRow,newObj,Sem.run,Result.andThen]
theorem mc{t e:TypeId}{cL n:Nat}[ht:fH P t e c cL][he:bu enc c]{ops:List (Nat×Operand)}{vals:List Value}(xs:List α)(hx:kU env ops=some (idx vals 0))(hv:vals.map Value.cells=xs.map enc)(hn:xs.length=n)(hc:0<n*c)(vA:n*c≤16777216)
    (hk: ∀b,Sq P N w0 l Q rest (cB env d (Sv.val ⟨false,b,0,n,n,none⟩)) (own enc c ⟨false,b,0,n,n,none⟩ xs::L)) (hd:du N d=true:=by rfl):
    Sq P N w0 l Q (⟨d, .buildSlice t n ops.toArray,ty,ps,af,none⟩::rest) env L:=
  oU rfl hd fun a w ha hw=>by
    subst hn;have e1:(ops.toArray.map fun(p:Nat×Operand)=>match p with|(i,x)=>(i,a.eval x))=(idx vals 0).toArray:=by
      rw[←ha.kU hx];simp
    refine⟨_,_,_,?_,hw.call (yY (enc:=enc) (c:=c) (xs:=xs) (cs:=(aK enc xs).toArray) (e:=e) rfl xs.length xs.length rfl (as4 _) (JM hc vA) (by simp[iK]) fun i x hx j hj=>by rw[←oY (enc:=enc) xs i x hx j hj];simp),hk _⟩;simp only[execOp,e1,Sem.run_bind,JN ht hv hc vA w,Result.andThen,Sem.run_pure];rfl
theorem Yo{zc:Array Value}(m n:Nat)(h:zc.size=c)(i j:Nat)(hi:i<n)(hj:j<c)(hm:n*c<=m):(madeCells zc m)[i*c+j]? =zc[j]? :=by
  have bc:i*c+j<m:=by
    have:(i+1)*c<=n*c:=atm _ hi;rw[atB]at this;omega
  have e1:(i*c+j)%zc.size=j:=by rw[h,aut,Nat.mul_add_mod];exact atN hj
  have hz:j<zc.size:=by omega
  simp[madeCells,bc,e1,hz]
theorem JO{t e:TypeId}{cL n cap:Nat}{z:Value}(ht:fH P t e c cL)(hz:eJ P e z){k k':IntKind}(x0:α)(h0:enc x0=z.cells)(hle:n≤cap)(hb:cL*cap≤281474976710656)(jO:cap≤140737488355328)(w:World):
    ∃w',(Instr.makeSlice t (.int k n) (.int k' cap)).run P w= .ok (Sv.val ⟨false,w.heap.size,0,n,cap,none⟩) w'/\Mem w [own enc c ⟨false,w.heap.size,0,n,cap,none⟩ (List.replicate n x0)] w':=by
  obtain⟨i',z',bg,aH,bA,dj,nV⟩:=ht.info;obtain rfl:z'=z:=by
    have:=hz.zero;rw[bg,atJ,aH]at this;exact asY (asY this)
  subst bA dj;have cN:(i'.bytes:Int)*(cap:Int)<=281474976710656:=by
    have h:((i'.bytes*cap:Nat):Int)<=281474976710656:=by omega
    rwa [Int.natCast_mul]at h
  have hr:=run_make (P:=P) w t e i' _ ht.fa bg aH k k' n cap (by omega) (by omega) cN (by omega);simp only[at4]at hr;refine⟨_,hr,yY rfl n cap (by simp) hle (by omega) (by simp[size_madeCells]) fun i x hx j hj=>?_⟩;have hi:i<n:=by
    have:=(ad2.1 hx).1;simpa using this
  obtain rfl:x0=x:=by rw[avC,if_pos hi]at hx;exact asY hx
  rw[h0];exact Yo _ n nV i j hi hj (atm _ hle)
theorem ui{t e:TypeId}{cL n cap:Nat}{z:Value}{x y:Operand}{k k':IntKind}{ix iy:Int}[ht:fH P t e c cL][hz:eJ P e z](x0:α)(h0:enc x0=z.cells)(hx:ev env x=some (.int k ix))(hy:ev env y=some (.int k' iy))(ex:ix=(n:Int))(ey:iy=(cap:Int))(hle:n≤cap)(hb:cL*cap≤281474976710656)(jO:cap≤140737488355328)
    (hk: ∀b,Sq P N w0 l Q rest (cB env d (Sv.val ⟨false,b,0,n,cap,none⟩)) (own enc c ⟨false,b,0,n,cap,none⟩ (List.replicate n x0)::L)) (hd:du N d=true:=by rfl):
    Sq P N w0 l Q (⟨d, .makeSlice t x y,ty,ps,af,none⟩::rest) env L:=
  oU rfl hd fun a w ha hw=>by
    subst ex ey;obtain⟨w',h1,h2⟩:=JO ht hz (k:=k) (k':=k') (n:=n) x0 h0 hle hb jO w;exact⟨_,w',_,by simp only[execOp,ha.ev hx,ha.ev hy,Sem.run_bind,h1,Result.andThen,Sem.run_pure],hw.call h2,hk _⟩
theorem Pj{w:World}{L':List aj}{i k j:Nat}{a a':α}{vs:Array Value}[he:bu enc c](hw:Mem w0 L w)(q:fI L s enc c xs i)(ha:xs[k]? =some a)(hv:vs.all (·.oneCell')=true)(hj:j+vs.size≤c)(qM:over (enc a) j vs=enc a')(hu:fF L i (own enc c s (xs.set k a')) L'):
    ∃w',(storeCells ⟨s.b,s.o+k*c+j,none⟩ vs.toList).run P w= .ok () w'/\Mem w0 L' w':=by
  obtain⟨r,oZ⟩:=hw.get q.h;have hk:k<xs.length:=(ad2.1 ha).1;have hn:=r.some hk;have hle:=r.ok.le;have hlen:=r.len;obtain⟨ig,cs,T,fz,fx,fj,nB,nW⟩:=oZ hn;have hmul:(k+1)*c<=s.cap*c:=atm _ (by omega);have aj9:=hmul;rw[atB]at hmul;have jB:s.o+k*c+j+vs.size<=cs.size:=by omega
  have bq:=CU (P:=P) s.b (s.o+k*c+j) T fz vs.toList 0 cs w fx nB (by simpa using jB) (fun v l6=>(atM.1 hv) v (by simpa using l6));refine⟨w.setRow s.b (over cs (s.o+k*c+j) vs),by simpa[over]using bq,?_⟩;have cN:hp (w.setRow s.b (over cs (s.o+k*c+j) vs)) s.b=some (.cells (over cs (s.o+k*c+j) vs) T fz):=setRow_heap w s.b cs _ T fz fx;rw[←hu.h];refine hw.change q.h (fun k hk=>hk) (fun x hx=>setRow_other w s.b x _ (fun e=>hx ⟨hn,e⟩)) (by simp[World.setRow]) ⟨rfl,rfl,rfl⟩ ⟨xk r.ok (by simpa using hlen) cN fun x y hy p fG=>?_,fun _=>⟨ig,_,_,_,cN,by rw[oX jB];exact fj,by rw[oX jB];exact nB,nW⟩⟩;rw[vz jB]
  by_cases Pk:x=k
  ·subst Pk
   obtain rfl:a'=y:=by rw[atj hk]at hy;exact asY hy
   rw[←qM,vz (by rw[he.size];exact hj)]
   by_cases h1:j<=p/\p<j+vs.size
   ·rw[if_pos h1,if_pos (by omega)];congr 1;omega
   ·rw[if_neg h1,if_neg (by omega),←r.row x a ha p fG]
    unfold oV;rw[fx]
  ·rw[att (by omega)]at hy
   rw[if_neg,←r.row x y hy p fG]
   ·unfold oV;rw[fx]
   ·intro h
    rcases avX Pk with h'|h'
    ·have:(x+1)*c<=k*c:=atm _ h'
     rw[atB]at this;omega
    ·have:(k+1)*c<=x*c:=atm _ h'
     rw[atB]at this;omega
theorem kW{t:TypeId}{x y:Operand}{i k j n p:Nat}{a a':α}{v:Value}(sz:(P.info? t).map (·.size)=some n)[he:bu enc c](hx:ev env x=some (.pointer (some ⟨s.b,p,none⟩)))(hy:ev env y=some v)[q:fI L s enc c xs i](fG:p=s.o+k*c+j)
    (ha:xs[k]? =some a) (hv:v.cells.all (·.oneCell')=true) (hn:v.cells.size=n) (hj:j+n<=c) (qM:over (enc a) j v.cells=enc a') {L':List aj} [hu:fF L i (own enc c s (xs.set k a')) L'] (hk:Sq P N w0 l Q rest env L'):
    Sq P N w0 l Q (⟨none, .store t x y,ty,ps,af,none⟩::rest) env L:=
  Fs rfl rfl fun aa w CW hw=>by
    subst fG hn;obtain⟨w',h1,h2⟩:=Pj (P:=P) hw q ha hv hj qM hu;refine⟨w',_,?_,h2,hk⟩;simp only[execOp,CW.ev hx,CW.ev hy,Instr.storeAt,Instr.sureAddr,storeVar,Sem.run_bind,Sem.run_pure,Result.andThen,l5 w sz];simp[h1]
theorem Yp{X:Type}{val:X→Value}{L':X→List aj}{pr:X→Prop}{f:FuncId}{xs:List Operand}{ts:Array TypeId}{vs:List Value}[hf:aI P f](hx:hH env xs=some vs)
    (hc: ∀w,Mem w0 L w->Calls P f vs.toArray w fun e w'=> ∃x,e= .returned (val x)/\pr x/\Mem w0 (L' x) w') (hk: ∀x,pr x->Sq P N w0 l Q rest (cB env d (val x)) (L' x)) (hd:du N d=true:=by rfl):
    Sq P N w0 l Q (⟨d, .call {callee:= .value (.func f),args:=xs.toArray,argTypes:=ts},ty,ps,af,none⟩::rest) env L:=fun a w ha hw=>by
  unfold wpList;rw[if_pos (qH rfl)];refine .inl ?_;unfold Oper.wp;rw[Fo hf w rfl,ha.hH hx];exact(hc w hw).mono fun e w' ⟨x,he,hp,hm⟩=>by subst he;exact hk x hp _ _ (ha.put hd _) hm
theorem kG{N:Nat}{fn:Func}{R:Ending→World→Prop}{f:FuncId}{c:Code}{args:List Value}{w:World}(hf:P.funcs[f]? =some fn)(hb:fn.body=some c)(hN:fn.ntmps=N)(hle:Nat.ble args.length N=true)(hw:Mem w0 L w)
    (h:Cw P ⟨N,[],none⟩ w0 (qD P fn R) c (args.zipIdx.map fun p=>(p.2,p.1)) L):Calls P f args.toArray w R:=
  OQ hf hb (h _ _ (by rw[hN];exact cO.enter args N (Nat.le_of_ble_eq_true hle)) hw)
theorem Fz{b n i:Nat}{cs:Array Value}{T:TypeId}[hi:Has L b cs T i][he:bu enc c](iE:cs=(aK enc xs).toArray)(hn:xs.length=n)(jO:n<=140737488355328:=by decide):Holds w0 L enc c ⟨false,b,0,n,n,none⟩ xs:=fun w hw=>by
  have hb:=hw.block hi.h;exact xk ⟨(fun h=>by cases h),as4 _,jO,fun _=>rfl⟩ hn.symm hb fun k x hx j hj=>by
    rw[←oY (enc:=enc) xs k x hx j hj,iE];simp
def yZ(tmps:Array Value)(r:ResultVar):Sem Value:=match r with
  | .tmp t=>pure (tmps.getD t undef)
  | .cell c t=>do loadVar t (←asAddr (tmps.getD c undef))
theorem JP(fn:Func)(tmps:Array Value):results fn tmps=(do let vs←fn.results.mapM (yZ tmps);pure (if h:vs.size=1 then vs[0]else .tuple vs)):=by
  have:(fun r=>yZ tmps r)=(fun| .tmp t=>pure (tmps.getD t undef)| .cell a t=>do loadVar t (←asAddr (tmps.getD a undef)):ResultVar->Sem Value):=by
    funext r;cases r<;>rfl
  show _=(do let vs←fn.results.mapM (fun r=>yZ tmps r);pure (if h:vs.size=1 then vs[0]else .tuple vs));rw[this];rfl
def RV(P:Program)(N:cc)(w0:World)(env:Env)(L:List aj)(r:ResultVar)(v:Value):Prop:= ∀a w,cO N env a->Mem w0 L w->(yZ a.tmps r).run P w= .ok v w
theorem sO{t:Nat}{v:Value}(hv:look env t=some v):RV P N w0 env L (.tmp t) v:=fun a w ha _=>by
  have:=ha.get _ _ hv;simp[yZ,this]
theorem xm{t b i n:Nat}{T T':TypeId}{cs:Array Value}(hv:look env t=some (.pointer (some ⟨b,0,none⟩)))[ht:fE P T n][hi:Has L b cs T' i][hn:gk cs n]:RV P N w0 env L (.cell t T) (.agg cs):=fun a w ha hw=>by
  have h1:=ha.get _ _ hv;have h2:(loadVar T ⟨b,0,none⟩).run P w= .ok (.agg cs) w:=Jn w ht hn.h fun j _=>by rw[Addr.ie,hw.cell hi.h,atF]
  simp[yZ,h1,asAddr,h2]
theorem Pm{t b i:Nat}{T T':TypeId}{cs:Array Value}{v:Value}(hv:look env t=some (.pointer (some ⟨b,0,none⟩)))[ht:fW P T][hi:Has L b cs T' i](hc:cs[0]? =some v):RV P N w0 env L (.cell t T) v:=fun a w ha hw=>by
  have h1:=ha.get _ _ hv;have h2:(loadVar T ⟨b,0,none⟩).run P w= .ok v w:=O0 w ht (by rw[hw.cell hi.h];exact hc);simp[yZ,h1,asAddr,h2]
variable {fn:Func} {r1 r2 r3:ResultVar} {v1 v2 v3:Value}
theorem Yq{A B:Type}(f:A->Sem B)(x y:A):(#[x,y]:Array A).mapM f=(do let a←f x;let b←f y;pure #[a,b]):=by simp
theorem Yr{A B:Type}(f:A->Sem B)(x y z:A):(#[x,y,z]:Array A).mapM f=(do let a←f x;let b←f y;let c←f z;pure #[a,b,c]):=by simp
theorem y0(hf:fn.results= #[r1])(h1:RV P N w0 env L r1 v1): ∀a w,cO N env a->Mem w0 L w->(results fn a.tmps).run P w= .ok v1 w:=fun a w ha hw=>by
  have e1:=h1 a w ha hw;rw[JP,hf];simp[e1]
theorem JQ(hf:fn.results= #[r1,r2])(h1:RV P N w0 env L r1 v1)(h2:RV P N w0 env L r2 v2): ∀a w,cO N env a->Mem w0 L w->(results fn a.tmps).run P w= .ok (.tuple #[v1,v2]) w:=fun a w ha hw=>by
  have e1:=h1 a w ha hw;have e2:=h2 a w ha hw;rw[JP,hf,Yq];simp[e1,e2]
theorem Ys(hf:fn.results= #[r1,r2,r3])(h1:RV P N w0 env L r1 v1)(h2:RV P N w0 env L r2 v2)(h3:RV P N w0 env L r3 v3): ∀a w,cO N env a->Mem w0 L w->(results fn a.tmps).run P w= .ok (.tuple #[v1,v2,v3]) w:=fun a w ha hw=>by
  have e1:=h1 a w ha hw;have e2:=h2 a w ha hw;have e3:=h3 a w ha hw;rw[JP,hf,Yr];simp[e1,e2,e3]
end
def aQ(b:UInt8):Array Value:= #[.int .u8 b.toNat]
instance:bu aQ 1:=⟨fun _=>rfl,fun _=>by simp[aQ,Value.oneCell']⟩
instance (b:UInt8):cg (aQ b) 0 (.int .u8 b.toNat):=⟨rfl⟩
def uj(s:Sv):Array Value:= #[s.val]
instance:bu uj 1:=⟨fun _=>rfl,fun s=>by simp[uj,Sv.one]⟩
def b8(n:Nat):UInt8:=UInt8.ofNat n
theorem sP(n:Nat):(b8 n).toNat=n%256:=by simp[b8]
theorem Yt(n:Nat):b8 (n%256)=b8 n:=by
 apply avm.1;simp[sP]
theorem Yu(n:Nat):IntKind.u8.wrap (n:Int)=((b8 n).toNat:Int):=by
 rw[sP];simp[IntKind.wrap,IntKind.bits,IntKind.signed]
def be(n:Nat):Nat->List UInt8
 |0=>[]
 |k+1=>b8 (n/256^k)::be n k
theorem jP(n:Nat): ∀k,(be n k).length=k
 |0=>rfl
 |k+1=>by simp[be,jP n k]
def de(l:List UInt8):Nat:=l.foldl (fun a b=>a*256+b.toNat) 0
theorem Pn{xs:List UInt8}{i:Nat}{b:UInt8}(h:xs[i]? =some b):de (xs.take (i+1))=de (xs.take i)*256+b.toNat:=by
 rw[atf,h];simp[de]
theorem JR(xs:List UInt8): ∀i,i<=xs.length->de (xs.take i)<256^i
 |0,_=>by simp[de]
 |i+1,h=>by
  have:=JR xs i (by omega);rw[Pn (b:=xs[i]) (by simp),av1];have:=xs[i].toNat_lt;omega
section
variable {P:Program} {N:cc} {w0:World} {env:Env} {L:List aj} {d:Option Tmp} {ty:TypeId} {ps:String} {af:Array Edge} {gd:Option (Nat×Bool)}
variable {x y:Operand} {k k':IntKind} {p q:Nat} {t u s:TypeId}
theorem xn{a b:Int}(hx:ev env x=some (.int k a))(hy:ev env y=some (.int k b))(ea:a=p)(eb:b=q)(hq:0<q):
  Ry P N w0 env L ⟨d, .binOp .rem t x y u,ty,ps,af,gd⟩ (.int k ((p%q:Nat):Int)):=dz hx hy (by
 subst ea eb;rw[lZ,if_neg (by omega),←Int.ofNat_tmod])
theorem Yv{a b:Int}(hx:ev env x=some (.int k a))(hy:ev env y=some (.int k b))(ea:a=p)(eb:b=q)(h:p*q<2^nb k):
  Ry P N w0 env L ⟨d, .binOp .mul t x y u,ty,ps,af,gd⟩ (.int k ((p*q:Nat):Int)):=dz hx hy (by
 subst ea eb;rw[lZ,←Int.natCast_mul,qG h])
theorem CX{n:Nat}{a:Int}[hs:nS P s k'][ht:nS P t .u8](hx:ev env x=some (.int k' a))(ea:a=n):
  Ry P N w0 env L ⟨d, .convert s t x,ty,ps,af,gd⟩ (.int .u8 (b8 n).toNat):=vq hx (by subst ea;exact Yu n)
theorem Yw{e:TypeId}{sv:Sv}{xs:List UInt8}(hs:P.underlying s=some (.slice e))(he:P.underlying e=some (.int .u8))(hd:P.underlying t=some .string)(hx:ev env x=some sv.val)(hR:Holds w0 L aQ 1 sv xs):
  Ry P N w0 env L ⟨d, .convert s t x,ty,ps,af,gd⟩ (.string ⟨xs.toArray⟩):=fun a w ha hw=>by
 have r:=hR w hw;have hr:(convert s t sv.val).run P w= .ok (.string ⟨xs.toArray⟩) w:=by
  cases hn:sv.nil with
  |true=>
   have:xs=[]:=by have:=(r.ok.nil hn).1;rw[r.len]at this;exact ati.1 this
   subst this;rw[Sv.ue hn,run_convert_bytes_string w s t e none 0 0 hs he hd];rfl
  |false=>
   rw[Sv.jc hn,r.len];refine run_convert_bytes_back w s t e _ _ xs hs he hd fun j hj=>?_;rw[r.ok.sp (by have:=r.len;have:=r.ok.le;omega)];rw[Addr.ie,uf];have:=r.row j xs[j] (by simp) 0 (by decide);simp only[auL,atZ]at this;rw[this];rfl
 simp only[execOp,ha.ev hx,Sem.run_bind,hr,Result.andThen,Sem.run_pure]
theorem Yx{a b:ByteArray}(hx:ev env x=some (.string a))(hy:ev env y=some (.string b)):
  Ry P N w0 env L ⟨d, .binOp .eql t x y u,ty,ps,af,gd⟩ (.bool (a.toList==b.toList)):=fun aa w ha _=>by
 have h2:(eqGuard BinOp.eql t x y (.string a) (.string b)).run P w= .ok () w:=rfl;simp only[execOp,ha.ev hx,ha.ev hy,Sem.run_bind,h2,Result.andThen_ok,binOp_string_eql,Sem.run_pure]
end
section
variable {P:Program} {N:cc} {w0:World} {env:Env} {L:List aj} {l:List Oper} {Q:Exit->Act->World->Prop} {rest:List Oper} {d:Option Tmp} {ty:TypeId} {ps:String} {af:Array Edge}
end
def uk(b c:UInt8):UInt16:=UInt16.ofNat (b.toNat*256+c.toNat)
theorem JS(b c:UInt8):(uk b c).toNat=b.toNat*256+c.toNat:=by
 have:=b.toNat_lt;have:=c.toNat_lt;simp[uk];omega
theorem Po(p q:Nat)(h:q<256):(p*256)|||q=p*256+q:=by
 have:=Nat.two_pow_add_eq_or_of_lt (i:=8) (b:=q) (by simpa using h) p;rw[show(2^8*p)=p*256 by rw[aut]]at this;exact this.symm
section
variable {P:Program} {N:cc} {w0:World} {env:Env} {L:List aj} {d:Option Tmp} {ty:TypeId} {ps:String} {af:Array Edge} {gd:Option (Nat×Bool)} {x y:Operand} {k:IntKind} {t u:TypeId}
theorem Pp{b:UInt8}{k':IntKind}(hx:ev env x=some (.int k b.toNat))(hy:ev env y=some (.int k' 8))(hk:k= .u16\/k= .i64:=by decide):
  Ry P N w0 env L ⟨d, .binOp .shl t x y u,ty,ps,af,gd⟩ (.int k ((b.toNat*256:Nat):Int)):=by
 have h:=Fq (P:=P) (N:=N) (w0:=w0) (L:=L) (d:=d) (ty:=ty) (ps:=ps) (af:=af) (gd:=gd) (t:=t) (u:=u) hx hy (by decide);have hb:=b.toNat_lt;have e:k.wrap ((b.toNat:Int)*2^min (Int.toNat 8) k.bits)=((b.toNat*256:Nat):Int):=by
  rcases hk with rfl|rfl<;>simp[IntKind.wrap,IntKind.bits,IntKind.signed]<;>omega
 rw[e]at h;exact h
theorem Pq{b c:UInt8}(hx:ev env x=some (.int k ((b.toNat*256:Nat):Int)))(hy:ev env y=some (.int k c.toNat))(hk:k= .u16\/k= .i64:=by decide):
  Ry P N w0 env L ⟨d, .binOp .or t x y u,ty,ps,af,gd⟩ (.int k ((uk b c).toNat:Nat)):=by
 have hb:=b.toNat_lt;have hc:=c.toNat_lt;rw[JS,←Po _ _ hc];rcases hk with rfl|rfl
 ·
  exact CN hx hy rfl rfl (by simp only[nb];omega) (by simp only[nb];omega)
 ·
  exact CN hx hy rfl rfl (by simp only[nb];omega) (by simp only[nb];omega)
end
def aj.emp:aj:=⟨fun _=>False,fun _=>True,fun _ _ _ s=>s⟩
def aj.two(a b:aj):aj:=⟨fun k=>a.fp k\/b.fp k,fun h=>a.sat h/\b.sat h/\ ∀k,a.fp k-> ¬b.fp k,
  fun h h' e s=>⟨a.loc h h' (fun k hk=>e k (.inl hk)) s.1,b.loc h h' (fun k hk=>e k (.inr hk)) s.2.1,s.2.2⟩⟩
def aj.all:List aj->aj
  |[]=> .emp
  |e::r=> .two e (.all r)
theorem Mem.CY{w0 w:World}{L:List aj}:Mem w0 (.emp::L) w↔Mem w0 L w:=
  ⟨fun h=>h.sub (atO _ _),fun h=>⟨h.below,fun e he=>by
    rcases as2.1 he with rfl|he
    ·exact trivial
    ·exact h.sat e he,fun e he k hk=>by
    rcases as2.1 he with rfl|he
    ·exact hk.elim
    ·exact h.kf e he k hk,atn.2 ⟨fun _ _ _ hk=>hk.elim,h.pW⟩⟩⟩
theorem Mem.y5{w0 w:World}{a b:aj}{L:List aj}:Mem w0 (.two a b::L) w↔Mem w0 (a::b::L) w:=by
  constructor
  ·intro h
   have hs:(a.sat fun k=>w.heap[k]?)/\(b.sat fun k=>w.heap[k]?)/\ ∀k,a.fp k-> ¬b.fp k:=h.sat (.two a b) (by simp);have hd:=atn.1 h.pW;refine⟨h.below,fun e he=>?_,fun e he k hk=>?_,?_⟩
   ·rcases as2.1 he with rfl|he
    ·exact hs.1
    ·rcases as2.1 he with rfl|he
     ·exact hs.2.1
     ·exact h.sat e (by simp[he])
   ·rcases as2.1 he with rfl|he
    ·exact h.kf (.two e b) (by simp) k (.inl hk)
    ·rcases as2.1 he with rfl|he
     ·exact h.kf (.two a e) (by simp) k (.inr hk)
     ·exact h.kf e (by simp[he]) k hk
   ·refine atn.2 ⟨fun x hx k hk=>?_,atn.2 ⟨fun x hx k hk=>hd.1 x hx k (.inr hk),hd.2⟩⟩
    rcases as2.1 hx with rfl|hx
    ·exact hs.2.2 k hk
    ·exact hd.1 x hx k (.inl hk)
  ·intro h
   have hd:=atn.1 h.pW;have AJ:=atn.1 hd.2;refine⟨h.below,fun e he=>?_,fun e he k hk=>?_,atn.2 ⟨fun x hx k hk=>?_,AJ.2⟩⟩
   ·rcases as2.1 he with rfl|he
    ·exact⟨h.sat a (by simp),h.sat b (by simp),fun k hk=>hd.1 b (by simp) k hk⟩
    ·exact h.sat e (by simp[he])
   ·rcases as2.1 he with rfl|he
    ·rcases hk with hk|hk
     ·exact h.kf a (by simp) k hk
     ·exact h.kf b (by simp) k hk
    ·exact h.kf e (by simp[he]) k hk
   ·rcases hk with hk|hk
    ·exact hd.1 x (by simp[hx]) k hk
    ·exact AJ.1 x hx k hk
theorem Mem.CZ{w0 w:World}: ∀(es:List aj) {L:List aj},Mem w0 (.all es::L) w↔Mem w0 (es++L) w
  |[],_=>Mem.CY
  |e::r,L=>by
   show Mem w0 (.two e (.all r)::L) w↔_;rw[Mem.y5];have sw: ∀(a b:aj) (K:List aj),Mem w0 (a::b::K) w↔Mem w0 (b::a::K) w:=fun a b K=>⟨fun h=>h.perm (List.Perm.swap _ _ _),fun h=>h.perm (List.Perm.swap _ _ _)⟩;rw[sw,Mem.CZ r];exact⟨fun h=>h.perm (avh),fun h=>h.perm (avh).symm⟩
class Deep(τ:Type) where
  c:Nat
  cells:τ->Array Value
  size: ∀x,(cells x).size=c
  one: ∀x,(cells x).all (·.oneCell')=true
  cM:(Nat->Option Obj)->τ->Prop
  ck:τ->aj
  ki: ∀h x,(ck x).sat h->cM h x
  mono: ∀(w w':World) x,cM (hp w) x->Below w.heap.size w w'->cM (hp w') x
instance Deep.enc{τ:Type}[Deep τ]:bu (Deep.cells (τ:=τ)) (Deep.c τ):=⟨Deep.size,Deep.one⟩
@[reducible] def Deep.flat {τ:Type}(enc:τ->Array Value)(c:Nat)[he:bu enc c]:Deep τ:=⟨c,enc,he.size,he.one,fun _ _=>True,fun _=> .emp,fun _ _ _=>trivial,fun _ _ _ _ _=>trivial⟩
structure Sl(τ:Type) where
  sv:Sv
  xs:List τ
theorem aj.C0{h:Nat->Option Obj}: ∀{es:List aj},(aj.all es).sat h-> ∀e∈es,e.sat h
  |[],_,_,he=>by cases he
  |_::_,hs,e,he=>by
   rcases as2.1 he with rfl|he
   ·exact hs.1
   ·exact aj.C0 hs.2.1 e he
instance Deep.slice{τ:Type}[d:Deep τ]:Deep (Sl τ) where
  c:=1
  cells a:=uj a.sv
  size _:=rfl
  one a:=bu.one (enc:=uj) (c:=1) a.sv
  cM h a:=dJ (Deep.cells (τ:=τ)) (Deep.c τ) h a.sv a.xs/\ ∀x∈a.xs,d.cM h x
  ck a:= .two (own (Deep.cells (τ:=τ)) (Deep.c τ) a.sv a.xs) (.all (a.xs.map d.ck))
  ki h _ hs:=⟨hs.1.1,fun x hx=>d.ki h x (aj.C0 hs.2.1 _ (atp hx))⟩
  mono w w' _ hg hb:=⟨hg.1.mono hb,fun x hx=>d.mono w w' x (hg.2 x hx) hb⟩
theorem Mem.AK{τ:Type}[d:Deep τ]{w0 w:World}{L:List aj}{a:Sl τ}:Mem w0 (Deep.ck a::L) w↔Mem w0 (own (Deep.cells (τ:=τ)) (Deep.c τ) a.sv a.xs::a.xs.map d.ck++L) w:=by
  show Mem w0 (.two _ (.all _)::L) w↔_;rw[Mem.y5];have sw: ∀(a b:aj) (K:List aj),Mem w0 (a::b::K) w↔Mem w0 (b::a::K) w:=fun a b K=>⟨fun h=>h.perm (List.Perm.swap _ _ _),fun h=>h.perm (List.Perm.swap _ _ _)⟩;rw[sw,Mem.CZ];exact⟨fun h=>h.perm (avh),fun h=>h.perm (avh).symm⟩
section
variable {w0:World} {L:List aj} {τ:Type}
class Hd(w0:World)(L:List aj)(s:Sv){α:outParam Type}(enc:outParam (α->Array Value))(c:outParam Nat)(xs:outParam (List α)):Prop where
  h:Holds w0 L enc c s xs
class Gv(w0:World)(s:Sv){α:outParam Type}(enc:outParam (α->Array Value))(c:outParam Nat)(xs:outParam (List α)):Prop where
  h:dJ enc c (hp w0) s xs
instance (priority:=high) Hd.owned {s:Sv}{α:Type}{enc:α->Array Value}{c:Nat}{xs:List α}{i:Nat}[q:fI L s enc c xs i]:Hd w0 L s enc c xs:=⟨q.holds⟩
instance Hd.given{s:Sv}{α:Type}{enc:α->Array Value}{c:Nat}{xs:List α}[q:Gv w0 s enc c xs][bu enc c]:Hd w0 L s enc c xs:=⟨JF q.h⟩
class Rg(lo hi n:Nat):Prop where
  h:lo<=hi/\hi<=n
instance Hd.sub{s:Sv}{α:Type}{enc:α->Array Value}{c:Nat}{xs:List α}{lo hi:Nat}[q:Hd w0 L s enc c xs][r:Rg lo hi xs.length]:Hd w0 L (s.sub c lo hi) enc c ((xs.drop lo).take (hi -lo)):=⟨q.h.sub r.h.1 r.h.2⟩
class cP(w0:World)(L:List aj){α:Type}(enc:α->Array Value)(c:Nat)(s:Sv)(xs:outParam (List α)):Prop where
  h:Holds w0 L enc c s xs
instance (priority:=high) cP.of {s:Sv}{α:Type}{enc:α->Array Value}{c:Nat}{xs:List α}[q:Hd w0 L s enc c xs]:cP w0 L enc c s xs:=⟨q.h⟩
instance cP.none{α:Type}{enc:α->Array Value}{c:Nat}:cP w0 L enc c Sv.none []:=⟨fun _ _=>dJ.nil enc c _⟩
class aT(w0:World)(L:List aj){τ:Type}[Deep τ](a:τ):Prop where
  h: ∀w,Mem w0 L w->Deep.cM (hp w) a
class cG(w0:World){τ:Type}[Deep τ](a:τ):Prop where
  h:Deep.cM (hp w0) a
class Mb{τ:Type}(x:τ)(a:outParam (Sl τ)):Prop where
  h:x∈a.xs
instance aT.given[Deep τ]{a:τ}[q:cG w0 a]:aT w0 L a:=⟨fun _ hw=>Deep.mono w0 _ a q.h hw.below⟩
instance (priority:=high) aT.owned [Deep τ]{a:τ}{i:Nat}[q:At L (Deep.ck a) i]:aT w0 L a:=⟨fun _ hw=>Deep.ki _ a (hw.get q.h)⟩
instance (priority:=low) aT.elem [Deep τ]{a:Sl τ}{x:τ}[q:aT w0 L a][m:Mb x a]:aT w0 L x:=⟨fun w hw=>(q.h w hw).2 x m.h⟩
class gH(τ:Type)[Deep τ](enc:outParam (τ->Array Value))(c:outParam Nat):Prop where
  hc:Deep.c τ=c
  h: ∀x:τ,Deep.cells x=enc x
instance (priority:=low) Hd.deep [d:Deep τ]{enc:τ->Array Value}{c:Nat}[f:gH τ enc c]{a:Sl τ}[q:aT w0 L a]:Hd w0 L a.sv enc c a.xs:=⟨fun w hw=>by
  have h:=(q.h w hw).1;have e:Deep.cells (τ:=τ)=enc:=funext f.h;rw[←e,←f.hc];exact h⟩
end
section
variable {P:Program} {N:cc} {w0:World} {env:Env} {L:List aj} {d:Option Tmp} {ty:TypeId} {ps:String} {af:Array Edge} {gd:Option (Nat×Bool)}
variable {α:Type} {enc:α->Array Value} {c:Nat} {s:Sv} {xs:List α}
theorem qN{t e:TypeId}{x:Operand}{m:Nat}[ht:fw P t e m](hx:ev env x=some s.val)[q:Hd w0 L s enc c xs]:
    Ry P N w0 env L ⟨d, .call {callee:= .builtin .len,args:= #[x],argTypes:= #[t]},ty,ps,af,gd⟩ (.int .i64 (xs.length:Nat)):=fun a w ha hw=>
  yU (P:=P) (N:=N) (w0:=w0) (L:=L) (d:=d) (ty:=ty) (ps:=ps) (af:=af) (gd:=gd) hx (q.h w hw).ok (q.h w hw).len a w ha hw
theorem aX{t e:TypeId}{x ix:Operand}{m:Nat}{k:IntKind}{j:Int}[ht:fw P t e m](hx:ev env x=some s.val)(hj:ev env ix=some (.int k j))[q:Hd w0 L s enc c xs](i:Nat)(ej:j=(i:Int))(h1:i<xs.length):
    Ry P N w0 env L ⟨d, .indexAddr t x ix,ty,ps,af,gd⟩ (.pointer (some ⟨s.b,s.o+i*m,none⟩)):=fun a w ha hw=>
  nU (P:=P) (N:=N) (w0:=w0) (L:=L) (d:=d) (ty:=ty) (ps:=ps) (af:=af) (gd:=gd) hx hj ej (q.h w hw).ok (by rw[(q.h w hw).len];exact h1) a w ha hw
theorem gQ{t:TypeId}{x:Operand}{p:Nat}{a:α}[ht:fE P t c][he:bu enc c][q:Hd w0 L s enc c xs](hx:ev env x=some (.pointer (some ⟨s.b,p,none⟩)))(i:Nat)(hi:xs[i]? =some a)(fG:p=s.o+i*c):
    Ry P N w0 env L ⟨d, .load t x,ty,ps,af,gd⟩ (.agg (enc a)):=Pf hx q.h hi fG
theorem bL{t:TypeId}{x:Operand}{p j:Nat}{a:α}{v:Value}[ht:fW P t][q:Hd w0 L s enc c xs](hx:ev env x=some (.pointer (some ⟨s.b,p,none⟩)))(i:Nat)(hi:xs[i]? =some a)(fG:p=s.o+i*c+j)(hj:j<c)[hv:cg (enc a) j v]:
    Ry P N w0 env L ⟨d, .load t x,ty,ps,af,gd⟩ v:=JG hx q.h hi fG hj hv.h
theorem FA{t:TypeId}{x:Operand}{p j n:Nat}{a:α}{sub:Array Value}[ht:fE P t n][q:Hd w0 L s enc c xs](hx:ev env x=some (.pointer (some ⟨s.b,p,none⟩)))(i:Nat)(hi:xs[i]? =some a)(fG:p=s.o+i*c+j)(hj:j+n≤c)[hs:nT (enc a) j n sub]:
    Ry P N w0 env L ⟨d, .load t x,ty,ps,af,gd⟩ (.agg sub):=JH hx q.h hi fG hj
theorem FB{t e:TypeId}{x lo hi:Operand}{k k':IntKind}{il ih:Int}[ht:fw P t e c](hx:ev env x=some s.val)(hl:ev env lo=some (.int k il))(hh:ev env hi=some (.int k' ih))[q:Hd w0 L s enc c xs](l h:Nat)(el:il=(l:Int))(eh:ih=(h:Int))(h1:l≤h)(h2:h≤xs.length):
    Ry P N w0 env L ⟨d, .slice t x (some lo) (some hi) none,ty,ps,af,gd⟩ (s.sub c l h).val:=fun a w ha hw=>
  Fx (P:=P) (N:=N) (w0:=w0) (L:=L) (d:=d) (ty:=ty) (ps:=ps) (af:=af) (gd:=gd) hx hl hh el eh (q.h w hw).ok h1 (by have:=(q.h w hw).len;have:=(q.h w hw).ok.le;omega) a w ha hw
theorem Pr{t e:TypeId}{x hi:Operand}{k':IntKind}{ih:Int}[ht:fw P t e c](hx:ev env x=some s.val)(hh:ev env hi=some (.int k' ih))[q:Hd w0 L s enc c xs](h:Nat)(eh:ih=(h:Int))(h2:h≤xs.length):
    Ry P N w0 env L ⟨d, .slice t x none (some hi) none,ty,ps,af,gd⟩ (s.sub c 0 h).val:=fun a w ha hw=>
  xi (P:=P) (N:=N) (w0:=w0) (L:=L) (d:=d) (ty:=ty) (ps:=ps) (af:=af) (gd:=gd) hx hh eh (q.h w hw).ok (by have:=(q.h w hw).len;have:=(q.h w hw).ok.le;omega) a w ha hw
theorem y7{t e:TypeId}{x lo:Operand}{k:IntKind}{il:Int}[ht:fw P t e c](hx:ev env x=some s.val)(hl:ev env lo=some (.int k il))[q:Hd w0 L s enc c xs](l:Nat)(el:il=(l:Int))(h1:l≤xs.length):
    Ry P N w0 env L ⟨d, .slice t x (some lo) none none,ty,ps,af,gd⟩ (s.sub c l xs.length).val:=fun a w ha hw=>
  ug (P:=P) (N:=N) (w0:=w0) (L:=L) (d:=d) (ty:=ty) (ps:=ps) (af:=af) (gd:=gd) hx hl el (q.h w hw).ok (q.h w hw).len h1 a w ha hw
theorem Ps{t e tb:TypeId}{x:Operand}{xs:List UInt8}(hs:P.underlying tb=some (.slice e))(he:P.underlying e=some (.int .u8))(hd:P.underlying t=some .string)(hx:ev env x=some s.val)[q:Hd w0 L s aQ 1 xs]:
    Ry P N w0 env L ⟨d, .convert tb t x,ty,ps,af,gd⟩ (.string ⟨xs.toArray⟩):=Yw hs he hd hx q.h
theorem y8{s t:TypeId}{x:Operand}{k:IntKind}{b:UInt8}[hs:nS P s .u8][ht:nS P t k](hx:ev env x=some (.int .u8 b.toNat))(hk:8≤nb k:=by decide):
    Ry P N w0 env L ⟨d, .convert s t x,ty,ps,af,gd⟩ (.int k b.toNat):=kE hx (atS b.toNat_lt (auc (by decide) hk))
end
section
variable {P:Program} {N:cc} {w0:World} {env:Env} {L:List aj} {l:List Oper} {Q:Exit->Act->World->Prop} {rest:List Oper} {d:Option Tmp} {ty:TypeId} {ps:String} {af:Array Edge} {gd:Option (Nat×Bool)}
class cx(P:Program)(f:FuncId)(w0:World)(L:List aj)(vs:List Value)(v:outParam Value)(pre:outParam Prop):Prop where
  h:pre-> ∀w,Mem w0 L w->Calls P f vs.toArray w fun e w'=>e= .returned v/\Mem w [] w'
class bQ(P:Program)(f:FuncId)(w0:World)(L:List aj)(vs:List Value)(X:outParam Type)(val:outParam (X->Value))(L':outParam (X->List aj))(pr:outParam (X->Prop))(pre:outParam Prop):Prop where
  h:pre-> ∀w,Mem w0 L w->Calls P f vs.toArray w fun e w'=> ∃x,e= .returned (val x)/\pr x/\Mem w0 (L' x) w'
instance (priority:=high) cx.pure {f:FuncId}{vs:List Value}{v:Value}[h:kD P f vs v]:cx P f w0 L vs v True:=⟨fun _ w _=>h.h w⟩
theorem cl{f:FuncId}{xs:List Operand}{ts:Array TypeId}{vs:List Value}{v:Value}{pre:Prop}[hf:aI P f](hx:hH env xs=some vs)[hc:cx P f w0 L vs v pre](hp:pre):
    Yl P N w0 env L ⟨d, .call {callee:= .value (.func f),args:=xs.toArray,argTypes:=ts},ty,ps,af,gd⟩ v:=AA hx fun w hw=>hc.h hp w hw
theorem bj{X:Type}{val:X→Value}{L':X→List aj}{pr:X→Prop}{pre:Prop}{f:FuncId}{xs:List Operand}{ts:Array TypeId}{vs:List Value}[hf:aI P f](hx:hH env xs=some vs)
    [hc:bQ P f w0 L vs X val L' pr pre] (hp:pre) (hk: ∀x,pr x->Sq P N w0 l Q rest (cB env d (val x)) (L' x)) (hd:du N d=true:=by rfl):
    Sq P N w0 l Q (⟨d, .call {callee:= .value (.func f),args:=xs.toArray,argTypes:=ts},ty,ps,af,none⟩::rest) env L:=Yp hx (fun w hw=>hc.h hp w hw) hk hd
theorem Yy{Lq:List aj}{n j:Nat}{js:List Nat}{X:Type}{val:X→Value}{L':X→List aj}{pr:X→Prop}{pre:Prop}{f:FuncId}{xs:List Operand}{ts:Array TypeId}{vs:List Value}(hj:l[j]? =some ⟨d, .call {callee:= .value (.func f),args:=xs.toArray,argTypes:=ts},ty,ps,af,none⟩)[hf:aI P f](hx:hH env xs=some vs)
    [hc:bQ P f w0 L vs X val L' pr pre] (hp:pre) (hL: ∀x w,Mem w0 (L' x) w->Mem w0 Lq w) (hk: ∀x,pr x->Fr P N w0 Lq l n Q js (cB env d (val x)) (L' x)) (hd:du N d=true:=by rfl):
    Fr P N w0 Lq l n Q (j::js) env L:=Yj hj hx (fun w hw=>hc.h hp w hw) hL hk hd
end
class dm(L:List aj)(i:Nat)(R:outParam (List aj)):Prop where
  h:L.eraseIdx i=R
instance dm.here{e:aj}{L:List aj}:dm (e::L) 0 L:=⟨rfl⟩
instance dm.there{e:aj}{L R:List aj}{i:Nat}[q:dm L i R]:dm (e::L) (i+1) (e::R):=⟨by simp[q.h]⟩
class ai(L L':List aj):Prop where
  h: ∃R,L.Perm (L'++R)
instance (priority:=high) ai.nil {L:List aj}:ai L []:=⟨⟨L, .refl _⟩⟩
instance (priority:=high) ai.same {L:List aj}:ai L L:=⟨⟨[],by simp⟩⟩
theorem nX{e:aj}: ∀{L:List aj} {i:Nat},L[i]? =some e->L.Perm (e::L.eraseIdx i)
  |[],i,h=>by simp at h
  |x::L,0,h=>by obtain rfl:x=e:=by simpa using h
                simp
  |x::L,i+1,h=>by
   have:=nX (L:=L) (i:=i) (by simpa using h);rw[avW];exact(this.cons x).trans (.swap _ _ _)
instance ai.cons{L L' R:List aj}{e:aj}{i:Nat}[a:At L e i][b:dm L i R][k:ai R L']:ai L (e::L'):=⟨by
  obtain⟨S,hS⟩:=k.h;exact⟨S,(nX a.h).trans (by rw[b.h];exact hS.cons e)⟩⟩
theorem ai.mem{L L':List aj}[k:ai L L']{w0 w:World}(h:Mem w0 L w):Mem w0 L' w:=by
  obtain⟨R,hR⟩:=k.h;exact(h.perm hR).sub (List.sublist_append_left _ _)
theorem um{P:Program}{N:cc}{w0:World}{env:Env}{L:List aj}{Q:Exit->Act->World->Prop}{c:Code}(L':List aj)(h: ∀w,Mem w0 L w->Mem w0 L' w)(hk:Cw P N w0 Q c env L'):Cw P N w0 Q c env L:=fun a w ha hw=>hk a w ha (h w hw)
theorem Pt{P:Program}{N:cc}{w0:World}{env:Env}{L:List aj}{Q:Exit->Act->World->Prop}{c:Code}(s:Sv){α:Type}{enc:α->Array Value}{n:Nat}{xs:List α}[q:Hd w0 L s enc n xs](hk:xs.length<=140737488355328->Cw P N w0 Q c env L):Cw P N w0 Q c env L:=
  fun a w ha hw=>hk (q.h w hw).bd a w ha hw
theorem mN{α:Type}{xs:List α}{i:Nat}{d:α}(h:i<xs.length):xs[i]? =some (xs.getD i d):=by
  simp[List.getD,h]
section
variable {P:Program} {N:cc} {w0:World} {env:Env} {L:List aj} {l:List Oper} {Q:Exit->Act->World->Prop} {rest:List Oper} {d:Option Tmp} {ty:TypeId} {ps:String} {af:Array Edge} {gd:Option (Nat×Bool)}
variable {α:Type} {enc:α->Array Value} {c:Nat} {s:Sv} {xs:List α}
theorem Pu{x y:Operand}{t u:TypeId}{a b:List UInt8}(hx:ev env x=some (.string ⟨a.toArray⟩))(hy:ev env y=some (.string ⟨b.toArray⟩)):
    Ry P N w0 env L ⟨d, .binOp .eql t x y u,ty,ps,af,gd⟩ (.bool (decide (a=b))):=by
  have e:((⟨a.toArray⟩:ByteArray).toList==(⟨b.toArray⟩:ByteArray).toList)=decide (a=b):=by
    rw[ByteArray.toList_mk,ByteArray.toList_mk,avn];simp
  rw[←e];exact Yx hx hy
theorem vB{t e:TypeId}{x:Operand}{u:TypeId}(ht:P.underlying t=some (.slice e))(hx:ev env x=some s.val):
    Ry P N w0 env L ⟨d, .binOp .eql t x (.const (.slice none 0 0)) u,ty,ps,af,gd⟩ (.bool s.nil):=fun a w ha _=>by
  have h1:(eqGuard BinOp.eql t x (.const (.slice none 0 0)) s.val (.slice none 0 0)).run P w= .ok () w:=by
    unfold Sv.val;split<;>rfl
  have h3:(Op.equal t s.val (.slice none 0 0)).run P w= .ok s.nil w:=by
    unfold Sv.val;split<;>rename_i hn<;>rw[run_equal_slice_nil w t e _ _ _ ht,hn]<;>rfl
  have h2:(binOp .eql t s.val (.slice none 0 0)).run P w= .ok (.bool s.nil) w:=by
    have:binOp .eql t s.val (.slice none 0 0)=(do pure (.bool (←Op.equal t s.val (.slice none 0 0)))):=by unfold Sv.val;split<;>rfl
    rw[this,Sem.run_bind,h3];rfl
  simp only[execOp,ha.ev hx,show a.eval (.const (.slice none 0 0))= .slice none 0 0 from rfl,Sem.run_bind,h1,Result.andThen_ok,h2,Sem.run_pure]
theorem Yz{t e:TypeId}{x:Operand}{u:TypeId}(ht:P.underlying t=some (.slice e))(hx:ev env x=some s.val):
    Ry P N w0 env L ⟨d, .binOp .neq t x (.const (.slice none 0 0)) u,ty,ps,af,gd⟩ (.bool (!s.nil)):=fun a w ha _=>by
  have h1:(eqGuard BinOp.neq t x (.const (.slice none 0 0)) s.val (.slice none 0 0)).run P w= .ok () w:=by
    unfold Sv.val;split<;>rfl
  have h3:(Op.equal t s.val (.slice none 0 0)).run P w= .ok s.nil w:=by
    unfold Sv.val;split<;>rename_i hn<;>rw[run_equal_slice_nil w t e _ _ _ ht,hn]<;>rfl
  have h2:(binOp .neq t s.val (.slice none 0 0)).run P w= .ok (.bool (!s.nil)) w:=by
    have:binOp .neq t s.val (.slice none 0 0)=(do pure (.bool (!(←Op.equal t s.val (.slice none 0 0))))):=by unfold Sv.val;split<;>rfl
    rw[this,Sem.run_bind,h3];rfl
  simp only[execOp,ha.ev hx,show a.eval (.const (.slice none 0 0))= .slice none 0 0 from rfl,Sem.run_bind,h1,Result.andThen_ok,h2,Sem.run_pure]
theorem YA{t e:TypeId}{cL:Nat}(ht:fH P t e c cL)(w:World):(Instr.buildSlice t 0 #[]).run P w= .ok (.slice (some ⟨w.heap.size,0,none⟩) 0 0) (w.alloc (.cells #[] e)):=by
  obtain⟨i',z,bg,aH,bA,dj,nV⟩:=ht.info;have:(Array.range 0:Array Nat)= #[]:=by simp
  simp[Instr.buildSlice,run_underlying ht.fa,sizeOf,typeInfo,bg,Instr.fill,newRow,newObj,Sem.run,Result.andThen,this]
theorem xo{t e:TypeId}{cL:Nat}(enc:α→Array Value)[ht:fH P t e c cL][he:bu enc c](hk: ∀b,Sq P N w0 l Q rest (cB env d (Sv.val ⟨false,b,0,0,0,none⟩)) (own enc c ⟨false,b,0,0,0,none⟩ []::L))(hd:du N d=true:=by rfl):
    Sq P N w0 l Q (⟨d, .buildSlice t 0 #[],ty,ps,af,none⟩::rest) env L:=
  oU rfl hd fun a w _ hw=>by
    refine⟨_,_,_,?_,hw.call (yY (enc:=enc) (c:=c) (xs:=[]) (cs:= #[]) (e:=e) rfl 0 0 rfl (as4 _) (atv _) (by simp) (by simp)),hk _⟩;simp only[execOp,Sem.run_bind,List.map_toArray,aud,YA ht w,Result.andThen,Sem.run_pure];rfl
end
instance:Deep UInt8:=Deep.flat aQ 1
instance:gH UInt8 aQ 1:=⟨rfl,fun _=>rfl⟩
def cd{τ:Type}(a:Sl τ):Array Value:= #[a.sv.val]
instance {τ:Type}:bu (cd (τ:=τ)) 1:=⟨fun _=>rfl,fun a=>bu.one (enc:=uj) (c:=1) a.sv⟩
instance {τ:Type}[Deep τ]:gH (Sl τ) cd 1:=⟨rfl,fun _=>rfl⟩
instance {τ:Type}(a:Sl τ):cg (cd a) 0 a.sv.val:=⟨rfl⟩
def lx{τ:Type}(a:Sl (Sl τ)):List (List τ):=a.xs.map (·.xs)
theorem y9{τ:Type}(a:Sl (Sl τ)):(lx a).length=a.xs.length:=by simp[lx]
section
variable {L L' L1 L2 R R1 R2:List aj} {τ:Type}
def Tr(L L':List aj):Prop:= ∀(K:List aj) (w0 w:World),Mem w0 (L++K) w->Mem w0 (L'++K) w
theorem Tr.mem(h:Tr L L'){w0 w:World}(hw:Mem w0 L w):Mem w0 L' w:=by
  have:=h [] w0 w (by simpa using hw);simpa using this
theorem Tr.refl:Tr L L:=fun _ _ _ h=>h
theorem Tr.trans(h:Tr L L1)(h':Tr L1 L2):Tr L L2:=fun K w0 w hw=>h' K w0 w (h K w0 w hw)
theorem Tr.perm(h:L.Perm L'):Tr L L':=fun K _ _ hw=>Mem.perm hw (h.append_right K)
theorem Tr.left(h:Tr L L')(X:List aj):Tr (X++L) (X++L'):=fun K w0 w hw=>by
  have p: ∀Y:List aj,(X++Y++K).Perm (Y++(X++K)):=fun Y=>by
    rw[ate,←ate Y];refine(List.perm_append_comm_assoc X Y K).trans ?_;rw[ate]
  exact(h (X++K) w0 w (hw.perm (p L))).perm (p L').symm
theorem Tr.right(h:Tr L L')(X:List aj):Tr (L++X) (L'++X):=fun K w0 w hw=>by
  rw[ate]at hw⊢;exact h (X++K) w0 w hw
theorem Tr.cons(h:Tr L L')(x:aj):Tr (x::L) (x::L'):=h.left [x]
theorem Tr.sub(h:L'.Sublist L):Tr L L':=fun K _ _ hw=>Mem.sub hw (h.append (.refl K))
theorem Tr.front{e:aj}{i:Nat}(hi:L[i]? =some e):Tr L (e::L.eraseIdx i):= .perm (nX hi)
theorem Tr.back{e:aj}{i:Nat}(hi:L[i]? =some e):Tr (e::L.eraseIdx i) L:= .perm (nX hi).symm
theorem Tr.emp:Tr (.emp::L) L:=fun _ _ _ hw=>Mem.CY.1 hw
theorem Tr.Pv:Tr L (.emp::L):=fun _ _ _ hw=>Mem.CY.2 hw
theorem Tr.two{a b:aj}:Tr (.two a b::L) (a::b::L):=fun _ _ _ hw=>Mem.y5.1 hw
theorem Tr.AK[d:Deep τ]{a:Sl τ}:Tr (Deep.ck a::L) (own (Deep.cells (τ:=τ)) (Deep.c τ) a.sv a.xs::a.xs.map d.ck++L):=fun K w0 w hw=>by
  have:=Mem.AK.1 hw;simpa using this
theorem Tr.YB[d:Deep τ]{a:Sl τ}:Tr (own (Deep.cells (τ:=τ)) (Deep.c τ) a.sv a.xs::a.xs.map d.ck++L) (Deep.ck a::L):=fun K w0 w hw=>by
  refine Mem.AK.2 ?_;simpa using hw
class Plain(τ:Type)[Deep τ]:Prop where
  h: ∀x:τ,Deep.ck x= .emp
theorem Tr.plain[Deep τ][p:Plain τ]: ∀{xs:List τ},Tr (xs.map Deep.ck++L) L
  |[]=> .refl
  |x::xs=>by
   rw[atq,p.h];exact Tr.emp.trans Tr.plain
theorem Tr.Pw[Deep τ][p:Plain τ]: ∀{xs:List τ},Tr L (xs.map Deep.ck++L)
  |[]=> .refl
  |x::xs=>by
   rw[atq,p.h];exact(Tr.Pw (xs:=xs)).trans Tr.Pv
theorem Px[Deep τ]{enc:τ->Array Value}{c:Nat}[f:gH τ enc c](s:Sv)(xs:List τ):own (Deep.cells (τ:=τ)) (Deep.c τ) s xs=own enc c s xs:=by
  have e:Deep.cells (τ:=τ)=enc:=funext f.h;rw[e,f.hc]
theorem Tr.JT[d:Deep τ]{enc:τ->Array Value}{c:Nat}[f:gH τ enc c]{a:Sl τ}:Tr (Deep.ck a::L) (own enc c a.sv a.xs::(a.xs.map d.ck++L)):=by
  rw[←Px];exact Tr.AK
theorem Tr.C1[d:Deep τ]{enc:τ->Array Value}{c:Nat}[f:gH τ enc c]{a:Sl τ}:Tr (own enc c a.sv a.xs::(a.xs.map d.ck++L)) (Deep.ck a::L):=by
  rw[←Px];exact Tr.YB
theorem Tr.YC[d:Deep τ]{enc:τ->Array Value}{c:Nat}[f:gH τ enc c][Plain τ]{a:Sl τ}:Tr (Deep.ck a::L) (own enc c a.sv a.xs::L):=Tr.JT.trans (Tr.plain.cons _)
theorem Tr.FC[d:Deep τ]{enc:τ->Array Value}{c:Nat}[f:gH τ enc c][Plain τ]{a:Sl τ}:Tr (own enc c a.sv a.xs::L) (Deep.ck a::L):=(Tr.Pw.cons _).trans Tr.C1
theorem Py{α β:Type}(f:α->β){xs:List α}{i:Nat}{x:α}(hx:xs[i]? =some x):(xs.map f).Perm (f x::(xs.eraseIdx i).map f):=by
  have h1:=(Pz hx).map f;exact h1
where Pz {α:Type}: ∀{L:List α} {i:Nat} {e:α},L[i]? =some e->L.Perm (e::L.eraseIdx i)
  |[],i,e,h=>by simp at h
  |x::L,0,e,h=>by obtain rfl:x=e:=by simpa using h
                  simp
  |x::L,i+1,e,h=>by
   have:=Pz (L:=L) (i:=i) (e:=e) (by simpa using h);rw[avW];exact(this.cons x).trans (.swap _ _ _)
theorem Tr.pick[d:Deep τ]{enc:τ→Array Value}{c:Nat}[f:gH τ enc c]{a:Sl τ}{i:Nat}{x:τ}(hx:a.xs[i]? =some x):
    Tr (Deep.ck a::L) (own enc c a.sv a.xs::Deep.ck x::((a.xs.eraseIdx i).map d.ck++L)):=
  Tr.JT.trans (Tr.cons (Tr.right (Tr.perm (Py d.ck hx)) L) _)
theorem PA{α:Type}: ∀(xs:List α) (i:Nat) (y:α),(xs.set i y).eraseIdx i=xs.eraseIdx i
  |[],_,_=>by simp
  |_::_,0,_=>by simp
  |_::xs,i+1,y=>by simp[PA xs i y]
theorem Tr.lay[d:Deep τ]{enc:τ→Array Value}{c:Nat}[f:gH τ enc c]{s:Sv}{xs:List τ}{i:Nat}{y:τ}(hi:i<xs.length):
    Tr (own enc c s (xs.set i y)::Deep.ck y::((xs.eraseIdx i).map d.ck++L)) (Deep.ck (⟨s,xs.set i y⟩:Sl τ)::L):=by
  have hy:(xs.set i y)[i]? =some y:=by simp[hi]
  have:=(Py d.ck hy).symm;rw[PA]at this;exact(Tr.cons (Tr.right (Tr.perm this) L) _).trans (Tr.C1 (a:=⟨s,xs.set i y⟩))
class Take(L:List aj){τ:Type}[Deep τ](x:τ)(R:outParam (List aj)):Prop where
  h:Tr L (Deep.ck x::R)
class AL(L:List aj){τ:Type}[Deep τ](xs:List τ)(R:outParam (List aj)):Prop where
  h:Tr L (xs.map Deep.ck++R)
instance (priority:=high) Take.at [Deep τ]{x:τ}{i:Nat}[a:At L (Deep.ck x) i][d:dm L i R]:Take L x R:=⟨by
  have:=Tr.front a.h;rwa [d.h]at this⟩
instance (priority:=low) Take.plain [Deep τ][p:Plain τ]{x:τ}:Take L x L:=⟨by rw[p.h];exact Tr.Pv⟩
instance Take.own[Deep τ][p:Plain τ]{enc:τ->Array Value}{c:Nat}[f:gH τ enc c]{s:Sv}{xs:List τ}{i:Nat}[a:At L (own enc c s xs) i][d:dm L i R]:Take L (⟨s,xs⟩:Sl τ) R:=⟨by
  have:=Tr.front a.h;rw[d.h]at this;exact this.trans (Tr.FC (a:=⟨s,xs⟩))⟩
instance AL.nil[Deep τ]:AL L ([]:List τ) L:=⟨.refl⟩
instance AL.cons[Deep τ]{x:τ}{xs:List τ}[a:Take L x R1][b:AL R1 xs R2]:AL L (x::xs) R2:=⟨a.h.trans (b.h.cons _)⟩
instance:Plain UInt8:=⟨fun _=>rfl⟩
end
section
variable {P:Program} {N:cc} {w0:World} {env:Env} {L R R1 R2:List aj} {l:List Oper} {Q:Exit->Act->World->Prop} {rest:List Oper} {d:Option Tmp} {ty:TypeId} {ps:String} {af:Array Edge}
variable {τ:Type} [dp:Deep τ] {enc:τ->Array Value} {c:Nat}
theorem YD{α:Type}{enc:α→Array Value}{c:Nat}{s:Sv}{xs ys:List α}{t tx e:TypeId}{x y:Operand}{yv:Value}{cL:Nat}[ht:fH P t e c cL][he:bu enc c](R:List aj)(hx:ev env x=some s.val)(hy:ev env y=some yv)
    (ho: ∀w,Mem w0 L w->Mem w0 (own enc c s xs::R) w) (hc:0<c) (hs: ∀w,Mem w0 L w->Src P c tx yv ys.length (aK enc ys) w) (hb:(xs.length+ys.length)*cL<=140737488355328) (jO:xs.length+ys.length<=140737488355328)
    (hk: ∀s':Sv,Sq P N w0 l Q rest (cB env d s'.val) (own enc c s' (xs++ys)::R)) (hd:du N d=true:=by rfl):
    Sq P N w0 l Q (⟨d, .call {callee:= .builtin .append,args:= #[x,y],argTypes:= #[t,tx]},ty,ps,af,none⟩::rest) env L:=
  oU rfl hd fun a w ha hw=>by
    obtain⟨s',w',h1,h2,h3,h4⟩:=JL (i:=0) (ty:=ty) ht hc (ho w hw) rfl (hs w hw) hb jO;refine⟨s'.val,w',_,?_,by simpa using h4,hk s'⟩;simp[execOp,ha.ev hx,ha.ev hy,resolve,invoke,builtin,h1,Result.andThen]
theorem YE{s:Sv}{t tx e e':TypeId}{x y:Operand}{cL m:Nat}[f:gH τ enc c][ht:fH P t e c cL][YF:fw P tx e' m][he:bu enc c](a:Sl τ)(ys:List τ)(hx:ev env x=some a.sv.val)(hy:ev env y=some s.val)[q:Hd w0 L s enc c ys]
    [k1:Take L a R1] [k2:AL R1 ys R2] (hc:0<c) (hb:(a.xs.length+ys.length)*cL<=140737488355328) (jO:a.xs.length+ys.length<=140737488355328)
    (hk: ∀a':Sl τ,a'.xs=a.xs++ys->Sq P N w0 l Q rest (cB env d a'.sv.val) (Deep.ck a'::R2)) (hd:du N d=true:=by rfl):
    Sq P N w0 l Q (⟨d, .call {callee:= .builtin .append,args:= #[x,y],argTypes:= #[t,tx]},ty,ps,af,none⟩::rest) env L:=
  YD (enc:=enc) (c:=c) (xs:=a.xs) (ys:=ys) (a.xs.map dp.ck++(ys.map dp.ck++R2)) hx hy (fun w hw=>((k1.h.trans (k2.h.cons _)).trans Tr.JT).mem hw) hc (fun w hw=>jN YF.fa hc (q.h w hw)) hb jO
    (fun s' aa w ha hw=>hk ⟨s',a.xs++ys⟩ rfl aa w ha (by
      have t1:Tr (own enc c s' (a.xs++ys)::(a.xs.map dp.ck++(ys.map dp.ck++R2))) (Deep.ck (⟨s',a.xs++ys⟩:Sl τ)::R2):=by
        have:=Tr.C1 (enc:=enc) (c:=c) (a:=(⟨s',a.xs++ys⟩:Sl τ)) (L:=R2);simpa using this
      exact t1.mem hw)) hd
theorem Mem.AM{w:World}[f:gH τ enc c](h:Mem w0 L w):Mem w0 (Deep.ck (⟨Sv.none,[]⟩:Sl τ)::L) w:=
  (Tr.C1 (enc:=enc) (c:=c) (a:=(⟨Sv.none,[]⟩:Sl τ)) (L:=L)).mem (by simpa using h.dA enc c)
def uo{τ:Type}(s:Sl (Sl τ))(i:Nat):Sl τ:=s.xs.getD i ⟨Sv.none,[]⟩
theorem FD{τ:Type}{s:Sl (Sl τ)}{i:Nat}{x:Sl τ}(h:s.xs[i]? =some x):uo s i=x:=by simp[uo,h]
theorem FE{τ:Type}{s:Sl (Sl τ)}{i:Nat}(h:s.xs.length<=i):uo s i=⟨Sv.none,[]⟩:=by simp[uo,h]
theorem C2{τ:Type}(s:Sl (Sl τ))(i:Nat):(uo s i).xs=(lx s).getD i []:=by
  rcases as3 i s.xs.length with h|h
  ·have:s.xs[i]? =some s.xs[i]:=by simp[h]
   simp[FD this,lx,h]
  ·rw[FE h];simp[lx,h]
theorem xp{h:Nat->Option Obj}:Deep.cM h (⟨Sv.none,[]⟩:Sl τ):=⟨dJ.nil _ _ _,fun _ hx=>by cases hx⟩
def Sl.nil{τ:Type}:Sl τ:=⟨Sv.none,[]⟩
instance aT.none:aT w0 L (Sl.nil:Sl τ):=⟨fun _ _=>xp⟩
instance aT.uo{s:Sl (Sl τ)}{i:Nat}[q:aT w0 L s]:aT w0 L (uo s i):=⟨fun w hw=>by
  rcases as3 i s.xs.length with h|h
  ·have hx:s.xs[i]? =some s.xs[i]:=by simp[h]
   rw[FD hx];exact(q.h w hw).2 _ (alM hx)
  ·rw[FE h];exact xp⟩
theorem Tr.PB{L:List aj}[f:gH τ enc c]: ∀n,Tr L ((List.replicate n (⟨Sv.none,[]⟩:Sl τ)).map Deep.ck++L)
  |0=> .refl
  |n+1=>by
   rw[avV,atq];exact(Tr.PB n).trans fun K w0 w hw=>Mem.AM (enc:=enc) (c:=c) hw
theorem YG{t e:TypeId}{cL n cap:Nat}{x y:Operand}{k k':IntKind}{ix iy:Int}[f:gH τ enc c][ht:fH P t e 1 cL][hz:eJ P e (.slice none 0 0)](hx:ev env x=some (.int k ix))(hy:ev env y=some (.int k' iy))(ex:ix=(n:Int))(ey:iy=(cap:Int))(hle:n≤cap)(hb:cL*cap≤281474976710656)(jO:cap≤140737488355328)
    (hk: ∀a:Sl (Sl τ),a.xs=List.replicate n ⟨Sv.none,[]⟩->Sq P N w0 l Q rest (cB env d a.sv.val) (Deep.ck a::L)) (hd:du N d=true:=by rfl):
    Sq P N w0 l Q (⟨d, .makeSlice t x y,ty,ps,af,none⟩::rest) env L:=
  ui (enc:=cd (τ:=τ)) (n:=n) (cap:=cap) (⟨Sv.none,[]⟩:Sl τ) rfl hx hy ex ey hle hb jO (fun b a w ha hw=>hk ⟨⟨false,b,0,n,cap,none⟩,List.replicate n ⟨Sv.none,[]⟩⟩ rfl a w ha
    (((Tr.PB (enc:=enc) (c:=c) n).cons _|>.trans (Tr.C1 (enc:=cd) (c:=1) (a:=(⟨⟨false,b,0,n,cap,none⟩,List.replicate n ⟨Sv.none,[]⟩⟩:Sl (Sl τ))))).mem hw)) hd
end
section
variable {P:Program} {N:cc} {w0:World} {env:Env} {L:List aj} {l:List Oper} {Q:Exit->Act->World->Prop} {rest:List Oper} {d:Option Tmp} {ty:TypeId} {ps:String} {af:Array Edge}
end
theorem Sv.jC(s:Sv):s.val.cells= #[s.val]:=by unfold Sv.val;split<;>rfl
theorem Tr.YH{τ:Type}[Deep τ][Plain τ]{enc:τ→Array Value}{c:Nat}[gH τ enc c]{a:Sl (Sl τ)}{x:Sl τ}{i:Nat}{B:List aj}(hx:a.xs[i]? =some x):
    Tr (B++[Deep.ck a]) (own cd 1 a.sv a.xs::own enc c x.sv x.xs::(B++(a.xs.eraseIdx i).map Deep.ck)):=by
  refine(Tr.perm (List.perm_append_comm (l₁:=B) (l₂:=[Deep.ck a]))).trans ?_;refine(Tr.pick (L:=B) hx).trans (Tr.cons (Tr.YC.trans (Tr.cons (Tr.perm List.perm_append_comm) _)) _)
theorem Tr.YI{τ:Type}[Deep τ][Plain τ]{enc:τ→Array Value}{c:Nat}[gH τ enc c]{s y:Sv}{xs:List (Sl τ)}{ys:List τ}{i:Nat}{B:List aj}(hi:i<xs.length):
    Tr (own cd 1 s (xs.set i ⟨y,ys⟩)::own enc c y ys::(B++(xs.eraseIdx i).map Deep.ck)) (Deep.ck (⟨s,xs.set i ⟨y,ys⟩⟩:Sl (Sl τ))::B):=by
  refine Tr.trans ?_ (Tr.lay (L:=B) hi);exact Tr.cons ((Tr.FC (a:=(⟨y,ys⟩:Sl τ))).trans (Tr.cons (Tr.perm List.perm_append_comm) _)) _
theorem FF{P:Program}{N:cc}{w0:World}{env:Env}{L:List aj}{l:List Oper}{Q:Exit→Act→World→Prop}{rest:List Oper}{ty:TypeId}{ps:String}{af:Array Edge}{τ:Type}{t:TypeId}{x y:Operand}{i k p:Nat}{s:Sv}{xs:List (Sl τ)}{a:Sl τ}(a':Sl τ)
    (sz:(P.info? t).map (·.size)=some 1) (hx:ev env x=some (.pointer (some ⟨s.b,p,none⟩))) (hy:ev env y=some a'.sv.val) [q:fI L s (cd (τ:=τ)) 1 xs i] (fG:p=s.o+k*1) (ha:xs[k]? =some a) {L':List aj} [hu:fF L i (own cd 1 s (xs.set k a')) L'] (hk:Sq P N w0 l Q rest env L'):
    Sq P N w0 l Q (⟨none, .store t x y,ty,ps,af,none⟩::rest) env L:=
  kW (j:=0) (a':=a') sz hx hy (q:=q) fG ha (by rw[Sv.jC];simp[Sv.one]) (by rw[Sv.jC];rfl) (by decide) (by rw[Sv.jC];rfl) hk
section
variable {P:Program} {N:cc} {w0:World} {env:Env} {L:List aj} {l:List Oper} {Q:Exit->Act->World->Prop} {rest:List Oper} {d:Option Tmp} {ty:TypeId} {ps:String} {af:Array Edge} {gd:Option (Nat×Bool)}
variable {fs:List Nat} {F:Act->Prop} {k:Nat}
theorem nY{o:Oper}{v:Value}{j t:Nat}{b g:Bool}(hg:o.guard=some (j,b))(hj:(l[j]?).bind (·.dst)=some t)(hv:look env t=some (.bool g))(ht:g=b)(h:Yl P N w0 env L o v)
    (hk:Sq P N w0 l Q rest (cB env o.dst v) L) (hd:du N o.dst=true:=by rfl):Sq P N w0 l Q (o::rest) env L:=fun a w ha hw=>by
  unfold wpList;rw[yQ ha hg hj hv,ht,beq_self_eq_true,if_pos rfl];exact .inl (AE ha hw h fun w' gN=>hk _ _ (ha.put hd v) gN)
end
theorem xq{P:Program}{N:cc}{w0:World}{env:Env}{L:List aj}{d:Option Tmp}{ty:TypeId}{ps:String}{af:Array Edge}{gd:Option (Nat×Bool)}{c x y:Operand}{g:Bool}{v:Value}(hc:ev env c=some (.bool g))(ht:g=true)(hx:ev env x=some v)(hy:ev env y=some (.bool false)):
    Ry P N w0 env L ⟨d, .pick c x y,ty,ps,af,gd⟩ v:=by
  subst ht;have h:=Jl (P:=P) (N:=N) (w0:=w0) (L:=L) (d:=d) (ty:=ty) (ps:=ps) (af:=af) (gd:=gd) hc hx hy;simpa using h
abbrev cf:=List UInt8
def dec(n:Nat):cf:=Lib.decDigits n
variable {n top:Nat} {s t:cf} {c:UInt8}
theorem xr(h:n<10):dec n=[UInt8.ofNat (48+n)]:=by rw[dec,Lib.decDigits,dif_pos h]
theorem AN(h:10<=n):dec n=dec (n/10)++[UInt8.ofNat (48+n%10)]:=by
 rw[dec,Lib.decDigits,dif_neg (by omega)];rfl
def me(c:UInt8):Bool:=decide (48<=c.toNat/\c.toNat<=57)
def val(s:cf):Nat:=s.foldl (fun a c=>10*a+(c.toNat -48)) 0
theorem FG:val (s++[c])=10*val s+(c.toNat -48):=by simp[val,avz]
theorem C3{d:Nat}(h:d<10):(UInt8.ofNat (48+d)).toNat=48+d:=by
 rw[UInt8.toNat_ofNat'];omega
theorem JU: ∀n,(dec n).all me=true:=by
 intro n
 induction n using Nat.strongRecOn with
 |_ n ih=>
  rcases as3 n 10 with h|h
  ·
   rw[xr h];have:=C3 h;simp[me,this];omega
  rw[AN h,List.all_append,ih (n/10) (by omega)];have:=C3 (avc n (show 0<10 by decide));simp[me,this];omega
theorem JV: ∀n,val (dec n)=n:=by
 intro n
 induction n using Nat.strongRecOn with
 |_ n ih=>
  rcases as3 n 10 with h|h
  ·
   rw[xr h];have:=C3 h;simp[val];omega
  rw[AN h,FG,ih (n/10) (by omega),C3 (avc n (by decide))];omega
theorem PC:dec n≠[]:=by
 rcases as3 n 10 with h|h
 ·
  rw[xr h];simp
 rw[AN h];simp
def FH(s:cf):Prop:=s≠[]/\(s.length<=1\/s.head?≠some 48)
theorem YJ: ∀n,0<n->(dec n).head?≠some 48:=by
 intro n
 induction n using Nat.strongRecOn with
 |_ n ih=>
  intro hn;rcases as3 n 10 with h|h
  ·
   rw[xr h];intro e;simp only[List.head?_cons,auD]at e;have h2:=congrArg UInt8.toNat e;rw[C3 h]at h2;have:(48:UInt8).toNat=48:=rfl;omega
  rw[AN h,List.head?_append]
  cases hd:(dec (n/10)).head? with
  |none=>exact absurd (List.head?_eq_none_iff.1 hd) PC
  |some x=>
   have:=ih (n/10) (by omega) (by omega);rw[hd]at this;simpa using this
theorem JW(n:Nat):FH (dec n):=by
 refine⟨PC,?_⟩;rcases auy n with rfl|h
 ·
  left;rw[xr (by decide)];simp
 exact .inr (YJ n h)
theorem YK: ∀{s:cf},FH s->s.all me=true->dec (val s)=s:=by
 intro s;have key: ∀k (s:cf),s.length=k->FH s->s.all me=true->dec (val s)=s:=by
  intro k
  induction k with
  |zero=>intro s hl hp _;exact absurd (ati.1 hl) hp.1
  |succ k ih=>
   intro s hl hp hd;obtain⟨t,c,rfl⟩: ∃t c,s=t++[c]:=by
    rcases List.eq_nil_or_concat s with h|⟨t,c,h⟩
    ·
     exact absurd h hp.1
    exact⟨t,c,by simpa using h⟩
   rw[List.all_append,anc]at hd;have hc:48<=c.toNat/\c.toNat<=57:=by
    have:=hd.2;simpa[me]using this
   have FI:UInt8.ofNat (48+(c.toNat -48))=c:=by
    rw[show 48+(c.toNat -48)=c.toNat by omega];exact UInt8.ofNat_toNat
   rw[FG]
   by_cases ht:t=[]
   ·
    subst ht;rw[show val []=0 from rfl,Nat.mul_zero,atF,xr (by omega),FI];rfl
   have bc:t.length=k:=by simpa using hl
   have YL:FH t:=by
    refine⟨ht,?_⟩;rcases hp.2 with h|h
    ·
     left;simp only[af0,asZ,as0]at h;omega
    right;rw[List.head?_append]at h
    cases Fe:t.head? with
    |none=>simp
    |some x=>rw[Fe]at h;simpa using h
   have JX:=ih t bc YL hd.1;have hv:0<val t:=by
    rcases auy (val t)with h0|h0
    ·
     exfalso;rw[h0,xr (by decide)]at JX;rcases hp.2 with h|h
     ·
      simp only[af0,asZ,as0]at h;have:=avo.2 ht;omega
     rw[←JX]at h;exact h rfl
    exact h0
   rw[AN (by omega),show(10*val t+(c.toNat -48))/10=val t by omega,JX,show(10*val t+(c.toNat -48))%10=c.toNat -48 by omega,FI]
 exact key s.length s rfl
def c0(s:cf)(top:Nat):Option Nat:=if(s≠[]/\(s.length<=1\/s.head?≠some 48)/\s.all me=true/\val s<=top)then some (val s)else none
theorem mf:c0 s top=some n↔s=dec n/\n<=top:=by
 unfold c0;constructor
 ·
  intro h;split at h
  ·
   rename_i h1;obtain⟨h2,h3,h4,h5⟩:=h1;obtain rfl:=asY h;exact⟨(YK ⟨h2,h3⟩ h4).symm,h5⟩
  cases h
 rintro⟨rfl,h⟩;obtain⟨h1,h2⟩:=JW n;rw[if_pos ⟨h1,h2,JU n,by rw[JV];exact h⟩,JV]
theorem JY(h:n<=top):c0 (dec n) top=some n:=mf.2 ⟨rfl,h⟩
theorem YM: ∀k n,n<10^k->0<k->(dec n).length<=k:=by
 intro k
 induction k with
 |zero=>intro n _ h;omega
 |succ k ih=>
  intro n h _;rcases as3 n 10 with h1|h1
  ·
   rw[xr h1];simp
  rw[AN h1,af0];have hk:0<k:=by
   rcases auy k with rfl|hk
   ·
    simp at h;omega
   exact hk
  have:=ih (n/10) (by rw[av1]at h;omega) hk;simpa using this
theorem PD(h:me c=false):c∉dec n:=fun hc=>by
 have:=atk.1 (JU n) c hc;rw[h]at this;cases this
def cU(c:UInt8):cf->List cf
 |[]=>[[]]
 |x::s=>if x=c then[]::cU c s else match cU c s with
  |[]=>[[x]]
  |p::r=>(x::p)::r
theorem JZ: ∀s,cU c s≠[]
 |[]=>by simp[cU]
 |x::s=>by
  rw[cU];split
  ·
   simp
  split<;>simp
theorem J0(h:c∉s):cU c s=[s]:=by
 induction s with
 |nil=>rfl
 |cons x s ih=>
  rw[cU,if_neg (fun e=>h (by simp[e])),ih (fun hc=>h (atd _ hc))]
theorem FJ(h:c∉s):cU c (s++c::t)=s::cU c t:=by
 induction s with
 |nil=>rw[atQ,cU,if_pos rfl]
 |cons x s ih=>
  rw[aup,cU,if_neg (fun e=>h (by simp[e])),ih (fun hc=>h (atd _ hc))]
theorem AO: ∀(s:cf),(c∉s/\cU c s=[s])\/ ∃a b,s=a++c::b/\c∉a/\cU c s=a::cU c b
 |[]=> .inl ⟨by simp,rfl⟩
 |x::s=>by
  by_cases hx:x=c
  ·
   subst hx;exact .inr ⟨[],s,rfl,by simp,by rw[cU,if_pos rfl]⟩
  rcases AO s with⟨h1,h2⟩|⟨a,b,h1,h2,h3⟩
  ·
   left;have:c∉x::s:=fun h=>(as2.1 h).elim (fun e=>hx e.symm) h1;exact⟨this,J0 this⟩
  right;have:c∉x::a:=fun h=>(as2.1 h).elim (fun e=>hx e.symm) h2;exact⟨x::a,b,by rw[h1];rfl,this,by rw[h1,←aup,FJ this]⟩
theorem YN{a:cf}(h:cU c s=[a]):s=a/\c∉s:=by
 rcases AO (c:=c) s with⟨h1,h2⟩|⟨x,y,h1,h2,h3⟩
 ·
  rw[h2]at h;exact⟨(av7 h).1,h1⟩
 rw[h3]at h;exact absurd (av7 h).2 (JZ y)
theorem J1{a b:cf}{r:List cf}(h:cU c s=a::b::r): ∃u,s=a++c::u/\c∉a/\cU c u=b::r:=by
 rcases AO (c:=c) s with⟨h1,h2⟩|⟨x,y,h1,h2,h3⟩
 ·
  rw[h2]at h;cases(av7 h).2
 rw[h3]at h;obtain⟨e1,e2⟩:=av7 h;subst e1;exact⟨y,h1,h2,e2⟩
def C4(s:cf):Array Value:= #[.string ⟨s.toArray⟩]
instance (s:cf):cg (C4 s) 0 (.string ⟨s.toArray⟩):=⟨rfl⟩
theorem AP(s:cf):(⟨s.toArray⟩:ByteArray).size=s.length:=by simp[ByteArray.size]
theorem YO(s:cf)(i:Nat):(⟨s.toArray⟩:ByteArray)[i]? =s[i]? :=by
 by_cases h:i<s.length
 ·
  rw[ByteArray.getElem?_lt' _ _ (by rw[AP];exact h),as1 h];rfl
 rw[ByteArray.getElem?_ge' _ _ (by rw[AP];exact h),as7 (by omega)]
theorem YP(s:ByteArray):s=⟨s.data.toList.toArray⟩:=by cases s;simp
theorem PE(c:UInt8): ∀s:cf,(cU c s).length<=s.length+1
 |[]=>by simp[cU]
 |x::s=>by
  have ih:=PE c s;rw[cU];split
  ·
   simp;omega
  split
  ·
   simp
  rename_i p r h;rw[h]at ih;simp at ih⊢;omega
section
variable {P:Program} {N:cc} {w0:World} {env:Env} {L:List aj} {d:Option Tmp} {ty t u:TypeId} {ps:String} {af:Array Edge} {gd:Option (Nat×Bool)} {x y lo hi:Operand} {k k':IntKind} {a b s:cf}
theorem sQ(ht:P.underlying t=some .string)(hx:ev env x=some (.string ⟨s.toArray⟩)):
  Ry P N w0 env L ⟨d, .call {callee:= .builtin .len,args:= #[x],argTypes:= #[t]},ty,ps,af,gd⟩ (.int .i64 (s.length:Nat)):=fun aa w ha _=>by
 have h:(Builtin.len_ #[t] ty #[.string ⟨s.toArray⟩]).run P w= .ok (goInt s.length) w:=by
  rw[run_len_string w t ty _ ht,AP]
 simp[execOp,ha.ev hx,resolve,invoke,builtin,h,Result.andThen,goInt]
theorem vC{j:Int}(i:Nat)(hu:P.underlying t=some .string)(hx:ev env x=some (.string ⟨s.toArray⟩))(hj:ev env y=some (.int k j))(ej:j=(i:Int))(h:i<s.length):
  Ry P N w0 env L ⟨d, .index t x y,ty,ps,af,gd⟩ (.int .u8 ((s.getD i 0).toNat:Nat)):=O9 hu hx hj (by omega) (by
 subst ej;rw[YO,at4,as1 h];simp[List.getD,h])
theorem Ry.as{o:Oper}{v v':Value}(h:Ry P N w0 env L o v)(e:v=v'):Ry P N w0 env L o v':=e▸h
theorem YQ{p:Nat}{v1 v2:Int}(hx:ev env x=some (.int .u8 v1))(hy:ev env y=some (.int k' v2))(ea:v1=p)(hp:p<16)(eb:v2=4:=by rfl):
  Ry P N w0 env L ⟨d, .binOp .shl t x y u,ty,ps,af,gd⟩ (.int .u8 ((p*16:Nat):Int)):=by
 subst ea eb;refine Ry.as (Fq hx hy (by decide)) (congrArg (Value.int .u8) ?_);have e:((p:Int)*2^min (4:Int).toNat IntKind.u8.bits)=((p*16:Nat):Int):=by
  rw[show(2:Int)^min (4:Int).toNat IntKind.u8.bits=16 by decide];omega
 rw[e];exact qG (by simp only[nb];omega)
theorem FK{p q:Nat}{v1 v2:Int}(hx:ev env x=some (.int k v1))(hy:ev env y=some (.int k v2))(ea:v1=p)(eb:v2=q)(h:q<=p)(h2:p<2^nb k:=by first|(simp only[nb];omega)|exact(UInt8.toNat_lt _)):
  Ry P N w0 env L ⟨d, .binOp .sub t x y u,ty,ps,af,gd⟩ (.int k ((p -q:Nat):Int)):=dz hx hy (by
 subst ea eb;rw[lZ,show(p:Int) -(q:Int)=((p -q:Nat):Int) by omega,qG (by omega)])
end
variable {s a b:cf} {c:UInt8}
theorem PF(h:c∉s):Lib.index s [c]= -1:=by
 induction s with
 |nil=>rfl
 |cons x s ih=>
  have hx:x≠c:=fun e=>h (by simp[e]);have hp:([c]:cf).isPrefixOf (x::s)=false:=by
   simp only[List.isPrefixOf,Bool.and_true];simpa using fun e=>hx e.symm
  rw[Lib.index,hp,ih (fun hc=>h (atd _ hc))];rfl
theorem PG(h:c∉a):Lib.index (a++c::b) [c]=(a.length:Int):=by
 induction a with
 |nil=>
  rw[atQ,Lib.index,if_pos (by simp[List.isPrefixOf])];rfl
 |cons x a ih=>
  have hx:x≠c:=fun e=>h (by simp[e]);have hp:([c]:cf).isPrefixOf (x::(a++c::b))=false:=by
   simp only[List.isPrefixOf,Bool.and_true];simpa using fun e=>hx e.symm
  rw[aup,Lib.index,hp,ih (fun hc=>h (atd _ hc)),if_neg (by simp),if_neg (by simp only[beq_iff_eq];omega)];simp
def eN(c:UInt8)(s:cf):cf×cf×Bool:=Lib.cut s [c]
theorem YR(h:c∉s):eN c s=(s,[],false):=by
 rw[eN,Lib.cut,PF h,if_neg (by decide)]
theorem YS(h:c∉a):eN c (a++c::b)=(a,b,true):=by
 rw[eN,Lib.cut,PG h,if_pos (by omega)];simp
theorem PH(c:UInt8): ∀(n:Nat) (s:ByteArray),s.size<=n->(Lib.splitB ⟨#[c]⟩ 0 (Lib.countB s ⟨#[c]⟩) s).map (·.data.toList)=cU c s.data.toList:=by
 intro n
 induction n with
 |zero=>
  intro s hs;have hz:s.data.toList=[]:=by
   apply ati.1;have:=Lib.size_eq s;omega
  have hi:Lib.indexB s ⟨#[c]⟩= -1:=by
   show Lib.index s.data.toList [c]= -1;rw[hz];rfl
  rw[Lib.splitB_miss _ _ _ _ hi,hz];simp[hz,cU]
 |succ n ih=>
  intro s hs;rcases AO (c:=c) s.data.toList with⟨h1,h2⟩|⟨a,b,h1,h2,h3⟩
  ·
   have hi:Lib.indexB s ⟨#[c]⟩= -1:=PF h1;rw[Lib.splitB_miss _ _ _ _ hi,h2];rfl
  have hi:Lib.indexB s ⟨#[c]⟩=(a.length:Int):=by
   show Lib.index s.data.toList [c]=_;rw[h1];exact PG h2
  have fj:(⟨#[c]⟩:ByteArray).size=1:=rfl;have hlen:s.size=a.length+(b.length+1):=by rw[Lib.size_eq,h1];simp
  rw[Lib.countB_hit s _ a.length (by rw[fj];decide) hi,av2 1,Lib.splitB,if_neg (by rw[hi];simp only[beq_iff_eq];omega),hi,h3];have e1:((a.length:Int)).toNat=a.length:=by omega
  rw[e1,atq];have ed: ∀x y:Nat,(s.extract x y).data.toList=(s.data.toList.drop x).take (y -x):=fun x y=>Lib.extract_data s x y;have e2:(s.extract 0 (a.length+0)).data.toList=a:=by rw[ed,h1];simp
  have e3:(s.extract (a.length+(⟨#[c]⟩:ByteArray).size) s.size).data.toList=b:=by
   rw[ed,h1,fj,hlen];simp;exact ath (by omega)
  rw[e2,ih _ (by have:=Lib.size_eq (s.extract (a.length+(⟨#[c]⟩:ByteArray).size) s.size);rw[e3]at this;omega),e3]
theorem YT(c:UInt8)(s:ByteArray):Lib.countB s ⟨#[c]⟩+1=(cU c s.data.toList).length:=by
 rw[←PH c s.size s (as4 _),atL,Lib.splitB_all _ (as4 _) 0 _ s rfl]
end Go.ax
namespace Go.Kb
abbrev Key:=BitVec 128
def aY(k:Key)(i:Nat):Nat:=k.toNat/2^(8*(15 -i))%2^8
theorem gp(k:Key)(i:Nat):aY k i<256:=avc _ (by decide)
theorem YU(k:Key)(i j:Nat)(hj:j<8):(aY k i).testBit j=k.toNat.testBit (8*(15 -i)+j):=by
 unfold aY;rw[Nat.testBit_mod_two_pow,auM];simp[hj,av2]
theorem YV(k:Key)(n:Nat)(h:n<128):k.getMsbD n=k.toNat.testBit (127 -n):=by
 simp only[BitVec.getMsbD,BitVec.getLsbD,h,decide_true,atU]
theorem mO(k:Key)(n:Nat)(h:n<128):k.getMsbD n=(aY k (n/8)).testBit (7 -n%8):=by
 rw[YV k n h,YU k (n/8) (7 -n%8) (by omega)];congr 1;omega
theorem J2(k:Key)(n:Nat)(h:128<=n):k.getMsbD n=false:=by
 simp only[BitVec.getMsbD];simp;omega
theorem uq{a b:Key}(h: ∀n,n<128->a.getMsbD n=b.getMsbD n):a=b:=BitVec.eq_of_getMsbD_eq fun i hi=>h i hi
theorem YW{x y:Nat}(hx:x<256)(hy:y<256)(h: ∀j,j<8->x.testBit j=y.testBit j):x=y:=by
 refine au1 fun j=>?_;rcases as3 j 8 with hj|hj
 ·
  exact h j hj
 have hp:2^8<=2^j:=auc (by decide) hj;rw[auo (atS hx hp),auo (atS hy hp)]
theorem sR{a b:Key}(h: ∀i,i<16->aY a i=aY b i):a=b:=
 uq fun n hn=>by rw[mO a n hn,mO b n hn,h (n/8) (by omega)]
theorem PI{k:Key}{i x:Nat}(hi:i<16)(hx:x<256)(h: ∀m,m<8->k.getMsbD (8*i+m)=x.testBit (7 -m)):aY k i=x:=
 YW (gp k i) hx fun j hj=>by
  have:=h (7 -j) (by omega);rw[mO k _ (by omega),show(8*i+(7 -j))/8=i by omega,show 7 -(8*i+(7 -j))%8=j by omega,show 7 -(7 -j)=j by omega]at this;exact this
def nZ(f:Nat->Nat):Key:=BitVec.ofNat 128 ((List.range 16).foldl (fun a i=>a*2^8+f i%2^8) 0)
theorem FL(f:Nat->Nat): ∀n,(List.range n).foldl (fun a i=>a*2^8+f i%2^8) 0<2^(8*n)
 |0=>by simp
 |n+1=>by
  rw[aua,avz];have:=FL f n;have h2:f n%2^8<2^8:=avc _ (by decide);simp only[auA,List.foldl_nil];rw[Nat.mul_add,auL,Nat.pow_add];omega
theorem PJ(f:Nat->Nat): ∀n i,i<n->(List.range n).foldl (fun a i=>a*2^8+f i%2^8) 0/2^(8*(n -1 -i))%2^8=f i%2^8
 |0,i,h=>by omega
 |n+1,i,h=>by
  rw[aua,avz];simp only[auA,List.foldl_nil];generalize hF:(List.range n).foldl (fun a i=>a*2^8+f i%2^8) 0=F
  by_cases hi:i=n
  ·
   subst hi;rw[show i+1 -1 -i=0 by omega];simp
  have ih:=PJ f n i (by omega);rw[hF]at ih;rw[show 8*(n+1 -1 -i)=8+8*(n -1 -i) by omega,Nat.pow_add,←Nat.div_div_eq_div_mul];have:(F*2^8+f n%2^8)/2^8=F:=by
   have h2:f n%2^8<2^8:=avc _ (by decide);omega
  rw[this];exact ih
theorem ur(f:Nat->Nat)(i:Nat)(h:i<16):aY (nZ f) i=f i%2^8:=by
 unfold aY nZ;have e:((List.range 16).foldl (fun a i=>a*2^8+f i%2^8) 0)%2^128=(List.range 16).foldl (fun a i=>a*2^8+f i%2^8) 0:=atN (FL f 16);rw[auQ,e];exact PJ f 16 i h
def AQ(k:Key)(i x:Nat):Key:=nZ fun j=>if j=i then x else aY k j
theorem J3(k:Key)(i x j:Nat)(hj:j<16)(hx:x<256):aY (AQ k i x) j=if j=i then x else aY k j:=by
 unfold AQ;rw[ur _ j hj];split
 ·
  omega
 have:=gp k j;omega
def bI(k:Key):Array Value:=((List.range 16).map fun i=>Value.int .u8 (aY k i)).toArray
theorem gq(k:Key):(bI k).size=16:=by unfold bI;simp
theorem jQ(k:Key)(i:Nat)(h:i<16):(bI k)[i]? =some (.int .u8 (aY k i)):=by unfold bI;simp[h]
theorem PK(k:Key)(i:Nat)(h:16<=i):(bI k)[i]? =none:=by unfold bI;simp;omega
theorem J4{A:Array Value}{k:Key}(hs:A.size=16)(h: ∀i,i<16->A[i]? =some (.int .u8 (aY k i))):A=bI k:=by
 apply auF;intro i;rcases as3 i 16 with hi|hi
 ·
  rw[h i hi,jQ k i hi]
 rw[PK k i hi];simp;omega
theorem YX(k:Key)(i x:Nat)(hi:i<16)(hx:x<256):(bI k).setIfInBounds i (.int .u8 x)=bI (AQ k i x):=by
 refine J4 (by simp[gq]) fun j hj=>?_;rw[atX,J3 k i x j hj hx]
 by_cases h:i=j
 ·
  subst h;simp[gq,hi]
 rw[if_neg h,if_neg (fun e=>h e.symm),jQ k j hj]
theorem PL{a b:Key}(h:bI a=bI b):a=b:=sR fun i hi=>by
 have h1:=jQ a i hi;rw[h,jQ b i hi]at h1;simp at h1;omega
def cm(k:Key)(n:Int):Key:=if n<1 then 0#128 else(k>>>(128 -n.toNat))<<<(128 -n.toNat)
theorem pc(k:Key)(n:Int)(i:Nat):(cm k n).getMsbD i=(decide ((i:Int)<n)&&k.getMsbD i):=by
 unfold cm;split
 ·
  have: ¬((i:Int)<n):=by omega
  simp[this]
 rcases as3 i 128 with hi|hi
 ·
  rw[BitVec.getMsbD_shiftLeft,BitVec.getMsbD_ushiftRight]
  by_cases hn:(i:Int)<n
  ·
   have h1:i+(128 -n.toNat)<128:=by omega
   have h2:i+(128 -n.toNat) -(128 -n.toNat)=i:=by omega
   simp[hn,h1,h2]
  have h1: ¬i+(128 -n.toNat)<128:=by omega
  simp[hn,h1]
 rw[J2 _ _ hi,J2 _ _ hi];simp
theorem PM(k:Key)(n:Int)(h:128<=n):cm k n=k:=uq fun i hi=>by
 rw[pc];have:(i:Int)<n:=by omega
 simp[this]
theorem FM(k:Key)(n:Int)(h:n<1):cm k n=0#128:=by unfold cm;rw[if_pos h]
theorem AR(k:Key)(n m:Int):cm (cm k n) m=cm k (min n m):=uq fun i _=>by
 rw[pc,pc,pc,←Bool.and_assoc];congr 1;rw[←Bool.decide_and,decide_eq_decide];omega
theorem YY(k q:Key)(n:Int):cm k n=cm q n↔ ∀i:Nat,i<128->(i:Int)<n->k.getMsbD i=q.getMsbD i:=by
 constructor
 ·
  intro h i _ hn;have h1:=congrArg (·.getMsbD i) h;simpa[pc,hn]using h1
 intro h;refine uq fun i hi=>?_;rw[pc,pc]
 by_cases hn:(i:Int)<n
 ·
  simp[hn,h i hi hn]
 simp[hn]
theorem AS(k:Key)(n:Int):cm k n=k↔ ∀i:Nat,i<128->n<=(i:Int)->k.getMsbD i=false:=by
 constructor
 ·
  intro h i hi hn;rw[←h,pc];have: ¬(i:Int)<n:=by omega
  simp[this]
 intro h;refine uq fun i hi=>?_;rw[pc]
 by_cases hn:(i:Int)<n
 ·
  simp[hn]
 rw[h i hi (by omega)];simp
theorem C5(k:Key)(n:Nat)(i:Nat)(hi:i<16):aY (cm k n) i=if 8*i+8<=n then aY k i else if 8*i<=n then aY k i/2^(8 -(n -8*i))*2^(8 -(n -8*i))else 0:=by
 have hb:=gp k i;have bc:(if 8*i+8<=n then aY k i else if 8*i<=n then aY k i/2^(8 -(n -8*i))*2^(8 -(n -8*i))else 0)<256:=by
  split
  ·
   exact hb
  split
  ·
   exact auG (Nat.div_mul_le_self _ _) hb
  omega
 refine PI hi bc fun m hm=>?_;rw[pc,mO k _ (by omega),show(8*i+m)/8=i by omega,show 7 -(8*i+m)%8=7 -m by omega];split
 ·
  have:((8*i+m:Nat):Int)<(n:Int):=by omega
  simp only[this,decide_true,atU]
 split
 ·
  generalize ht:8 -(n -8*i)=t;rw[Nat.testBit_mul_two_pow,auM]
  by_cases bc:((8*i+m:Nat):Int)<(n:Int)
  ·
   have h1:t<=7 -m:=by omega
   simp only[bc,h1,decide_true,atU];rw[show 7 -m -t+t=7 -m by omega]
  have h1: ¬t<=7 -m:=by omega
  simp only[bc,h1,decide_false,avk]
 have: ¬((8*i+m:Nat):Int)<(n:Int):=by omega
 simp only[this,decide_false,avk,Nat.zero_testBit]
def rM(k:Key)(n:Int):Int:=if 0<=n/\n<128 then(if k.getMsbD n.toNat then 1 else 0)else 0
theorem YZ(x j:Nat):((x/2^j%2:Nat):Int)=if x.testBit j then 1 else 0:=by
 rw[Nat.testBit_eq_decide_div_mod_eq]
 by_cases h:x/2^j%2=1
 ·
  simp[h]
 have:x/2^j%2=0:=by omega
 simp[this]
theorem Y0(k:Key)(n:Int)(h0:0<=n)(h1:n<128):rM k n=((aY k (n/8).toNat/2^(7 -n%8).toNat%2:Nat):Int):=by
 unfold rM;rw[if_pos ⟨h0,h1⟩,YZ,mO k n.toNat (by omega)];rw[show(n/8).toNat=n.toNat/8 by omega,show(7 -n%8).toNat=7 -n.toNat%8 by omega]
theorem xt(k:Key)(n:Int):0<=rM k n/\rM k n<=1:=by unfold rM;split<;>(try split)<;>omega
theorem FN(k:Key)(n:Nat):rM k n=if k.getMsbD n then 1 else 0:=by
 unfold rM;rcases as3 n 128 with h|h
 ·
  rw[if_pos (by omega)];simp
 rw[if_neg (by omega),J2 k n h];simp
def xu(a b:Key):Int:=(((List.range 128).find? fun n=>a.getMsbD n !=b.getMsbD n).getD 128:Nat)
theorem J5(a b:Key): ∃m:Nat,xu a b=m/\m<=128/\(∀n,n<m->a.getMsbD n=b.getMsbD n)/\(m<128->a.getMsbD m≠b.getMsbD m):=by
 unfold xu
 cases h:(List.range 128).find? fun n=>a.getMsbD n !=b.getMsbD n with
 |none=>
  refine⟨128,rfl,as4 _,fun n hn=>?_,fun h=>absurd h (by omega)⟩;have:=auZ.1 h n (aty.2 hn);simpa using this
 |some m=>
  obtain⟨h1,FO,bs,h2,h3⟩:=List.find?_eq_some_iff_append.1 h;have hm:FO.length=m:=by
   have h4:=congrArg (·[FO.length]?) h2;simp at h4;have hl:FO.length<128:=by
    have:=congrArg List.length h2;simp at this;omega
   rw[aun hl]at h4;simpa using h4
  have bc:m<128:=by
   have:=congrArg List.length h2;simp at this;omega
  refine⟨m,rfl,by omega,fun n hn=>?_,fun _=>by simpa using h1⟩;have h4:FO[n]? =some n:=by
   have h5:=congrArg (·[n]?) h2;simp only[aun (show n<128 by omega)]at h5;rw[atb (by omega)]at h5;exact h5.symm
  have:=h3 n (alM h4);simpa using this
theorem PN{a b:Key}{m:Nat}(h0:m<=128)(h1: ∀n,n<m->a.getMsbD n=b.getMsbD n)(h2:m<128->a.getMsbD m≠b.getMsbD m):xu a b=m:=by
 obtain⟨q,e,q0,q1,q2⟩:=J5 a b;rw[e];rcases avA q m with h|h|h
 ·
  exact absurd (h1 q h) (q2 (by omega))
 ·
  omega
 exact absurd (q1 m h) (h2 (by omega))
theorem Y1{a b:Key}{n:Int}(hn:n<=128):n<=xu a b↔cm a n=cm b n:=by
 obtain⟨q,e,q0,q1,q2⟩:=J5 a b;rw[e,YY];constructor
 ·
  intro h i _ hG;exact q1 i (by omega)
 intro h
 by_cases hq:n<=(q:Int)
 ·
  exact hq
 exact absurd (h q (by omega) (by omega)) (q2 (by omega))
def len8(x:Nat):Nat:=if x=0 then 0 else x.log2+1
theorem FP(x:Nat)(h:x<256):len8 x<=8:=by
 unfold len8;split
 ·
  omega
 rename_i h0;have:=(Nat.log2_lt h0 (k:=8)).2 h;omega
theorem Y2(x:Nat)(h0:x≠0)(h:x<256):x.testBit (7 -(8 -len8 x))=true/\ ∀m,m<8 -len8 x->x.testBit (7 -m)=false:=by
 have h8:len8 x=x.log2+1:=by unfold len8;rw[if_neg h0]
 have hl:x.log2<8:=(Nat.log2_lt h0).2 h;refine⟨?_,fun m hm=>?_⟩
 ·
  rw[h8,show 7 -(8 -(x.log2+1))=x.log2 by omega];exact Nat.testBit_log2 h0
 refine auo ?_;exact(Nat.log2_lt h0).1 (by omega)
theorem Y3{a b:Key}{i:Nat}(hi:i<16)(hs: ∀j,j<i->aY a j=aY b j)(hd:aY a i≠aY b i):xu a b=8*i+(8 -len8 (aY a i^^^aY b i)):=by
 have ha:=gp a i;have hb:=gp b i;have hx:aY a i^^^aY b i<256:=avg (n:=8) ha hb;have h0:aY a i^^^aY b i≠0:=fun e=>hd (au1 fun j=>by
  have:=congrArg (·.testBit j) e;simp[Nat.testBit_xor]at this;exact this)
 obtain⟨h1,h2⟩:=Y2 _ h0 hx;have hl:len8 (aY a i^^^aY b i)<=8:=FP _ hx;have mg:1<=len8 (aY a i^^^aY b i):=by unfold len8;rw[if_neg h0];omega
 generalize hL:len8 (aY a i^^^aY b i)=L at*;have:=PN (a:=a) (b:=b) (m:=8*i+(8 -L)) (by omega) (fun n hn=>?_) (fun _=>?_)
 ·
  rw[this];omega
 ·
  rw[mO a n (by omega),mO b n (by omega)]
  by_cases Y4:n/8=i
  ·
   have h3:=h2 (n%8) (by omega);rw[Nat.testBit_xor]at h3;rw[Y4];simpa using h3
  rw[hs (n/8) (by omega)]
 rw[mO a _ (by omega),mO b _ (by omega),show(8*i+(8 -L))/8=i by omega,show(8*i+(8 -L))%8=8 -L by omega];rw[Nat.testBit_xor]at h1;simpa using h1
theorem Y5{a b:Key}(hs: ∀j,j<16->aY a j=aY b j):xu a b=128:=by
 rw[sR hs];exact PN (m:=128) (by omega) (fun _ _=>rfl) (fun h=>absurd h (by omega))
def ji(k:Key)(n:Int):Int:=if 0<=n/\n<32 then 8*rM k (4*n)+4*rM k (4*n+1)+2*rM k (4*n+2)+rM k (4*n+3)else 0
theorem Y6(k:Key)(n:Int)(h:n<0\/32<=n):ji k n=0:=by unfold ji;rw[if_neg (by omega)]
theorem xv(k:Key)(i j:Nat)(hi:i<16)(hj:j<8):rM k ((8*i+j:Nat):Int)=((aY k i/2^(7 -j)%2:Nat):Int):=by
 rw[Y0 k _ (by omega) (by omega)];rw[show(((8*i+j:Nat):Int)/8).toNat=i by omega,show(7 -((8*i+j:Nat):Int)%8).toNat=7 -j by omega]
theorem Y7(b:Nat)(h:b<256):8*(b/2^7%2)+4*(b/2^6%2)+2*(b/2^5%2)+b/2^4%2=b/2^4:=by
 simp only[Nat.reducePow];omega
theorem Y8(b:Nat):8*(b/2^3%2)+4*(b/2^2%2)+2*(b/2^1%2)+b/2^0%2=b%16:=by
 simp only[Nat.reducePow];omega
theorem Y9(k:Key)(n:Int)(h0:0<=n)(h1:n<32)(he:n%2=0):ji k n=((aY k (n/2).toNat/2^4:Nat):Int):=by
 unfold ji;rw[if_pos ⟨h0,h1⟩];generalize hi:(n/2).toNat=i;have e0:4*n=((8*i+0:Nat):Int):=by omega
 have e1:4*n+1=((8*i+1:Nat):Int):=by omega
 have e2:4*n+2=((8*i+2:Nat):Int):=by omega
 have e3:4*n+3=((8*i+3:Nat):Int):=by omega
 rw[e1,e2,e3,e0,xv k i 0 (by omega) (by omega),xv k i 1 (by omega) (by omega),xv k i 2 (by omega) (by omega),xv k i 3 (by omega) (by omega)];have:=Y7 (aY k i) (gp k i);simp only[Nat.reduceSub]at*;omega
theorem Za(k:Key)(n:Int)(h0:0<=n)(h1:n<32)(he:n%2=1):ji k n=((aY k (n/2).toNat%16:Nat):Int):=by
 unfold ji;rw[if_pos ⟨h0,h1⟩];generalize hi:(n/2).toNat=i;have e0:4*n=((8*i+4:Nat):Int):=by omega
 have e1:4*n+1=((8*i+5:Nat):Int):=by omega
 have e2:4*n+2=((8*i+6:Nat):Int):=by omega
 have e3:4*n+3=((8*i+7:Nat):Int):=by omega
 rw[e1,e2,e3,e0,xv k i 4 (by omega) (by omega),xv k i 5 (by omega) (by omega),xv k i 6 (by omega) (by omega),xv k i 7 (by omega) (by omega)];have:=Y8 (aY k i);simp only[Nat.reduceSub]at*;omega
structure aZ where
 bits:Int
 len:Int
 key:Key
 deriving DecidableEq
def bo(p:aZ):Bool:=decide (p.bits=32\/p.bits=128)&&decide (0<=p.len)&&decide (p.len<=p.bits)&&decide (cm p.key p.len=p.key)
theorem kj(p:aZ):bo p=true↔(p.bits=32\/p.bits=128)/\0<=p.len/\p.len<=p.bits/\cm p.key p.len=p.key:=by
 unfold bo;simp[and_assoc]
def qO(p:aZ)(k:Key):Bool:=bo p&&decide (cm k p.bits=k)&&decide (cm k p.len=p.key)
def nC(p q:aZ):Bool:=bo p&&bo q&&decide (p.bits=q.bits)&&decide (p.len<=q.len)&&decide (cm q.key p.len=p.key)
def cH(p q:aZ):Bool:=bo p&&bo q&&(if p.bits≠q.bits then decide (p.bits=32)else if p.key≠q.key then decide (p.key.toNat<q.key.toNat)else decide (p.len<q.len))
def cz(p:aZ):Array Value:= #[.int .i64 p.bits, .int .i64 p.len]++bI p.key
theorem qP(p:aZ):(cz p).size=18:=by unfold cz;rw[avN,gq];rfl
theorem za(p:aZ):(cz p)[0]? =some (.int .i64 p.bits):=by unfold cz;rw[Array.getElem?_append];rfl
theorem zb(p:aZ):(cz p)[1]? =some (.int .i64 p.len):=by unfold cz;rw[Array.getElem?_append];rfl
theorem rN(p:aZ)(j:Nat):(cz p)[2+j]? =(bI p.key)[j]? :=by
 unfold cz;rw[Array.getElem?_append,if_neg (by simp)];congr 1;simp
theorem PO{a b:aZ}(h:cz a=cz b):a=b:=by
 have h0:=za a;rw[h,za]at h0;have h1:=zb a;rw[h,zb]at h1;have h2:a.key=b.key:=PL (auF fun i=>by rw[←rN,←rN,h])
 cases a;cases b
 simp at h0 h1 h2⊢;exact⟨h0.symm,h1.symm,h2⟩
theorem PQ(k:Key):nZ (aY k)=k:=sR fun i hi=>by
 rw[ur _ i hi];have:=gp k i;omega
theorem J6{a b:Key}{i:Nat}(hi:i<16)(hs: ∀j,j<i->aY a j=aY b j)(hd:aY a i<aY b i):a.toNat<b.toNat:=by
 have key: ∀n,n<=16->i<n->(List.range n).foldl (fun x j=>x*2^8+aY a j%2^8) 0<(List.range n).foldl (fun x j=>x*2^8+aY b j%2^8) 0:=by
  intro n
  induction n with
  |zero=>intro _ h;omega
  |succ n ih=>
   intro hn hG;rw[aua,avz,avz];simp only[auA,List.foldl_nil];have ha:=gp a n;have hb:=gp b n
   by_cases h:i=n
   ·
    subst h;have e:(List.range i).foldl (fun x j=>x*2^8+aY a j%2^8) 0=(List.range i).foldl (fun x j=>x*2^8+aY b j%2^8) 0:=by
     have aux: ∀(l:List Nat) (z:Nat),(∀j∈l,aY a j=aY b j)->l.foldl (fun x j=>x*2^8+aY a j%2^8) z=l.foldl (fun x j=>x*2^8+aY b j%2^8) z:=by
      intro l
      induction l with
      |nil=>intro z _;rfl
      |cons x l ih=>intro z hl;simp only[auA];rw[hl x (by simp)];exact ih _ fun j hj=>hl j (by simp[hj])
     exact aux _ _ fun j hj=>hs j (aty.1 hj)
    rw[e];omega
   have:=ih (by omega) (by omega);omega
 have PR:=key 16 (as4 _) hi;have ea:a.toNat=(List.range 16).foldl (fun x j=>x*2^8+aY a j%2^8) 0:=by
  conv=>lhs;rw[←PQ a]
  unfold nZ;rw[auQ];exact atN (FL (aY a) 16)
 have eb:b.toNat=(List.range 16).foldl (fun x j=>x*2^8+aY b j%2^8) 0:=by
  conv=>lhs;rw[←PQ b]
  unfold nZ;rw[auQ];exact atN (FL (aY b) 16)
 rw[ea,eb];exact PR
theorem Zb{x y:Nat}(i:Nat)(hx:x.testBit i=false)(hy:y.testBit i=true)(h: ∀j,i<j->x.testBit j=y.testBit j):x<y:=by
 have e:x/2^(i+1)=y/2^(i+1):=au1 fun j=>by
  rw[auM,auM];exact h _ (by omega)
 rw[av1,←Nat.div_div_eq_div_mul,←Nat.div_div_eq_div_mul]at e;rw[Nat.testBit_eq_decide_div_mod_eq]at hx hy;simp at hx hy;rcases as3 x y with h1|h1
 ·
  exact h1
 have:=Nat.div_le_div_right (c:=2^i) h1;omega
theorem Zc{a b:Key}{n:Nat}(hn:n<128)(hs: ∀j,j<n->a.getMsbD j=b.getMsbD j)(ha:a.getMsbD n=false)(hb:b.getMsbD n=true):a.toNat<b.toNat:=by
 refine J6 (i:=n/8) (by omega) (fun j hj=>?_) ?_
 ·
  exact PI (by omega) (gp b j) fun m hm=>by
   rw[hs _ (by omega),mO b _ (by omega)];congr 2<;>omega
 have h8: ∀m,m<n%8->(aY a (n/8)).testBit (7 -m)=(aY b (n/8)).testBit (7 -m):=fun m hm=>by
  have h1:=hs (8*(n/8)+m) (by omega);rw[mO a _ (by omega),mO b _ (by omega)]at h1;rw[show(8*(n/8)+m)/8=n/8 by omega,show(8*(n/8)+m)%8=m by omega]at h1;exact h1
 rw[mO a n hn]at ha;rw[mO b n hn]at hb;refine Zb (7 -n%8) ha hb fun j hj=>?_;rcases as3 j 8 with h|h
 ·
  have:=h8 (7 -j) (by omega);rw[show 7 -(7 -j)=j by omega]at this;exact this
 have hp:2^8<=2^j:=auc (by decide) h;rw[auo (atS (gp a _) hp),auo (atS (gp b _) hp)]
def rO(a b:Key):Int:=if a.toNat<b.toNat then -1 else if b.toNat<a.toNat then 1 else 0
theorem PS(a b:Key):rO a b=0↔a=b:=by
 unfold rO;constructor
 ·
  intro h;split at h
  ·
   omega
  split at h
  ·
   omega
  exact avH (by omega)
 rintro rfl;simp
theorem Zd(a b:Key):rO a b<0↔a.toNat<b.toNat:=by
 unfold rO;split
 ·
  simp[*]
 split<;>simp[*]
theorem rP(p:aZ)(k:Key):qO p k=true↔bo p=true/\cm k p.bits=k/\cm k p.len=p.key:=by
 unfold qO;simp[and_assoc]
theorem vD(p q:aZ):nC p q=true↔bo p=true/\bo q=true/\p.bits=q.bits/\p.len<=q.len/\cm q.key p.len=p.key:=by
 unfold nC;simp[and_assoc]
theorem FQ(p:aZ):bo p=true↔(p.bits=32\/p.bits=128)/\0<=p.len/\p.len<=p.bits/\ ∀i:Nat,i<128->p.len<=(i:Int)->p.key.getMsbD i=false:=by
 rw[kj,AS]
theorem Ze(k:Key)(n:Int):(cm k n).toNat<=k.toNat:=by
 rcases as3 k.toNat (cm k n).toNat with h|h
 ·
  exfalso
  by_cases e:cm k n=k
  ·
   rw[e]at h;omega
  obtain⟨m,e1,m0,m1,m2⟩:=J5 (cm k n) k;have hm:m<128:=by
   rcases as3 m 128 with hm|hm
   ·
    exact hm
   exact absurd (uq fun i hi=>m1 i (by omega)) e
  have hd:=m2 hm;rw[pc]at hd;have hb:k.getMsbD m=true:=by
   cases hb:k.getMsbD m with
   |true=>rfl
   |false=>rw[hb]at hd;simp at hd
  have:=Zc hm m1 (by rw[pc];rw[hb]at hd⊢;simpa using hd) hb;omega
 exact h
theorem PT{p q:aZ}{k:Key}(hp:qO p k=true)(hq:qO q k=true)(hb:p.bits=q.bits)(hl:p.len<=q.len):nC p q=true:=by
 rw[rP]at hp hq;refine(vD p q).2 ⟨hp.1,hq.1,hb,hl,?_⟩;rw[←hq.2.2,AR,←hp.2.2];congr 1;omega
theorem PU{p q:aZ}(h:nC p q=true):cH q p=false:=by
 obtain⟨h1,h2,h3,h4,h5⟩:=(vD p q).1 h;have hle:=Ze q.key p.len;rw[h5]at hle;unfold cH;rw[h1,h2,if_neg (by simp[h3])]
 by_cases e:q.key=p.key
 ·
  rw[if_neg (by simp[e])];simp;omega
 rw[if_pos e];simp;omega
theorem Zf{p q:aZ}{k:Key}(h:nC p q=true)(hq:qO q k=true):qO p k=true:=by
 obtain⟨h1,h2,h3,h4,h5⟩:=(vD p q).1 h;obtain⟨_,q2,q3⟩:=(rP q k).1 hq;refine(rP p k).2 ⟨h1,by rw[h3];exact q2,?_⟩;rw[←h5,←q3,AR];congr 1;omega
theorem mP{p q:aZ}(hp:bo p=true)(hq:bo q=true):cH p q=true↔p.bits<q.bits\/(p.bits=q.bits/\(p.key.toNat<q.key.toNat\/(p.key.toNat=q.key.toNat/\p.len<q.len))):=by
 obtain⟨p1,_⟩:=(kj p).1 hp;obtain⟨q1,_⟩:=(kj q).1 hq;have ek:p.key=q.key↔p.key.toNat=q.key.toNat:=⟨fun h=>by rw[h],avH⟩;unfold cH;rw[hp,hq,atU,atU]
 by_cases hb:p.bits=q.bits
 ·
  rw[if_neg (by simpa using hb)]
  by_cases hk:p.key=q.key
  ·
   rw[if_neg (by simpa using hk)];rw[ek]at hk;simp;omega
  rw[if_pos hk];rw[ek]at hk;simp;omega
 rw[if_pos hb];simp;omega
theorem Zg{p q:aZ}:p=q↔p.bits=q.bits/\p.key.toNat=q.key.toNat/\p.len=q.len:=by
 constructor
 ·
  rintro rfl;exact⟨rfl,rfl,rfl⟩
 rintro⟨h1,h2,h3⟩;have:=avH h2
 cases p;cases q;simp_all
structure Rt where
 p:aZ
 bV:UInt16
 deriving DecidableEq
def cI:Rt:=⟨⟨0,0,0#128⟩,0⟩
def au(r:Rt):Array Value:=cz r.p++ #[.int .u16 r.bV.toNat]
theorem lF(r:Rt):(au r).size=19:=by unfold au;rw[avN,qP];rfl
theorem p6(r:Rt)(j:Nat)(h:j<18):(au r)[j]? =(cz r.p)[j]? :=by
 unfold au;rw[avs (by rw[qP];exact h)]
theorem AT(r:Rt):(au r)[18]? =some (.int .u16 r.bV.toNat):=by
 unfold au;rw[Array.getElem?_append_right (by rw[qP];omega),qP];rfl
def sS(xs:List Rt)(i:Nat):Bool:=match xs[i]?with
 |none=>true
 |some r=>bo r.p&&match i with
  |0=>true
  |j+1=>match xs[j]?with
   |none=>true
   |some q=>cH q.p r.p
def sU(xs:List Rt)(n:Nat):Bool:=(List.range n).all (sS xs)
def br(xs:List Rt):Bool:=decide (xs.length<=256)&&sU xs xs.length
theorem PW(xs:List Rt):sU xs 0=true:=rfl
theorem J7(xs:List Rt)(n:Nat):sU xs (n+1)=(sU xs n&&sS xs n):=by
 simp[sU,aua]
theorem J8{xs:List Rt}(h:256<xs.length):br xs=false:=by
 simp[br];omega
theorem FR{xs:List Rt}{i:Nat}(hi:i<xs.length)(h:sS xs i=false):br xs=false:=by
 have:sU xs xs.length=false:=by
  rw[sU,List.all_eq_false];exact⟨i,aty.2 hi,by simp[h]⟩
 simp[br,this]
theorem PX{xs:List Rt}(h:xs.length<=256)(ho:sU xs xs.length=true):br xs=true:=by simp[br,h,ho]
theorem PY{xs:List Rt}{i:Nat}{r:Rt}(hi:xs[i]? =some r)(h:bo r.p=false):sS xs i=false:=by simp[sS,hi,h]
theorem J9{xs:List Rt}{r:Rt}(hi:xs[0]? =some r):sS xs 0=bo r.p:=by simp[sS,hi]
theorem FT{xs:List Rt}{i:Nat}{q r:Rt}(hi:xs[i+1]? =some r)(hq:xs[i]? =some q):sS xs (i+1)=(bo r.p&&cH q.p r.p):=by simp[sS,hi,hq]
theorem Zh{xs:List Rt}{i:Nat}{q r:Rt}(h0:0<i)(hi:xs[i]? =some r)(hq:xs[i -1]? =some q):sS xs i=(bo r.p&&cH q.p r.p):=by
 obtain⟨j,rfl⟩: ∃j,i=j+1:=⟨i -1,by omega⟩;exact FT hi (by simpa using hq)
theorem PZ{xs:List Rt}{i:Nat}{q r:Rt}(hi:xs[i]? =some r)(hq:xs[i -1]? =some q):sS xs i=(bo r.p&& !(decide (0<(i:Int))&& !cH q.p r.p)):=by
 rcases auy i with h|h
 ·
  subst h;rw[J9 hi];simp
 rw[Zh h hi hq];simp[h]
theorem get_some{α:Type}{xs:List α}{i:Nat}(h:i<xs.length): ∃r,xs[i]? =some r:=⟨xs[i],by simp[h]⟩
theorem Zi{a b:Rt}(h:au a=au b):a=b:=by
 have hp:cz a.p=cz b.p:=auF fun j=>by
  rcases as3 j 18 with hj|hj
  ·
   rw[←p6 a j hj,←p6 b j hj,h]
  rw[auE (by rw[qP];exact hj),auE (by rw[qP];exact hj)]
 have hh:=AT a;rw[h,AT b]at hh;have e1:b.bV=a.bV:=by
  apply UInt16.toNat_inj.1;simp only[auD,Value.int.injEq,true_and]at hh;omega
 obtain⟨p,q⟩:=a;obtain⟨p',q'⟩:=b;simp only at e1 hp;rw[PO hp,e1]
open Go.ax
variable {s:cf} {c:UInt8} {k:Key}
def zd(n:Nat):UInt8:=if n<10 then UInt8.ofNat (48+n)else UInt8.ofNat (87+n)
def lG(c:UInt8):Option Nat:=if 48<=c.toNat/\c.toNat<=57 then some (c.toNat -48)else if 97<=c.toNat/\c.toNat<=102 then some (c.toNat -87)else none
theorem Zj{n:Nat}(h:n<16):(zd n).toNat=if n<10 then 48+n else 87+n:=by
 unfold zd;split
 ·
  rw[UInt8.toNat_ofNat'];omega
 rw[UInt8.toNat_ofNat'];omega
theorem FU{n:Nat}(h:n<16):lG c=some n↔c=zd n:=by
 have ht:=Zj h;constructor
 ·
  intro h1;apply avm.1;rw[ht];unfold lG at h1;split at h1
  ·
   have:=asY h1;split<;>omega
  split at h1
  ·
   have:=asY h1;split<;>omega
  cases h1
 rintro rfl;unfold lG;rw[ht];split
 ·
  rw[if_pos (by omega)];congr 1;omega
 rw[if_neg (by omega),if_pos (by omega)];congr 1;omega
theorem Ka{n:Nat}(h:lG c=some n):n<16:=by
 unfold lG at h;split at h
 ·
  have:=asY h;omega
 split at h
 ·
  have:=asY h;omega
 cases h
theorem Zk{n:Nat}(h:n<16){c:UInt8}(hc:lG c=none):zd n≠c:=fun e=>by
 have:=(FU h).2 e.symm;rw[hc]at this;cases this
def AU(k:Key):cf:=dec (aY k 0)++46::(dec (aY k 1)++46::(dec (aY k 2)++46::dec (aY k 3)))
def sV(k:Key)(i:Nat):Nat:=if i%2=0 then aY k (i/2)/16 else aY k (i/2)%16
theorem Kc(k:Key)(i:Nat):sV k i<16:=by
 have:=gp k (i/2);unfold sV;split<;>omega
def sW(k:Key):cf:=(List.range 32).map fun i=>zd (sV k i)
def C6(k:Key)(bits:Int):cf:=if bits=32 then AU k else sW k
def four(a b c d:Nat):Key:=nZ fun i=>if i=0 then a else if i=1 then b else if i=2 then c else if i=3 then d else 0
def kX(s:cf):Option Key:=match cU 46 s with
 |[a,b,c,d]=>match c0 a 255,c0 b 255,c0 c 255,c0 d 255 with
  |some a,some b,some c,some d=>some (four a b c d)
  |_,_,_,_=>none
 |_=>none
def FW(s:cf):Bool:=s.all fun c=>(lG c).isSome
def lH(s:cf)(i:Nat):Nat:=(lG (s.getD i 0)).getD 0
def AV(s:cf):Key:=nZ fun i=>16*lH s (2*i)+lH s (2*i+1)
def nD(s:cf):Option Key:=if s.length=32/\FW s=true then some (AV s)else none
def n0(s:cf):Option (Key×Int):=match kX s with
 |some k=>some (k,32)
 |none=>(nD s).map fun k=>(k,128)
theorem ze{a b c d:Nat}(ha:a<=255)(hb:b<=255)(hc:c<=255)(hd:d<=255){i:Nat}(hi:i<16):aY (four a b c d) i=if i=0 then a else if i=1 then b else if i=2 then c else if i=3 then d else 0:=by
 rw[four,ur _ _ hi];split
 ·
  omega
 split
 ·
  omega
 split
 ·
  omega
 split<;>omega
theorem P0:cm k 32=k↔ ∀i,4<=i->i<16->aY k i=0:=by
 constructor
 ·
  intro h i h1 h2;have:=C5 k 32 i h2;rw[show cm k ((32:Nat):Int)=k from h]at this;rw[this,if_neg (by omega)];split
  ·
   have hb:=gp k i;obtain rfl:i=4:=by omega
   rw[show(8 -(32 -8*4))=8 by decide];omega
  rfl
 intro h;refine sR fun i hi=>?_;rw[show cm k 32=cm k ((32:Nat):Int)from rfl,C5 k 32 i hi];split
 ·
  rfl
 have:=h i (by omega) hi;rw[this];split<;>simp
theorem P1:kX s=some k↔cm k 32=k/\s=AU k:=by
 constructor
 ·
  intro h;unfold kX at h;split at h
  ·
   rename_i a b c d hs;obtain⟨u1,e1,_,h1⟩:=J1 hs;obtain⟨u2,e2,_,h2⟩:=J1 h1;obtain⟨u3,e3,_,h3⟩:=J1 h2;obtain⟨e4,_⟩:=YN h3;split at h
   ·
    rename_i na nb nc nd ha hb hc hd;obtain⟨ea,la⟩:=mf.1 ha;obtain⟨eb,lb⟩:=mf.1 hb;obtain⟨ec,lc⟩:=mf.1 hc;obtain⟨ed,ld⟩:=mf.1 hd;obtain rfl:=asY h;refine⟨P0.2 fun i h1 h2=>?_,?_⟩
    ·
     rw[ze la lb lc ld h2,if_neg (by omega),if_neg (by omega),if_neg (by omega),if_neg (by omega)]
    rw[AU,ze la lb lc ld (by decide),ze la lb lc ld (by decide),ze la lb lc ld (by decide),ze la lb lc ld (by decide)];simp only[if_true,Nat.one_ne_zero,if_false,(by decide:(2:Nat)≠0),(by decide:(2:Nat)≠1),(by decide:(3:Nat)≠0),(by decide:(3:Nat)≠1),(by decide:(3:Nat)≠2)];rw[e1,e2,e3,e4,ea,eb,ec,ed]
   cases h
  cases h
 rintro⟨h,rfl⟩;have hn: ∀n,(46:UInt8)∉dec n:=fun n=>PD (by decide);have hs:cU 46 (AU k)=[dec (aY k 0),dec (aY k 1),dec (aY k 2),dec (aY k 3)]:=by
  rw[AU,FJ (hn _),FJ (hn _),FJ (hn _),J0 (hn _)]
 have hl: ∀i,aY k i<=255:=fun i=>by have:=gp k i;omega
 have e:kX (AU k)=some (four (aY k 0) (aY k 1) (aY k 2) (aY k 3)):=by
  unfold kX;rw[hs];simp only[JY (hl _)]
 rw[e];refine congrArg some (sR fun i hi=>?_);rw[ze (hl _) (hl _) (hl _) (hl _) hi];rcases as3 i 4 with h4|h4
 ·
  have:i=0\/i=1\/i=2\/i=3:=by omega
  rcases this with rfl|rfl|rfl|rfl<;>simp
 rw[if_neg (by omega),if_neg (by omega),if_neg (by omega),if_neg (by omega),P0.1 h i h4 hi]
theorem P2(k:Key){i:Nat}(h:i<32):(sW k)[i]? =some (zd (sV k i)):=by simp[sW,h]
theorem P3(k:Key):(sW k).length=32:=by simp[sW]
theorem P4(k:Key){i:Nat}(h:i<32):lH (sW k) i=sV k i:=by
 unfold lH;rw[List.getD,P2 k h,auT,(FU (Kc k i)).2 rfl];rfl
theorem Zl(k:Key):FW (sW k)=true:=by
 unfold FW sW;rw[List.all_map,atk];intro i _;simp only[Function.comp];rw[(FU (Kc k i)).2 rfl];rfl
theorem P5:nD s=some k↔s=sW k:=by
 constructor
 ·
  intro h;unfold nD at h;split at h
  ·
   rename_i h1;obtain⟨hl,ha⟩:=h1;obtain rfl:=asY h;have hh: ∀i,i<32-> ∃n,n<16/\s[i]? =some (zd n)/\lH s i=n:=fun i hi=>by
    have dL:i<s.length:=by omega
    have hm:s[i]? =some (s.getD i 0):=by simp[List.getD,dL]
    have:=atk.1 ha _ (alM hm);obtain⟨n,hn⟩:=at2.1 this;have bc:=Ka hn;exact⟨n,bc,by rw[hm,(FU bc).1 hn],by rw[lH,hn];rfl⟩
   have hb: ∀j,j<16->aY (AV s) j=16*lH s (2*j)+lH s (2*j+1):=fun j hj=>by
    obtain⟨n,h1,_,h2⟩:=hh (2*j) (by omega);obtain⟨m,h3,_,h4⟩:=hh (2*j+1) (by omega);rw[AV,ur _ _ hj];omega
   refine at5 fun i=>?_;rcases as3 i 32 with hi|hi
   ·
    obtain⟨n,h1,h2,h3⟩:=hh i hi;rw[h2,P2 _ hi];have hn:sV (AV s) i=n:=by
     unfold sV;rw[hb (i/2) (by omega)];have uu:=fun j (hj:j<32)=>hh j hj;split
     ·
      rename_i he;obtain⟨m,h5,_,h6⟩:=hh (2*(i/2)+1) (by omega);rw[show 2*(i/2)=i by omega,h3,show i+1=2*(i/2)+1 by omega,h6];omega
     rename_i he;obtain⟨m,h5,_,h6⟩:=hh (2*(i/2)) (by omega);rw[show 2*(i/2)+1=i by omega,h3,h6];omega
    rw[hn]
   rw[as7 (by omega),as7 (by rw[P3];omega)]
  cases h
 rintro rfl;unfold nD;rw[if_pos ⟨P3 k,Zl k⟩];congr 1;refine sR fun j hj=>?_;rw[AV,ur _ _ hj,P4 k (by omega),P4 k (by omega)];have hb:=gp k j;have e1:sV k (2*j)=aY k j/16:=by unfold sV;rw[if_pos (by omega),show 2*j/2=j by omega]
 have e2:sV k (2*j+1)=aY k j%16:=by unfold sV;rw[if_neg (by omega),show(2*j+1)/2=j by omega]
 rw[e1,e2];omega
theorem Zm(k:Key){c:UInt8}(hc:lG c=none):c∉sW k:=fun h=>by
 obtain⟨i,_,hi⟩:=at7.1 h;exact Zk (Kc k i) hc hi
theorem Zn(k:Key):kX (sW k)=none:=by
 unfold kX;rw[J0 (Zm k (by decide))]
theorem Zo{b:Int}:n0 s=some (k,b)↔bo ⟨b,b,k⟩=true/\s=C6 k b:=by
 rw[kj];simp only;constructor
 ·
  intro h;unfold n0 at h;split at h
  ·
   rename_i k' hk;obtain⟨rfl,rfl⟩:=Prod.mk.inj (asY h);obtain⟨h1,h2⟩:=P1.1 hk;exact⟨⟨.inl rfl,by decide,atW _,h1⟩,by rw[C6,if_pos rfl];exact h2⟩
  obtain⟨k',hk,he⟩:=au6.1 h;obtain⟨rfl,rfl⟩:=Prod.mk.inj he;exact⟨⟨.inr rfl,by decide,atW _,PM _ _ (atW _)⟩,by rw[C6,if_neg (by decide)];exact P5.1 hk⟩
 rintro⟨⟨h1,_,_,h2⟩,rfl⟩;rcases h1 with rfl|rfl
 ·
  rw[C6,if_pos rfl,n0,P1.2 ⟨h2,rfl⟩]
 rw[C6,if_neg (by decide),n0,Zn,P5.2 rfl];rfl
def nE(s:cf):Option aZ:=match cU 47 s with
 |[a,b]=>match n0 a,c0 b 128 with
  |some (k,bits),some n=>if bo ⟨bits,(n:Int),k⟩=true then some ⟨bits,(n:Int),k⟩else none
  |_,_=>none
 |_=>none
def uv(s:cf):Option Rt:=match cU 32 s with
 |[a,b]=>match nE a,c0 b 65535 with
  |some p,some n=>some ⟨p,UInt16.ofNat n⟩
  |_,_=>none
 |_=>none
end Go.Kb

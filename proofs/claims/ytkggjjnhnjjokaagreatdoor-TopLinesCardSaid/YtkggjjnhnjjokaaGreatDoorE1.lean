/- Part of a proof. -/
import Derived.WalkKit
import Derived.Deep.Quiet
import Derived.Laws.CopyRow
import Derived.RangeFuncRecord
import Derived.RangeFuncCalls
import Derived.OrdersIn
import Derived.IntWalk
import Derived.StillTail
import Derived.Deep.MidRow
import Derived.Deep.AppendSrc
import Derived.Laws.MakeOwn
import Derived.Laws.Append
import Derived.Laws.Slices
import Derived.Laws.AppendOwn
import Derived.Laws.IdiomStrings
import Derived.Laws.Strings
import Derived.Laws.Cover3
import Derived.Lib.ItoaNum
import Derived.Laws.DeepStrings4
import Derived.Laws.Runes
import Derived.Lib.Strings
import Derived.Lib.SplitLaws
import Derived.Lib.CutLaws
import GoSem.Core.Value
set_option maxRecDepth 20000
set_option linter.unusedSimpArgs false
set_option linter.unusedVariables false
theorem ad2:type_of% @List.getElem?_eq_some_iff:=List.getElem?_eq_some_iff
theorem af0:type_of% @List.length_append:=List.length_append
theorem alM:type_of% @Bool.and_eq_true:=Bool.and_eq_true
theorem anc:type_of% @List.mem_of_getElem?:=List.mem_of_getElem?
theorem aqP:type_of% @Option.some.inj:=Option.some.inj
theorem aqQ:type_of% @List.length_cons:=List.length_cons
theorem aqR:type_of% @List.getElem?_eq_getElem:=List.getElem?_eq_getElem
theorem aqS:type_of% @List.length_nil:=List.length_nil
theorem aqT:type_of% @List.length_take:=List.length_take
theorem aqU:type_of% @List.mem_cons_self:=List.mem_cons_self
theorem aqV:type_of% @List.getElem?_eq_none:=List.getElem?_eq_none
theorem aqW:type_of% @List.mem_cons:=List.mem_cons
theorem aqX:type_of% @Nat.lt_or_ge:=Nat.lt_or_ge
theorem aqY:type_of% @Nat.le_refl:=Nat.le_refl
theorem aqZ:type_of% @List.mem_append:=List.mem_append
theorem aq0:type_of% @List.take_add_one:=List.take_add_one
theorem aq1:type_of% @List.getElem?_map:=List.getElem?_map
theorem aq2:type_of% @List.mem_cons_of_mem:=List.mem_cons_of_mem
theorem aq3:type_of% @List.getElem?_append_right:=List.getElem?_append_right
theorem aq4:type_of% @List.getElem?_append_left:=List.getElem?_append_left
theorem aq5:type_of% @List.take_of_length_le:=List.take_of_length_le
theorem aq6:type_of% @List.append_assoc:=List.append_assoc
theorem aq7:type_of% @List.getElem?_set_self:=List.getElem?_set_self
theorem aq8:type_of% @List.all_eq_true:=List.all_eq_true
theorem aq9:type_of% @List.length_drop:=List.length_drop
theorem ara:type_of% @Nat.mul_le_mul_right:=Nat.mul_le_mul_right
theorem arb:type_of% @List.length_eq_zero_iff:=List.length_eq_zero_iff
theorem arc:type_of% @List.getElem?_of_mem:=List.getElem?_of_mem
theorem ard:type_of% @List.mem_map_of_mem:=List.mem_map_of_mem
theorem arf:type_of% @Classical.byContradiction:=Classical.byContradiction
theorem arh:type_of% @List.map_cons:=List.map_cons
theorem ari:type_of% @List.mem_filter:=List.mem_filter
theorem arj:type_of% @List.getElem?_set_ne:=List.getElem?_set_ne
theorem ark:type_of% @List.take_length:=List.take_length
theorem arl:type_of% @List.pairwise_cons:=List.pairwise_cons
theorem arn:type_of% @Nat.zero_le:=Nat.zero_le
theorem aro:type_of% @List.mem_append_left:=List.mem_append_left
theorem arp:type_of% @List.mem_singleton:=List.mem_singleton
theorem arq:type_of% @List.mem_or_eq_of_mem_set:=List.mem_or_eq_of_mem_set
theorem ars:type_of% @Nat.add_mul:=Nat.add_mul
theorem art:type_of% @List.map_append:=List.map_append
theorem aru:type_of% @List.length_set:=List.length_set
theorem arv:type_of% @Bool.false_eq_true:=Bool.false_eq_true
theorem arw:type_of% @List.mem_range:=List.mem_range
theorem arx:type_of% @Array.all_eq_true_iff_forall_mem:=Array.all_eq_true_iff_forall_mem
theorem ary:type_of% @Nat.zero_add:=Nat.zero_add
theorem arz:type_of% @List.take_zero:=List.take_zero
theorem arA:type_of% @List.length_map:=List.length_map
theorem arB:type_of% @List.nil_sublist:=List.nil_sublist
theorem arC:type_of% @List.take_append_drop:=List.take_append_drop
theorem arD:type_of% @List.getElem?_set:=List.getElem?_set
theorem arE:type_of% @Option.map_some:=Option.map_some
theorem arF:type_of% @Nat.mod_eq_of_lt:=Nat.mod_eq_of_lt
theorem arG:type_of% @List.filter_cons:=List.filter_cons
theorem arH:type_of% @Bool.true_and:=Bool.true_and
theorem arI:type_of% @List.getD_eq_getElem?_getD:=List.getD_eq_getElem?_getD
theorem arJ:type_of% @List.nil_append:=List.nil_append
theorem arK:type_of% @List.length_replicate:=List.length_replicate
theorem arL:type_of% @List.append_nil:=List.append_nil
theorem arM:type_of% @Nat.lt_of_lt_of_le:=Nat.lt_of_lt_of_le
theorem arN:type_of% @Int.toNat_natCast:=Int.toNat_natCast
theorem arO:type_of% @List.size_toArray:=List.size_toArray
theorem arP:type_of% @Nat.add_zero:=Nat.add_zero
theorem arQ:type_of% @List.sublist_cons_self:=List.sublist_cons_self
theorem arR:type_of% @Int.ediv_eq_zero_of_lt:=Int.ediv_eq_zero_of_lt
theorem arS:type_of% @List.ext_getElem?:=List.ext_getElem?
theorem arT:type_of% @List.map_congr_left:=List.map_congr_left
theorem arU:type_of% @Int.le_refl:=Int.le_refl
theorem arV:type_of% @Option.isSome_iff_exists:=Option.isSome_iff_exists
theorem arW:type_of% @Array.getElem?_setIfInBounds:=Array.getElem?_setIfInBounds
theorem arX:type_of% @Bool.not_eq_true':=Bool.not_eq_true'
theorem arY:type_of% @Int.toNat_of_nonneg:=Int.toNat_of_nonneg
theorem arZ:type_of% @List.map_nil:=List.map_nil
theorem ar0:type_of% @List.mem_map:=List.mem_map
theorem ar1:type_of% @List.range_succ:=List.range_succ
theorem ar2:type_of% @Nat.pow_le_pow_right:=Nat.pow_le_pow_right
theorem ar3:type_of% @List.pairwise_iff_getElem:=List.pairwise_iff_getElem
theorem ar4:type_of% @Bool.or_eq_true:=Bool.or_eq_true
theorem ar5:type_of% @Bool.false_ne_true:=Bool.false_ne_true
theorem ar6:type_of% @List.take_succ_cons:=List.take_succ_cons
theorem ar7:type_of% @Array.getElem?_eq_none:=Array.getElem?_eq_none
theorem ar8:type_of% @Int.add_mul_ediv_right:=Int.add_mul_ediv_right
theorem ar9:type_of% @List.filter_append:=List.filter_append
theorem asa:type_of% @List.getElem?_drop:=List.getElem?_drop
theorem asb:type_of% @List.contains_iff_mem:=List.contains_iff_mem
theorem asc:type_of% @List.cons_append:=List.cons_append
theorem asd:type_of% @Option.bind_some:=Option.bind_some
theorem ase:type_of% @List.drop_zero:=List.drop_zero
theorem asf:type_of% @List.set_cons_zero:=List.set_cons_zero
theorem asg:type_of% @List.mem_append_right:=List.mem_append_right
theorem ash:type_of% @List.mem_iff_getElem?:=List.mem_iff_getElem?
theorem asi:type_of% @Nat.add_sub_cancel_left:=Nat.add_sub_cancel_left
theorem asj:type_of% @Nat.mul_comm:=Nat.mul_comm
theorem asl:type_of% @List.flatten_cons:=List.flatten_cons
theorem asm:type_of% @Nat.eq_zero_or_pos:=Nat.eq_zero_or_pos
theorem asn:type_of% @Int.add_sub_cancel:=Int.add_sub_cancel
theorem aso:type_of% @List.getElem?_toArray:=List.getElem?_toArray
theorem asq:type_of% @List.getElem_of_mem:=List.getElem_of_mem
theorem asr:type_of% @List.getElem?_range:=List.getElem?_range
theorem ass:type_of% @Nat.mul_one:=Nat.mul_one
theorem ast:type_of% @Nat.add_assoc:=Nat.add_assoc
theorem asu:type_of% @Option.some.injEq:=Option.some.injEq
theorem asv:type_of% @Array.ext_getElem?:=Array.ext_getElem?
theorem asw:type_of% @List.foldl_cons:=List.foldl_cons
theorem asx:type_of% @List.take_succ_eq_append_getElem:=List.take_succ_eq_append_getElem
theorem asy:type_of% @Nat.sub_self:=Nat.sub_self
theorem asz:type_of% @List.nodup_append:=List.nodup_append
theorem asA:type_of% @Bool.and_self:=Bool.and_self
theorem asB:type_of% @Array.getElem?_eq_some_iff:=Array.getElem?_eq_some_iff
theorem asC:type_of% @Int.mul_nonneg:=Int.mul_nonneg
theorem asD:type_of% @BitVec.toNat_ofNat:=BitVec.toNat_ofNat
theorem asE:type_of% @Nat.lt_of_le_of_lt:=Nat.lt_of_le_of_lt
theorem asF:type_of% @Bool.true_eq_false:=Bool.true_eq_false
theorem asG:type_of% @List.getElem_mem:=List.getElem_mem
theorem asH:type_of% @Nat.testBit_lt_two_pow:=Nat.testBit_lt_two_pow
theorem asI:type_of% @Option.map_eq_some_iff:=Option.map_eq_some_iff
theorem asJ:type_of% @List.all_toArray:=List.all_toArray
theorem asK:type_of% @List.drop_succ_cons:=List.drop_succ_cons
theorem asL:type_of% @List.set_append_right:=List.set_append_right
theorem asM:type_of% @Int.add_comm:=Int.add_comm
theorem asN:type_of% @List.mem_of_mem_take:=List.mem_of_mem_take
theorem asO:type_of% @Array.getElem?_append_left:=Array.getElem?_append_left
theorem asP:type_of% @List.all_cons:=List.all_cons
theorem asQ:type_of% @Int.zero_add:=Int.zero_add
theorem asR:type_of% @Bool.not_false:=Bool.not_false
theorem asS:type_of% @List.drop_drop:=List.drop_drop
theorem asT:type_of% @Array.length_toList:=Array.length_toList
theorem asU:type_of% @List.length_pos_iff:=List.length_pos_iff
theorem asV:type_of% @List.drop_eq_getElem_cons:=List.drop_eq_getElem_cons
theorem asW:type_of% @Int.ediv_nonneg:=Int.ediv_nonneg
theorem asX:type_of% @Nat.mod_lt:=Nat.mod_lt
theorem asY:type_of% @Nat.div_add_mod:=Nat.div_add_mod
theorem asZ:type_of% @Int.emod_nonneg:=Int.emod_nonneg
theorem as0:type_of% @List.mem_of_find?_eq_some:=List.mem_of_find?_eq_some
theorem as1:type_of% @List.getElem?_take:=List.getElem?_take
theorem as2:type_of% @List.perm_middle:=List.perm_middle
theorem as3:type_of% @Option.getD_some:=Option.getD_some
theorem as4:type_of% @List.all_nil:=List.all_nil
theorem as5:type_of% @Int.emod_lt_of_pos:=Int.emod_lt_of_pos
theorem as6:type_of% @List.pairwise_append:=List.pairwise_append
theorem as7:type_of% @Bool.false_and:=Bool.false_and
theorem as8:type_of% @Nat.testBit_div_two_pow:=Nat.testBit_div_two_pow
theorem as9:type_of% @List.nodup_cons:=List.nodup_cons
theorem ata:type_of% @List.filter_nil:=List.filter_nil
theorem atb:type_of% @Nat.min_eq_left:=Nat.min_eq_left
theorem atc:type_of% @UInt8.toNat_inj:=UInt8.toNat_inj
theorem atd:type_of% @List.map_set:=List.map_set
theorem ate:type_of% @List.filter_eq_nil_iff:=List.filter_eq_nil_iff
theorem atf:type_of% @List.not_mem_nil:=List.not_mem_nil
theorem atg:type_of% @List.drop_length:=List.drop_length
theorem ath:type_of% @List.set_cons_succ:=List.set_cons_succ
theorem ati:type_of% @List.append_of_mem:=List.append_of_mem
theorem atj:type_of% @List.find?_eq_none:=List.find?_eq_none
theorem atk:type_of% @List.length_filter_le:=List.length_filter_le
theorem atl:type_of% @Nat.eq_of_testBit_eq:=Nat.eq_of_testBit_eq
theorem atm:type_of% @List.prefix_rfl:=List.prefix_rfl
theorem atn:type_of% @Array.size_append:=Array.size_append
theorem ato:type_of% @List.foldl_append:=List.foldl_append
theorem atp:type_of% @Bool.false_or:=Bool.false_or
theorem atq:type_of% @List.getElem?_replicate:=List.getElem?_replicate
theorem atr:type_of% @List.take_set_of_le:=List.take_set_of_le
theorem att:type_of% @List.filter_sublist:=List.filter_sublist
theorem atu:type_of% @Nat.le_trans:=Nat.le_trans
theorem atv:type_of% @Int.add_mul_emod_self_right:=Int.add_mul_emod_self_right
theorem atw:type_of% @List.cons.injEq:=List.cons.injEq
theorem atx:type_of% @Bool.eq_iff_iff:=Bool.eq_iff_iff
theorem aty:type_of% @List.singleton_append:=List.singleton_append
theorem atz:type_of% @List.sum_cons:=List.sum_cons
theorem atA:type_of% @Int.ediv_neg_of_neg_of_pos:=Int.ediv_neg_of_neg_of_pos
theorem atB:type_of% @List.flatMap_cons:=List.flatMap_cons
theorem atC:type_of% @Nat.lt_trichotomy:=Nat.lt_trichotomy
theorem atD:type_of% @Int.emod_eq_of_lt:=Int.emod_eq_of_lt
theorem atE:type_of% @Nat.add_eq:=Nat.add_eq
theorem atF:type_of% @Array.ext':=Array.ext'
theorem atG:type_of% @Nat.div_lt_of_lt_mul:=Nat.div_lt_of_lt_mul
theorem atH:type_of% @List.contains_eq_mem:=List.contains_eq_mem
theorem atI:type_of% @List.set_set:=List.set_set
theorem atJ:type_of% @List.replicate_succ:=List.replicate_succ
theorem atK:type_of% @List.eraseIdx_cons_succ:=List.eraseIdx_cons_succ
theorem atL:type_of% @Nat.lt_or_gt_of_ne:=Nat.lt_or_gt_of_ne
theorem atM:type_of% @Nat.xor_lt_two_pow:=Nat.xor_lt_two_pow
theorem atN:type_of% @Option.toList_some:=Option.toList_some
theorem atO:type_of% @List.sum_append:=List.sum_append
theorem atP:type_of% @List.drop_eq_nil_of_le:=List.drop_eq_nil_of_le
theorem atQ:type_of% @List.length_range:=List.length_range
theorem atS:type_of% @Nat.add_comm:=Nat.add_comm
theorem atT:type_of% @List.map_map:=List.map_map
theorem atU:type_of% @Int.mul_le_mul:=Int.mul_le_mul
theorem atV:type_of% @List.mem_reverse:=List.mem_reverse
theorem atW:type_of% @List.flatten_nil:=List.flatten_nil
theorem atX:type_of% @List.cons.inj:=List.cons.inj
theorem atY:type_of% @Prod.mk.injEq:=Prod.mk.injEq
namespace Go.ax
open Go.RowKit
structure aj where
 fp:Nat->Prop
 sat:(Nat->Option Obj)->Prop
 loc: ∀h h':Nat->Option Obj,(∀k,fp k->h' k=h k)->sat h->sat h'
def ar(b:Nat)(cs:Array Value)(T:TypeId):aj:=⟨fun k=>k=b,fun h=>h b=some (.cells cs T (0,0)),fun _ _ e s=>by rw[e b rfl];exact s⟩
structure Mem(w0:World)(L:List aj)(w:World):Prop where
 below:Below w0.heap.size w0 w
 sat: ∀e∈L,e.sat fun k=>w.heap[k]?
 jL: ∀e∈L,∀k,e.fp k->w0.heap.size<=k/\k<w.heap.size
 pj:L.Pairwise fun a b=> ∀k,a.fp k-> ¬b.fp k
theorem Mem.init(w:World):Mem w [] w:=⟨Below.refl _ _,by simp,by simp,by simp⟩
theorem Mem.DM{w w':World}(h:Below w.heap.size w w'):Mem w [] w':=⟨h,by simp,by simp,by simp⟩
variable {w0:World}{L:List aj}
theorem Mem.le{w:World}(h:Mem w0 L w):w0.heap.size<=w.heap.size:=h.below.size
theorem Mem.call{w0:World}{L E:List aj}{w w':World}(h:Mem w0 L w)(h':Mem w E w'):Mem w0 (E++L) w':=by
 refine⟨h.below.trans (h'.below.mono h.le),fun e he=>?_,fun e he k hk=>?_,?_⟩
 ·
  rcases aqZ.1 he with he|he
  ·
   exact h'.sat e he
  exact e.loc _ _ (fun k hk=>h'.below.block k (h.jL e he k hk).2) (h.sat e he)
 ·
  rcases aqZ.1 he with he|he
  ·
   have:=h'.jL e he k hk;have:=h.le;omega
  have:=h.jL e he k hk;have:=h'.below.size;omega
 refine as6.2 ⟨h'.pj,h.pj,fun a ha b hb k hk ka=>?_⟩;have:=h'.jL a ha k hk;have:=h.jL b hb k ka;omega
theorem Mem.step{w w':World}(h:Mem w0 L w)(h':Below w.heap.size w w'):Mem w0 L w':=h.call (E:=[]) (.DM h')
theorem Mem.drew{w:World}(h:Mem w0 L w):Mem w0 L w.drew:=h.step ((Below.refl _ _).drew)
theorem Mem.DN{w:World}(h:Mem w0 L w):Mem w0 L {w with drawn:=w.drawn+1}:=h.step ((Below.refl _ _).drew)
theorem Mem.sub{w0:World}{L L':List aj}{w:World}(h:Mem w0 L w)(s:L'.Sublist L):Mem w0 L' w:=
 ⟨h.below,fun e he=>h.sat e (s.subset he),fun e he=>h.jL e (s.subset he),h.pj.sublist s⟩
theorem Mem.perm{w0:World}{L L':List aj}{w:World}(h:Mem w0 L w)(s:L.Perm L'):Mem w0 L' w:=
 ⟨h.below,fun e he=>h.sat e (s.mem_iff.2 he),fun e he=>h.jL e (s.mem_iff.2 he),s.pairwise h.pj (fun ue k hk ka=>ue k ka hk)⟩
theorem Mem.get{w:World}(h:Mem w0 L w){i:Nat}{e:aj}(hi:L[i]? =some e):e.sat fun k=>w.heap[k]? :=h.sat e (anc hi)
theorem Below.DO(w:World)(o:Obj):(w.alloc o).heap[w.heap.size]? =some o:=by
 show(w.heap.push o)[w.heap.size]? =some o;simp
theorem Mem.alloc{w:World}(h:Mem w0 L w)(cs:Array Value)(T:TypeId):Mem w0 (ar w.heap.size cs T::L) (w.alloc (.cells cs T)):=by
 refine h.call (E:=[ar w.heap.size cs T]) ⟨(Below.refl _ _).alloc (aqY _) _,fun e he=>?_,fun e he k hk=>?_,by simp⟩
 ·
  simp at he;subst he;exact Below.DO w _
 simp at he;subst he;have:k=w.heap.size:=hk;subst this;simp
theorem Mem.change{w w':World}(h:Mem w0 L w){i:Nat}{e e':aj}(hi:L[i]? =some e)(uf: ∀k,e'.fp k->e.fp k)
  (hB: ∀k,¬e.fp k->w'.heap[k]? =w.heap[k]?) (hs:w'.heap.size=w.heap.size) (ho:w'.os=w.os/\w'.tape=w.tape/\w'.output=w.output)
  (HJ:e'.sat fun k=>w'.heap[k]?):Mem w0 (L.set i e') w':=by
 have DP:i<L.length:=by
  rcases aqX i L.length with h'|h'
  ·
   exact h'
  ·
   simp[aqV h']at hi
 have DQ:L[i]=e:=by simpa[aqR DP]using hi
 have M6:e∈L:=DQ▸asG DP;refine⟨⟨ho.1.trans h.below.os,ho.2.1.trans h.below.tape,ho.2.2.trans h.below.output,hs▸h.below.size,fun k hk=>?_⟩,fun x hx=>?_,fun x hx k hk=>?_,?_⟩
 ·
  rw[hB k (fun hf=>by have:=h.jL e M6 k hf;omega)];exact h.below.block k hk
 ·
  obtain⟨j,hj,n9⟩:=asq hx;rw[List.getElem_set]at n9;split at n9
  ·
   subst n9;exact HJ
  ·
   rename_i bM;have iO:j<L.length:=by simpa using hj
   subst n9;have hd:=h.pj;rw[ar3]at hd;refine(L[j]).loc _ _ (fun k hk=>hB k (fun hf=>?_)) (h.sat _ (asG iO));rw[←DQ]at hf;rcases atL bM with bb|bb
   ·
    exact hd i j DP iO bb k hf hk
   ·
    exact hd j i iO DP bb k hk hf
 ·
  rw[hs];obtain⟨j,hj,n9⟩:=asq hx;rw[List.getElem_set]at n9;split at n9
  ·
   subst n9;exact h.jL e M6 k (uf k hk)
  ·
   subst n9;exact h.jL _ (asG _) k hk
 ·
  rw[ar3];intro p q hp hq yZ k hk ka;have hd:=h.pj;rw[ar3]at hd;rw[List.getElem_set]at hk ka;have bS:p<L.length:=by simpa using hp
  have y0:q<L.length:=by simpa using hq
  have:=hd p q bS y0 yZ k;split at hk<;>split at ka
  ·
   omega
  ·
   rename_i h1 h2;subst h1;exact this (by rw[DQ];exact uf k hk) ka
  ·
   rename_i h1 h2;subst h2;exact this hk (by rw[DQ];exact uf k ka)
  ·
   exact this hk ka
theorem Mem.cell{w:World}(h:Mem w0 L w){i b:Nat}{cs:Array Value}{T:TypeId}(hi:L[i]? =some (ar b cs T))(o:Nat):w.cell? ⟨b,o,none⟩=cs[o]? :=by
 have:w.heap[b]? =some (.cells cs T (0,0)):=h.get hi;simp[World.cell?,this]
theorem Mem.block{w:World}(h:Mem w0 L w){i b:Nat}{cs:Array Value}{T:TypeId}(hi:L[i]? =some (ar b cs T)):w.heap[b]? =some (.cells cs T (0,0)):=h.get hi
theorem Mem.setRow{w:World}(h:Mem w0 L w){i b:Nat}{cs:Array Value}{T:TypeId}(hi:L[i]? =some (ar b cs T))(cs':Array Value):Mem w0 (L.set i (ar b cs' T)) (w.setRow b cs'):=by
 have hb:=h.block hi;refine h.change hi (fun k hk=>hk) (fun k hk=>?_) (by simp[World.setRow]) ⟨rfl,rfl,rfl⟩ ?_
 ·
  exact setRow_other w b k cs' (fun e=>hk e)
 exact setRow_heap w b cs cs' T (0,0) hb
def mh(ro:Option Nat):Fence:={fn:=fun _=>True,depth:=none,alive:=false,round:=ro}
def pY(l:List Oper):Bool:=l.all fun o=>match o.op with
 | .defer _=>false
 |_=>true
theorem M7{l:List Oper}(h:pY l=true){i:Nat}{o:Oper}(hi:l.toArray[i]? =some o): ∀c,o.op≠ .defer c:=fun c e=>by
 have hm:o∈l:=by simpa using Array.mem_of_getElem? hi
 have:=aq8.1 h o hm;rw[e]at this;cases this
class ky(Q:Exit->Act->World->Prop):Prop where
 h: ∀a w,¬Q .outgrown a w
instance ky.then{K:Act->World->Prop}{Q:Exit->Act->World->Prop}[q:ky Q]:ky (Exit.then K Q):=⟨fun a w h=>q.h a w h⟩
instance ky.block{id:Nat}{Q:Exit->Act->World->Prop}[q:ky Q]:ky (Exit.inBlock id Q):=⟨fun a w h=>q.h a w h⟩
variable {P:Program} {ro:Option Nat}
theorem VX{f:FuncId}{args:Array Value}{w:World}{R:Ending->World->Prop}(h:Calls P f args w R):CallsIn (mh ro) 0 P f args w R:=by
 have h':CallsIn Fence.wide 0 P f args w R:=callsIn_wide.2 h
 cases ro with
 |none=>exact h'
 |some l=>exact h'.inRound l
theorem VY{row:String}{args:Array Value}{w:World}{R:Value->World->Prop}(h:Rows P row args w R):RowsIn (mh ro) 0 P row args w R:=fun c cs _=>by
 obtain⟨v,w',hR,hs⟩:=h c cs;refine⟨v,w',hR,?_⟩;have h':StepsIn (Machine.fenced P Fence.wide) P _ _:=stepsIn_wide.2 hs;exact h'
theorem VZ{o:Oper}{a:Act}{w:World}{K:Act->World->Prop}{Q:Exit->Act->World->Prop}(cy: ∀c,o.op≠ .defer c)(h:o.wp P a w K Q):o.wpIn (mh ro) 0 P a w K Q:=by
 refine⟨fun _ _=>trivial,?_⟩;rw[Oper.semAt_eq _ _ _ cy];unfold Oper.wp at h;generalize(execOp a.eval o).run P w=r at h⊢;unfold Oper.upon at h;unfold Oper.uponIn;split at h
 ·
  exact h
 ·
  exact h
 ·
  exact h
 ·
  exact⟨fun e=>(by cases e),VX h⟩
 ·
  exact⟨fun e=>(by cases e),VY h⟩
 ·
  exact h
 exact h.elim
theorem Br{ops:Array Oper}{Q:Exit->Act->World->Prop}[q:ky Q](cy: ∀(i:Nat) (o:Oper),ops[i]? =some o-> ∀c,o.op≠ .defer c): ∀(l:List Nat) (a:Act) (w:World),wpOps P ops Q l a w->wpOpsIn (mh ro) 0 P ops Q l a w
 |[],_,_,h=>h
 |i::rest,a,w,h=>by
  unfold wpOps at h;unfold wpOpsIn;split at h
  ·
   rename_i ho;simp only[ho];exact Br cy rest a w h
  rename_i o ho;simp only[ho];split at h
  ·
   rename_i hw;rw[if_pos hw];rcases h with h|⟨_,a',w',h⟩
   ·
    exact Oper.wpIn_mono (fun a w h=>Br cy rest a w h) (VZ (cy i o ho) h)
   exact absurd h (q.h a' w')
  rename_i hw;rw[if_neg hw];exact⟨fun _ _=>trivial,Br cy rest _ w h⟩
theorem V0{id:Nat}{l:List Oper}{Q:Exit->Act->World->Prop}{a:Act}{w:World}[ky Q](cy:pY l=true)(h:wpList P l.toArray Q l a w):(Code.region id l.toArray false).wpIn (mh ro) 0 P Q a w:=
 wpIn_region (Br (fun _ _ hi=>M7 cy hi) _ a w (by rw[List.range_eq_range',←asT,wpOps_eq_wpList l.toArray.toList 0 (by simp)];exact h))
theorem HK{id:Nat}{l:List Oper}{Q:Exit->Act->World->Prop}{a:Act}{w:World}[ky Q](cy:pY l=true)(hm:P.follows .mixedOrders=true)
  (h:wpAny P .any l.toArray Q l.toArray.size (Array.replicate l.toArray.size false) a {w with drawn:=w.drawn+1}):(Code.region id l.toArray true).wpIn (mh ro) 0 P Q a w:=
 wpIn_region_draw fun t=>Br (fun _ _ hi=>M7 cy hi) _ a _ (by
  simp only[Region.schedule,hm,Bool.true_or,if_true];exact wpAny_sound l.toArray.size t _ a _ h)
theorem V1{id:Nat}{l:List Oper}{C:World->Prop}{Q:Exit->Act->World->Prop}{a:Act}{w:World}[ky Q](cy:pY l=true)(hm:P.follows .mixedOrders=true)(hB:Region.lexB .any l.toArray=true)(hC:C {w with drawn:=w.drawn+1})
  (h:wpQuiet P l.toArray C (fun a'=> ∀w',C w'->Q .normal a' w') l a):(Code.region id l.toArray true).wpIn (mh ro) 0 P Q a w:=by
 simp only[Region.lexB,alM]at hB;refine HK cy hm (wpAny_of_quiet (Q:=fun a'=> ∀w',C w'->Q .normal a' w') (fun _ w' gp h=>h w' gp) _ _ _ _ hC ?_);have:=wpAnyQ_lex (C:=C) (md:= .any) hB.1 l 0 (Array.replicate l.toArray.size false) a (by simp) (by simpa using hB.2) h;simpa using this
def mark(D:Nat):Deferred:={target:= .collected D,args:= #[]}
def rE(P:Program)(fn:Func)(R:Ending->World->Prop):Exit->Act->World->Prop:=fun e a w=>(e= .normal\/e= .ret)/\bodyPostM (mh none) 0 P fn R e a w
instance ky.end{fn:Func}{R:Ending->World->Prop}:ky (rE P fn R):=⟨fun a w h=>by rcases h.1 with h|h<;>cases h⟩
theorem M8{f:FuncId}{fn:Func}{c:Code}{args:Array Value}{w:World}{R:Ending->World->Prop}(hf:P.funcs[f]? =some fn)(hb:fn.body=some c)
  (h:c.wpIn (mh none) 0 P (rE P fn R) {tmps:=args++Array.replicate (fn.ntmps -args.size) undef,defers:=[]} w):Calls P f args w R:=
 callsIn_wide.1 (callsIn_of_wp_marks (F:=mh none) (n:=0) hf hb trivial (wpIn_mono h fun _ _ _ h=>h.2))
section
variable {P:Program} {l:List Oper} {C:World->Prop} {Q:Exit->Act->World->Prop} {n:Nat} {fs:List Nat}
def fr(l:List Oper)(fs:List Nat)(v:Nat->Value)(a0:Act):Nat->Act
 |0=>a0
 |k+1=>if fs.contains k=true then fr l fs v a0 k else match l[k]?with
  |some o=>(fr l fs v a0 k).put o.dst (v k)
  |none=>fr l fs v a0 k
def dQ(l:List Oper)(j:Nat):Option Tmp:=(l[j]?).bind (·.dst)
theorem jM(a:Act)(d:Option Tmp)(v:Value)(t:Nat)(h:d≠some t):(a.put d v).tmps[t]? =a.tmps[t]? :=by
 cases d with
 |none=>rfl
 |some d=>
  have:d≠t:=fun e=>h (by rw[e]);simp[Act.put,this]
theorem sQ(a:Act)(d:Option Tmp)(v:Value):(a.put d v).tmps.size=a.tmps.size:=by cases d<;>simp[Act.put]
theorem sR(a:Act)(d:Option Tmp)(v:Value):(a.put d v).defers=a.defers:=by cases d<;>rfl
theorem M9(a b:Act)(d:Nat)(v:Value)(h:a.tmps.size=b.tmps.size):(a.put (some d) v).tmps[d]? =(b.put (some d) v).tmps[d]? :=by
 simp[Act.put,arW,h]
theorem xq{v:Nat->Value}{a0:Act}{k:Nat}{o:Oper}(hf:fs.contains k=false)(h:l[k]? =some o):fr l fs v a0 (k+1)=(fr l fs v a0 k).put o.dst (v k):=by
 show(if fs.contains k=true then _ else match l[k]?with|some o=>(fr l fs v a0 k).put o.dst (v k)|none=>fr l fs v a0 k)=_;rw[hf,h];rfl
theorem y5{v:Nat->Value}{a0:Act}{k:Nat}(hf:fs.contains k=true):fr l fs v a0 (k+1)=fr l fs v a0 k:=by
 show(if fs.contains k=true then _ else match l[k]?with|some o=>(fr l fs v a0 k).put o.dst (v k)|none=>fr l fs v a0 k)=_;rw[hf];rfl
theorem Bs{v:Nat->Value}{a0:Act}{k:Nat}(h:l[k]? =none):fr l fs v a0 (k+1)=fr l fs v a0 k:=by
 show(if fs.contains k=true then _ else match l[k]?with|some o=>(fr l fs v a0 k).put o.dst (v k)|none=>fr l fs v a0 k)=_;rw[h];split<;>rfl
theorem Bt(v:Nat->Value)(a0:Act): ∀k,(fr l fs v a0 k).tmps.size=a0.tmps.size
 |0=>rfl
 |k+1=>by
  cases hf:fs.contains k with
  |true=>rw[y5 hf];exact Bt v a0 k
  |false=>
   cases ho:l[k]?with
   |none=>rw[Bs ho];exact Bt v a0 k
   |some o=>rw[xq hf ho,sQ];exact Bt v a0 k
theorem DR(v:Nat->Value)(a0:Act): ∀k,(fr l fs v a0 k).defers=a0.defers
 |0=>rfl
 |k+1=>by
  cases hf:fs.contains k with
  |true=>rw[y5 hf];exact DR v a0 k
  |false=>
   cases ho:l[k]?with
   |none=>rw[Bs ho];exact DR v a0 k
   |some o=>rw[xq hf ho,sR];exact DR v a0 k
theorem xr(v:Nat->Value)(a0:Act)(t k:Nat): ∀m,k<=m->(∀j,k<=j->j<m->fs.contains j=false->dQ l j≠some t)->(fr l fs v a0 m).tmps[t]? =(fr l fs v a0 k).tmps[t]?
 |0,h,_=>by obtain rfl:k=0:=by omega
            rfl
 |m+1,h,hn=>by
  by_cases e:k=m+1
  ·
   subst e;rfl
  have ih:=xr v a0 t k m (by omega) fun j h1 h2=>hn j h1 (by omega);rw[←ih]
  cases hf:fs.contains m with
  |true=>rw[y5 hf]
  |false=>
   cases ho:l[m]?with
   |none=>rw[Bs ho]
   |some o=>
    rw[xq hf ho];exact jM _ _ _ _ (by simpa[dQ,ho]using hn m (by omega) (by omega) hf)
def Bu(l:List Oper)(fs:List Nat)(n:Nat):Bool:=
 (List.range n).all fun k=>match l[k]?with
  |none=>false
  |some o=>
   (match o.op with| .select .. =>false|_=>true)&&
   (o.after.all fun e=> !Region.binds .any e||decide (e.on<k))&&
   (List.range n).all fun j=>match dQ l j with
    |none=>true
    |some d=>(!(o.looksAt l.toArray).contains d||(decide (j<k)&&(!fs.contains j||fs.contains k)&&o.after.any fun e=>Region.binds .any e&&e.on==j))&&(j==k||o.dst !=some d)
structure Bv(l:List Oper)(fs:List Nat)(n k:Nat)(o:Oper):Prop where
 vF: ∀cs b,o.op≠ .select cs b
 back: ∀e∈o.after,Region.binds .any e=true->e.on<k
 reads: ∀j d,j<n->dQ l j=some d->d∈o.looksAt l.toArray->j<k/\(fs.contains j=true->fs.contains k=true)/\ ∃e∈o.after,Region.binds .any e=true/\e.on=j
 one: ∀j d,j<n->dQ l j=some d->j≠k->o.dst≠some d
theorem DS(h:Bu l fs n=true)(k:Nat)(hk:k<n): ∃o,l[k]? =some o/\Bv l fs n k o:=by
 have:=aq8.1 h k (arw.2 hk)
 cases ho:l[k]?with
 |none=>simp[ho]at this
 |some o=>
  rw[ho]at this;simp only[alM]at this;obtain⟨⟨h1,h2⟩,h3⟩:=this;refine⟨o,rfl,⟨fun cs b e=>by rw[e]at h1;simp at h1,fun e he hb=>?_,fun j d hj hd hl=>?_,fun j d hj hd bM=>?_⟩⟩
  ·
   have:=(arx.1 h2) e he;simpa[hb]using this
  ·
   have:=aq8.1 h3 j (arw.2 hj);rw[hd]at this;simp only[alM,ar4,arX,decide_eq_true_eq]at this;rcases this.1 with h4|h4
   ·
    exact absurd hl (by simpa using h4)
   obtain⟨⟨h5,h6⟩,h7⟩:=h4;obtain⟨e,he,hb⟩:=Array.any_eq_true'.1 h7;simp only[alM,beq_iff_eq]at hb;exact⟨h5,fun iP=>h6.elim (fun h=>by rw[h]at iP;cases iP) id,e,he,hb.1,hb.2⟩
  have:=aq8.1 h3 j (arw.2 hj);rw[hd]at this;simp only[alM,ar4,beq_iff_eq]at this;rcases this.2 with h4|h4
  ·
   exact absurd h4 bM
  simpa using h4
def ug(P:Program)(o:Oper)(a:Act)(C:World->Prop)(v:Value):Prop:= ∀w,C w->o.quietAt P a (Mem w []) w v
def HL(P:Program)(l:List Oper)(fs:List Nat)(C:World->Prop)(v:Nat->Value)(a0:Act)(k:Nat):Prop:=
 ∀o,l[k]? =some o->(Region.wanted o (yielded l.toArray (fr l fs v a0 k).tmps)=true->ug P o (fr l fs v a0 k) C (v k))/\
  (Region.wanted o (yielded l.toArray (fr l fs v a0 k).tmps)=false->v k=undef)
def nh(P:Program)(ops:Array Oper)(fs:List Nat)(C:World->Prop)(F:Act->Prop):Nat->List Oper->Act->Prop
 |_,[],a=>F a
 |k,o::rest,a=>if fs.contains k=true then nh P ops fs C F (k+1) rest a
  else if Region.wanted o (yielded ops a.tmps)=true then∃v,ug P o a C v/\nh P ops fs C F (k+1) rest (a.put o.dst v)else nh P ops fs C F (k+1) rest (a.put o.dst undef)
theorem HM{F:Act->Prop}: ∀(m k:Nat) (a0:Act) (v0:Nat->Value),k+m<=l.length->nh P l.toArray fs C F k ((l.drop k).take m) (fr l fs v0 a0 k)->
  ∃v,(∀j,j<k->v j=v0 j)/\(∀j,k<=j->j<k+m->fs.contains j=false->HL P l fs C v a0 j)/\F (fr l fs v a0 (k+m))
 |0,k,a0,v0,_,h=>⟨v0,fun _ _=>rfl,fun j h1 h2=>by omega,by simpa[nh]using h⟩
 |m+1,k,a0,v0,hle,h=>by
  have hk:k<l.length:=by omega
  have ed:l.drop k=l[k]::l.drop (k+1):=asV hk;rw[ed,ar6]at h;have Na:l[k]? =some l[k]:=aqR hk;have agree: ∀v v':Nat->Value,∀j,(∀i,i<j->v i=v' i)->fr l fs v a0 j=fr l fs v' a0 j:=by
   intro v v' j
   induction j with
   |zero=>intro _;rfl
   |succ j ih=>
    intro hh;have e:=ih fun i hi=>hh i (by omega)
    cases hf:fs.contains j with
    |true=>rw[y5 hf,y5 hf,e]
    |false=>
     cases ho:l[j]?with
     |none=>rw[Bs ho,Bs ho,e]
     |some o=>rw[xq hf ho,xq hf ho,e,hh j (by omega)]
  unfold nh at h
  cases xt:fs.contains k with
  |true=>
   rw[if_pos xt]at h;obtain⟨v,g1,g2,g3⟩:=HM m (k+1) a0 v0 (by omega) (by rw[y5 xt];exact h);refine⟨v,fun j hj=>g1 j (by omega),fun j h3 h4 h5=>?_,by rw[show k+(m+1)=k+1+m by omega];exact g3⟩
   by_cases hj:j=k
   ·
    subst hj;rw[xt]at h5;cases h5
   ·
    exact g2 j (by omega) (by omega) h5
  |false=>
   rw[if_neg (by rw[xt];exact ar5)]at h;have step: ∀u:Value,nh P l.toArray fs C F (k+1) ((l.drop (k+1)).take m) ((fr l fs v0 a0 k).put l[k].dst u)->
     ((Region.wanted l[k] (yielded l.toArray (fr l fs v0 a0 k).tmps)=true->ug P l[k] (fr l fs v0 a0 k) C u)/\(Region.wanted l[k] (yielded l.toArray (fr l fs v0 a0 k).tmps)=false->u=undef))->
     ∃v,(∀j,j<k->v j=v0 j)/\(∀j,k<=j->j<k+(m+1)->fs.contains j=false->HL P l fs C v a0 j)/\F (fr l fs v a0 (k+(m+1))):=by
    intro u h2 hu
    let v1:Nat->Value:=fun j=>if j=k then u else v0 j
    have e1:fr l fs v1 a0 k=fr l fs v0 a0 k:=agree _ _ k fun i hi=>by simp[v1,show i≠k by omega]
    have e2:fr l fs v1 a0 (k+1)=(fr l fs v0 a0 k).put l[k].dst u:=by
     rw[xq xt Na,e1];simp[v1]
    obtain⟨v,g1,g2,g3⟩:=HM m (k+1) a0 v1 (by omega) (by rw[e2];exact h2);have e3:fr l fs v a0 k=fr l fs v0 a0 k:=agree _ _ k fun i hi=>by rw[g1 i (by omega)];simp[v1,show i≠k by omega]
    have e4:v k=u:=by rw[g1 k (by omega)];simp[v1]
    refine⟨v,fun j hj=>by rw[g1 j (by omega)];simp[v1,show j≠k by omega],fun j h3 h4 h5=>?_,by rw[show k+(m+1)=k+1+m by omega];exact g3⟩
    by_cases hj:j=k
    ·
     subst hj;intro o ho;rw[Na]at ho;cases ho;rw[e3,e4];exact hu
    ·
     exact g2 j (by omega) (by omega) h5
   split at h
   ·
    rename_i hw;obtain⟨u,h1,h2⟩:=h;exact step u h2 ⟨fun _=>h1,fun hf=>by rw[hw]at hf;cases hf⟩
   ·
    rename_i hw;exact step undef h ⟨fun ht=>absurd ht hw,fun _=>rfl⟩
def Nb(P:Program)(w:World)(R:Value->World->List aj->Prop):Result Next->Prop
 | .ok (.value v) w'=> ∃E,R v w' E
 | .ok (.enter f args) w'=>w'=w/\Calls P f args w fun e pZ=> ∃v E,e= .returned v/\R v pZ E
 |_=>False
def uh(P:Program)(l:List Oper)(n:Nat)(Q:Exit->Act->World->Prop)(w0:World)(Lq:List aj):List Nat->Act->List aj->Prop
 |[],af,L=> ∀w,Mem w0 L w->wpList P l.toArray Q (l.drop n) af w
 |j::js,af,L=> ∃o,l[j]? =some o/\o.guard=none/\ ∀w,Mem w0 L w->Nb P w (fun v w' L'=>Mem w0 L' w'/\(∀w,Mem w0 L' w->Mem w0 Lq w)/\uh P l n Q w0 Lq js (af.put o.dst v) L') ((execOp af.eval o).run P w)
def sS(l:List Oper):List Nat->Bool
 |j::k::r=>(match l[k]?with|some o=>o.after.any fun e=>Region.binds .any e&&e.on==j|none=>false)&&sS l (k::r)
 |_=>true
theorem Nc: ∀(rs:List Nat) (j0:Nat),sS l (j0::rs)=true-> ∀i∈rs,∃p∈j0::rs,∃o,l[i]? =some o/\ ∃e∈o.after,Region.binds .any e=true/\e.on=p
 |[],_,_,i,hi=>by cases hi
 |k::r,j0,h,i,hi=>by
  simp only[sS,alM]at h;rcases aqW.1 hi with rfl|hi
  ·
   cases ho:l[i]?with
   |none=>rw[ho]at h;simp at h
   |some o=>
    rw[ho]at h;obtain⟨e,he,hb⟩:=Array.any_eq_true'.1 h.1;simp only[alM,beq_iff_eq]at hb;exact⟨j0,by simp,o,rfl,e,he,hb.1,hb.2⟩
  obtain⟨p,hp,o,ho,e,he,hb⟩:=Nc r k h.2 i hi;exact⟨p,aq2 _ hp,o,ho,e,he,hb⟩
structure vG(P:Program)(l:List Oper)(fs:List Nat)(Q:Exit->Act->World->Prop)(w0:World)(L0:List aj)(n:Nat)(v:Nat->Value)(a0:Act)(rs:List Nat)(af:Act)(listed:Array Bool)(a:Act)(w:World):Prop where
 inv:HeadInv .any l.toArray n listed
 mem: ∃L,Mem w0 L w/\(∀w,Mem w0 L w->Mem w0 L0 w)/\uh P l n Q w0 L0 rs af L
 size:a.tmps.size=a0.tmps.size
 qK:af.tmps.size=a0.tmps.size
 defers:a.defers=a0.defers
 sU:af.defers=a0.defers
 hK: ∃ds,fs=ds++rs
 todo: ∀j,j<n->fs.contains j=true->(listed.getD j true=false↔j∈rs)
 done: ∀j d,j<n->listed.getD j true=true->dQ l j=some d->a.tmps[d]? =af.tmps[d]?
 rest: ∀d,(∀j,j<n->listed.getD j true=true->dQ l j≠some d)->a.tmps[d]? =a0.tmps[d]?
 full: ∀d,(∀j,j<n->fs.contains j=true->listed.getD j true=true->dQ l j≠some d)->af.tmps[d]? =(fr l fs v a0 n).tmps[d]?
variable {w0:World} {L0:List aj}
theorem HN{listed:Array Bool}{i:Nat}(h:listed.getD i true=false):i<listed.size:=by
 rcases aqX i listed.size with h'|h'
 ·
  exact h'
 simp[ar7 h']at h
theorem Nf{v:Nat->Value}{a0 a af:Act}{rs:List Nat}{listed:Array Bool}{w:World}(H:vG P l fs Q w0 L0 n v a0 rs af listed a w){k:Nat}{o:Oper}(ho:Bv l fs n k o)
  (qL: ∀e∈o.after,Region.binds .any e=true->listed.getD e.on false=true) (t:Nat) (ht:t∈o.looksAt l.toArray):a.tmps[t]? =af.tmps[t]? :=by
 by_cases hw: ∃j,j<n/\dQ l j=some t
 ·
  obtain⟨j,hj,hd⟩:=hw;obtain⟨_,_,e,he,hb,fJ⟩:=ho.reads j t hj hd ht;have hl:=qL e he hb;rw[fJ]at hl;have V2:listed.getD j true=true:=by
   have Bw:j<listed.size:=by
    rcases aqX j listed.size with h|h
    ·
     exact h
    ·
     simp[ar7 h]at hl
   simp[Bw]at hl⊢;exact hl
  exact H.done j t hj V2 hd
 ·
  have h1: ∀j,j<n->dQ l j≠some t:=fun j hj hd=>hw ⟨j,hj,hd⟩;rw[H.rest t fun j hj _=>h1 j hj,H.full t fun j hj _ _=>h1 j hj];exact(xr v a0 t 0 n (by omega) fun j _ h2 _=>h1 j h2).symm
theorem V3{v:Nat->Value}{a0 a af:Act}{rs:List Nat}{listed:Array Bool}{w:World}(H:vG P l fs Q w0 L0 n v a0 rs af listed a w){k:Nat}{o:Oper}(hk:k<n)(xt:fs.contains k=false)(ho:Bv l fs n k o)(hB:Bu l fs n=true)
  (qL: ∀e∈o.after,Region.binds .any e=true->listed.getD e.on false=true) (t:Nat) (ht:t∈o.looksAt l.toArray):a.tmps[t]? =(fr l fs v a0 k).tmps[t]? :=by
 rw[Nf H ho qL t ht]
 by_cases hw: ∃j,j<n/\dQ l j=some t
 ·
  obtain⟨j,hj,hd⟩:=hw;obtain⟨DT,V4,_⟩:=ho.reads j t hj hd ht;have uniq: ∀i,i<n->i≠j->dQ l i≠some t:=fun i hi ni he=>by
   obtain⟨oi,vH,pn⟩:=DS hB i hi;exact pn.one j t hj hd (Ne.symm ni) (by simpa[dQ,vH]using he)
  rw[H.full t fun i hi hf _ he=>?_]
  ·
   exact xr v a0 t k n (by omega) fun i h1 h2 _=>uniq i h2 (by omega)
  ·
   by_cases ni:i=j
   ·
    subst ni;have:=V4 hf;rw[xt]at this;cases this
   ·
    exact uniq i hi ni he
 ·
  have h1: ∀j,j<n->dQ l j≠some t:=fun j hj hd=>hw ⟨j,hj,hd⟩;rw[H.full t fun j hj _ _=>h1 j hj,xr v a0 t 0 n (by omega) fun j _ h2 _=>h1 j h2];exact(xr v a0 t 0 k (by omega) fun j _ h2 _=>h1 j (by omega)).symm
theorem HO{a b:Act}{o:Oper}{ops:Array Oper}(h: ∀t∈o.looksAt ops,a.tmps[t]? =b.tmps[t]?): ∀x∈o.op.operands,a.eval x=b.eval x:=by
 intro x hx
 cases x with
 |tmp t=>
  have:t∈o.looksAt ops:=by
   unfold Oper.looksAt;refine aro _ (List.mem_filterMap.2 ⟨.tmp t,by simpa using hx,rfl⟩)
  simp[Act.eval,h t this]
 |_=>rfl
theorem Ng{a b:Act}{o:Oper}{ops:Array Oper}(h: ∀t∈o.looksAt ops,a.tmps[t]? =b.tmps[t]?):Region.wanted o (yielded ops a.tmps)=Region.wanted o (yielded ops b.tmps):=by
 unfold Region.wanted
 cases hg:o.guard with
 |none=>rfl
 |some p=>
  obtain⟨j,b'⟩:=p;have:yielded ops a.tmps j=yielded ops b.tmps j:=by
   unfold yielded
   cases hd:(ops[j]?).bind (·.dst)with
   |none=>rfl
   |some d=>
    have hm:d∈o.looksAt ops:=by unfold Oper.looksAt;rw[hg];simp[hd]
    simp[h d hm]
  simp[this]
def y7(size n:Nat):Array Bool:=((List.range size).map fun i=>decide (i<n)).toArray
theorem V5{v:Nat->Value}{a0 a af:Act}{rs:List Nat}{listed:Array Bool}{w w':World}(H:vG P l fs Q w0 L0 n v a0 rs af listed a w){i:Nat}{o:Oper}(hi:i<n)(jN:fs.contains i=false)(xu:l[i]? =some o)(ho:Bv l fs n i o)(hB:Bu l fs n=true)
  (hr:i∈Region.ready .any l.toArray listed) (gp:Mem w [] w'):vG P l fs Q w0 L0 n v a0 rs af (listed.setIfInBounds i true) (a.put o.dst (v i)) w':=by
 have iF:=(mem_ready.1 hr).1;have kX:dQ l i=o.dst:=by simp[dQ,xu]
 have bb:=HN iF;have hO: ∀j,j≠i->(listed.setIfInBounds i true).getD j true=listed.getD j true:=fun j cw=>getD_set_ne true (Ne.symm cw);have p0:(listed.setIfInBounds i true).getD i true=true:=by simp[bb]
 obtain⟨L,hL,mN,hF⟩:=H.mem;have uniq: ∀d,dQ l i=some d-> ∀j,j<n->j≠i->dQ l j≠some d:=fun d hd j hj cw he=>by
  obtain⟨oj,V6,iP⟩:=DS hB j hj;exact iP.one i d hi hd (Ne.symm cw) (by simpa[dQ,V6]using he)
 refine⟨H.inv.set hr hi,⟨L,by simpa using hL.call gp,mN,hF⟩,by rw[sQ];exact H.size,H.qK,by rw[sR];exact H.defers,H.sU,H.hK,fun j hj hf=>?_,fun j d hj hl hd=>?_,fun d hd=>?_,fun d hd=>?_⟩
 ·
  rw[hO j (fun e=>by subst e;rw[jN]at hf;cases hf)];exact H.todo j hj hf
 ·
  by_cases cw:j=i
  ·
   subst cw;have DU:=hd;rw[kX]at hd;rw[hd,H.full d fun j' iP rF _=>uniq d DU j' iP (fun e=>by subst e;rw[jN]at rF;cases rF)];have e1:(fr l fs v a0 n).tmps[d]? =(fr l fs v a0 (j+1)).tmps[d]? :=xr v a0 d (j+1) n (by omega) fun i' h1 h2 _=>uniq d DU i' h2 (by omega);rw[e1,xq jN xu,hd];exact M9 _ _ _ _ (by rw[H.size,Bt])
  ·
   rw[hO j cw]at hl;rw[jM _ _ _ _ (ho.one j d hj hd cw)];exact H.done j d hj hl hd
 ·
  have h1:o.dst≠some d:=by
   have:=hd i hi p0;rwa [kX]at this
  rw[jM _ _ _ _ h1];refine H.rest d fun j hj hl=>?_
  by_cases cw:j=i
  ·
   subst cw;rw[kX];exact h1
  ·
   exact hd j hj (by rw[hO j cw];exact hl)
 ·
  refine H.full d fun j hj hf hl=>?_;exact hd j hj hf (by rw[hO j (fun e=>by subst e;rw[jN]at hf;cases hf)];exact hl)
theorem V7{v:Nat->Value}{a0 a af:Act}{i:Nat}{rs:List Nat}{listed:Array Bool}{w w':World}(H:vG P l fs Q w0 L0 n v a0 (i::rs) af listed a w){o:Oper}(hi:i<n)(jN:fs.contains i=true)(cy:fs.Nodup)(xu:l[i]? =some o)(ho:Bv l fs n i o)
  (hr:i∈Region.ready .any l.toArray listed) {u:Value} {L':List aj} (gp:Mem w0 L' w') (mN: ∀w,Mem w0 L' w->Mem w0 L0 w) (hF:uh P l n Q w0 L0 rs (af.put o.dst u) L'):
  vG P l fs Q w0 L0 n v a0 rs (af.put o.dst u) (listed.setIfInBounds i true) (a.put o.dst u) w':=by
 have iF:=(mem_ready.1 hr).1;have kX:dQ l i=o.dst:=by simp[dQ,xu]
 have bb:=HN iF;have hO: ∀j,j≠i->(listed.setIfInBounds i true).getD j true=listed.getD j true:=fun j cw=>getD_set_ne true (Ne.symm cw);have p0:(listed.setIfInBounds i true).getD i true=true:=by simp[bb]
 obtain⟨ds,xv⟩:=H.hK;have DV:i∉rs:=fun h=>by
  rw[xv]at cy;have:=(asz.1 cy).2.1;exact(as9.1 this).1 h
 refine⟨H.inv.set hr hi,⟨L',gp,mN,hF⟩,by rw[sQ];exact H.size,by rw[sQ];exact H.qK,by rw[sR];exact H.defers,by rw[sR];exact H.sU,⟨ds++[i],by rw[xv];simp⟩,fun j hj hf=>?_,fun j d hj hl hd=>?_,fun d hd=>?_,fun d hd=>?_⟩
 ·
  by_cases cw:j=i
  ·
   subst cw;rw[p0];simp[DV]
  ·
   rw[hO j cw,H.todo j hj hf];simp[cw]
 ·
  by_cases cw:j=i
  ·
   subst cw;rw[kX]at hd;rw[hd];exact M9 _ _ _ _ (by rw[H.size,H.qK])
  ·
   rw[hO j cw]at hl;rw[jM _ _ _ _ (ho.one j d hj hd cw),jM _ _ _ _ (ho.one j d hj hd cw)];exact H.done j d hj hl hd
 ·
  have h1:o.dst≠some d:=by
   have:=hd i hi p0;rwa [kX]at this
  rw[jM _ _ _ _ h1];refine H.rest d fun j hj hl=>?_
  by_cases cw:j=i
  ·
   subst cw;rw[kX];exact h1
  ·
   exact hd j hj (by rw[hO j cw];exact hl)
 ·
  have h1:o.dst≠some d:=by
   have:=hd i hi jN p0;rwa [kX]at this
  rw[jM _ _ _ _ h1];refine H.full d fun j hj hf hl=>?_
  by_cases cw:j=i
  ·
   subst cw;rw[kX];exact h1
  ·
   exact hd j hj hf (by rw[hO j cw];exact hl)
theorem V8{v:Nat->Value}{a0 a af:Act}{rs:List Nat}{listed:Array Bool}{w:World}(H:vG P l fs Q w0 L0 n v a0 rs af listed a w)(iG: ∀j,j<n->listed.getD j true=true):a=af:=by
 have:a.tmps=af.tmps:=by
  apply asv;intro d
  by_cases hw: ∃j,j<n/\dQ l j=some d
  ·
   obtain⟨j,hj,hd⟩:=hw;exact H.done j d hj (iG j hj) hd
  have h1: ∀j,j<n->dQ l j≠some d:=fun j hj hd=>hw ⟨j,hj,hd⟩;rw[H.rest d fun j hj _=>h1 j hj,H.full d fun j hj _ _=>h1 j hj];exact(xr v a0 d 0 n (by omega) fun j _ h2 _=>h1 j h2).symm
 have h2:a.defers=af.defers:=by rw[H.defers,H.sU]
 cases a;cases af
 simp_all
def left(n:Nat)(listed:Array Bool):Nat:=((List.range n).filter fun i=> !listed.getD i true).length
theorem Nh{listed:Array Bool}{i:Nat}(hi:i<n)(iF:listed.getD i true=false):left n listed=left n (listed.setIfInBounds i true)+1:=by
 have bb:=HN iF;have key: ∀m,i<m->((List.range m).filter fun j=> !listed.getD j true).length=((List.range m).filter fun j=> !(listed.setIfInBounds i true).getD j true).length+1:=by
  intro m
  induction m with
  |zero=>intro h;omega
  |succ m ih=>
   intro h;rw[ar1,ar9,ar9,af0,af0]
   by_cases e:i=m
   ·
    subst e;have h1:((List.range i).filter fun j=> !listed.getD j true)=((List.range i).filter fun j=> !(listed.setIfInBounds i true).getD j true):=by
     apply List.filter_congr;intro j hj;rw[getD_set_ne true (by have:=arw.1 hj;omega)]
    rw[h1];simp only[arG,iF,asR,if_true,ata,aqQ,aqS];simp[bb]
   have:=ih (by omega);have h2:(listed.setIfInBounds i true).getD m true=listed.getD m true:=getD_set_ne true e;simp only[arG,h2,ata];omega
 exact key n hi
theorem HP{v:Nat->Value}{a0:Act}(hB:Bu l fs n=true)(hn:n<l.length)(hs:Region.sinkB .any l.toArray n=true)(hc:Region.chainB .any l.toArray n=true)
  (HQ:Region.seqB .any l.toArray (l.length -n) n (y7 l.length n)=true) (cy:fs.Nodup) (bb: ∀j∈fs,j<n) (Bx:sS l fs=true) (hq: ∀k,k<n->fs.contains k=false->HL P l fs (Mem w0 L0) v a0 k):
  ∀(m:Nat) (rs:List Nat) (af:Act) (listed:Array Bool) (a:Act) (w:World),left n listed=m->vG P l fs Q w0 L0 n v a0 rs af listed a w->wpAny P .any l.toArray Q (m+(l.length -n)) listed a w
 |0,rs,af,listed,a,w,hm,H=>by
  have iG: ∀j,j<n->listed.getD j true=true:=fun j hj=>by
   cases h:listed.getD j true with
   |true=>rfl
   |false=>
    have:j∈(List.range n).filter fun i=> !listed.getD i true:=ari.2 ⟨List.mem_range.2 hj,by rw[h];rfl⟩;rw[arb.1 hm]at this
    cases this
  have e1:=V8 H iG;have e2:listed=y7 l.length n:=by
   apply asv;intro j;have eZ:listed.size=l.length:=by simpa using H.inv.size
   by_cases hj:j<l.length
   ·
    have Bw:j<listed.size:=by omega
    simp only[y7,aso,aq1,asr hj,arE,Array.getElem?_eq_getElem Bw]
    by_cases vI:j<n
    ·
     have:=iG j vI;simp[Bw]at this;simp[this,vI]
    ·
     have:=H.inv.tail j (by omega) (by simpa using hj);simp[Bw]at this;simp[this,vI]
   ·
    simp[y7,show ¬j<l.length from hj];omega
  have e3:rs=[]:=by
   cases rs with
   |nil=>rfl
   |cons r xw=>
    obtain⟨ds,xv⟩:=H.hK;have hr:r∈fs:=by rw[xv];simp
    have:=(H.todo r (bb r hr) (by simpa using hr)).2 (by simp);rw[iG r (bb r hr)]at this;cases this
  subst e1 e2 e3;obtain⟨L,hL,_,hF⟩:=H.mem;have:=wpAny_of_seq (P:=P) (md:= .any) (Q':=Q) (l.drop n) n (y7 l.length n) a w (fun j=>by simp[asa]) (by rw[aq9];exact HQ) (hF w hL);rw[aq9]at this;rw[ary];exact this
 |m+1,rs,af,listed,a,w,hm,H=>by
  rw[show m+1+(l.length -n)=(m+(l.length -n))+1 by omega];obtain⟨i0,By,DW,Bz⟩: ∃i,i<n/\listed.getD i true=false/\ ∀j,j<i->listed.getD j true=true:=by
   have bM: ∃i,i<n/\listed.getD i true=false:=by
    cases hf:(List.range n).filter fun i=> !listed.getD i true with
    |nil=>rw[left,hf]at hm;cases hm
    |cons i r=>
     have:i∈(List.range n).filter fun i=> !listed.getD i true:=by rw[hf];simp
     obtain⟨h1,h2⟩:=ari.1 this;exact⟨i,arw.1 h1,by simpa using h2⟩
   obtain⟨i,h1,h2⟩:=bM
   induction i using Nat.strongRecOn with
   |_ i ih=>
    by_cases h: ∃j,j<i/\listed.getD j true=false
    ·
     obtain⟨j,hj,eA⟩:=h;exact ih j hj (by omega) eA
    ·
     refine⟨i,h1,h2,fun j hj=>?_⟩
     cases hh:listed.getD j true with
     |true=>rfl
     |false=>exact absurd ⟨j,hj,hh⟩ h
  have eZ:listed.size=l.length:=by simpa using H.inv.size
  have BA:i0∈Region.ready .any l.toArray listed:=by
   obtain⟨o,ho,bF⟩:=DS hB i0 By;refine mem_ready.2 ⟨DW,o,by simpa using ho,fun e he hb=>?_⟩;have h1:=bF.back e he hb;have h2:=Bz e.on h1;have h3:e.on<listed.size:=by omega
   simp[h3]at h2⊢;exact h2
  refine⟨fun h=>(by rw[h]at BA;cases BA),fun i hi=>?_⟩;have ic:i<n:=by
   rcases aqX i n with h|h
   ·
    exact h
   ·
    exact absurd hi (tail_waits hs hc (by simpa using hn) H.inv _ i0 rfl By DW i h)
  obtain⟨o,ho,bF⟩:=DS hB i ic;obtain⟨iF,o',po,qL⟩:=mem_ready.1 hi;have:o'=o:=by simpa[ho]using po.symm
  subst this;have sV:left n (listed.setIfInBounds i true)=m:=by have:=Nh ic iF;omega
  obtain⟨L,hL,mN,hF⟩:=H.mem
  cases jN:fs.contains i with
  |false=>
   have DX:=V3 H ic jN bF hB qL;have ew:=Ng (ops:=l.toArray) DX;have ee:execOp a.eval o'=execOp (fr l fs v a0 i).eval o':=execOp_congr o' bF.vF (HO DX);obtain⟨HR,DY⟩:=hq i ic jN o' ho;have next: ∀w',Mem w [] w'->wpAny P .any l.toArray Q (m+(l.length -n)) (listed.setIfInBounds i true) (a.put o'.dst (v i)) w':=fun w' gp=>
    HP hB hn hs hc HQ cy bb Bx hq m rs af _ _ w' sV (V5 H ic jN ho bF hB hi gp)
   unfold wpOp;simp only[po];rw[ew];split
   ·
    rename_i qM;have h1:=HR qM w (mN w hL);refine .inl ?_;unfold Oper.wp;rw[ee];unfold Oper.quietAt at h1;generalize(execOp (fr l fs v a0 i).eval o').run P w=r at h1;unfold Oper.quietUpon at h1;split at h1
    ·
     obtain⟨rfl,rfl⟩:=h1;exact next _ (Mem.init _)
    ·
     obtain⟨rfl,e⟩:=h1;rw[e]at next;exact next _ (Mem.init _)
    ·
     obtain⟨rfl,ui⟩:=h1;exact ui.mono fun e pZ ⟨he,hm⟩=>by subst he;exact next _ hm
    ·
     exact h1.elim
   ·
    rename_i qM;have:=DY (by simpa using qM);rw[this]at next;exact next w (Mem.init _)
  |true=>
   have DV:i∈rs:=(H.todo i ic jN).1 iF
   cases rs with
   |nil=>cases DV
   |cons r xw=>
    have BB:i=r:=by
     rcases aqW.1 DV with h|h
     ·
      exact h
     ·
      exfalso;obtain⟨ds,xv⟩:=H.hK;have V9:sS l (r::xw)=true:=by
       rw[xv]at Bx;have key: ∀ds:List Nat,sS l (ds++r::xw)=true->sS l (r::xw)=true:=by
        intro ds
        induction ds with
        |nil=>exact id
        |cons d ds ih=>
         intro hh
         cases ds with
         |nil=>simp only[asc,arJ,sS,alM]at hh;exact hh.2
         |cons d' ds'=>simp only[asc,sS,alM]at hh;exact ih hh.2
       exact key ds Bx
      obtain⟨p,hp,op,cx,e,he,hb,fJ⟩:=Nc xw r V9 i h;have:op=o':=by rw[ho]at cx;exact(aqP cx).symm
      subst this;have hl:=qL e he hb;rw[fJ]at hl;have Ni:p∈fs:=by rw[xv];exact asg _ hp
      have h1:=(H.todo p (bb p Ni) (by simpa using Ni)).2 hp;rw[getD_both h1]at hl
      cases hl
    subst BB;obtain⟨of,qN,hg,gq⟩:=hF;have:of=o':=by rw[ho]at qN;exact(aqP qN).symm
    subst this;have DX:=Nf H bF qL;have ee:execOp a.eval of=execOp af.eval of:=execOp_congr of bF.vF (HO DX);have h1:=gq w hL;have next: ∀u w' E,(Mem w0 E w'/\(∀w,Mem w0 E w->Mem w0 L0 w)/\uh P l n Q w0 L0 xw (af.put of.dst u) E)->wpAny P .any l.toArray Q (m+(l.length -n)) (listed.setIfInBounds i true) (a.put of.dst u) w':=fun u w' E ⟨gp,y8,Wa⟩=>
     HP hB hn hs hc HQ cy bb Bx hq m xw (af.put of.dst u) _ _ w' sV (V7 H ic jN cy ho bF hi gp y8 Wa)
    unfold wpOp;simp only[po];rw[if_pos (by simp[Region.wanted,hg])];refine .inl ?_;unfold Oper.wp;rw[ee];generalize(execOp af.eval of).run P w=r at h1;unfold Nb at h1;split at h1
    ·
     obtain⟨E,hR⟩:=h1;exact next _ _ E hR
    ·
     obtain⟨rfl,ui⟩:=h1;exact ui.mono fun e pZ ⟨u,E,he,hR⟩=>by subst he;exact next u _ E hR
    ·
     exact h1.elim
def DZ(l:List Oper)(fs:List Nat)(n:Nat):Bool:=
 Bu l fs n&&decide (n<l.length)&&Region.sinkB .any l.toArray n&&Region.chainB .any l.toArray n&&Region.seqB .any l.toArray (l.length -n) n (y7 l.length n)&&
  decide fs.Nodup&&(fs.all fun j=>decide (j<n))&&sS l fs
theorem Wb{id:Nat}{ro:Option Nat}[ky Q]{a:Act}{w:World}(n:Nat)(cy:pY l=true)(hm:P.follows .mixedOrders=true)(hB:DZ l fs n=true){L:List aj}(hC:Mem w0 L {w with drawn:=w.drawn+1})(mN: ∀w,Mem w0 L w->Mem w0 L0 w)
  (h:nh P l.toArray fs (Mem w0 L0) (fun a'=>uh P l n Q w0 L0 fs a' L) 0 (l.take n) a):(Code.region id l.toArray true).wpIn (mh ro) 0 P Q a w:=by
 simp only[DZ,alM,decide_eq_true_eq]at hB;obtain⟨⟨⟨⟨⟨⟨⟨h1,h2⟩,h3⟩,h4⟩,h5⟩,h6⟩,h7⟩,h8⟩:=hB;have Wc: ∀j∈fs,j<n:=fun j hj=>by have:=aq8.1 h7 j hj;simpa using this
 obtain⟨v,_,g2,g3⟩:=HM (P:=P) (C:=Mem w0 L0) (l:=l) (fs:=fs) n 0 a (fun _=>undef) (by omega) (by simpa[fr]using h);refine HK cy hm ?_;have HS:HeadInv .any l.toArray n (Array.replicate l.toArray.size false):=
  ⟨by simp,fun j oj _ hl=>(by rw[getD_replicate_false]at hl;cases hl),fun t _ ht=>getD_in (by simpa using ht) (getD_replicate_false _ _)⟩
 have sV:left n (Array.replicate l.toArray.size false)=n:=by
  unfold left;rw[List.filter_eq_self.2 (fun j hj=>?_),atQ];have iP:=arw.1 hj;simp[show j<l.length by omega]
 rw[ary]at g3;have:=HP (P:=P) (Q:=Q) (w0:=w0) (L0:=L0) (v:=v) (a0:=a) h1 h2 h3 h4 h5 h6 Wc h8 (fun k hk hf=>g2 k (by omega) (by omega) hf) n fs (fr l fs v a n) (Array.replicate l.toArray.size false) a _ sV
  ⟨HS,⟨L,hC,mN,g3⟩,rfl,Bt v a n,rfl,DR v a n,⟨[],rfl⟩,fun j hj hf=>?_,fun j d hj hl=>?_,fun _ _=>rfl,fun _ _=>rfl⟩
 ·
  rw[show n+(l.length -n)=l.toArray.size by simp;omega]at this;exact this
 ·
  have:j∈fs:=by simpa using hf
  simp[show j<l.length by omega,this]
 ·
  simp[show j<l.length by omega]at hl
end
abbrev Env:=List (Nat×Value)
theorem HT{a b:Nat}(h: ¬a=b):Nat.beq a b=false:=by
 cases hb:Nat.beq a b with
 |false=>rfl
 |true=>exact absurd (Nat.eq_of_beq_eq_true hb) h
def look:Env->Nat->Option Value
 |[],_=>none
 |(k,v)::r,d=>match Nat.beq k d with
  |true=>some v
  |false=>look r d
structure ct where
 n:Nat
 ds:List Nat
 ro:Option Nat
structure dh(N:ct)(env:Env)(a:Act):Prop where
 size:a.tmps.size=N.n
 get: ∀d v,look env d=some v->a.tmps[d]? =some v
 defers:a.defers=N.ds.map mark
def ev(env:Env):Operand->Option Value
 | .tmp t=>look env t
 | .const v=>some v
 | .global g=>some (.pointer (some ⟨g,0,none⟩))
 | .func f=>some (.func (.func f) #[] #[])
theorem dh.ev{N:ct}{env:Env}{a:Act}(h:dh N env a){x:Operand}{v:Value}(e:ev env x=some v):a.eval x=v:=by
 match x,e with
 | .tmp t,e=>
  have:=h.get t v e;simp[Act.eval,this]
 | .const u,e=>simpa[ax.ev,Act.eval]using e
 | .global g,e=>simpa[ax.ev,Act.eval]using e
 | .func f,e=>simpa[ax.ev,Act.eval]using e
def iH(env:Env):List Operand->Option (List Value)
 |[]=>some []
 |x::r=>match ev env x,iH env r with
  |some v,some vs=>some (v::vs)
  |_,_=>none
theorem dh.iH{N:ct}{env:Env}{a:Act}(h:dh N env a): ∀{xs:List Operand} {vs:List Value},iH env xs=some vs->xs.map a.eval=vs
 |[],vs,e=>by simp[ax.iH]at e;simp[e]
 |x::r,vs,e=>by
  unfold ax.iH at e;split at e
  ·
   rename_i v Wd hv y9;simp only[asu]at e;subst e;simp[h.ev hv,h.iH y9]
  simp at e
theorem iI{env:Env}:iH env []=some []:=rfl
theorem eC{env:Env}{x:Operand}{r:List Operand}{v:Value}{vs:List Value}(h:ev env x=some v)(h':iH env r=some vs):iH env (x::r)=some (v::vs):=by
 simp[iH,h,h']
def cB(env:Env):Option Tmp->Value->Env
 |some d,v=>(d,v)::env
 |none,_=>env
def dn(N:ct):Option Tmp->Bool
 |some d=>Nat.ble (d+1) N.n
 |none=>true
theorem dh.put{N:ct}{env:Env}{a:Act}(h:dh N env a){dst:Option Tmp}(hd:dn N dst=true)(v:Value):dh N (cB env dst v) (a.put dst v):=by
 cases dst with
 |none=>exact h
 |some d=>
  have bb:d<N.n:=Nat.le_of_ble_eq_true hd;refine⟨by simp[Act.put,h.size],fun d' v' hv=>?_,h.defers⟩;simp only[cB,look]at hv;simp only[Act.put,arW]
  by_cases he:d=d'
  ·
   subst he;simp at hv;simp[hv,h.size,bb]
  have:Nat.beq d d'=false:=HT he;rw[this]at hv;rw[if_neg he];exact h.get d' v' hv
def Sub(D0 env:Env):Prop:= ∀d v,look D0 d=some v->look env d=some v
theorem Sub.refl(env:Env):Sub env env:=fun _ _ h=>h
theorem Sub.nil(env:Env):Sub [] env:=fun _ _ h=>by simp[look]at h
theorem Sub.cons{r env:Env}{d:Nat}{v:Value}(hv:look env d=some v)(h:Sub r env):Sub ((d,v)::r) env:=fun d' v' h'=>by
 simp only[look]at h'
 by_cases he:d=d'
 ·
  subst he;simp at h';rw[←h'];exact hv
 have:Nat.beq d d'=false:=HT he;rw[this]at h';exact h d' v' h'
theorem dh.sub{N:ct}{env D0:Env}{a:Act}(h:dh N env a)(s:Sub D0 env):dh N D0 a:=⟨h.size,fun d v e=>h.get d v (s d v e),h.defers⟩
theorem dh.enter(args:List Value)(N:Nat)(h:args.length<=N):dh ⟨N,[],none⟩ (args.zipIdx.map fun p=>(p.2,p.1)) {tmps:=args.toArray++Array.replicate (N -args.toArray.size) undef,defers:=[]}:=by
 refine⟨by simp;omega,fun d v e=>?_,rfl⟩;have key: ∀(l:List Value) (k:Nat),look ((l.zipIdx k).map fun p=>(p.2,p.1)) d=some v->k<=d/\l[d -k]? =some v:=by
  intro l
  induction l with
  |nil=>intro k h;simp[look]at h
  |cons x r ih=>
   intro k h;simp only[List.zipIdx_cons,arh,look]at h
   by_cases he:k=d
   ·
    subst he;simp at h;simp[h]
   have:Nat.beq k d=false:=HT he;rw[this]at h;obtain⟨h1,h2⟩:=ih (k+1) h;refine⟨by omega,?_⟩;rw[show d -k=(d -(k+1))+1 by omega,List.getElem?_cons_succ];exact h2
 have hh:=(key args 0 e).2;rw[Nat.sub_zero]at hh;have bb:d<args.length:=by
  rcases aqX d args.length with h'|h'
  ·
   exact h'
  simp[aqV h']at hh
 rw[asO (by simpa using bb)];simpa using hh
section
variable {P:Program} {N:ct} {w0:World} {env:Env} {L:List aj} {d:Option Tmp} {ty:TypeId} {ps:String} {af:Array Edge} {gd:Option (Nat×Bool)}
def Ry(P:Program)(N:ct)(w0:World)(env:Env)(L:List aj)(o:Oper)(v:Value):Prop:=
 ∀a w,dh N env a->Mem w0 L w->(execOp a.eval o).run P w= .ok (.value v) w
def Yl(P:Program)(N:ct)(w0:World)(env:Env)(L:List aj)(o:Oper)(v:Value):Prop:=
 ∀a,dh N env a->ug P o a (Mem w0 L) v
theorem Ry.yl{o:Oper}{v:Value}(h:Ry P N w0 env L o v):Yl P N w0 env L o v:=fun a ha w hw=>by
 unfold Oper.quietAt;rw[h a w ha hw];exact⟨rfl,rfl⟩
theorem bl{x:Operand}{v:Value}(hx:ev env x=some v):Ry P N w0 env L ⟨d, .move x,ty,ps,af,gd⟩ v:=fun a w ha _=>by
 simp only[execOp,ha.ev hx,Sem.run_pure]
theorem ie{x:Operand}{v:Value}(hx:ev env x=some v):Ry P N w0 env L ⟨d, .assign x,ty,ps,af,gd⟩ v:=fun a w ha _=>by
 simp only[execOp,ha.ev hx,Sem.run_pure]
theorem HU{c x y:Operand}{g:Bool}{vx vy:Value}(hc:ev env c=some (.bool g))(hx:ev env x=some vx)(hy:ev env y=some vy):
  Ry P N w0 env L ⟨d, .pick c x y,ty,ps,af,gd⟩ (if g=true then vx else vy):=fun a w ha _=>by
 simp only[execOp,ha.ev hx,ha.ev hc,ha.ev hy,Sem.run_bind,Sem.run_pure,asBool,Result.andThen]
theorem za{c x y:Operand}{g b:Bool}(hc:ev env c=some (.bool g))(hx:ev env x=some (if g=true then .bool b else undef))(hy:ev env y=some (.bool false)):
  Ry P N w0 env L ⟨d, .pick c x y,ty,ps,af,gd⟩ (.bool (g&&b)):=by
 have h:=HU (P:=P) (N:=N) (w0:=w0) (L:=L) (d:=d) (ty:=ty) (ps:=ps) (af:=af) (gd:=gd) hc hx hy
 cases g<;>simpa using h
theorem zb{c x y:Operand}{g b:Bool}(hc:ev env c=some (.bool g))(hx:ev env x=some (.bool true))(hy:ev env y=some (if(!g)=true then .bool b else undef)):
  Ry P N w0 env L ⟨d, .pick c x y,ty,ps,af,gd⟩ (.bool (g||b)):=by
 have h:=HU (P:=P) (N:=N) (w0:=w0) (L:=L) (d:=d) (ty:=ty) (ps:=ps) (af:=af) (gd:=gd) hc hx hy
 cases g<;>simpa using h
theorem nj{x:Operand}{g:Bool}{t:TypeId}(hx:ev env x=some (.bool g)):Ry P N w0 env L ⟨d, .unOp .not t x,ty,ps,af,gd⟩ (.bool (!g)):=fun a w ha _=>by
 simp only[execOp,ha.ev hx,Op.unary,Sem.run_bind,Sem.run_pure,Result.andThen]
theorem aK{x:Operand}{vs:Array Value}{i:Nat}{v:Value}(hx:ev env x=some (.tuple vs))(hv:vs[i]? =some v):Ry P N w0 env L ⟨d, .extract x i,ty,ps,af,gd⟩ v:=fun a w ha _=>by
 simp only[execOp,ha.ev hx,Instr.extract,hv,Sem.run_bind,Sem.run_pure,Result.andThen]
def lL(op:BinOp)(k:IntKind)(a b:Int):Option Value:=
 match op with
 | .add=>some (.int k (k.wrap (a+b)))
 | .sub=>some (.int k (k.wrap (a -b)))
 | .mul=>some (.int k (k.wrap (a*b)))
 | .quo=>if b=0 then none else some (.int k (k.wrap (a.tdiv b)))
 | .rem=>if b=0 then none else some (.int k (a.tmod b))
 | .and=>some (.int k (k.wrap (BitVec.ofInt k.bits a&&&BitVec.ofInt k.bits b).toNat))
 | .or=>some (.int k (k.wrap (BitVec.ofInt k.bits a|||BitVec.ofInt k.bits b).toNat))
 | .xor=>some (.int k (k.wrap (BitVec.ofInt k.bits a^^^BitVec.ofInt k.bits b).toNat))
 | .andNot=>some (.int k (k.wrap (BitVec.ofInt k.bits a&&& ~~~BitVec.ofInt k.bits b).toNat))
 | .eql=>some (.bool (decide (a=b)))
 | .neq=>some (.bool (!decide (a=b)))
 | .lss=>some (.bool (decide (a<b)))
 | .leq=>some (.bool (decide (a<=b)))
 | .gtr=>some (.bool (decide (b<a)))
 | .geq=>some (.bool (decide (b<=a)))
 |_=>none
theorem HV(op:BinOp)(t:TypeId)(x y:Operand)(k k':IntKind)(a b:Int)(w:World):(eqGuard op t x y (.int k a) (.int k' b)).run P w= .ok () w:=by
 cases op<;>rfl
theorem We{op:BinOp}{k:IntKind}{a b:Int}{v:Value}(t:TypeId)(h:lL op k a b=some v)(w:World):(binOp op t (.int k a) (.int k b)).run P w= .ok v w:=by
 cases op<;>simp only[lL,asu,reduceCtorEq]at h<;>(try split at h)<;>(try simp only[asu,reduceCtorEq]at h)<;>(try subst h)<;>
  simp_all[binOp,Op.intArith,Op.intDiv,Op.intBits,Op.intCmp]<;>rfl
theorem et{op:BinOp}{k:IntKind}{x y:Operand}{a b:Int}{v:Value}{t u:TypeId}(hx:ev env x=some (.int k a))(hy:ev env y=some (.int k b))(h:lL op k a b=some v):
  Ry P N w0 env L ⟨d, .binOp op t x y u,ty,ps,af,gd⟩ v:=fun a w ha _=>by
 simp only[execOp,ha.ev hx,ha.ev hy,Sem.run_bind,HV,We t h,Sem.run_pure,Result.andThen]
end
def vJ:TypeDesc->Bool
 | .struct _| .array _ _=>true
 |_=>false
class fE(P:Program)(t:TypeId)(n:outParam Nat):Prop where
 row: ∃d,P.underlying t=some d/\vJ d=true
 size:(P.info? t).map (·.size)=some n
class fK(P:Program)(t:TypeId):Prop where
 one: ∃d,P.underlying t=some d/\vJ d=false
 size:(P.info? t).map (·.size)=some 1
class dA(P:Program)(s:TypeId)(i:Nat)(off:outParam Nat):Prop where
 Wf: ∃fs f m,P.underlying s=some (.struct fs)/\fs[i]? =some f/\f.offset=off/\(P.info? f.type).map (·.size)=some (m+1)
class uj(P:Program)(t:TypeId)(n m:outParam Nat):Prop where
 arr: ∃e,P.underlying t=some (.array n e)/\(P.info? e).map (·.size)=some m
class fh(P:Program)(t:TypeId)(e:outParam TypeId)(m:outParam Nat):Prop where
 eU:P.underlying t=some (.slice e)
 size:(P.info? e).map (·.size)=some m
class mi(P:Program)(t:TypeId)(k:outParam IntKind):Prop where
 eU:P.underlying t=some (.int k)
class eI(P:Program)(t:TypeId)(v:outParam Value):Prop where
 zero:(P.info? t).map (·.zero)=some (some v)
class aI(P:Program)(f:FuncId):Prop where
 fn: ∃fn,P.funcs[f]? =some fn∧fn.body.isNone=false∧(fn.name== "runtime.NumGoroutine")=false
class Has(L:List aj)(b:Nat)(cs:outParam (Array Value))(T:outParam TypeId)(i:outParam Nat):Prop where
 h:L[i]? =some (ar b cs T)
instance (priority:=high) Has.here {L:List aj}{b:Nat}{cs:Array Value}{T:TypeId}:Has (ar b cs T::L) b cs T 0:=⟨rfl⟩
instance Has.there{L:List aj}{e:aj}{b:Nat}{cs:Array Value}{T:TypeId}{i:Nat}[q:Has L b cs T i]:Has (e::L) b cs T (i+1):=⟨by simpa using q.h⟩
class fu(L:List aj)(i:Nat)(e:aj)(L':outParam (List aj)):Prop where
 h:L.set i e=L'
instance fu.here{L:List aj}{x e:aj}:fu (x::L) 0 e (e::L):=⟨rfl⟩
instance fu.there{L L':List aj}{x e:aj}{i:Nat}[q:fu L i e L']:fu (x::L) (i+1) e (x::L'):=⟨by simp[q.h]⟩
class cg(cs:Array Value)(o:Nat)(v:outParam Value):Prop where
 h:cs[o]? =some v
class nk(cs:Array Value)(o n:Nat)(sub:outParam (Array Value)):Prop where
 size:sub.size=n
 h: ∀j,j<n->cs[o+j]? =sub[j]?
class fP(cs:Array Value)(n:outParam Nat):Prop where
 h:cs.size=n
 one:cs.all (·.oneCell')=true
class pq(P:Program)(f:FuncId)(vs:List Value)(v:outParam Value):Prop where
 h: ∀w,Calls P f vs.toArray w fun e w'=>e= .returned v/\Mem w [] w'
class zd(P:Program)(t:TypeId)(x y:Value)(r:outParam Bool):Prop where
 h: ∀w,(Op.equalIn 10000 t x y).run P w= .ok r w
 plain:P.eqGuardType P.depth t=false
 agg: ∃xs ys,x= .agg xs/\y= .agg ys
section
variable {P:Program} (w:World)
theorem Nj{t:TypeId}{i:TypeInfo}(h:P.info? t=some i):(typeInfo t).run P w= .ok i w:=by
 simp[typeInfo,h]
theorem kY{t:TypeId}{n:Nat}(h:(P.info? t).map (·.size)=some n):(sizeOf t).run P w= .ok n w:=by
 cases hi:P.info? t with
 |none=>simp[hi]at h
 |some i=>simp[hi]at h;simp[sizeOf,Nj w hi,h]
theorem D1{t:TypeId}{v:Value}(h:eI P t v):(zeroValue t).run P w= .ok v w:=by
 have h:=h.zero
 cases hi:P.info? t with
 |none=>simp[hi]at h
 |some i=>simp[hi]at h;simp[zeroValue,Nj w hi,h]
theorem BC{t:TypeId}{d:TypeDesc}(h:P.underlying t=some d):(isAgg t).run P w= .ok (vJ d) w:=by
 cases d<;>simp[isAgg,run_underlying h,vJ]
theorem Wg{t:TypeId}(h:fK P t){a:Addr}{v:Value}(hc:w.cell? a=some v):(loadVar t a).run P w= .ok v w:=by
 obtain⟨d,hu,hd⟩:=h.one;simp[loadVar,BC w hu,hd,hc]
theorem HW{t:TypeId}{n:Nat}(h:fE P t n){a:Addr}{cs:Array Value}(hn:cs.size=n)(hc: ∀j,j<n->w.cell? (a.add j)=cs[j]?):(loadVar t a).run P w= .ok (.agg cs) w:=by
 obtain⟨d,hu,hd⟩:=h.row;have hl:(loadCells a n).run P w= .ok cs w:=by
  have:=run_loadCells_list (P:=P) w a cs.toList (fun j v hv=>by
   have hj:j<n:=by
    have:=(ad2.1 hv).1;simpa[hn]using this
   rw[hc j hj];simpa using hv)
  simpa[hn]using this
 simp[loadVar,BC w hu,hd,kY w h.size,hl]
end
section
variable {P:Program} {N:ct} {w0:World} {env:Env} {L:List aj} {d:Option Tmp} {ty:TypeId} {ps:String} {af:Array Edge} {gd:Option (Nat×Bool)}
theorem Addr.gN(b o j:Nat):(⟨b,o,none⟩:Addr).add j=⟨b,o+j,none⟩:=by
 unfold Addr.add;split<;>simp_all
theorem ze{t:TypeId}{x:Operand}{p:Addr}{v:Value}(ht:fK P t)(hx:ev env x=some (.pointer (some p)))(hc: ∀w,Mem w0 L w->w.cell? p=some v):
  Ry P N w0 env L ⟨d, .load t x,ty,ps,af,gd⟩ v:=fun a w ha hw=>by
 simp only[execOp,ha.ev hx,Instr.loadAt,Instr.sureAddr,Sem.run_bind,Sem.run_pure,Result.andThen,Wg w ht (hc w hw)]
theorem BD{t:TypeId}{x:Operand}{p:Addr}{n:Nat}{cs:Array Value}(ht:fE P t n)(hx:ev env x=some (.pointer (some p)))(hn:cs.size=n)(hc: ∀w,Mem w0 L w-> ∀j,j<n->w.cell? (p.add j)=cs[j]?):
  Ry P N w0 env L ⟨d, .load t x,ty,ps,af,gd⟩ (.agg cs):=fun a w ha hw=>by
 simp only[execOp,ha.ev hx,Instr.loadAt,Instr.sureAddr,Sem.run_bind,Sem.run_pure,Result.andThen,HW w ht hn (hc w hw)]
theorem zf{t:TypeId}{x:Operand}{i b o:Nat}{cs:Array Value}{T:TypeId}{v:Value}(hx:ev env x=some (.pointer (some ⟨b,o,none⟩)))[ht:fK P t][hi:Has L b cs T i](hc:cs[o]? =some v):
  Ry P N w0 env L ⟨d, .load t x,ty,ps,af,gd⟩ v:=ze ht hx fun w hw=>by rw[hw.cell hi.h];exact hc
theorem bW{t:TypeId}{x:Operand}{i b o:Nat}{cs:Array Value}{T:TypeId}{v:Value}(hx:ev env x=some (.pointer (some ⟨b,o,none⟩)))[ht:fK P t][hi:Has L b cs T i][hc:cg cs o v]:
  Ry P N w0 env L ⟨d, .load t x,ty,ps,af,gd⟩ v:=zf hx hc.h
theorem jO{t:TypeId}{x:Operand}{i b n:Nat}{cs:Array Value}{T:TypeId}(hx:ev env x=some (.pointer (some ⟨b,0,none⟩)))[ht:fE P t n][hi:Has L b cs T i][hn:fP cs n]:
  Ry P N w0 env L ⟨d, .load t x,ty,ps,af,gd⟩ (.agg cs):=BD ht hx hn.h fun w hw j _=>by rw[Addr.gN,hw.cell hi.h,ary]
theorem iJ{t:TypeId}{x:Operand}{i b o n:Nat}{cs sub:Array Value}{T:TypeId}(hx:ev env x=some (.pointer (some ⟨b,o,none⟩)))[ht:fE P t n][hi:Has L b cs T i][hs:nk cs o n sub]:
  Ry P N w0 env L ⟨d, .load t x,ty,ps,af,gd⟩ (.agg sub):=BD ht hx hs.size fun w hw j hj=>by rw[Addr.gN,hw.cell hi.h];exact hs.h j hj
theorem aP{s:TypeId}{x:Operand}{fi off b o o':Nat}[hf:dA P s fi off](hx:ev env x=some (.pointer (some ⟨b,o,none⟩)))(ho:Nat.add o off=o'):
  Ry P N w0 env L ⟨d, .fieldAddr s x fi,ty,ps,af,gd⟩ (.pointer (some ⟨b,o',none⟩)):=fun a w ha _=>by
 obtain⟨fs,f,m,hu,jN,qN,eZ⟩:=hf.Wf;subst ho qN;simp only[execOp,ha.ev hx,Instr.fieldAt,Sem.run_bind,run_underlying hu,Result.andThen,jN,Instr.sureAddr,Sem.run_pure,fieldPlace,kY w eZ,Nat.succ_ne_zero,if_false,Addr.gN,atE]
theorem vK{t:TypeId}{x ix:Operand}{n m b o:Nat}{k:IntKind}{j:Int}[ht:uj P t n m](hx:ev env x=some (.pointer (some ⟨b,o,none⟩)))(hj:ev env ix=some (.int k j))(h0:0<=j)(h1:j<n):
  Ry P N w0 env L ⟨d, .indexAddr t x ix,ty,ps,af,gd⟩ (.pointer (some ⟨b,o+j.toNat*m,none⟩)):=fun a w ha _=>by
 obtain⟨e,hu,eZ⟩:=ht.arr;simp only[execOp,ha.ev hx,ha.ev hj,Instr.indexAt,asIntOf,Sem.run_bind,run_underlying hu,Result.andThen,Instr.sureAddr,Sem.run_pure,kY w eZ,h0,h1,and_self,if_true,Addr.gN]
theorem p6{t:TypeId}{x ix:Operand}{n b:Nat}{k:IntKind}{j:Int}[ht:uj P t n 1](hx:ev env x=some (.pointer (some ⟨b,0,none⟩)))(hj:ev env ix=some (.int k j))(h0:0<=j)(h1:j<n):
  Ry P N w0 env L ⟨d, .indexAddr t x ix,ty,ps,af,gd⟩ (.pointer (some ⟨b,j.toNat,none⟩)):=by
 have:=vK (P:=P) (t:=t) (N:=N) (w0:=w0) (L:=L) (d:=d) (ty:=ty) (ps:=ps) (af:=af) (gd:=gd) hx hj h0 h1;simpa using this
theorem Nk{t e:TypeId}{x ix:Operand}{m b o len cap:Nat}{k:IntKind}{j:Int}[ht:fh P t e m](hx:ev env x=some (.slice (some ⟨b,o,none⟩) len cap))(hj:ev env ix=some (.int k j))(h0:0<=j)(h1:j<len):
  Ry P N w0 env L ⟨d, .indexAddr t x ix,ty,ps,af,gd⟩ (.pointer (some ⟨b,o+j.toNat*m,none⟩)):=fun a w ha _=>by
 simp only[execOp,ha.ev hx,ha.ev hj,Instr.indexAt,asIntOf,Sem.run_bind,run_underlying ht.eU,Result.andThen,Sem.run_pure,kY w ht.size,h0,h1,and_self,if_true,Addr.gN]
theorem uk{s t:TypeId}{x:Operand}{k k':IntKind}{n m:Int}[hs:mi P s k'][ht:mi P t k](hx:ev env x=some (.int k' n))(hm:k.wrap n=m):
  Ry P N w0 env L ⟨d, .convert s t x,ty,ps,af,gd⟩ (.int k m):=fun a w ha _=>by
 subst hm;simp only[execOp,ha.ev hx,convert,Sem.run_bind,run_underlying hs.eU,run_underlying ht.eU,Result.andThen,Conv.intToInt,Sem.run_pure]
theorem xx{t e:TypeId}{x:Operand}{m len cap:Nat}{p:Option Addr}[ht:fh P t e m](hx:ev env x=some (.slice p len cap)):
  Ry P N w0 env L ⟨d, .call {callee:= .builtin .len,args:= #[x],argTypes:= #[t]},ty,ps,af,gd⟩ (.int .i64 len):=fun a w ha _=>by
 simp[execOp,ha.ev hx,resolve,invoke,builtin,Builtin.len_,run_underlying ht.eU,goInt,Result.andThen]
theorem D2{f:FuncId}(hf:aI P f){ρ:Operand->Value}{xs:List Operand}{ts:Array TypeId}(w:World)(Wh:ρ (.func f)= .func (.func f) #[] #[]):
  (execOp ρ ⟨d, .call {callee:= .value (.func f),args:=xs.toArray,argTypes:=ts},ty,ps,af,gd⟩).run P w= .ok (.enter f (xs.map ρ).toArray) w:=by
 obtain⟨fn,h1,h2,h3⟩:=hf.fn;have HX: ¬fn.body=none:=fun e=>by simp[e]at h2
 have zg: ¬fn.name= "runtime.NumGoroutine" :=by simpa using h3
 simp[execOp,resolve,Wh,Deferred.ofValue,invoke,callFunc,h1,HX,zg,Result.andThen]
theorem D3{f:FuncId}{xs:List Operand}{ts:Array TypeId}{vs:List Value}{v:Value}[hf:aI P f](hx:iH env xs=some vs)
  (hc: ∀w,Mem w0 L w->Calls P f vs.toArray w fun e w'=>e= .returned v/\Mem w [] w'):
  Yl P N w0 env L ⟨d, .call {callee:= .value (.func f),args:=xs.toArray,argTypes:=ts},ty,ps,af,gd⟩ v:=fun a ha w hw=>by
 unfold Oper.quietAt;rw[D2 hf w rfl,ha.iH hx];exact⟨rfl,hc w hw⟩
theorem zh{f:FuncId}{xs:List Operand}{ts:Array TypeId}{vs:List Value}{v:Value}[hf:aI P f](hx:iH env xs=some vs)[hc:pq P f vs v]:
  Yl P N w0 env L ⟨d, .call {callee:= .value (.func f),args:=xs.toArray,argTypes:=ts},ty,ps,af,gd⟩ v:=D3 hx fun w _=>hc.h w
theorem Nl{op:BinOp}{t:TypeId}(hm:P.eqGuardType P.depth t=false)(x y:Operand)(xs ys:Array Value)(w:World):(eqGuard op t x y (.agg xs) (.agg ys)).run P w= .ok () w:=run_eqGuard_agg w op t x y xs ys hm
theorem HY{x y:Operand}{t u:TypeId}{vx vy:Value}{r:Bool}(hx:ev env x=some vx)(hy:ev env y=some vy)[h:zd P t vx vy r]:
  Ry P N w0 env L ⟨d, .binOp .eql t x y u,ty,ps,af,gd⟩ (.bool r):=fun a w ha _=>by
 obtain⟨xs,ys,e1,e2⟩:=h.agg;subst e1 e2;simp only[execOp,ha.ev hx,ha.ev hy,Sem.run_bind,Nl h.plain,Result.andThen,run_eql_struct,h.h,Sem.run_pure]
theorem D4{x y:Operand}{t u:TypeId}{vx vy:Value}{r:Bool}(hx:ev env x=some vx)(hy:ev env y=some vy)[h:zd P t vx vy r]:
  Ry P N w0 env L ⟨d, .binOp .neq t x y u,ty,ps,af,gd⟩ (.bool (!r)):=fun a w ha _=>by
 obtain⟨xs,ys,e1,e2⟩:=h.agg;subst e1 e2;simp only[execOp,ha.ev hx,ha.ev hy,Sem.run_bind,Nl h.plain,Result.andThen,run_neq_struct,h.h,Sem.run_pure]
theorem Wi{x y:Operand}{t u:TypeId}{a b:Bool}(hx:ev env x=some (.bool a))(hy:ev env y=some (.bool b))(ht:P.underlying t=some .bool):
  Ry P N w0 env L ⟨d, .binOp .eql t x y u,ty,ps,af,gd⟩ (.bool (a==b)):=fun aa w ha _=>by
 have h1:(Op.equal t (.bool a) (.bool b)).run P w= .ok (a==b) w:=run_equalIn_bool' w 9999 t a b ht;have h2:(eqGuard BinOp.eql t x y (.bool a) (.bool b)).run P w= .ok () w:=rfl;simp only[execOp,ha.ev hx,ha.ev hy,Sem.run_bind,h2,Result.andThen_ok,binOp,h1,Sem.run_pure]
theorem wrap64_in{n:Int}(h: -9223372036854775808<=n/\n<=9223372036854775807):IntKind.i64.wrap n=n:=IntWalk.i64_in n h
theorem zj{x y:Operand}{a b:Int}{t u:TypeId}(hx:ev env x=some (.int .i64 a))(hy:ev env y=some (.int .i64 b))(h: -9223372036854775808<=a+b/\a+b<=9223372036854775807):
  Ry P N w0 env L ⟨d, .binOp .add t x y u,ty,ps,af,gd⟩ (.int .i64 (a+b)):=et hx hy (by rw[lL,wrap64_in h])
theorem zk{x y:Operand}{a b:Int}{t u:TypeId}(hx:ev env x=some (.int .i64 a))(hy:ev env y=some (.int .i64 b))(h: -9223372036854775808<=a -b/\a -b<=9223372036854775807):
  Ry P N w0 env L ⟨d, .binOp .sub t x y u,ty,ps,af,gd⟩ (.int .i64 (a -b)):=et hx hy (by rw[lL,wrap64_in h])
theorem rG{x y:Operand}{a b:Int}{t u:TypeId}(hx:ev env x=some (.int .i64 a))(hy:ev env y=some (.int .i64 b))(h: -9223372036854775808<=a*b/\a*b<=9223372036854775807):
  Ry P N w0 env L ⟨d, .binOp .mul t x y u,ty,ps,af,gd⟩ (.int .i64 (a*b)):=et hx hy (by rw[lL,wrap64_in h])
theorem mj{x y:Operand}{a b:Int}{t u:TypeId}(hx:ev env x=some (.int .i64 a))(hy:ev env y=some (.int .i64 b))(h:0<=a/\a<=9223372036854775807)(hb:0<b):
  Ry P N w0 env L ⟨d, .binOp .quo t x y u,ty,ps,af,gd⟩ (.int .i64 (a/b)):=et hx hy (by
 have h2:a/b<=a:=Int.ediv_le_self _ h.1;have h3:0<=a/b:=asW h.1 (by omega);rw[lL,if_neg (by omega),Int.tdiv_eq_ediv_of_nonneg h.1,wrap64_in (by omega)])
theorem zl{x y:Operand}{a b:Int}{k:IntKind}{t u:TypeId}(hx:ev env x=some (.int k a))(hy:ev env y=some (.int k b))(h:0<=a)(hb:0<b):
  Ry P N w0 env L ⟨d, .binOp .rem t x y u,ty,ps,af,gd⟩ (.int k (a%b)):=et hx hy (by
 rw[lL,if_neg (by omega),Int.tmod_eq_emod_of_nonneg h])
def jP(env:Env):List (Nat×Operand)->Option (List (Nat×Value))
 |[]=>some []
 |(i,x)::r=>match ev env x,jP env r with
  |some v,some vs=>some ((i,v)::vs)
  |_,_=>none
theorem Wj:jP env []=some []:=rfl
theorem Nn{i:Nat}{x:Operand}{r:List (Nat×Operand)}{v:Value}{vs:List (Nat×Value)}(h:ev env x=some v)(h':jP env r=some vs):jP env ((i,x)::r)=some ((i,v)::vs):=by
 simp[jP,h,h']
theorem dh.jP{a:Act}(h:dh N env a): ∀{xs:List (Nat×Operand)} {vs:List (Nat×Value)},jP env xs=some vs->(xs.map fun p=>(p.1,a.eval p.2))=vs
 |[],vs,e=>by simp[ax.jP]at e;simp[e]
 |(i,x)::r,vs,e=>by
  unfold ax.jP at e;split at e
  ·
   rename_i v Wd hv y9;simp only[asu]at e;subst e;simp[h.ev hv,h.jP y9]
  simp at e
class p8(P:Program)(t:TypeId)(vs:List (Nat×Value))(v:outParam Value):Prop where
 h: ∀w,(Instr.build t vs.toArray).run P w= .ok v w
theorem da{t:TypeId}{xs:List (Nat×Operand)}{vs:List (Nat×Value)}{v:Value}(hx:jP env xs=some vs)(hb: ∀w,(Instr.build t vs.toArray).run P w= .ok v w):
  Ry P N w0 env L ⟨d, .build t xs.toArray,ty,ps,af,gd⟩ v:=fun a w ha _=>by
 have e:(xs.toArray.map fun(p:Nat×Operand)=>match p with|(i,x)=>(i,a.eval x))=vs.toArray:=by
  rw[←ha.jP hx];simp
 simp only[execOp,e,Sem.run_bind,hb w,Result.andThen,Sem.run_pure]
theorem iQ{t:TypeId}{xs:List (Nat×Operand)}{vs:List (Nat×Value)}{v:Value}(hx:jP env xs=some vs)[hb:p8 P t vs v]:
  Ry P N w0 env L ⟨d, .build t xs.toArray,ty,ps,af,gd⟩ v:=da hx hb.h
theorem No{k:IntKind}{i:Int}{y:Nat}(h0:0<=i)(h1:i<=y)(c:BoundsCode)(w:World):(Instr.sliceBound (.int k i) y c).run P w= .ok i.toNat w:=by
 simp[Instr.sliceBound,asIntOf,h0,h1]
theorem HZ{t:TypeId}{x hi:Operand}{n m b o:Nat}{k:IntKind}{h:Int}[ht:uj P t n m](hx:ev env x=some (.pointer (some ⟨b,o,none⟩)))(hh:ev env hi=some (.int k h))(h0:0<=h)(h1:h<=n):
  Ry P N w0 env L ⟨d, .slice t x none (some hi) none,ty,ps,af,gd⟩ (.slice (some ⟨b,o,none⟩) h.toNat n):=fun a w ha _=>by
 obtain⟨e,hu,eZ⟩:=ht.arr;have e0:(⟨b,o,none⟩:Addr).add 0=⟨b,o,none⟩:=rfl;simp[execOp,ha.ev hx,ha.ev hh,Instr.sliceAt,run_underlying hu,Instr.sureAddr,Instr.sliceBounds,No h0 h1,kY w eZ,Result.andThen,e0]
theorem xz{t:TypeId}{x:Operand}{n m b o:Nat}[ht:uj P t n m](hx:ev env x=some (.pointer (some ⟨b,o,none⟩))):
  Ry P N w0 env L ⟨d, .slice t x none none none,ty,ps,af,gd⟩ (.slice (some ⟨b,o,none⟩) n n):=fun a w ha _=>by
 obtain⟨e,hu,eZ⟩:=ht.arr;have e0:(⟨b,o,none⟩:Addr).add 0=⟨b,o,none⟩:=rfl;simp[execOp,ha.ev hx,Instr.sliceAt,run_underlying hu,Instr.sureAddr,Instr.sliceBounds,kY w eZ,Result.andThen,e0]
theorem Np{t:TypeId}{x lo:Operand}{n m b o:Nat}{k:IntKind}{l:Int}[ht:uj P t n m](hx:ev env x=some (.pointer (some ⟨b,o,none⟩)))(hl:ev env lo=some (.int k l))(h0:0<=l)(h1:l<n):
  Ry P N w0 env L ⟨d, .slice t x (some lo) none none,ty,ps,af,gd⟩ (.slice (some ⟨b,o+l.toNat*m,none⟩) (n -l.toNat) (n -l.toNat)):=fun a w ha _=>by
 obtain⟨e,hu,eZ⟩:=ht.arr;have e0:(if n=l.toNat then(⟨b,o,none⟩:Addr)else(⟨b,o,none⟩:Addr).add (l.toNat*m))=⟨b,o+l.toNat*m,none⟩:=by rw[if_neg (by omega),Addr.gN]
 simp[execOp,ha.ev hx,ha.ev hl,Instr.sliceAt,run_underlying hu,Instr.sureAddr,Instr.sliceBounds,No h0 (Int.le_of_lt h1),kY w eZ,Result.andThen,e0]
def nb:IntKind->Nat
 | .i8=>7| .i16=>15| .i32=>31| .i64=>63| .u8=>8| .u16=>16| .u32=>32| .u64=>64
theorem Wk(k:IntKind):nb k<=k.bits:=by cases k<;>decide
theorem qa{k:IntKind}{n:Nat}(h:n<2^nb k):k.wrap (n:Int)=n:=by
 cases k<;>simp[IntKind.wrap,IntKind.bits,IntKind.signed,nb]at* <;>omega
theorem zm(b n:Nat):BitVec.ofInt b (n:Int)=BitVec.ofNat b n:=by
 apply BitVec.eq_of_toNat_eq;simp
theorem qO{k:IntKind}{n:Nat}(h:n<2^nb k):n<2^k.bits:=arM h (ar2 (by decide) (Wk k))
variable {x y:Operand} {k k':IntKind} {p q:Nat} {t u:TypeId}
theorem H2{a b:Int}(hx:ev env x=some (.int k a))(hy:ev env y=some (.int k b))(ea:a=p)(eb:b=q)(hp:p<2^nb k)(hq:q<2^nb k):
  Ry P N w0 env L ⟨d, .binOp .and t x y u,ty,ps,af,gd⟩ (.int k ((p&&&q:Nat):Int)):=et hx hy (by
 subst ea eb;simp only[lL,zm,BitVec.toNat_and,asD,arF (qO hp),arF (qO hq)];rw[qa (Nat.and_lt_two_pow _ hq)])
theorem BE{a b:Int}(hx:ev env x=some (.int k a))(hy:ev env y=some (.int k b))(ea:a=p)(eb:b=q)(hp:p<2^nb k)(hq:q<2^nb k):
  Ry P N w0 env L ⟨d, .binOp .or t x y u,ty,ps,af,gd⟩ (.int k ((p|||q:Nat):Int)):=et hx hy (by
 subst ea eb;simp only[lL,zm,BitVec.toNat_or,asD,arF (qO hp),arF (qO hq)];rw[qa (Nat.or_lt_two_pow hp hq)])
theorem Nq{a b:Int}(hx:ev env x=some (.int k a))(hy:ev env y=some (.int k b))(ea:a=p)(eb:b=q)(hp:p<2^nb k)(hq:q<2^nb k):
  Ry P N w0 env L ⟨d, .binOp .xor t x y u,ty,ps,af,gd⟩ (.int k ((p^^^q:Nat):Int)):=et hx hy (by
 subst ea eb;simp only[lL,zm,BitVec.toNat_xor,asD,arF (qO hp),arF (qO hq)];rw[qa (atM hp hq)])
theorem Wl(hp:p<2^nb k)(hq:q<2^nb k):lL .andNot k p q=some (.int k ((p&&&(2^k.bits -1 -q):Nat):Int)):=by
 simp only[lL,zm,BitVec.toNat_and,BitVec.toNat_not,asD,arF (qO hp),arF (qO hq)];rw[qa (asE Nat.and_le_left hp)]
theorem Wm{a b:Int}(h:0<=b)(w:World):(binOp .shr t (.int k a) (.int k' b)).run P w= .ok (.int k (a.fdiv (2^min b.toNat k.bits))) w:=by
 simp[binOp,Op.shift,show ¬b<0 by omega]
theorem Wn{a b:Int}(h:0<=b)(w:World):(binOp .shl t (.int k a) (.int k' b)).run P w= .ok (.int k (k.wrap (a*2^min b.toNat k.bits))) w:=by
 simp[binOp,Op.shift,show ¬b<0 by omega]
theorem BF{a b:Int}(hx:ev env x=some (.int k a))(hy:ev env y=some (.int k b))(ea:a=p)(eb:b=q)(h:p+q<2^nb k):
  Ry P N w0 env L ⟨d, .binOp .add t x y u,ty,ps,af,gd⟩ (.int k ((p+q:Nat):Int)):=et hx hy (by
 subst ea eb;rw[lL,←Int.natCast_add,qa h])
theorem H3{a b:Int}{ts:Array TypeId}(hx:ev env x=some (.int k a))(hy:ev env y=some (.int k b)):
  Ry P N w0 env L ⟨d, .call {callee:= .builtin .min,args:= #[x,y],argTypes:=ts},ty,ps,af,gd⟩ (.int k (min a b)):=fun aa w ha _=>by
 have e:(if b<a then b else a)=min a b:=by rw[Int.min_def];split<;>split<;>omega
 simp[execOp,ha.ev hx,ha.ev hy,resolve,invoke,builtin,Builtin.min_,Builtin.min2,e]
theorem vL{a b:Int}{ts:Array TypeId}(hx:ev env x=some (.int k a))(hy:ev env y=some (.int k b)):
  Ry P N w0 env L ⟨d, .call {callee:= .builtin .max,args:= #[x,y],argTypes:=ts},ty,ps,af,gd⟩ (.int k (max a b)):=fun aa w ha _=>by
 have e:(if a<b then b else a)=max a b:=by rw[Int.max_def];split<;>split<;>omega
 simp[execOp,ha.ev hx,ha.ev hy,resolve,invoke,builtin,Builtin.max_,Builtin.max2,e]
theorem H4{ix:Operand}{s:ByteArray}{j:Int}{v:Nat}(hu:P.underlying t=some .string)(hx:ev env x=some (.string s))(hj:ev env ix=some (.int k j))(h0:0<=j)(hv:(s[j.toNat]?).map (·.toNat)=some v):
  Ry P N w0 env L ⟨d, .index t x ix,ty,ps,af,gd⟩ (.int .u8 v):=fun a w ha _=>by
 cases hs:s[j.toNat]?with
 |none=>simp[hs]at hv
 |some b=>
  simp[hs]at hv;simp[execOp,ha.ev hx,ha.ev hj,Instr.index,asIntOf,run_underlying hu,h0,hs,hv,Result.andThen]
theorem kZ{s:TypeId}{n:Nat}[hs:mi P s k'][ht:mi P t k](hx:ev env x=some (.int k' n))(hn:n<2^nb k):
  Ry P N w0 env L ⟨d, .convert s t x,ty,ps,af,gd⟩ (.int k n):=uk hx (qa hn)
theorem H5{s:TypeId}{n:Int}[hs:mi P s k'][ht:mi P t k](hx:ev env x=some (.int k' n))(h0:0<=n)(hn:n.toNat<2^nb k):
  Ry P N w0 env L ⟨d, .convert s t x,ty,ps,af,gd⟩ (.int k n):=uk hx (by
 have:=qa hn;rwa [arY h0]at this)
theorem um{b:Int}(hx:ev env x=some (.int k p))(hy:ev env y=some (.int k' b))(hp:p<2^nb k)(hb:0<=b):
  Ry P N w0 env L ⟨d, .binOp .shr t x y u,ty,ps,af,gd⟩ (.int k ((p/2^b.toNat:Nat):Int)):=fun a w ha _=>by
 have e:((p:Int).fdiv (2^min b.toNat k.bits))=((p/2^b.toNat:Nat):Int):=by
  rw[Int.fdiv_eq_ediv_of_nonneg _ (Int.pow_nonneg (by decide)),show((2:Int)^min b.toNat k.bits)=((2^min b.toNat k.bits:Nat):Int) by simp,←Int.natCast_ediv];congr 1
  by_cases h:b.toNat<=k.bits
  ·
   rw[atb h]
  ·
   rw[Nat.min_eq_right (by omega),Nat.div_eq_of_lt (qO hp),Nat.div_eq_of_lt (arM (qO hp) (ar2 (by decide) (by omega)))]
 simp only[execOp,ha.ev hx,ha.ev hy,Sem.run_bind,HV,Wm hb,e,Sem.run_pure,Result.andThen]
theorem D5{a b:Int}(hx:ev env x=some (.int k a))(hy:ev env y=some (.int k' b))(hb:0<=b):
  Ry P N w0 env L ⟨d, .binOp .shl t x y u,ty,ps,af,gd⟩ (.int k (k.wrap (a*2^min b.toNat k.bits))):=fun aa w ha _=>by
 simp only[execOp,ha.ev hx,ha.ev hy,Sem.run_bind,HV,Wn hb,Sem.run_pure,Result.andThen]
end
section
variable {P:Program} {N:ct} {w0:World} {env:Env} {L:List aj} {l:List Oper} {Q:Exit->Act->World->Prop} {F:Act->Prop} {fs:List Nat} {k:Nat} {rest:List Oper}
def Ex(N:ct)(w0:World)(Q:Exit->Act->World->Prop)(e:Exit)(env:Env)(L:List aj):Prop:= ∀a w,dh N env a->Mem w0 L w->Q e a w
def Sq(P:Program)(N:ct)(w0:World)(l:List Oper)(Q:Exit->Act->World->Prop)(rest:List Oper)(env:Env)(L:List aj):Prop:=
 ∀a w,dh N env a->Mem w0 L w->wpList P l.toArray Q rest a w
def Qt(P:Program)(N:ct)(w0:World)(l:List Oper)(fs:List Nat)(F:Act->Prop)(k:Nat)(rest:List Oper)(env:Env)(L:List aj):Prop:=
 ∀a,dh N env a->nh P l.toArray fs (Mem w0 L) F k rest a
theorem D6(h:Ex N w0 Q .normal env L):Sq P N w0 l Q [] env L:=h
theorem Nr(h:Ex N w0 Q .normal env L):Qt P N w0 l fs (fun a'=> ∀w',Mem w0 L w'->Q .normal a' w') k [] env L:=fun a ha w' gp=>h a w' ha gp
def Fr(P:Program)(N:ct)(w0:World)(Lq:List aj)(l:List Oper)(n:Nat)(Q:Exit->Act->World->Prop)(fs:List Nat)(env:Env)(L:List aj):Prop:=
 (∀w,Mem w0 L w->Mem w0 Lq w)-> ∀a,dh N env a->uh P l n Q w0 Lq fs a L
theorem uo{n:Nat}{gs:List Nat}{L':List aj}(h:Fr P N w0 L l n Q gs env L')(hq: ∀w,Mem w0 L' w->Mem w0 L w:=by exact fun _ h=>h):Qt P N w0 l fs (fun a'=>uh P l n Q w0 L gs a' L') k [] env L:=fun a ha=>h hq a ha
theorem uq{n:Nat}{Lq:List aj}(h:Sq P N w0 l Q (l.drop n) env L):Fr P N w0 Lq l n Q [] env L:=fun _ a ha w hw=>h a w ha hw
theorem Ns{o:Oper}(hk:Qt P N w0 l fs F (k+1) rest env L)(hf:fs.contains k=true:=by rfl):Qt P N w0 l fs F k (o::rest) env L:=fun a ha=>by
 unfold nh;rw[if_pos hf];exact hk a ha
theorem rH{o:Oper}{y:Nat->Option Bool}(h:o.guard=none):Region.wanted o y=true:=by simp[Region.wanted,h]
theorem xA{o:Oper}{a:Act}{j t:Nat}{b g:Bool}(ha:dh N env a)(h:o.guard=some (j,b))(hj:(l[j]?).bind (·.dst)=some t)(hv:look env t=some (.bool g)):
  Region.wanted o (yielded l.toArray a.tmps)=(g==b):=by
 have:=ha.get _ _ hv;simp[Region.wanted,h,yielded,hj,this]
theorem H6{o:Oper}{a:Act}{j t:Nat}{b c g:Bool}(ha:dh N env a)(h:o.guard=some (j,b))(hj:(l[j]?).bind (·.dst)=some t)(hv:look env t=some (if c=true then .bool g else undef)):
  Region.wanted o (yielded l.toArray a.tmps)=(c&&(g==b)):=by
 have:=ha.get _ _ hv
 cases c
 ·
  simp only[arv,if_false]at this;simp[Region.wanted,h,yielded,hj,this,undef]
 ·
  simp only[if_true]at this;simp[Region.wanted,h,yielded,hj,this]
theorem zn{o:Oper}{a:Act}{w:World}{v:Value}{K:Act->World->Prop}(ha:dh N env a)(hw:Mem w0 L w)(h:Yl P N w0 env L o v)(hk: ∀w',Mem w0 L w'->K (a.put o.dst v) w'):o.wp P a w K Q:=by
 have h1:=h a ha w hw;unfold Oper.quietAt at h1;unfold Oper.wp;generalize(execOp a.eval o).run P w=r at h1;unfold Oper.quietUpon at h1;split at h1
 ·
  obtain⟨rfl,rfl⟩:=h1;exact hk _ hw
 ·
  obtain⟨rfl,rfl⟩:=h1;exact hk _ hw
 ·
  obtain⟨rfl,hc⟩:=h1;exact hc.mono fun e pZ ⟨he,hm⟩=>by subst he;exact hk _ (by simpa using hw.call hm)
 exact h1.elim
theorem dR{o:Oper}{v:Value}(h:Yl P N w0 env L o v)(hk:Sq P N w0 l Q rest (cB env o.dst v) L)(hg:o.guard=none:=by rfl)(hd:dn N o.dst=true:=by rfl):Sq P N w0 l Q (o::rest) env L:=fun a w ha hw=>by
 unfold wpList;rw[if_pos (rH hg)];exact .inl (zn ha hw h fun w' gp=>hk _ _ (ha.put hd v) gp)
theorem ag{o:Oper}{v:Value}(h:Ry P N w0 env L o v)(hk:Sq P N w0 l Q rest (cB env o.dst v) L)(hg:o.guard=none:=by rfl)(hd:dn N o.dst=true:=by rfl):Sq P N w0 l Q (o::rest) env L:=dR h.yl hk hg hd
theorem sW{o:Oper}{v:Value}(h:Yl P N w0 env L o v)(hk:Qt P N w0 l fs F (k+1) rest (cB env o.dst v) L)(hg:o.guard=none:=by rfl)(hd:dn N o.dst=true:=by rfl)(hf:fs.contains k=false:=by rfl):Qt P N w0 l fs F k (o::rest) env L:=fun a ha=>by
 unfold nh;rw[if_neg (by rw[hf];exact ar5)];rw[if_pos (rH hg)];exact⟨v,h a ha,hk _ (ha.put hd v)⟩
theorem bH{o:Oper}{v:Value}(h:Ry P N w0 env L o v)(hk:Qt P N w0 l fs F (k+1) rest (cB env o.dst v) L)(hg:o.guard=none:=by rfl)(hd:dn N o.dst=true:=by rfl)(hf:fs.contains k=false:=by rfl):Qt P N w0 l fs F k (o::rest) env L:=sW h.yl hk hg hd hf
theorem look_eq{t:Nat}{u v:Value}(h:look env t=some u)(e:u=v):look env t=some v:=by rw[h,e]
theorem gE{o:Oper}{v:Value}{j t:Nat}{g:Bool}(hg:o.guard=some (j,true))(hj:(l[j]?).bind (·.dst)=some t)(hv:look env t=some (.bool g))(h:g=true->Yl P N w0 env L o v)
  (hk:Sq P N w0 l Q rest (cB env o.dst (if g=true then v else undef)) L) (hd:dn N o.dst=true:=by rfl):Sq P N w0 l Q (o::rest) env L:=fun a w ha hw=>by
 unfold wpList;rw[xA ha hg hj hv]
 cases g
 ·
  exact hk _ _ (ha.put hd undef) hw
 ·
  exact .inl (zn ha hw (h rfl) fun w' gp=>hk _ _ (ha.put hd v) gp)
theorem fQ{o:Oper}{v:Value}{j t:Nat}{g:Bool}(hg:o.guard=some (j,true))(hj:(l[j]?).bind (·.dst)=some t)(hv:look env t=some (.bool g))(h:g=true->Yl P N w0 env L o v)
  (hk:Qt P N w0 l fs F (k+1) rest (cB env o.dst (if g=true then v else undef)) L) (hd:dn N o.dst=true:=by rfl) (hf:fs.contains k=false:=by rfl):Qt P N w0 l fs F k (o::rest) env L:=fun a ha=>by
 unfold nh;rw[if_neg (by rw[hf];exact ar5)];rw[xA ha hg hj hv]
 cases g
 ·
  exact hk _ (ha.put hd undef)
 ·
  exact⟨v,h rfl a ha,hk _ (ha.put hd v)⟩
theorem bP{o:Oper}{v:Value}{j t:Nat}{g:Bool}(hg:o.guard=some (j,false))(hj:(l[j]?).bind (·.dst)=some t)(hv:look env t=some (.bool g))(h:(!g)=true->Yl P N w0 env L o v)
  (hk:Sq P N w0 l Q rest (cB env o.dst (if(!g)=true then v else undef)) L) (hd:dn N o.dst=true:=by rfl):Sq P N w0 l Q (o::rest) env L:=fun a w ha hw=>by
 unfold wpList;rw[xA ha hg hj hv]
 cases g
 ·
  exact .inl (zn ha hw (h rfl) fun w' gp=>hk _ _ (ha.put hd v) gp)
 ·
  exact hk _ _ (ha.put hd undef) hw
theorem fL{o:Oper}{v:Value}{j t:Nat}{g:Bool}(hg:o.guard=some (j,false))(hj:(l[j]?).bind (·.dst)=some t)(hv:look env t=some (.bool g))(h:(!g)=true->Yl P N w0 env L o v)
  (hk:Qt P N w0 l fs F (k+1) rest (cB env o.dst (if(!g)=true then v else undef)) L) (hd:dn N o.dst=true:=by rfl) (hf:fs.contains k=false:=by rfl):Qt P N w0 l fs F k (o::rest) env L:=fun a ha=>by
 unfold nh;rw[if_neg (by rw[hf];exact ar5)];rw[xA ha hg hj hv]
 cases g
 ·
  exact⟨v,h rfl a ha,hk _ (ha.put hd v)⟩
 ·
  exact hk _ (ha.put hd undef)
theorem ob{o:Oper}{v:Value}{j t:Nat}{c g:Bool}(hg:o.guard=some (j,true))(hj:(l[j]?).bind (·.dst)=some t)(hv:look env t=some (if c=true then .bool g else undef))(h:(c&&g)=true->Yl P N w0 env L o v)
  (hk:Sq P N w0 l Q rest (cB env o.dst (if(c&&g)=true then v else undef)) L) (hd:dn N o.dst=true:=by rfl):Sq P N w0 l Q (o::rest) env L:=fun a w ha hw=>by
 unfold wpList;rw[H6 ha hg hj hv]
 cases c<;>cases g
 ·
  exact hk _ _ (ha.put hd undef) hw
 ·
  exact hk _ _ (ha.put hd undef) hw
 ·
  exact hk _ _ (ha.put hd undef) hw
 ·
  exact .inl (zn ha hw (h rfl) fun w' gp=>hk _ _ (ha.put hd v) gp)
theorem ur{o:Oper}{v:Value}{j t:Nat}{c g:Bool}(hg:o.guard=some (j,false))(hj:(l[j]?).bind (·.dst)=some t)(hv:look env t=some (if c=true then .bool g else undef))(h:(c&& !g)=true->Yl P N w0 env L o v)
  (hk:Sq P N w0 l Q rest (cB env o.dst (if(c&& !g)=true then v else undef)) L) (hd:dn N o.dst=true:=by rfl):Sq P N w0 l Q (o::rest) env L:=fun a w ha hw=>by
 unfold wpList;rw[H6 ha hg hj hv]
 cases c<;>cases g
 ·
  exact hk _ _ (ha.put hd undef) hw
 ·
  exact hk _ _ (ha.put hd undef) hw
 ·
  exact .inl (zn ha hw (h rfl) fun w' gp=>hk _ _ (ha.put hd v) gp)
 ·
  exact hk _ _ (ha.put hd undef) hw
theorem H7{o:Oper}{v:Value}{j t:Nat}{c g:Bool}(hg:o.guard=some (j,false))(hj:(l[j]?).bind (·.dst)=some t)(hv:look env t=some (if c=true then .bool g else undef))(h:(c&& !g)=true->Yl P N w0 env L o v)
  (hk:Qt P N w0 l fs F (k+1) rest (cB env o.dst (if(c&& !g)=true then v else undef)) L) (hd:dn N o.dst=true:=by rfl) (hf:fs.contains k=false:=by rfl):Qt P N w0 l fs F k (o::rest) env L:=fun a ha=>by
 unfold nh;rw[if_neg (by rw[hf];exact ar5)];rw[H6 ha hg hj hv]
 cases c<;>cases g
 ·
  exact hk _ (ha.put hd undef)
 ·
  exact hk _ (ha.put hd undef)
 ·
  exact⟨v,h rfl a ha,hk _ (ha.put hd v)⟩
 ·
  exact hk _ (ha.put hd undef)
theorem xB{x:Operand}{c g:Bool}{v u:Value}(hc:c=true)(h:ev env x=some (if(c&&g)=true then v else u)):ev env x=some (if g=true then v else u):=by subst hc;simpa using h
theorem aE{x:Operand}{g:Bool}{v u:Value}(hg:g=true)(h:ev env x=some (if g=true then v else u)):ev env x=some v:=by rw[h,if_pos hg]
variable {d:Option Tmp} {ty:TypeId} {ps:String} {af:Array Edge}
theorem oc{o:Oper}(hg:o.guard=none)(hd:dn N o.dst=true)
  (h: ∀a w,dh N env a->Mem w0 L w-> ∃v w' L',(execOp a.eval o).run P w= .ok (.value v) w'/\Mem w0 L' w'/\Sq P N w0 l Q rest (cB env o.dst v) L'):Sq P N w0 l Q (o::rest) env L:=fun a w ha hw=>by
 unfold wpList;rw[if_pos (rH hg)];obtain⟨v,w',L',h1,h2,h3⟩:=h a w ha hw;refine .inl ?_;unfold Oper.wp;rw[h1];exact h3 _ _ (ha.put hd v) h2
theorem D7{o:Oper}(hg:o.guard=none)(hd:o.dst=none)
  (h: ∀a w,dh N env a->Mem w0 L w-> ∃w' L',(execOp a.eval o).run P w= .ok .skip w'/\Mem w0 L' w'/\Sq P N w0 l Q rest env L'):Sq P N w0 l Q (o::rest) env L:=fun a w ha hw=>by
 unfold wpList;rw[if_pos (rH hg)];obtain⟨w',L',h1,h2,h3⟩:=h a w ha hw;refine .inl ?_;unfold Oper.wp;rw[h1];show wpList P l.toArray Q rest (a.put o.dst undef) w';rw[hd];exact h3 _ _ ha h2
theorem H8{t:TypeId}{x:Operand}{v:Value}(hx:ev env x=some v)(hk: ∀b,Sq P N w0 l Q rest (cB env d (.pointer (some ⟨b,0,none⟩))) (ar b v.cells t::L))(hd:dn N d=true:=by rfl):
  Sq P N w0 l Q (⟨d, .box t x,ty,ps,af,none⟩::rest) env L:=
 oc rfl hd fun a w ha hw=>⟨_,_,_,by simp only[execOp,ha.ev hx,Instr.box,newVar,newRow,Sem.run_bind,newObj,Sem.run,Result.andThen,Sem.run_pure];rfl,hw.alloc v.cells t,hk _⟩
theorem Nt{t:TypeId}{z:Value}[hz:eI P t z](hk: ∀b,Sq P N w0 l Q rest (cB env d (.pointer (some ⟨b,0,none⟩))) (ar b z.cells t::L))(hd:dn N d=true:=by rfl):
  Sq P N w0 l Q (⟨d, .alloc t,ty,ps,af,none⟩::rest) env L:=
 oc rfl hd fun a w ha hw=>⟨_,_,_,by simp only[execOp,Instr.alloc,newVar,newRow,Sem.run_bind,D1 w hz,newObj,Sem.run,Result.andThen,Sem.run_pure];rfl,hw.alloc z.cells t,hk _⟩
theorem bY{t:TypeId}{x:Operand}{cs:Array Value}(hx:ev env x=some (.agg cs))(hk: ∀b,Sq P N w0 l Q rest (cB env d (.pointer (some ⟨b,0,none⟩))) (ar b cs t::L))(hd:dn N d=true:=by rfl):
  Sq P N w0 l Q (⟨d, .box t x,ty,ps,af,none⟩::rest) env L:=H8 hx hk hd
theorem bt{t:TypeId}{cs:Array Value}[hz:eI P t (.agg cs)](hk: ∀b,Sq P N w0 l Q rest (cB env d (.pointer (some ⟨b,0,none⟩))) (ar b cs t::L))(hd:dn N d=true:=by rfl):
  Sq P N w0 l Q (⟨d, .alloc t,ty,ps,af,none⟩::rest) env L:=Nt (z:= .agg cs) hk hd
theorem Wo{cs:Array Value}(h:cs.all (·.oneCell')=true)(a b:Nat):(cs.extract a b).all (·.oneCell')=true:=by
 rw[arx]at h⊢;intro v hv;have:v∈(cs.extract a b).toList:=Array.mem_toList_iff.2 hv;rw[Array.toList_extract]at this;simp only[List.extract]at this;exact h v (by simpa using List.mem_of_mem_drop (asN this))
theorem eN{t:TypeId}{x y:Operand}{i b o:Nat}{cs:Array Value}{T:TypeId}{v:Value}(hx:ev env x=some (.pointer (some ⟨b,o,none⟩)))(hy:ev env y=some v)[ht:fK P t][hh:Has L b cs T i](ho:o<cs.size)(hv:v.oneCell'=true){cs':Array Value}{L':List aj}(hQ:cs.setIfInBounds o v=cs')[hu:fu L i (ar b cs' T) L'](hk:Sq P N w0 l Q rest env L'):
  Sq P N w0 l Q (⟨none, .store t x y,ty,ps,af,none⟩::rest) env L:=
 D7 rfl rfl fun a w ha hw=>by
  have hi:=hh.h;have hb:=hw.block hi;have hc:w.cell? ⟨b,o,none⟩=some cs[o]:=by rw[hw.cell hi];simp[ho]
  have hf:w.frozen? ⟨b,o,none⟩=false:=frozen_of_row w b o cs T hb;subst hQ;refine⟨w.setCell ⟨b,o,none⟩ v,_,?_,?_,hk⟩
  ·
   have h1:(storeCells ⟨b,o,none⟩ [v]).run P w= .ok () (w.setCell ⟨b,o,none⟩ v):=by
    have:=run_storeCells_at (P:=P) b o T [v] 0 cs w hb (by simp;omega) (by simpa using hv);rw[this,setCell_eq_setRow w b o cs T (0,0) v hb];congr 2;apply atF;simp[List.set_eq_take_append_cons_drop,ho]
   have hQ:v.cells= #[v]:=by cases v<;>simp_all[Value.oneCell',Value.cells]
   simp only[execOp,ha.ev hx,ha.ev hy,Instr.storeAt,Instr.sureAddr,storeVar,Sem.run_bind,Sem.run_pure,Result.andThen,kY w ht.size,hQ];simp[h1]
  ·
   rw[setCell_eq_setRow w b o cs T (0,0) v hb];rw[←hu.h];exact hw.setRow hi _
def over(cs:Array Value)(o:Nat)(vs:Array Value):Array Value:=(cs.toList.take o++vs.toList++cs.toList.drop (o+vs.size)).toArray
theorem BG{t:TypeId}{x y:Operand}{i b o n:Nat}{cs vs:Array Value}{T:TypeId}(hx:ev env x=some (.pointer (some ⟨b,o,none⟩)))(hy:ev env y=some (.agg vs))[ht:fE P t n][hh:Has L b cs T i][hs:fP vs n](ho:o+n<=cs.size){cs':Array Value}{L':List aj}(hQ:over cs o vs=cs')[hu:fu L i (ar b cs' T) L'](hk:Sq P N w0 l Q rest env L'):
  Sq P N w0 l Q (⟨none, .store t x y,ty,ps,af,none⟩::rest) env L:=
 D7 rfl rfl fun a w ha hw=>by
  have hi:=hh.h;have hn:=hs.h;have hv:=hs.one;have hb:=hw.block hi;subst hQ;refine⟨_,_,?_,by rw[←hu.h];exact hw.setRow hi _,hk⟩;have h1:=run_storeCells_at (P:=P) b o T vs.toList 0 cs w hb (by simp;omega) (fun v lM=>(arx.1 hv) v (by simpa using lM));simp only[execOp,ha.ev hx,ha.ev hy,Instr.storeAt,Instr.sureAddr,storeVar,Value.cells,Sem.run_bind,Sem.run_pure,Result.andThen,kY w ht.size,hn];simp[h1,over]
theorem Wp{t:TypeId}{x y:Operand}{i b n:Nat}{cs vs:Array Value}{T:TypeId}(hx:ev env x=some (.pointer (some ⟨b,0,none⟩)))(hy:ev env y=some (.agg vs))[ht:fE P t n][hh:Has L b cs T i][hs:fP vs n][hc:fP cs n]{L':List aj}[hu:fu L i (ar b vs T) L'](hk:Sq P N w0 l Q rest env L'):
  Sq P N w0 l Q (⟨none, .store t x y,ty,ps,af,none⟩::rest) env L:=by
 have hn:=hs.h;have Wq:=hc.h;refine BG hx hy (by omega) (?_:over cs 0 vs=vs) hk;apply atF;simp[over];omega
theorem H9{x y:Operand}{tx gu e:TypeId}{i b o dl dc sl sc:Nat}{a:Addr}{cs vs:Array Value}{T:TypeId}(hx:ev env x=some (.slice (some ⟨b,o,none⟩) dl dc))(hy:ev env y=some (.slice (some a) sl sc))
  [ht:fh P tx e 1] [hh:Has L b cs T i] (hn:vs.size=Nat.min sl dl) (mO: ∀w,Mem w0 L w-> ∀j,j<vs.size->w.cell? (a.add j)=vs[j]?) (hv:vs.all (·.oneCell')=true) (ho:o+vs.size<=cs.size)
  {cs':Array Value} {L':List aj} (hQ:over cs o vs=cs') [hu:fu L i (ar b cs' T) L'] (hk:Sq P N w0 l Q rest (cB env d (.int .i64 vs.size)) L') (hd:dn N d=true:=by rfl):
  Sq P N w0 l Q (⟨d, .call {callee:= .builtin .copy,args:= #[x,y],argTypes:= #[tx,gu]},ty,ps,af,none⟩::rest) env L:=
 oc rfl hd fun aa w ha hw=>by
  have hi:=hh.h;have hb:=hw.block hi;subst hQ;have gq:=run_copy_row (P:=P) w tx gu ty e b o dl dc a sl sc cs T vs.toList ht.eU ht.size hb (by simpa using hn)
   (fun j v lM=>by
    have hj:j<vs.size:=by simpa using(ad2.1 lM).1
    rw[mO w hw j hj];simpa using lM) (by simpa using ho) (fun v lM=>(arx.1 hv) v (by simpa using lM))
  refine⟨_,w.setRow b (over cs o vs),_,?_,by rw[←hu.h];exact hw.setRow hi _,hk⟩;simp[execOp,ha.ev hx,ha.ev hy,resolve,invoke,builtin,gq,Result.andThen,goInt,over]
end
section
variable {P:Program} {N:ct} {w0:World} {env:Env} {L Lq:List aj} {l:List Oper} {n j:Nat} {js:List Nat} {Q:Exit->Act->World->Prop} {d:Option Tmp} {ty:TypeId} {ps:String} {af:Array Edge}
theorem Ws{o:Oper}(hj:l[j]? =some o)(hg:o.guard=none)(hd:dn N o.dst=true)
  (h: ∀a w,dh N env a->Mem w0 L w-> ∃v w' E,(execOp a.eval o).run P w= .ok (.value v) w'/\Mem w E w'/\Fr P N w0 Lq l n Q js (cB env o.dst v) (E++L)):Fr P N w0 Lq l n Q (j::js) env L:=fun hq a ha=>
 ⟨o,hj,hg,fun w hw=>by
  obtain⟨v,w',E,h1,h2,h3⟩:=h a w ha hw;rw[h1];have Nu: ∀w,Mem w0 (E++L) w->Mem w0 Lq w:=fun w h=>hq w (h.sub (List.sublist_append_right _ _));exact⟨E++L,hw.call h2,Nu,h3 Nu _ (ha.put hd v)⟩⟩
theorem Wt{X:Type}{val:X->Value}{L':X->List aj}{pr:X->Prop}{f:FuncId}{xs:List Operand}{ts:Array TypeId}{vs:List Value}(hj:l[j]? =some ⟨d, .call {callee:= .value (.func f),args:=xs.toArray,argTypes:=ts},ty,ps,af,none⟩)[hf:aI P f](hx:iH env xs=some vs)
  (hc: ∀w,Mem w0 L w->Calls P f vs.toArray w fun e w'=> ∃x,e= .returned (val x)/\pr x/\Mem w0 (L' x) w') (hL: ∀x w,Mem w0 (L' x) w->Mem w0 Lq w) (hk: ∀x,pr x->Fr P N w0 Lq l n Q js (cB env d (val x)) (L' x)) (hd:dn N d=true:=by rfl):
  Fr P N w0 Lq l n Q (j::js) env L:=fun _ a ha=>
 ⟨_,hj,rfl,fun w hw=>by
  rw[D2 hf w rfl,ha.iH hx];exact⟨rfl,(hc w hw).mono fun e w' ⟨x,he,hp,hm⟩=>⟨val x,L' x,he,hm,hL x,hk x hp (hL x) _ (ha.put hd _)⟩⟩⟩
end
section
variable {P:Program} {N:ct} {w0:World} {env:Env} {L:List aj} {Q:Exit->Act->World->Prop}
def Cw(P:Program)(N:ct)(w0:World)(Q:Exit->Act->World->Prop)(c:Code)(env:Env)(L:List aj):Prop:= ∀a w,dh N env a->Mem w0 L w->c.wpIn (mh N.ro) 0 P Q a w
theorem D8{x y:Code}(h:Cw P N w0 (Exit.then (y.wpIn (mh N.ro) 0 P Q) Q) x env L):Cw P N w0 Q (.seq x y) env L:=fun a w ha hw=>wpIn_seq (h a w ha hw)
theorem D9{id:Nat}{l:List Oper}[ky Q](h:Sq P N w0 l Q l env L)(cy:pY l=true:=by kernel_rfl):Cw P N w0 Q (.region id l.toArray false) env L:=fun a w ha hw=>V0 cy (h a w ha hw)
theorem Ia{ops:Array Oper}{C:World->Prop}{F:Act->Prop}(hC: ∀w w',C w->Mem w [] w'->C w'): ∀(rest:List Oper) (k:Nat) (a:Act),nh P ops [] C F k rest a->wpQuiet P ops C F rest a
 |[],_,_,h=>h
 |o::rest,k,a,h=>by
  unfold nh at h;rw[if_neg (by simp)]at h;unfold wpQuiet;split
  ·
   rename_i hw;rw[if_pos hw]at h;obtain⟨v,h1,h2⟩:=h;refine⟨v,fun w Ea=>?_,Ia hC rest (k+1) _ h2⟩;have h3:=h1 w Ea;unfold Oper.quietAt at h3⊢;generalize(execOp a.eval o).run P w=r at h3;unfold Oper.quietUpon at h3⊢;split at h3
   ·
    exact h3
   ·
    exact h3
   ·
    exact⟨h3.1,by obtain⟨rfl,ui⟩:=h3;exact ui.mono fun e pZ ⟨he,hm⟩=>⟨he,hC _ _ Ea hm⟩⟩
   exact h3.elim
  rename_i hw;rw[if_neg hw]at h;exact Ia hC rest (k+1) _ h
theorem gO{id:Nat}{l:List Oper}[ky Q](hm:P.follows .mixedOrders=true)(hB:Region.lexB .any l.toArray=true)(h:Qt P N w0 l [] (fun a'=> ∀w',Mem w0 L w'->Q .normal a' w') 0 l env L)(cy:pY l=true:=by kernel_rfl):Cw P N w0 Q (.region id l.toArray true) env L:=fun a _ ha hw=>
 V1 cy (C:=Mem w0 L) hm hB hw.DN (by simpa using Ia (fun w w' Ea gp=>by simpa using Ea.call gp) l 0 a (h a ha))
theorem Nv{id:Nat}{l:List Oper}[ky Q](n:Nat)(fs:List Nat)(Lq:List aj)(hq: ∀w,Mem w0 L w->Mem w0 Lq w)(hm:P.follows .mixedOrders=true)(hB:DZ l fs n=true)(h:Qt P N w0 l fs (fun a'=>uh P l n Q w0 Lq fs a' L) 0 (l.take n) env Lq)(cy:pY l=true:=by kernel_rfl):Cw P N w0 Q (.region id l.toArray true) env L:=fun a _ ha hw=>
 Wb n cy hm hB hw.DN hq (h a ha)
theorem vM{id:Nat}{l:List Oper}[ky Q](n:Nat)(fs:List Nat)(hm:P.follows .mixedOrders=true)(hB:DZ l fs n=true)(h:Qt P N w0 l fs (fun a'=>uh P l n Q w0 L fs a' L) 0 (l.take n) env L)(cy:pY l=true:=by kernel_rfl):Cw P N w0 Q (.region id l.toArray true) env L:=
 Nv n fs L (fun _ h=>h) hm hB h cy
theorem je{c:Operand}{x y:Code}{g:Bool}(hc:ev env c=some (.bool g))(hx:g=true->Cw P N w0 Q x env L)(hy:g=false->Cw P N w0 Q y env L):Cw P N w0 Q (.cond c x y) env L:=fun a w ha hw=>
 wpIn_cond_split (ha.ev hc) (fun h=>hx h a w ha hw) (fun h=>hy h a w ha hw)
theorem Nw{id:Nat}{c:Code}(h:Cw P N w0 (Exit.inBlock id Q) c env L):Cw P N w0 Q (.block id c) env L:=fun a w ha hw=>wpIn_block (h a w ha hw)
theorem Nx(h:Ex N w0 Q .normal env L):Cw P N w0 Q .skip env L:=fun a w ha hw=>wpIn_skip (h a w ha hw)
theorem Ny{id:Nat}(h:Ex N w0 Q (.exit id) env L):Cw P N w0 Q (.exit id) env L:=fun a w ha hw=>wpIn_exit (h a w ha hw)
theorem Ib(h:Ex N w0 Q .ret env L):Cw P N w0 Q .ret env L:=fun a w ha hw=>wpIn_ret (h a w ha hw)
theorem bT{c:Code}{X:Type}(xC:X->Env)(LI:X->List aj)(inv:X->Prop)(m:X->Nat)(x0:X)(h0:inv x0)(hs:Sub (xC x0) env)(hL: ∀w,Mem w0 L w->Mem w0 (LI x0) w)
  (round: ∀x,inv x->Cw P N w0 (Exit.then (fun a w=> ∃x',inv x'/\m x'<m x/\dh N (xC x') a/\Mem w0 (LI x') w) Q) c (xC x) (LI x)):Cw P N w0 Q (.loop c) env L:=by
 intro a0 w1 Wu nn b k cs mP hb hr;have key: ∀n x,m x=n->inv x-> ∀a w,dh N (xC x) a->Mem w0 (LI x) w->
   ∃e a' w',Q e a' w'/\ArrivesIn (Machine.fenced P (mh N.ro)) P (lone (b.atR a (.code c:: .inLoop c::k)) cs w) b k cs e a' w':=by
  intro n
  induction n using Nat.strongRecOn with
  |_ n ih=>
   intro x hm hI a w ha hw;obtain⟨e,zo,zp,hq,vN⟩:=round x hI a w ha hw b (.inLoop c::k) cs mP hb hr
   cases e with
   |normal=>
    obtain⟨x',Ww,bb,Eb,gp⟩:=hq;obtain⟨Wx,Wz,WA,WB,WC⟩:=ih (m x') (hm▸bb) x' rfl Ww zo zp Eb gp;exact⟨Wx,Wz,WA,WB, .of_steps (StepsIn.trans vN (.one (fenced_calm hb hr rfl) stepR_inLoop)) WC⟩
   |exit id=>exact⟨_,zo,zp,hq, .pass (x:= .inLoop c) rfl (fun _ _=> .inl (by simp)) vN⟩
   |goto l=>exact⟨_,zo,zp,hq, .pass (x:= .inLoop c) rfl (fun _ _=> .inl (by simp)) vN⟩
   |ret=>exact⟨_,zo,zp,hq, .pass (x:= .inLoop c) rfl (fun _ _=> .inl (by simp)) vN⟩
   |panic ch=>exact⟨_,zo,zp,hq, .pass (x:= .inLoop c) rfl (fun _ _=> .inl (by simp)) vN⟩
   |outgrown=>exact⟨_,zo,zp,hq, .pass (x:= .inLoop c) rfl (fun _ _=> .inl (by simp)) vN⟩
 obtain⟨e,a',w',hq,vN⟩:=key _ x0 rfl h0 a0 w1 (Wu.sub hs) (hL w1 nn);exact⟨e,a',w',hq, .of_steps (.one (fenced_calm hb hr rfl) stepR_loop) vN⟩
theorem Ec{x y:Code}{X:Type}(BH:X->Env)(LJ:X->List aj)(J:X->Prop)
  (h:Cw P N w0 (Exit.then (fun a w=> ∃s,J s/\dh N (BH s) a/\Mem w0 (LJ s) w) Q) x env L) (hy: ∀s,J s->Cw P N w0 Q y (BH s) (LJ s)):Cw P N w0 Q (.seq x y) env L:=fun a w ha hw=>
 wpIn_seq (wpIn_mono (h a w ha hw) fun e a' w' hq=>by
  cases e with
  |normal=>obtain⟨s,hs,hr,hm⟩:=hq;exact hy s hs a' w' hr hm
  |exit id=>exact hq
  |goto l=>exact hq
  |ret=>exact hq
  |panic ch=>exact hq
  |outgrown=>exact hq)
theorem Ed{y:Code}{Q':Exit->Act->World->Prop}(h:Cw P N w0 Q y env L):Ex N w0 (Exit.then (y.wpIn (mh N.ro) 0 P Q) Q') .normal env L:=h
theorem vO{X:Type}{BH:X->Env}{LJ:X->List aj}{J:X->Prop}(s:X)(hJ:J s)(hs:Sub (BH s) env)(hL: ∀w,Mem w0 L w->Mem w0 (LJ s) w):
  Ex N w0 (Exit.then (fun a w=> ∃s,J s/\dh N (BH s) a/\Mem w0 (LJ s) w) Q) .normal env L:=fun _ w ha hw=>⟨s,hJ,ha.sub hs,hL w hw⟩
theorem bn{X:Type}{xC:X->Env}{LI:X->List aj}{inv:X->Prop}{m:X->Nat}{x:X}(x':X)(hI:inv x')(hm:m x'<m x)(hs:Sub (xC x') env)(hL: ∀w,Mem w0 L w->Mem w0 (LI x') w):
  Ex N w0 (Exit.then (fun a w=> ∃x',inv x'/\m x'<m x/\dh N (xC x') a/\Mem w0 (LI x') w) Q) .normal env L:=fun _ w ha hw=>⟨x',hI,hm,ha.sub hs,hL w hw⟩
theorem Nz{K:Act->World->Prop}{id:Nat}(h:Ex N w0 Q (.exit id) env L):Ex N w0 (Exit.then K Q) (.exit id) env L:=h
theorem NA{K:Act->World->Prop}(h:Ex N w0 Q .ret env L):Ex N w0 (Exit.then K Q) .ret env L:=h
theorem NB{id:Nat}(h:Ex N w0 Q .normal env L):Ex N w0 (Exit.inBlock id Q) .normal env L:=h
theorem NC{id:Nat}(h:Ex N w0 Q .normal env L):Ex N w0 (Exit.inBlock id Q) (.exit id) env L:=fun a w ha hw=>by
 simp only[Exit.inBlock,if_true];exact h a w ha hw
theorem ND{id Ee:Nat}(bM:Nat.beq Ee id=false)(h:Ex N w0 Q (.exit Ee) env L):Ex N w0 (Exit.inBlock id Q) (.exit Ee) env L:=fun a w ha hw=>by
 have: ¬Ee=id:=fun e=>by subst e;simp at bM
 simp only[Exit.inBlock,this,if_false];exact h a w ha hw
theorem NF{id:Nat}(h:Ex N w0 Q .ret env L):Ex N w0 (Exit.inBlock id Q) .ret env L:=h
variable {fn:Func} {R:Ending->World->Prop}
theorem gP{n:Nat}{e:Exit}(he:e= .ret\/e= .normal){v:Value}(hr: ∀a w,dh ⟨n,[],none⟩ env a->Mem w0 L w->(results fn a.tmps).run P w= .ok v w)(h: ∀w,Mem w0 L w->R (.returned v) w):Ex ⟨n,[],none⟩ w0 (rE P fn R) e env L:=fun a w ha hw=>by
 have key:LeavesInM (mh none) 0 P fn a.tmps R a.defers .returning w:=by
  rw[ha.defers];exact⟨v,hr a w ha hw,h w hw⟩
 rcases he with rfl|rfl
 ·
  exact⟨.inr rfl,key⟩
 exact⟨.inl rfl,key⟩
theorem kb{t:Nat}{v:Value}(hf:fn.results= #[.tmp t])(hv:look env t=some v): ∀a w,dh N env a->Mem w0 L w->(results fn a.tmps).run P w= .ok v w:=fun a w ha _=>by
 have:=ha.get _ _ hv;simp[results,hf,this]
theorem Ef{t:Nat}{T T':TypeId}{b i n:Nat}{cs:Array Value}(hf:fn.results= #[.cell t T])(hv:look env t=some (.pointer (some ⟨b,0,none⟩)))[ht:fE P T n][hi:Has L b cs T' i][hn:fP cs n]:
  ∀a w,dh N env a->Mem w0 L w->(results fn a.tmps).run P w= .ok (.agg cs) w:=fun a w ha hw=>by
 have h1:=ha.get _ _ hv;have h2:(loadVar T ⟨b,0,none⟩).run P w= .ok (.agg cs) w:=HW w ht hn.h fun j _=>by rw[Addr.gN,hw.cell hi.h,ary]
 simp[results,hf,h1,asAddr,h2]
theorem zq{N:Nat}{f:FuncId}{c:Code}{args:List Value}{w:World}(hf:P.funcs[f]? =some fn)(hb:fn.body=some c)(hN:fn.ntmps=N)(hle:Nat.ble args.length N=true)
  (h:Cw P ⟨N,[],none⟩ w (rE P fn R) c (args.zipIdx.map fun p=>(p.2,p.1)) []):Calls P f args.toArray w R:=
 M8 hf hb (h _ _ (by rw[hN];exact dh.enter args N (Nat.le_of_ble_eq_true hle)) (Mem.init w))
end
theorem Z0(a b:Bool):((a&&b)=true)=(a=true/\b=true):=alM a b
theorem Z1(a b:Bool):((a||b)=true)=(a=true\/b=true):=ar4 a b
theorem Z2{x y:Bool}:(x&&y)=false↔x=false\/y=false:=Bool.and_eq_false_iff
theorem Z3{x y:Bool}:(x||y)=false↔x=false/\y=false:=Bool.or_eq_false_iff
theorem Z4(b:Bool):((!b)=true)=(b=false):=arX b
theorem Z5(b:Bool):((!b)=false)=(b=true):=Bool.not_eq_false' b
theorem Z6{p:Prop}[inst:Decidable p]:(decide p=true)=p:=decide_eq_true_eq
theorem Z7{p:Prop}{x:Decidable p}:decide p=false↔ ¬p:=decide_eq_false_iff_not
theorem Z8(b:Bool):(¬b=true)=(b=false):=Bool.not_eq_true b
theorem Z9(b:Bool):(¬b=false)=(b=true):=Bool.not_eq_false b
structure Sv where
  nil:Bool
  b:Nat
  o:Nat
  len:Nat
  cap:Nat
  sp:Option Nat
def Sv.val(s:Sv):Value:=match s.nil with
  |true=> .slice none 0 0
  |false=> .slice (some ⟨s.b,s.o,s.sp⟩) s.len s.cap
structure Sv.Ok(s:Sv):Prop where
  nil:s.nil=true->s.len=0/\s.cap=0
  le:s.len<=s.cap
  bd:s.len<=140737488355328
  sp:0<s.cap->s.sp=none
theorem Sv.Ok.some{s:Sv}(h:s.Ok)(hl:0<s.len):s.nil=false:=by
  cases hn:s.nil with
  |false=>rfl
  |true=>have:=h.nil hn;omega
theorem Sv.ig{s:Sv}(h:s.nil=false):s.val= .slice (some ⟨s.b,s.o,s.sp⟩) s.len s.cap:=by simp[Sv.val,h]
theorem Sv.sX{s:Sv}(h:s.nil=true):s.val= .slice none 0 0:=by simp[Sv.val,h]
def Sv.none:Sv:=⟨true,0,0,0,0, .none⟩
theorem Sv.BI:Sv.none.Ok:=⟨fun _=>⟨rfl,rfl⟩,aqY _,arn _,fun _=>rfl⟩
theorem Sv.one(s:Sv):s.val.oneCell'=true:=by unfold Sv.val;split<;>rfl
def mQ(h:Nat->Option Obj)(b o:Nat):Option Value:=match h b with
  |some (.cells cs _ _)=>cs[o]?
  |_=>none
abbrev hp(w:World):Nat->Option Obj:=fun k=>w.heap[k]?
theorem rI(w:World)(b o:Nat):w.cell? ⟨b,o,none⟩=mQ (hp w) b o:=by
  unfold World.cell? mQ;split<;>simp_all
class bm{α:Type}(enc:α->Array Value)(c:outParam Nat):Prop where
  size: ∀x,(enc x).size=c
  one: ∀x,(enc x).all (·.oneCell')=true
structure eJ{α:Type}(enc:α->Array Value)(c:Nat)(h:Nat->Option Obj)(s:Sv)(xs:List α):Prop where
  ok:s.Ok
  len:s.len=xs.length
  row: ∀i x,xs[i]? =some x-> ∀j,j<c->mQ h s.b (s.o+i*c+j)=(enc x)[j]?
theorem eJ.some{α:Type}{enc:α->Array Value}{c:Nat}{h:Nat->Option Obj}{s:Sv}{xs:List α}(r:eJ enc c h s xs){i:Nat}(hi:i<xs.length):s.nil=false:=r.ok.some (by rw[r.len];omega)
theorem eJ.nil{α:Type}(enc:α->Array Value)(c:Nat)(h:Nat->Option Obj):eJ enc c h Sv.none ([]:List α):=⟨Sv.BI,rfl,by simp⟩
theorem eJ.bd{α:Type}{enc:α->Array Value}{c:Nat}{h:Nat->Option Obj}{s:Sv}{xs:List α}(r:eJ enc c h s xs):xs.length<=140737488355328:=by have:=r.ok.bd;have:=r.len;omega
theorem eJ.mono{α:Type}{enc:α->Array Value}{c:Nat}[he:bm enc c]{w w':World}{s:Sv}{xs:List α}(r:eJ enc c (hp w) s xs)(hb:Below w.heap.size w w'):eJ enc c (hp w') s xs:=
  ⟨r.ok,r.len,fun i x hi j hj=>by
    have h:=r.row i x hi j hj;rw[←h];have NG:((enc x)[j]?).isSome:=by rw[Array.getElem?_eq_getElem (by rw[he.size];exact hj)];rfl
    rw[←h]at NG;have bb:s.b<w.heap.size:=by
      rcases aqX s.b w.heap.size with h'|h'
      ·exact h'
      ·simp[mQ,hp,ar7 h']at NG
    have e:(hp w') s.b=(hp w) s.b:=hb.block s.b bb;unfold mQ;rw[e]⟩
def Ic(n:Nat)(fz:Nat×Nat):Prop:= ∀j,j<n-> ¬(fz.1<=j/\j<fz.2)
theorem Ie(n:Nat):Ic n (0,0):=fun j _ h=>by have:=h.2;simp at this
def own{α:Type}(enc:α->Array Value)(c:Nat)(s:Sv)(xs:List α):aj:=
  ⟨fun k=>s.nil=false/\k=s.b,fun h=>eJ enc c h s xs/\(s.nil=false->s.sp= .none/\ ∃cs T fz,h s.b=some (.cells cs T fz)/\s.o+s.cap*c<=cs.size/\Ic cs.size fz/\(1<c->fz=(0,0))),
   fun h h' e st=>by
    cases hn:s.nil with
    |true=>
     refine⟨⟨st.1.ok,st.1.len,fun i x hi=>?_⟩,fun h=>by cases h⟩;have:=st.1.some (ad2.1 hi).1;rw[hn]at this;cases this
    |false=>
     have e1:=e s.b ⟨hn,rfl⟩;refine⟨⟨st.1.ok,st.1.len,fun i x hi j hj=>?_⟩,fun _=>?_⟩
     ·rw[←st.1.row i x hi j hj];unfold mQ;rw[e1]
     ·rw[e1];exact st.2 hn⟩
section
variable {P:Program} {N:ct} {w0:World} {env:Env} {L:List aj} {d:Option Tmp} {ty:TypeId} {ps:String} {af:Array Edge} {gd:Option (Nat×Bool)}
variable {α:Type} {enc:α->Array Value} {c:Nat} {s:Sv} {xs:List α}
def Holds(w0:World)(L:List aj){α:Type}(enc:α->Array Value)(c:Nat)(s:Sv)(xs:List α):Prop:= ∀w,Mem w0 L w->eJ enc c (hp w) s xs
theorem BJ[bm enc c](r:eJ enc c (hp w0) s xs):Holds w0 L enc c s xs:=fun _ hw=>r.mono hw.below
class At(L:List aj)(e:aj)(i:outParam Nat):Prop where
  h:L[i]? =some e
instance (priority:=high) At.here {L:List aj}{e:aj}:At (e::L) e 0:=⟨rfl⟩
instance At.there{L:List aj}{e x:aj}{i:Nat}[q:At L e i]:At (x::L) e (i+1):=⟨by simpa using q.h⟩
theorem sY{t e:TypeId}{x:Operand}{m n:Nat}[ht:fh P t e m](hx:ev env x=some s.val)(hs:s.Ok)(hn:s.len=n):
    Ry P N w0 env L ⟨d, .call {callee:= .builtin .len,args:= #[x],argTypes:= #[t]},ty,ps,af,gd⟩ (.int .i64 n):=by
  subst hn
  cases h:s.nil with
  |false=>rw[Sv.ig h]at hx;exact xx hx
  |true=>
   rw[Sv.sX h]at hx;rw[(hs.nil h).1];exact xx hx
theorem mn{t e:TypeId}{x ix:Operand}{m i:Nat}{k:IntKind}{j:Int}[ht:fh P t e m](hx:ev env x=some s.val)(hj:ev env ix=some (.int k j))(ej:j=(i:Int))(hs:s.Ok)(h1:i<s.len):
    Ry P N w0 env L ⟨d, .indexAddr t x ix,ty,ps,af,gd⟩ (.pointer (some ⟨s.b,s.o+i*m,none⟩)):=by
  subst ej;rw[Sv.ig (hs.some (by omega)),hs.sp (by have:=hs.le;omega)]at hx;have:=Nk (P:=P) (N:=N) (w0:=w0) (L:=L) (d:=d) (ty:=ty) (ps:=ps) (af:=af) (gd:=gd) (t:=t) hx hj (by omega) (by omega);simpa using this
theorem Eg{t:TypeId}{x:Operand}{i p:Nat}{a:α}[ht:fE P t c][he:bm enc c](hx:ev env x=some (.pointer (some ⟨s.b,p,none⟩)))(hR:Holds w0 L enc c s xs)(hi:xs[i]? =some a)(fv:p=s.o+i*c):
    Ry P N w0 env L ⟨d, .load t x,ty,ps,af,gd⟩ (.agg (enc a)):=BD ht hx (he.size a) fun w hw j hj=>by
  rw[Addr.gN,rI,fv,(hR w hw).row i a hi j hj]
theorem Ig{t:TypeId}{x:Operand}{i p j:Nat}{a:α}{v:Value}[ht:fK P t](hx:ev env x=some (.pointer (some ⟨s.b,p,none⟩)))(hR:Holds w0 L enc c s xs)(hi:xs[i]? =some a)(fv:p=s.o+i*c+j)(hj:j<c)(hv:(enc a)[j]? =some v):
    Ry P N w0 env L ⟨d, .load t x,ty,ps,af,gd⟩ v:=ze ht hx fun w hw=>by
  rw[rI,fv,(hR w hw).row i a hi j hj,hv]
theorem Ih{t:TypeId}{x:Operand}{i p j n:Nat}{a:α}{sub:Array Value}[ht:fE P t n](hx:ev env x=some (.pointer (some ⟨s.b,p,none⟩)))(hR:Holds w0 L enc c s xs)(hi:xs[i]? =some a)(fv:p=s.o+i*c+j)(hj:j+n≤c)[hs:nk (enc a) j n sub]:
    Ry P N w0 env L ⟨d, .load t x,ty,ps,af,gd⟩ (.agg sub):=BD ht hx hs.size fun w hw k hk=>by
  rw[Addr.gN,rI,fv,ast,(hR w hw).row i a hi (j+k) (by omega)];exact hs.h k hk
def Sv.sub(s:Sv)(c lo hi:Nat):Sv:=⟨s.nil,s.b,if s.cap=lo then s.o else s.o+lo*c,hi -lo,s.cap -lo,s.sp⟩
theorem Sv.Ok.sub{lo hi:Nat}(h:s.Ok)(h2:hi<=s.cap)(h3:hi<=s.len):(s.sub c lo hi).Ok:=
  ⟨fun hn=>by have:=h.nil hn;simp only[Sv.sub];omega,by simp only[Sv.sub];omega,by have:=h.bd;simp only[Sv.sub];omega,fun hc=>h.sp (by simp only[Sv.sub]at hc;omega)⟩
theorem eJ.sub{h:Nat->Option Obj}(r:eJ enc c h s xs){lo hi:Nat}(h1:lo<=hi)(h2:hi<=xs.length):eJ enc c h (s.sub c lo hi) ((xs.drop lo).take (hi -lo)):=by
  have hl:=r.len;have hc:=r.ok.le;refine⟨r.ok.sub (by omega) (by omega),by simp[Sv.sub];omega,fun i x pn j hj=>?_⟩;have bb:i<hi -lo:=by
    have:=(ad2.1 pn).1;simp at this;omega
  rw[as1,if_pos bb,asa]at pn;have:=r.row (lo+i) x pn j hj;rw[←this];have e:(s.sub c lo hi).o=s.o+lo*c:=by
    simp only[Sv.sub];rw[if_neg (by omega)]
  rw[e,show(s.sub c lo hi).b=s.b from rfl];congr 1;rw[ars];omega
theorem Holds.sub(r:Holds w0 L enc c s xs){lo hi:Nat}(h1:lo<=hi)(h2:hi<=xs.length):Holds w0 L enc c (s.sub c lo hi) ((xs.drop lo).take (hi -lo)):=fun w hw=>(r w hw).sub h1 h2
theorem zr{t e:TypeId}(hu:P.underlying t=some (.slice e)):P.elem t=e:=by simp[Program.elem,hu]
theorem Ii{lo hi:Nat}(hs:s.Ok)(h2:lo<=hi)(h:hi<=s.cap): ∀a len cap,s.val= .slice a len cap->len=s.len/\cap=s.cap/\sliced a lo hi cap c=(s.sub c lo hi).val:=by
  intro a len cap e
  cases hn:s.nil with
  |true=>
   rw[Sv.sX hn]at e;obtain⟨rfl,rfl,rfl⟩:=by simpa using e
   have:=hs.nil hn;have e2:(s.sub c lo hi).nil=true:=hn;rw[Sv.sX e2];have:lo=0:=by omega
   have:hi=0:=by omega
   subst lo hi;exact⟨by omega,by omega,by simp[sliced]⟩
  |false=>
   rw[Sv.ig hn]at e;obtain⟨rfl,rfl,rfl⟩:=by simpa using e
   have e2:(s.sub c lo hi).nil=false:=hn;rw[Sv.ig e2];refine⟨rfl,rfl,?_⟩;simp only[sliced,Sv.sub]
   by_cases hc:s.cap=lo
   ·simp[hc]
   ·have gv:=hs.sp (by omega)
    simp[hc,gv,Addr.gN]
theorem Sv.ex(s:Sv): ∃ad len cap,s.val= .slice ad len cap:=by unfold Sv.val;split<;>exact⟨_,_,_,rfl⟩
theorem Eh{t e:TypeId}{x lo hi:Operand}{m l h:Nat}{k k':IntKind}{il ih:Int}[ht:fh P t e m](hx:ev env x=some s.val)(hl:ev env lo=some (.int k il))(hh:ev env hi=some (.int k' ih))(el:il=(l:Int))(eh:ih=(h:Int))(hs:s.Ok)(h1:l≤h)(h2:h≤s.cap):
    Ry P N w0 env L ⟨d, .slice t x (some lo) (some hi) none,ty,ps,af,gd⟩ (s.sub m l h).val:=fun a w ha _=>by
  subst el eh;have ee:=zr ht.eU;have hu:P.underlying t=some (.slice (P.elem t)):=by rw[ee];exact ht.eU
  obtain⟨ad,len,cap,od⟩:=s.ex;obtain⟨e1,e2,e3⟩:=Ii (c:=m) hs h1 h2 ad len cap od;have hr:=run_slice_lh (P:=P) (w:=w) t ad len cap hu k k' (l:Int) (h:Int) (by omega) (by omega) (by omega);rw[ee,kY w ht.size]at hr;simp only[Result.andThen,arN,e3]at hr;simp only[execOp,ha.ev hx,ha.ev hl,ha.ev hh,od,arE,Option.map_none,run_sliceAt_slice (h:=hu),hr,Sem.run_bind,Result.andThen,Sem.run_pure]
theorem vP{t e:TypeId}{x hi:Operand}{m h:Nat}{k':IntKind}{ih:Int}[ht:fh P t e m](hx:ev env x=some s.val)(hh:ev env hi=some (.int k' ih))(eh:ih=(h:Int))(hs:s.Ok)(h2:h≤s.cap):
    Ry P N w0 env L ⟨d, .slice t x none (some hi) none,ty,ps,af,gd⟩ (s.sub m 0 h).val:=fun a w ha _=>by
  subst eh;have ee:=zr ht.eU;have hu:P.underlying t=some (.slice (P.elem t)):=by rw[ee];exact ht.eU
  obtain⟨ad,len,cap,od⟩:=s.ex;obtain⟨e1,e2,e3⟩:=Ii (c:=m) hs (arn h) h2 ad len cap od;have hr:=run_slice_h (P:=P) (w:=w) t ad len cap hu k' (h:Int) (by omega) (by omega);rw[ee,kY w ht.size]at hr;simp only[Result.andThen,arN,e3]at hr;simp only[execOp,ha.ev hx,ha.ev hh,od,arE,Option.map_none,run_sliceAt_slice (h:=hu),hr,Sem.run_bind,Result.andThen,Sem.run_pure]
theorem sZ{t e:TypeId}{x lo:Operand}{m l n:Nat}{k:IntKind}{il:Int}[ht:fh P t e m](hx:ev env x=some s.val)(hl:ev env lo=some (.int k il))(el:il=(l:Int))(hs:s.Ok)(hn:s.len=n)(h1:l≤n):
    Ry P N w0 env L ⟨d, .slice t x (some lo) none none,ty,ps,af,gd⟩ (s.sub m l n).val:=fun a w ha _=>by
  subst el hn;have ee:=zr ht.eU;have hu:P.underlying t=some (.slice (P.elem t)):=by rw[ee];exact ht.eU
  obtain⟨ad,len,cap,od⟩:=s.ex;obtain⟨e1,e2,e3⟩:=Ii (c:=m) hs h1 hs.le ad len cap od;have hle:=hs.le;have hr:=run_slice_l (P:=P) (w:=w) t ad len cap hu k (l:Int) (by omega) (by omega);rw[ee,kY w ht.size]at hr;simp only[Result.andThen,arN,e1]at hr;rw[e1]at od;rw[e3]at hr;simp only[execOp,ha.ev hx,ha.ev hl,od,arE,Option.map_none,run_sliceAt_slice (h:=hu),hr,Sem.run_bind,Result.andThen,Sem.run_pure]
end
theorem set_perm(x:aj): ∀(L:List aj) (i:Nat),i<L.length->(x::L.eraseIdx i).Perm (L.set i x)
  |[],_,h=>by simp at h
  |_::_,0,_=>by simp
  |a::L,i+1,h=>by
   simp only[atK,ath];exact(List.Perm.swap a x _).trans ((set_perm x L i (by simpa using h)).cons a)
theorem Mem.swap{w w':World}{E:aj}(h:Mem w0 L w){i:Nat}(hi:i<L.length)(h':Mem w [E] w'):Mem w0 (L.set i E) w':=
  ((h.call h').sub (L':=E::L.eraseIdx i) ((List.eraseIdx_sublist L i).cons_cons E)).perm (set_perm E L i hi)
theorem At.lt{L:List aj}{e:aj}{i:Nat}(h:L[i]? =some e):i<L.length:=(ad2.1 h).1
class fa(P:Program)(t:TypeId)(e:outParam TypeId)(c:outParam Nat)(cE:outParam Nat):Prop where
  eU:P.underlying t=some (.slice e)
  row:(P.info? e).map (fun i=>(i.zero.map (·.cells.size),i.size,i.bytes))=some (some c,c,cE)
theorem fa.info{P:Program}{t e:TypeId}{c cE:Nat}(h:fa P t e c cE): ∃i z,P.info? e=some i/\i.zero=some z/\i.size=c/\i.bytes=cE/\z.cells.size=c:=by
  have h:=h.row
  cases hi:P.info? e with
  |none=>simp[hi]at h
  |some i=>
   cases hz:i.zero with
   |none=>simp[hi,hz]at h
   |some z=>simp[hi,hz]at h;exact⟨i,z,rfl,hz,h.2.1,h.2.2,h.1⟩
theorem uu{cs vs:Array Value}{o j:Nat}(ho:o+vs.size<=cs.size):(over cs o vs)[j]? =if o<=j/\j<o+vs.size then vs[j -o]?else cs[j]? :=by
  unfold over;simp only[aso];rw[aq6,List.getElem?_append];have e1:(List.take o cs.toList).length=o:=by simp;omega
  rw[e1]
  by_cases h1:j<o
  ·rw[if_pos h1,if_neg (by omega),as1,if_pos h1];simp
  ·rw[if_neg h1,List.getElem?_append]
   by_cases h2:j -o<vs.toList.length
   ·rw[if_pos h2,if_pos (by simp at h2;omega)];simp
   ·rw[if_neg h2,if_neg (by simp at h2;omega),asa]
    simp at h2⊢;congr 1;omega
theorem og{cs vs:Array Value}{o:Nat}(ho:o+vs.size<=cs.size):(over cs o vs).size=cs.size:=by
  simp[over];omega
theorem BK{P:Program}(g o:Nat)(t:TypeId)(fz:Nat×Nat): ∀(vs:List Value) (i:Nat) (cur:Array Value) (w:World),w.heap[g]? =some (.cells cur t fz)→Ic cur.size fz→o+i+vs.length≤cur.size→(∀v∈vs,v.oneCell'=true)→
    (storeCells ⟨g,o,none⟩ vs i).run P w= .ok () (w.setRow g (cur.toList.take (o+i)++vs++cur.toList.drop (o+i+vs.length)).toArray)
  |[],i,cur,w,hg,_,_,_=>by
   simp only[storeCells,arL,aqS,arP,arC,Array.toArray_toList];rw[setRow_self w g cur t fz hg];rfl
  |v::rest,i,cur,w,hg,hf,hl,h1=>by
   have hi:o+i<cur.size:=by simp at hl;omega
   have Ij:(⟨g,o,none⟩:Addr).add i=⟨g,o+i,none⟩:=by unfold Addr.add;split<;>simp_all
   have zt:w.cell? ⟨g,o+i,none⟩=some cur[o+i]:=by simp[World.cell?,hg,hi]
   have WD:w.frozen? ⟨g,o+i,none⟩=false:=by
      have:=hf (o+i) hi;obtain⟨a,b⟩:=fz;simp only[World.frozen?,hg];simp only[Bool.and_eq_false_iff,decide_eq_false_iff_not];omega
   have bu:(store ((⟨g,o,none⟩:Addr).add i) v).run P w= .ok () (w.setRow g (cur.setIfInBounds (o+i) v)):=by
      rw[Ij,run_store P w _ v _ (h1 v (by simp)),zt];simp[WD,setCell_eq_setRow w g (o+i) cur t fz v hg]
   have ih:=BK (P:=P) g o t fz rest (i+1) (cur.setIfInBounds (o+i) v) (w.setRow g (cur.setIfInBounds (o+i) v)) (setRow_heap w g cur _ t _ hg) (by simpa using hf) (by simp at hl⊢;omega) (fun x hx=>h1 x (by simp[hx]));simp only[storeCells,Sem.run_bind,bu,Result.andThen_ok,ih,setRow_setRow];congr 3;have e:=list_seg_step cur.toList (o+i) v rest (by simp at hl⊢;omega);simpa[Array.toList_setIfInBounds,ast]using e
section
variable {α:Type} {enc:α->Array Value} {c:Nat}
def aJ(enc:α->Array Value)(xs:List α):List Value:=xs.flatMap fun x=>(enc x).toList
theorem gQ[he:bm enc c]: ∀xs:List α,(aJ enc xs).length=xs.length*c
  |[]=>by simp[aJ]
  |x::xs=>by
   have:=gQ xs;simp only[aJ,atB,af0]at this⊢;rw[this,asT,he.size,aqQ,ars];omega
theorem np[he:bm enc c]: ∀(xs:List α) (i:Nat) (x:α),xs[i]? =some x-> ∀j,j<c->(aJ enc xs)[i*c+j]? =(enc x)[j]?
  |[],i,x,h,_,_=>by simp at h
  |y::xs,0,x,h,j,hj=>by
   obtain rfl:y=x:=by simpa using h
   simp only[aJ,atB,Nat.zero_mul,ary];rw[aq4 (by rw[asT,he.size];exact hj)];simp
  |y::xs,i+1,x,h,j,hj=>by
   have:=np xs i x (by simpa using h) j hj;simp only[aJ,atB]at this⊢;rw[aq3 (by rw[asT,he.size,ars];omega),asT,he.size];rw[←this];congr 1;rw[ars];omega
theorem Ei(hc:0<c)[he:bm enc c]{xs:List α}{k:Nat}{v:Value}(h:(aJ enc xs)[k]? =some v): ∃x,xs[k/c]? =some x/\(enc x)[k%c]? =some v:=by
  have hk:k<xs.length*c:=by
    have:=(ad2.1 h).1;rwa [gQ]at this
  have hd:k/c<xs.length:=atG (by rwa [asj]);refine⟨xs[k/c],by simp[hd],?_⟩;rw[←np xs (k/c) xs[k/c] (by simp[hd]) (k%c) (asX _ hc),←h];congr 1;rw[asj];exact asY k c
theorem uv[he:bm enc c](xs:List α): ∀u∈aJ enc xs,u.oneCell'=true:=fun u hu=>by
  obtain⟨x,_,hx⟩:=List.mem_flatMap.1 hu;exact(arx.1 (he.one x)) u (by simpa using hx)
theorem vQ{h:Nat→Option Obj}{s:Sv}{xs:List α}{cs:Array Value}{T:TypeId}{fz:Nat×Nat}(ok:s.Ok)(hl:s.len=xs.length)(hb:h s.b=some (.cells cs T fz))
    (hc: ∀i x,xs[i]? =some x-> ∀j,j<c->cs[s.o+i*c+j]? =(enc x)[j]?):eJ enc c h s xs:=
  ⟨ok,hl,fun i x hi j hj=>by unfold mQ;rw[hb];exact hc i x hi j hj⟩
theorem ke{P:Program}{tx e':TypeId}(hk:P.underlying tx=some (.slice e'))(hc:0<c)[he:bm enc c]{w:World}{s:Sv}{xs:List α}(r:eJ enc c (hp w) s xs):Src P c tx s.val xs.length (aJ enc xs) w:=by
  cases hn:s.nil with
  |true=>
   have:xs=[]:=by have:=(r.ok.nil hn).1;rw[r.len]at this;exact arb.1 this
   subst this;rw[Sv.sX hn];exact Src.ofNil w hk 0
  |false=>
   rw[Sv.ig hn,r.len];refine Src.ofSlice w hk _ _ _ _ (gQ xs) (fun j u hu=>?_) (uv xs);obtain⟨x,hx,Ik⟩:=Ei hc hu;have gv:=r.ok.sp (by have h1:=asE (arn _) (ad2.1 hx).1;have:=r.len;have:=r.ok.le;omega);rw[gv,Addr.gN,rI,←Ik,←r.row _ x hx (j%c) (asX _ hc)];congr 1;have:=asY j c;rw[asj]at this;omega
theorem Il{P:Program}{t tx ty e:TypeId}{cE:Nat}(ht:fa P t e c cE)(hc:0<c)[he:bm enc c]{w0 w:World}{L:List aj}{i:Nat}{s:Sv}{xs ys:List α}{x:Value}
    (hw:Mem w0 L w) (hi:L[i]? =some (own enc c s xs)) (hs:Src P c tx x ys.length (aJ enc ys) w) (hb:(xs.length+ys.length)*cE<=140737488355328) (ju:xs.length+ys.length<=140737488355328):
    ∃s' w',(Builtin.append_ #[t,tx] ty #[s.val,x]).run P w= .ok (Sv.val s') w'/\s'.Ok/\s'.len=(xs++ys).length/\Mem w0 (L.set i (own enc c s' (xs++ys))) w':=by
  obtain⟨r,oh⟩:=hw.get hi;obtain⟨i',z,bc,aH,bB,cT,nq⟩:=ht.info;subst bB cT;have hlen:=r.len;have hle:=r.ok.le
  have grow:s.cap<s.len+ys.length→ ∀(base:Option Addr),s.val= .slice base s.len s.cap→(Builtin.firstCells i'.size s.len (.slice base s.len s.cap)).run P w.drew= .ok (aJ enc xs).toArray w.drew→
      ∃s' w',(Builtin.append_ #[t,tx] ty #[s.val,x]).run P w= .ok (Sv.val s') w'/\s'.Ok/\s'.len=(xs++ys).length/\Mem w0 (L.set i (own enc i'.size s' (xs++ys))) w':=by
    intro hg base hv hold;have uw:=nextslicecap_le hg;have jf:Builtin.nextslicecap (s.len+ys.length) s.cap*i'.bytes<=281474976710656:=by
      have h2:Builtin.nextslicecap (s.len+ys.length) s.cap*i'.bytes<=2*(s.len+ys.length)*i'.bytes:=ara _ uw;rw[Nat.mul_assoc,hlen]at h2;rw[hlen];omega
    have hr:=run_append_grow_src w t tx ty e i' z ht.eU bc aH base s.len s.cap (aJ enc xs) hold x ys.length (aJ enc ys) hs hg (by omega) jf;have s0:=grownCap_ge w (s.len+ys.length) s.cap e;generalize grownCap w (s.len+ys.length) s.cap e=C at hr s0;refine⟨⟨false,w.heap.size,0,s.len+ys.length,C,none⟩,_,by rw[hv,hr];rfl,⟨(fun h=>by cases h),s0,by simp only;omega,fun _=>rfl⟩,by simp[hlen],hw.swap (At.lt hi) ?_⟩;have hm:=(Mem.init w).drew.alloc ((aJ enc xs++aJ enc ys).toArray++Builtin.zeroCells z.cells (C -(s.len+ys.length))) e;refine⟨hm.below,fun q hq=>?_,fun q hq k hk=>?_,by simp⟩
    ·obtain rfl:=arp.1 hq
     have fj:hp (w.drew.alloc (.cells ((aJ enc xs++aJ enc ys).toArray++Builtin.zeroCells z.cells (C -(s.len+ys.length))) e)) w.heap.size=some (.cells ((aJ enc xs++aJ enc ys).toArray++Builtin.zeroCells z.cells (C -(s.len+ys.length))) e (0,0)):=Below.DO w.drew _;have eO:aJ enc xs++aJ enc ys=aJ enc (xs++ys):=by simp[aJ]
     rw[eO]at fj;rw[eO];have eZ:(aJ enc (xs++ys)).length=(xs.length+ys.length)*i'.size:=by rw[gQ];simp
     refine⟨vQ (enc:=enc) (c:=i'.size) (xs:=xs++ys) ⟨(fun h=>by cases h),s0,by simp only;omega,fun _=>rfl⟩ (by simp[hlen]) fj fun k y hy j hj=>?_,fun _=>⟨rfl,_,_,_,fj,?_,Ie _,fun _=>rfl⟩⟩
     ·have ux:=np (enc:=enc) (xs++ys) k y hy j hj
      have bb:k*i'.size+j<(aJ enc (xs++ys)).length:=by
          rw[eZ];have h1:=(ad2.1 hy).1;rw[af0]at h1
          calc k*i'.size+j<k*i'.size+i'.size:=by omega
            _=(k+1)*i'.size:=by rw[ars];omega
            _<=_:=ara _ h1
      simp only[ary];rw[←ux,asO (by simpa using bb)];simp
     ·have h3:=size_zeroCells z.cells (C -(s.len+ys.length))
      rw[nq]at h3;simp only[atn,arO,h3,eZ,ary];rw[←ars,hlen];refine ara _ ?_;omega
    ·obtain rfl:=arp.1 hq
     obtain rfl:k=w.heap.size:=hk.2;simp
  cases hn:s.nil with
  |true=>
   have h0:=r.ok.nil hn;have eE:xs=[]:=by rw[hlen]at h0;exact arb.1 h0.1
   subst eE
   by_cases hy:ys.length=0
   ·have nr:ys=[]:=arb.1 hy
    subst nr;refine⟨s,w,?_,r.ok,by simpa using hlen,?_⟩
    ·rw[Sv.sX hn]
     have qb:=hs.cells;simp only[aqS]at qb;rcases hs.kind with⟨e',hk⟩|hk<;>simp[Builtin.append_,run_underlying ht.eU,run_underlying hk,sizeOf,typeInfo,bc,hs.len,qb]
    ·have:L.set i (own enc i'.size s ([]++[]))=L:=by
          rw[arL];refine arS fun k=>?_;rw[arD]
          by_cases hk:i=k
          ·subst hk;rw[if_pos rfl,hi,if_pos (At.lt hi)]
          ·rw[if_neg hk]
     rw[this];exact hw
   ·refine grow (by omega) .none (by rw[Sv.sX hn,h0.1,h0.2]) ?_
    rw[h0.1,h0.2];exact run_firstCells_none w.drew _ _ _ _
  |false=>
   obtain⟨gv,cs,T,fz,fj,eZ,mR,nt⟩:=oh hn
   by_cases om:s.len+ys.length<=s.cap
   ·have hmul:(s.len+ys.length)*i'.size<=s.cap*i'.size:=ara _ om
    have eO:(aJ enc ys).length=ys.length*i'.size:=gQ ys
    have jf:s.o+s.len*i'.size+(aJ enc ys).toArray.size≤cs.size:=by
        rw[arO,eO];rw[ars]at hmul;omega
    have bu:=BK (P:=P) s.b (s.o+s.len*i'.size) T fz (aJ enc ys) 0 cs w fj mR (by simpa using jf) hs.one
    have BL:(storeCells ⟨s.b,s.o+s.len*i'.size,none⟩ (aJ enc ys)).run P w= .ok () (w.setRow s.b (over cs (s.o+s.len*i'.size) (aJ enc ys).toArray)):=by
        simpa[over]using bu
    refine⟨{s with len:=s.len+ys.length},w.setRow s.b (over cs (s.o+s.len*i'.size) (aJ enc ys).toArray),?_,⟨(fun h=>by rw[hn]at h;cases h),om,by simp only;omega,r.ok.sp⟩,by simp[hlen],?_⟩
    ·have lM:({s with len:=s.len+ys.length}:Sv).val= .slice (some ⟨s.b,s.o,s.sp⟩) (s.len+ys.length) s.cap:=Sv.ig (s:={s with len:=s.len+ys.length}) hn
     rw[Sv.ig hn,lM,gv];rcases hs.kind with⟨e',hk⟩|hk<;>simp[Builtin.append_,run_underlying ht.eU,run_underlying hk,sizeOf,typeInfo,bc,hs.len,om,hs.cells,Addr.gN,BL]
    ·have cU:hp (w.setRow s.b (over cs (s.o+s.len*i'.size) (aJ enc ys).toArray)) s.b=some (.cells (over cs (s.o+s.len*i'.size) (aJ enc ys).toArray) T fz):=setRow_heap w s.b cs _ T fz fj
     refine hw.change hi (fun k hk=>hk) (fun k hk=>?_) (by simp[World.setRow]) ⟨rfl,rfl,rfl⟩ ⟨vQ ⟨(fun h=>by rw[hn]at h;cases h),om,by simp only;omega,r.ok.sp⟩ (by simp[hlen]) cU fun k y hy j hj=>?_,fun _=>⟨gv,_,_,_,cU,?_,by rw[og jf];exact mR,nt⟩⟩
     ·exact setRow_other w s.b k _ (fun e=>hk ⟨hn,e⟩)
     ·rw[uu jf]
      by_cases hk:k<xs.length
      ·rw[if_neg,←r.row k y (by rw[aq4 hk]at hy;exact hy) j hj]
       ·unfold mQ;rw[fj]
       ·have:(k+1)*i'.size<=s.len*i'.size:=ara _ (by omega)
        rw[ars]at this;intro h;have:=h.1;simp only at this;omega
      ·rw[aq3 (by omega)]at hy
       have ux:=np (enc:=enc) ys (k -xs.length) y hy j hj;have oo:s.len*i'.size+(k -xs.length)*i'.size=k*i'.size:=by rw[←ars];congr 1;omega
       have bb:(k -xs.length+1)*i'.size<=ys.length*i'.size:=ara _ (by have:=(ad2.1 hy).1;omega);rw[ars]at bb;rw[if_pos ⟨by simp only;omega,by rw[arO,eO];simp only;omega⟩,←ux];simp only[aso];congr 1;omega
     ·rw[og jf];exact eZ
   ·refine grow (by omega) _ (by rw[Sv.ig hn,gv]) ?_
    refine run_firstCells_some w.drew _ _ _ _ _ _ (by rw[gQ,hlen]) fun j u hu=>?_;obtain⟨y,hy,Ik⟩:=Ei hc hu;have:=r.row _ y hy (j%i'.size) (asX _ hc);rw[Ik]at this;rw[Addr.gN];show w.cell? _=_;rw[rI,←this];congr 1;have h9:=asY j i'.size;rw[asj]at h9;omega
theorem NH(off:Nat): ∀(vs:List Value) (k:Nat) (cs:Array Value),off+k+vs.length≤cs.size→
    (vs.zipIdx k).foldl (fun cs (p:Value×Nat)=>cs.setIfInBounds (off+p.2) p.1) cs=(cs.toList.take (off+k)++vs++cs.toList.drop (off+k+vs.length)).toArray
  |[],k,cs,_=>by simp
  |v::vs,k,cs,h=>by
   simp only[List.zipIdx_cons,asw,aqQ]at h⊢;rw[NH off vs (k+1) _ (by simp;omega)];apply atF;have e1:(cs.setIfInBounds (off+k) v).toList=cs.toList.set (off+k) v:=by simp
   rw[e1];have bb:off+k<cs.toList.length:=by simp;omega
   have e2:(cs.toList.set (off+k) v).take (off+(k+1))=cs.toList.take (off+k)++[v]:=by
      rw[←ast,aq0,atr (aqY _),aq7 bb];rfl
   have e3:(cs.toList.set (off+k) v).drop (off+(k+1)+vs.length)=cs.toList.drop (off+k+(vs.length+1)):=by
      rw[List.drop_set_of_lt (by omega)];congr 1;omega
   rw[e2,e3];simp
def idx(vals:List Value)(i:Nat):List (Nat×Value):=(vals.zipIdx i).map fun p=>(p.2,p.1)
theorem NI[he:bm enc c]: ∀(xs:List α) (vals:List Value) (i:Nat) (cs:Array Value),vals.map Value.cells=xs.map enc→i*c+xs.length*c≤cs.size→
    Instr.fill (fun i=>some (i*c,c)) cs (idx vals i)=some (cs.toList.take (i*c)++aJ enc xs++cs.toList.drop (i*c+xs.length*c)).toArray
  |[],[],i,cs,_,_=>by simp[idx,Instr.fill,aJ]
  |[],_::_,_,_,h,_=>by simp at h
  |_::_,[],_,_,h,_=>by simp at h
  |x::xs,v::vals,i,cs,h,hs=>by
   simp only[arh,atw]at h;obtain⟨h1,h2⟩:=h;have eZ:v.cells.size=c:=by rw[h1];exact he.size x
   rw[aqQ,ars,Nat.one_mul]at hs;simp only[idx,List.zipIdx_cons,arh,Instr.fill,eZ];rw[if_neg (by simp;omega)]
   have ef:v.cells.zipIdx.foldl (fun cs (p:Value×Nat)=>cs.setIfInBounds (i*c+p.2) p.1) cs=(cs.toList.take (i*c)++v.cells.toList++cs.toList.drop (i*c+c)).toArray:=by
      have:=NH (i*c) v.cells.toList 0 cs (by simp;omega);simp only[arP]at this;rw[←Array.foldl_toList,Array.toList_zipIdx,this];simp[eZ]
   have WE:(v.cells.zipIdx.foldl (fun cs (x:Value×Nat)=>match x with|(c',j)=>cs.setIfInBounds (i*c+j) c') cs)=(cs.toList.take (i*c)++v.cells.toList++cs.toList.drop (i*c+c)).toArray:=ef
   rw[WE];have qP:(cs.toList.take (i*c)++v.cells.toList).length=(i+1)*c:=by simp[eZ,ars];omega
   have:=NI xs vals (i+1) (cs.toList.take (i*c)++v.cells.toList++cs.toList.drop (i*c+c)).toArray h2 (by simp[eZ,ars];omega);unfold idx at this;rw[this];congr 1;apply atF;rw[List.take_left' qP,←asS (j:=(i+1)*c) (i:=xs.length*c),List.drop_left' qP];simp only[aJ,atB,h1,aq6,List.append_cancel_left_eq];rw[asS,aqQ,show i*c+c+xs.length*c=i*c+(xs.length+1)*c by rw[ars];omega]
end
section
variable {P:Program} {N:ct} {w0:World} {env:Env} {L:List aj} {l:List Oper} {Q:Exit->Act->World->Prop} {rest:List Oper} {d:Option Tmp} {ty:TypeId} {ps:String} {af:Array Edge}
variable {α:Type} {enc:α->Array Value} {c:Nat} {s:Sv} {xs ys:List α}
class fw(L:List aj)(s:Sv){α:outParam Type}(enc:outParam (α->Array Value))(c:outParam Nat)(xs:outParam (List α))(i:outParam Nat):Prop where
  h:L[i]? =some (own enc c s xs)
instance (priority:=high) fw.here {L:List aj}:fw (own enc c s xs::L) s enc c xs 0:=⟨rfl⟩
instance fw.there{L:List aj}{e:aj}{i:Nat}[q:fw L s enc c xs i]:fw (e::L) s enc c xs (i+1):=⟨by simpa using q.h⟩
theorem fw.holds{i:Nat}(q:fw L s enc c xs i):Holds w0 L enc c s xs:=fun _ hw=>(hw.get q.h).1
theorem Mem.dH{w:World}(enc:α->Array Value)(c:Nat)(h:Mem w0 L w):Mem w0 (own enc c Sv.none []::L) w:=
  h.call (E:=[own enc c Sv.none []]) ⟨Below.refl _ _,fun e he=>by
    obtain rfl:=arp.1 he;exact⟨eJ.nil enc c _,(fun h=>by cases h)⟩,fun e he k hk=>by
    obtain rfl:=arp.1 he;exact absurd hk.1 (by simp[Sv.none]),by simp⟩
theorem lN{t tx e:TypeId}{x y:Operand}{yv:Value}{cE i:Nat}[ht:fa P t e c cE][he:bm enc c](hx:ev env x=some s.val)(hy:ev env y=some yv)[q:fw L s enc c xs i](hc:0<c)
    (hs: ∀w,Mem w0 L w->Src P c tx yv ys.length (aJ enc ys) w) (hb:(xs.length+ys.length)*cE<=140737488355328) (ju:xs.length+ys.length<=140737488355328) {L':Sv->List aj} [hu: ∀s',fu L i (own enc c s' (xs++ys)) (L' s')]
    (hk: ∀s':Sv,s'.Ok->s'.len=(xs++ys).length->Sq P N w0 l Q rest (cB env d s'.val) (L' s')) (hd:dn N d=true:=by rfl):
    Sq P N w0 l Q (⟨d, .call {callee:= .builtin .append,args:= #[x,y],argTypes:= #[t,tx]},ty,ps,af,none⟩::rest) env L:=
  oc rfl hd fun a w ha hw=>by
    obtain⟨s',w',h1,h2,h3,h4⟩:=Il (ty:=ty) ht hc hw q.h (hs w hw) hb ju;refine⟨s'.val,w',L' s',?_,by rw[←(hu s').h];exact h4,hk s' h2 h3⟩;simp[execOp,ha.ev hx,ha.ev hy,resolve,invoke,builtin,h1,Result.andThen]
theorem vR{w:World}{b:Nat}{cs:Array Value}{e:TypeId}(hb:b=w.heap.size)(n cap:Nat)(hn:n=xs.length)(hle:n≤cap)(ju:n≤140737488355328)(eZ:cap*c≤cs.size)(hc: ∀i x,xs[i]? =some x→ ∀j,j<c→cs[i*c+j]? =(enc x)[j]?):
    Mem w [own enc c ⟨false,b,0,n,cap,none⟩ xs] (w.alloc (.cells cs e)):=by
  subst hb;have hm:=(Mem.init w).alloc cs e;have fj:hp (w.alloc (.cells cs e)) w.heap.size=some (.cells cs e (0,0)):=Below.DO w _;refine⟨hm.below,fun q hq=>?_,fun q hq k hk=>?_,by simp⟩
  ·obtain rfl:=arp.1 hq
   exact⟨vQ ⟨(fun h=>by cases h),hle,ju,fun _=>rfl⟩ hn fj (by simpa using hc),fun _=>⟨rfl,_,_,_,fj,by simpa using eZ,Ie _,fun _=>rfl⟩⟩
  ·obtain rfl:=arp.1 hq
   obtain rfl:k=w.heap.size:=hk.2;simp
theorem Ej{n c:Nat}(h0:0<n*c)(h:n*c<=16777216):n<=140737488355328:=by
  have:n*1≤n*c:=Nat.mul_le_mul_left _ (by rcases asm c with rfl|h';·simp at h0
                                          ·exact h')
  omega
theorem Ek{t e:TypeId}{cE:Nat}(ht:fa P t e c cE)[he:bm enc c]{vals:List Value}(hv:vals.map Value.cells=xs.map enc)(hc:0<xs.length*c)(qQ:xs.length*c≤16777216)(w:World):
    (Instr.buildSlice t xs.length (idx vals 0).toArray).run P w= .ok (.slice (some ⟨w.heap.size,0,none⟩) xs.length xs.length) (w.alloc (.cells (aJ enc xs).toArray e)):=by
  obtain⟨i',z,bc,aH,bB,cT,nq⟩:=ht.info;subst bB;have hf:=NI (enc:=enc) (c:=i'.size) xs vals 0 ((Array.range (xs.length*i'.size)).map (z.cells[· %z.cells.size]!)) hv (by simp);have WG:((Array.range (xs.length*i'.size)).map (z.cells[· %z.cells.size]!)).toList.drop (0*i'.size+xs.length*i'.size)=[]:=by simp
  rw[WG]at hf;simp only[Nat.zero_mul,arz,arJ,arL]at hf;have n1: ¬xs.length*i'.size>2^24:=by omega
  have n2: ¬xs.length*i'.size=0:=by omega
  simp[Instr.buildSlice,run_underlying ht.eU,sizeOf,typeInfo,zeroValue,bc,aH,n1,n2,hf,newRow,newObj,Sem.run,Result.andThen]
theorem lO{t e:TypeId}{cE n:Nat}[ht:fa P t e c cE][he:bm enc c]{ops:List (Nat×Operand)}{vals:List Value}(xs:List α)(hx:jP env ops=some (idx vals 0))(hv:vals.map Value.cells=xs.map enc)(hn:xs.length=n)(hc:0<n*c)(qQ:n*c≤16777216)
    (hk: ∀b,Sq P N w0 l Q rest (cB env d (Sv.val ⟨false,b,0,n,n,none⟩)) (own enc c ⟨false,b,0,n,n,none⟩ xs::L)) (hd:dn N d=true:=by rfl):
    Sq P N w0 l Q (⟨d, .buildSlice t n ops.toArray,ty,ps,af,none⟩::rest) env L:=
  oc rfl hd fun a w ha hw=>by
    subst hn;have e1:(ops.toArray.map fun(p:Nat×Operand)=>match p with|(i,x)=>(i,a.eval x))=(idx vals 0).toArray:=by
      rw[←ha.jP hx];simp
    refine⟨_,_,_,?_,hw.call (vR (enc:=enc) (c:=c) (xs:=xs) (cs:=(aJ enc xs).toArray) (e:=e) rfl xs.length xs.length rfl (aqY _) (Ej hc qQ) (by simp[gQ]) fun i x hx j hj=>by rw[←np (enc:=enc) xs i x hx j hj];simp),hk _⟩;simp only[execOp,e1,Sem.run_bind,Ek ht hv hc qQ w,Result.andThen,Sem.run_pure];rfl
theorem WH{Lq:List aj}{n' j:Nat}{js:List Nat}{t e:TypeId}{cE n:Nat}{ops:List (Nat×Operand)}(hj:l[j]? =some ⟨d, .buildSlice t n ops.toArray,ty,ps,af,none⟩)[ht:fa P t e c cE][he:bm enc c]{vals:List Value}(xs:List α)(hx:jP env ops=some (idx vals 0))(hv:vals.map Value.cells=xs.map enc)(hn:xs.length=n)(hc:0<n*c)(qQ:n*c≤16777216)
    (hk: ∀b,Fr P N w0 Lq l n' Q js (cB env d (Sv.val ⟨false,b,0,n,n,none⟩)) (own enc c ⟨false,b,0,n,n,none⟩ xs::L)) (hd:dn N d=true:=by rfl):
    Fr P N w0 Lq l n' Q (j::js) env L:=
  Ws hj rfl hd fun a w ha hw=>by
    subst hn;have e1:(ops.toArray.map fun(p:Nat×Operand)=>match p with|(i,x)=>(i,a.eval x))=(idx vals 0).toArray:=by
      rw[←ha.jP hx];simp
    refine⟨_,_,[own enc c ⟨false,w.heap.size,0,xs.length,xs.length,none⟩ xs],?_,vR (enc:=enc) (c:=c) (xs:=xs) (cs:=(aJ enc xs).toArray) (e:=e) rfl xs.length xs.length rfl (aqY _) (Ej hc qQ) (by simp[gQ]) fun i x hx j hj=>by rw[←np (enc:=enc) xs i x hx j hj];simp,hk _⟩;simp only[execOp,e1,Sem.run_bind,Ek ht hv hc qQ w,Result.andThen,Sem.run_pure];rfl
theorem WI{zc:Array Value}(m n:Nat)(h:zc.size=c)(i j:Nat)(hi:i<n)(hj:j<c)(hm:n*c<=m):(madeCells zc m)[i*c+j]? =zc[j]? :=by
  have bb:i*c+j<m:=by
    have:(i+1)*c<=n*c:=ara _ hi;rw[ars]at this;omega
  have e1:(i*c+j)%zc.size=j:=by rw[h,asj,Nat.mul_add_mod];exact arF hj
  have hz:j<zc.size:=by omega
  simp[madeCells,bb,e1,hz]
theorem Im{t e:TypeId}{cE n cap:Nat}{z:Value}(ht:fa P t e c cE)(hz:eI P e z){k k':IntKind}(x0:α)(h0:enc x0=z.cells)(hle:n≤cap)(hb:cE*cap≤281474976710656)(ju:cap≤140737488355328)(w:World):
    ∃w',(Instr.makeSlice t (.int k n) (.int k' cap)).run P w= .ok (Sv.val ⟨false,w.heap.size,0,n,cap,none⟩) w'/\Mem w [own enc c ⟨false,w.heap.size,0,n,cap,none⟩ (List.replicate n x0)] w':=by
  obtain⟨i',z',bc,aH,bB,cT,nq⟩:=ht.info;obtain rfl:z'=z:=by
    have:=hz.zero;rw[bc,arE,aH]at this;exact aqP (aqP this)
  subst bB cT;have cU:(i'.bytes:Int)*(cap:Int)<=281474976710656:=by
    have h:((i'.bytes*cap:Nat):Int)<=281474976710656:=by omega
    rwa [Int.natCast_mul]at h
  have hr:=run_make (P:=P) w t e i' _ ht.eU bc aH k k' n cap (by omega) (by omega) cU (by omega);simp only[arN]at hr;refine⟨_,hr,vR rfl n cap (by simp) hle (by omega) (by simp[size_madeCells]) fun i x hx j hj=>?_⟩;have hi:i<n:=by
    have:=(ad2.1 hx).1;simpa using this
  obtain rfl:x0=x:=by rw[atq,if_pos hi]at hx;exact aqP hx
  rw[h0];exact WI _ n nq i j hi hj (ara _ hle)
theorem rJ{t e:TypeId}{cE n cap:Nat}{z:Value}{x y:Operand}{k k':IntKind}{ix iy:Int}[ht:fa P t e c cE][hz:eI P e z](x0:α)(h0:enc x0=z.cells)(hx:ev env x=some (.int k ix))(hy:ev env y=some (.int k' iy))(ex:ix=(n:Int))(ey:iy=(cap:Int))(hle:n≤cap)(hb:cE*cap≤281474976710656)(ju:cap≤140737488355328)
    (hk: ∀b,Sq P N w0 l Q rest (cB env d (Sv.val ⟨false,b,0,n,cap,none⟩)) (own enc c ⟨false,b,0,n,cap,none⟩ (List.replicate n x0)::L)) (hd:dn N d=true:=by rfl):
    Sq P N w0 l Q (⟨d, .makeSlice t x y,ty,ps,af,none⟩::rest) env L:=
  oc rfl hd fun a w ha hw=>by
    subst ex ey;obtain⟨w',h1,h2⟩:=Im ht hz (k:=k) (k':=k') (n:=n) x0 h0 hle hb ju w;exact⟨_,w',_,by simp only[execOp,ha.ev hx,ha.ev hy,Sem.run_bind,h1,Result.andThen,Sem.run_pure],hw.call h2,hk _⟩
theorem NJ{w:World}{L':List aj}{i k j:Nat}{a a':α}{vs:Array Value}[he:bm enc c](hw:Mem w0 L w)(q:fw L s enc c xs i)(ha:xs[k]? =some a)(hv:vs.all (·.oneCell')=true)(hj:j+vs.size≤c)(qc:over (enc a) j vs=enc a')(hu:fu L i (own enc c s (xs.set k a')) L'):
    ∃w',(storeCells ⟨s.b,s.o+k*c+j,none⟩ vs.toList).run P w= .ok () w'/\Mem w0 L' w':=by
  obtain⟨r,oh⟩:=hw.get q.h;have hk:k<xs.length:=(ad2.1 ha).1;have hn:=r.some hk;have hle:=r.ok.le;have hlen:=r.len;obtain⟨gv,cs,T,fz,fj,eZ,mR,nt⟩:=oh hn;have hmul:(k+1)*c<=s.cap*c:=ara _ (by omega);have aia:=hmul;rw[ars]at hmul;have jf:s.o+k*c+j+vs.size<=cs.size:=by omega
  have bu:=BK (P:=P) s.b (s.o+k*c+j) T fz vs.toList 0 cs w fj mR (by simpa using jf) (fun v lM=>(arx.1 hv) v (by simpa using lM));refine⟨w.setRow s.b (over cs (s.o+k*c+j) vs),by simpa[over]using bu,?_⟩;have cU:hp (w.setRow s.b (over cs (s.o+k*c+j) vs)) s.b=some (.cells (over cs (s.o+k*c+j) vs) T fz):=setRow_heap w s.b cs _ T fz fj;rw[←hu.h];refine hw.change q.h (fun k hk=>hk) (fun x hx=>setRow_other w s.b x _ (fun e=>hx ⟨hn,e⟩)) (by simp[World.setRow]) ⟨rfl,rfl,rfl⟩ ⟨vQ r.ok (by simpa using hlen) cU fun x y hy p fv=>?_,fun _=>⟨gv,_,_,_,cU,by rw[og jf];exact eZ,by rw[og jf];exact mR,nt⟩⟩;rw[uu jf]
  by_cases NK:x=k
  ·subst NK
   obtain rfl:a'=y:=by rw[aq7 hk]at hy;exact aqP hy
   rw[←qc,uu (by rw[he.size];exact hj)]
   by_cases h1:j<=p/\p<j+vs.size
   ·rw[if_pos h1,if_pos (by omega)];congr 1;omega
   ·rw[if_neg h1,if_neg (by omega),←r.row x a ha p fv]
    unfold mQ;rw[fj]
  ·rw[arj (by omega)]at hy
   rw[if_neg,←r.row x y hy p fv]
   ·unfold mQ;rw[fj]
   ·intro h
    rcases atL NK with h'|h'
    ·have:(x+1)*c<=k*c:=ara _ h'
     rw[ars]at this;omega
    ·have:(k+1)*c<=x*c:=ara _ h'
     rw[ars]at this;omega
theorem kz{t:TypeId}{x y:Operand}{i k j n p:Nat}{a a':α}{v:Value}(sz:(P.info? t).map (·.size)=some n)[he:bm enc c](hx:ev env x=some (.pointer (some ⟨s.b,p,none⟩)))(hy:ev env y=some v)[q:fw L s enc c xs i](fv:p=s.o+k*c+j)
    (ha:xs[k]? =some a) (hv:v.cells.all (·.oneCell')=true) (hn:v.cells.size=n) (hj:j+n<=c) (qc:over (enc a) j v.cells=enc a') {L':List aj} [hu:fu L i (own enc c s (xs.set k a')) L'] (hk:Sq P N w0 l Q rest env L'):
    Sq P N w0 l Q (⟨none, .store t x y,ty,ps,af,none⟩::rest) env L:=
  D7 rfl rfl fun aa w BM hw=>by
    subst fv hn;obtain⟨w',h1,h2⟩:=NJ (P:=P) hw q ha hv hj qc hu;refine⟨w',_,?_,h2,hk⟩;simp only[execOp,BM.ev hx,BM.ev hy,Instr.storeAt,Instr.sureAddr,storeVar,Sem.run_bind,Sem.run_pure,Result.andThen,kY w sz];simp[h1]
theorem WJ{X:Type}{val:X→Value}{L':X→List aj}{pr:X→Prop}{f:FuncId}{xs:List Operand}{ts:Array TypeId}{vs:List Value}[hf:aI P f](hx:iH env xs=some vs)
    (hc: ∀w,Mem w0 L w->Calls P f vs.toArray w fun e w'=> ∃x,e= .returned (val x)/\pr x/\Mem w0 (L' x) w') (hk: ∀x,pr x->Sq P N w0 l Q rest (cB env d (val x)) (L' x)) (hd:dn N d=true:=by rfl):
    Sq P N w0 l Q (⟨d, .call {callee:= .value (.func f),args:=xs.toArray,argTypes:=ts},ty,ps,af,none⟩::rest) env L:=fun a w ha hw=>by
  unfold wpList;rw[if_pos (rH rfl)];refine .inl ?_;unfold Oper.wp;rw[D2 hf w rfl,ha.iH hx];exact(hc w hw).mono fun e w' ⟨x,he,hp,hm⟩=>by subst he;exact hk x hp _ _ (ha.put hd _) hm
theorem kf{N:Nat}{fn:Func}{R:Ending→World→Prop}{f:FuncId}{c:Code}{args:List Value}{w:World}(hf:P.funcs[f]? =some fn)(hb:fn.body=some c)(hN:fn.ntmps=N)(hle:Nat.ble args.length N=true)(hw:Mem w0 L w)
    (h:Cw P ⟨N,[],none⟩ w0 (rE P fn R) c (args.zipIdx.map fun p=>(p.2,p.1)) L):Calls P f args.toArray w R:=
  M8 hf hb (h _ _ (by rw[hN];exact dh.enter args N (Nat.le_of_ble_eq_true hle)) hw)
theorem El{b n i:Nat}{cs:Array Value}{T:TypeId}[hi:Has L b cs T i][he:bm enc c](hQ:cs=(aJ enc xs).toArray)(hn:xs.length=n)(ju:n<=140737488355328:=by decide):Holds w0 L enc c ⟨false,b,0,n,n,none⟩ xs:=fun w hw=>by
  have hb:=hw.block hi.h;exact vQ ⟨(fun h=>by cases h),aqY _,ju,fun _=>rfl⟩ hn.symm hb fun k x hx j hj=>by
    rw[←np (enc:=enc) xs k x hx j hj,hQ];simp
def zu(tmps:Array Value)(r:ResultVar):Sem Value:=match r with
  | .tmp t=>pure (tmps.getD t undef)
  | .cell c t=>do loadVar t (←asAddr (tmps.getD c undef))
theorem Io(fn:Func)(tmps:Array Value):results fn tmps=(do let vs←fn.results.mapM (zu tmps);pure (if h:vs.size=1 then vs[0]else .tuple vs)):=by
  have:(fun r=>zu tmps r)=(fun| .tmp t=>pure (tmps.getD t undef)| .cell a t=>do loadVar t (←asAddr (tmps.getD a undef)):ResultVar->Sem Value):=by
    funext r;cases r<;>rfl
  show _=(do let vs←fn.results.mapM (fun r=>zu tmps r);pure (if h:vs.size=1 then vs[0]else .tuple vs));rw[this];rfl
def RV(P:Program)(N:ct)(w0:World)(env:Env)(L:List aj)(r:ResultVar)(v:Value):Prop:= ∀a w,dh N env a->Mem w0 L w->(zu a.tmps r).run P w= .ok v w
theorem zv{t:Nat}{v:Value}(hv:look env t=some v):RV P N w0 env L (.tmp t) v:=fun a w ha _=>by
  have:=ha.get _ _ hv;simp[zu,this]
theorem zw{t b i n:Nat}{T T':TypeId}{cs:Array Value}(hv:look env t=some (.pointer (some ⟨b,0,none⟩)))[ht:fE P T n][hi:Has L b cs T' i][hn:fP cs n]:RV P N w0 env L (.cell t T) (.agg cs):=fun a w ha hw=>by
  have h1:=ha.get _ _ hv;have h2:(loadVar T ⟨b,0,none⟩).run P w= .ok (.agg cs) w:=HW w ht hn.h fun j _=>by rw[Addr.gN,hw.cell hi.h,ary]
  simp[zu,h1,asAddr,h2]
variable {fn:Func} {r1 r2 r3:ResultVar} {v1 v2 v3:Value}
theorem WK{A B:Type}(f:A->Sem B)(x y:A):(#[x,y]:Array A).mapM f=(do let a←f x;let b←f y;pure #[a,b]):=by simp
theorem WL{A B:Type}(f:A->Sem B)(x y z:A):(#[x,y,z]:Array A).mapM f=(do let a←f x;let b←f y;let c←f z;pure #[a,b,c]):=by simp
theorem NL(hf:fn.results= #[r1])(h1:RV P N w0 env L r1 v1): ∀a w,dh N env a->Mem w0 L w->(results fn a.tmps).run P w= .ok v1 w:=fun a w ha hw=>by
  have e1:=h1 a w ha hw;rw[Io,hf];simp[e1]
theorem WM(hf:fn.results= #[r1,r2])(h1:RV P N w0 env L r1 v1)(h2:RV P N w0 env L r2 v2): ∀a w,dh N env a->Mem w0 L w->(results fn a.tmps).run P w= .ok (.tuple #[v1,v2]) w:=fun a w ha hw=>by
  have e1:=h1 a w ha hw;have e2:=h2 a w ha hw;rw[Io,hf,WK];simp[e1,e2]
theorem WN(hf:fn.results= #[r1,r2,r3])(h1:RV P N w0 env L r1 v1)(h2:RV P N w0 env L r2 v2)(h3:RV P N w0 env L r3 v3): ∀a w,dh N env a->Mem w0 L w->(results fn a.tmps).run P w= .ok (.tuple #[v1,v2,v3]) w:=fun a w ha hw=>by
  have e1:=h1 a w ha hw;have e2:=h2 a w ha hw;have e3:=h3 a w ha hw;rw[Io,hf,WL];simp[e1,e2,e3]
end
def aN(b:UInt8):Array Value:= #[.int .u8 b.toNat]
instance:bm aN 1:=⟨fun _=>rfl,fun _=>by simp[aN,Value.oneCell']⟩
instance (b:UInt8):cg (aN b) 0 (.int .u8 b.toNat):=⟨rfl⟩
def s8(s:Sv):Array Value:= #[s.val]
instance:bm s8 1:=⟨fun _=>rfl,fun s=>by simp[s8,Sv.one]⟩
def b8(n:Nat):UInt8:=UInt8.ofNat n
theorem rK(n:Nat):(b8 n).toNat=n%256:=by simp[b8]
theorem WO(n:Nat):b8 (n%256)=b8 n:=by
 apply atc.1;simp[rK]
theorem WQ(n:Nat):IntKind.u8.wrap (n:Int)=((b8 n).toNat:Int):=by
 rw[rK];simp[IntKind.wrap,IntKind.bits,IntKind.signed]
def be(n:Nat):Nat->List UInt8
 |0=>[]
 |k+1=>b8 (n/256^k)::be n k
theorem jv(n:Nat): ∀k,(be n k).length=k
 |0=>rfl
 |k+1=>by simp[be,jv n k]
def de(l:List UInt8):Nat:=l.foldl (fun a b=>a*256+b.toNat) 0
theorem NM{xs:List UInt8}{i:Nat}{b:UInt8}(h:xs[i]? =some b):de (xs.take (i+1))=de (xs.take i)*256+b.toNat:=by
 rw[aq0,h];simp[de]
theorem Ip(xs:List UInt8): ∀i,i<=xs.length->de (xs.take i)<256^i
 |0,_=>by simp[de]
 |i+1,h=>by
  have:=Ip xs i (by omega);rw[NM (b:=xs[i]) (by simp),Nat.pow_succ];have:=xs[i].toNat_lt;omega
section
variable {P:Program} {N:ct} {w0:World} {env:Env} {L:List aj} {d:Option Tmp} {ty:TypeId} {ps:String} {af:Array Edge} {gd:Option (Nat×Bool)}
variable {x y:Operand} {k k':IntKind} {p q:Nat} {t u s:TypeId}
theorem zx{a b:Int}(hx:ev env x=some (.int k a))(hy:ev env y=some (.int k b))(ea:a=p)(eb:b=q)(hq:0<q):
  Ry P N w0 env L ⟨d, .binOp .rem t x y u,ty,ps,af,gd⟩ (.int k ((p%q:Nat):Int)):=et hx hy (by
 subst ea eb;rw[lL,if_neg (by omega),←Int.ofNat_tmod])
theorem WR{a b:Int}(hx:ev env x=some (.int k a))(hy:ev env y=some (.int k b))(ea:a=p)(eb:b=q)(h:p*q<2^nb k):
  Ry P N w0 env L ⟨d, .binOp .mul t x y u,ty,ps,af,gd⟩ (.int k ((p*q:Nat):Int)):=et hx hy (by
 subst ea eb;rw[lL,←Int.natCast_mul,qa h])
theorem BN{n:Nat}{a:Int}[hs:mi P s k'][ht:mi P t .u8](hx:ev env x=some (.int k' a))(ea:a=n):
  Ry P N w0 env L ⟨d, .convert s t x,ty,ps,af,gd⟩ (.int .u8 (b8 n).toNat):=uk hx (by subst ea;exact WQ n)
theorem WS{e:TypeId}{sv:Sv}{xs:List UInt8}(hs:P.underlying s=some (.slice e))(he:P.underlying e=some (.int .u8))(hd:P.underlying t=some .string)(hx:ev env x=some sv.val)(hR:Holds w0 L aN 1 sv xs):
  Ry P N w0 env L ⟨d, .convert s t x,ty,ps,af,gd⟩ (.string ⟨xs.toArray⟩):=fun a w ha hw=>by
 have r:=hR w hw;have hr:(convert s t sv.val).run P w= .ok (.string ⟨xs.toArray⟩) w:=by
  cases hn:sv.nil with
  |true=>
   have:xs=[]:=by have:=(r.ok.nil hn).1;rw[r.len]at this;exact arb.1 this
   subst this;rw[Sv.sX hn,run_convert_bytes_string w s t e none 0 0 hs he hd];rfl
  |false=>
   rw[Sv.ig hn,r.len];refine run_convert_bytes_back w s t e _ _ xs hs he hd fun j hj=>?_;rw[r.ok.sp (by have:=r.len;have:=r.ok.le;omega)];rw[Addr.gN,rI];have:=r.row j xs[j] (by simp) 0 (by decide);simp only[ass,arP]at this;rw[this];rfl
 simp only[execOp,ha.ev hx,Sem.run_bind,hr,Result.andThen,Sem.run_pure]
theorem WT{a b:ByteArray}(hx:ev env x=some (.string a))(hy:ev env y=some (.string b)):
  Ry P N w0 env L ⟨d, .binOp .eql t x y u,ty,ps,af,gd⟩ (.bool (a.toList==b.toList)):=fun aa w ha _=>by
 have h2:(eqGuard BinOp.eql t x y (.string a) (.string b)).run P w= .ok () w:=rfl;simp only[execOp,ha.ev hx,ha.ev hy,Sem.run_bind,h2,Result.andThen_ok,binOp_string_eql,Sem.run_pure]
end
section
variable {P:Program} {N:ct} {w0:World} {env:Env} {L:List aj} {l:List Oper} {Q:Exit->Act->World->Prop} {rest:List Oper} {d:Option Tmp} {ty:TypeId} {ps:String} {af:Array Edge}
end
def s9(b c:UInt8):UInt16:=UInt16.ofNat (b.toNat*256+c.toNat)
theorem Iq(b c:UInt8):(s9 b c).toNat=b.toNat*256+c.toNat:=by
 have:=b.toNat_lt;have:=c.toNat_lt;simp[s9];omega
theorem NN(p q:Nat)(h:q<256):(p*256)|||q=p*256+q:=by
 have:=Nat.two_pow_add_eq_or_of_lt (i:=8) (b:=q) (by simpa using h) p;rw[show(2^8*p)=p*256 by rw[asj]]at this;exact this.symm
section
variable {P:Program} {N:ct} {w0:World} {env:Env} {L:List aj} {d:Option Tmp} {ty:TypeId} {ps:String} {af:Array Edge} {gd:Option (Nat×Bool)} {x y:Operand} {k:IntKind} {t u:TypeId}
theorem NO{b:UInt8}{k':IntKind}(hx:ev env x=some (.int k b.toNat))(hy:ev env y=some (.int k' 8))(hk:k= .u16\/k= .i64:=by decide):
  Ry P N w0 env L ⟨d, .binOp .shl t x y u,ty,ps,af,gd⟩ (.int k ((b.toNat*256:Nat):Int)):=by
 have h:=D5 (P:=P) (N:=N) (w0:=w0) (L:=L) (d:=d) (ty:=ty) (ps:=ps) (af:=af) (gd:=gd) (t:=t) (u:=u) hx hy (by decide);have hb:=b.toNat_lt;have e:k.wrap ((b.toNat:Int)*2^min (Int.toNat 8) k.bits)=((b.toNat*256:Nat):Int):=by
  rcases hk with rfl|rfl<;>simp[IntKind.wrap,IntKind.bits,IntKind.signed]<;>omega
 rw[e]at h;exact h
theorem NP{b c:UInt8}(hx:ev env x=some (.int k ((b.toNat*256:Nat):Int)))(hy:ev env y=some (.int k c.toNat))(hk:k= .u16\/k= .i64:=by decide):
  Ry P N w0 env L ⟨d, .binOp .or t x y u,ty,ps,af,gd⟩ (.int k ((s9 b c).toNat:Nat)):=by
 have hb:=b.toNat_lt;have hc:=c.toNat_lt;rw[Iq,←NN _ _ hc];rcases hk with rfl|rfl
 ·
  exact BE hx hy rfl rfl (by simp only[nb];omega) (by simp only[nb];omega)
 ·
  exact BE hx hy rfl rfl (by simp only[nb];omega) (by simp only[nb];omega)
end
def aj.emp:aj:=⟨fun _=>False,fun _=>True,fun _ _ _ s=>s⟩
def aj.two(a b:aj):aj:=⟨fun k=>a.fp k\/b.fp k,fun h=>a.sat h/\b.sat h/\ ∀k,a.fp k-> ¬b.fp k,
  fun h h' e s=>⟨a.loc h h' (fun k hk=>e k (.inl hk)) s.1,b.loc h h' (fun k hk=>e k (.inr hk)) s.2.1,s.2.2⟩⟩
def aj.all:List aj->aj
  |[]=> .emp
  |e::r=> .two e (.all r)
theorem Mem.BO{w0 w:World}{L:List aj}:Mem w0 (.emp::L) w↔Mem w0 L w:=
  ⟨fun h=>h.sub (arQ _ _),fun h=>⟨h.below,fun e he=>by
    rcases aqW.1 he with rfl|he
    ·exact trivial
    ·exact h.sat e he,fun e he k hk=>by
    rcases aqW.1 he with rfl|he
    ·exact hk.elim
    ·exact h.jL e he k hk,arl.2 ⟨fun _ _ _ hk=>hk.elim,h.pj⟩⟩⟩
theorem Mem.xD{w0 w:World}{a b:aj}{L:List aj}:Mem w0 (.two a b::L) w↔Mem w0 (a::b::L) w:=by
  constructor
  ·intro h
   have hs:(a.sat fun k=>w.heap[k]?)/\(b.sat fun k=>w.heap[k]?)/\ ∀k,a.fp k-> ¬b.fp k:=h.sat (.two a b) (by simp);have hd:=arl.1 h.pj;refine⟨h.below,fun e he=>?_,fun e he k hk=>?_,?_⟩
   ·rcases aqW.1 he with rfl|he
    ·exact hs.1
    ·rcases aqW.1 he with rfl|he
     ·exact hs.2.1
     ·exact h.sat e (by simp[he])
   ·rcases aqW.1 he with rfl|he
    ·exact h.jL (.two e b) (by simp) k (.inl hk)
    ·rcases aqW.1 he with rfl|he
     ·exact h.jL (.two a e) (by simp) k (.inr hk)
     ·exact h.jL e (by simp[he]) k hk
   ·refine arl.2 ⟨fun x hx k hk=>?_,arl.2 ⟨fun x hx k hk=>hd.1 x hx k (.inr hk),hd.2⟩⟩
    rcases aqW.1 hx with rfl|hx
    ·exact hs.2.2 k hk
    ·exact hd.1 x hx k (.inl hk)
  ·intro h
   have hd:=arl.1 h.pj;have zy:=arl.1 hd.2;refine⟨h.below,fun e he=>?_,fun e he k hk=>?_,arl.2 ⟨fun x hx k hk=>?_,zy.2⟩⟩
   ·rcases aqW.1 he with rfl|he
    ·exact⟨h.sat a (by simp),h.sat b (by simp),fun k hk=>hd.1 b (by simp) k hk⟩
    ·exact h.sat e (by simp[he])
   ·rcases aqW.1 he with rfl|he
    ·rcases hk with hk|hk
     ·exact h.jL a (by simp) k hk
     ·exact h.jL b (by simp) k hk
    ·exact h.jL e (by simp[he]) k hk
   ·rcases hk with hk|hk
    ·exact hd.1 x (by simp[hx]) k hk
    ·exact zy.1 x hx k hk
theorem Mem.BP{w0 w:World}: ∀(es:List aj) {L:List aj},Mem w0 (.all es::L) w↔Mem w0 (es++L) w
  |[],_=>Mem.BO
  |e::r,L=>by
   show Mem w0 (.two e (.all r)::L) w↔_;rw[Mem.xD];have sw: ∀(a b:aj) (K:List aj),Mem w0 (a::b::K) w↔Mem w0 (b::a::K) w:=fun a b K=>⟨fun h=>h.perm (List.Perm.swap _ _ _),fun h=>h.perm (List.Perm.swap _ _ _)⟩;rw[sw,Mem.BP r];exact⟨fun h=>h.perm (as2),fun h=>h.perm (as2).symm⟩
class Deep(τ:Type) where
  c:Nat
  cells:τ->Array Value
  size: ∀x,(cells x).size=c
  one: ∀x,(cells x).all (·.oneCell')=true
  cF:(Nat->Option Obj)->τ->Prop
  cc:τ->aj
  jg: ∀h x,(cc x).sat h->cF h x
  mono: ∀(w w':World) x,cF (hp w) x->Below w.heap.size w w'->cF (hp w') x
instance Deep.enc{τ:Type}[Deep τ]:bm (Deep.cells (τ:=τ)) (Deep.c τ):=⟨Deep.size,Deep.one⟩
@[reducible] def Deep.flat {τ:Type}(enc:τ->Array Value)(c:Nat)[he:bm enc c]:Deep τ:=⟨c,enc,he.size,he.one,fun _ _=>True,fun _=> .emp,fun _ _ _=>trivial,fun _ _ _ _ _=>trivial⟩
structure Sl(τ:Type) where
  sv:Sv
  xs:List τ
theorem aj.zA{h:Nat->Option Obj}: ∀{es:List aj},(aj.all es).sat h-> ∀e∈es,e.sat h
  |[],_,_,he=>by cases he
  |_::_,hs,e,he=>by
   rcases aqW.1 he with rfl|he
   ·exact hs.1
   ·exact aj.zA hs.2.1 e he
instance Deep.slice{τ:Type}[d:Deep τ]:Deep (Sl τ) where
  c:=1
  cells a:=s8 a.sv
  size _:=rfl
  one a:=bm.one (enc:=s8) (c:=1) a.sv
  cF h a:=eJ (Deep.cells (τ:=τ)) (Deep.c τ) h a.sv a.xs/\ ∀x∈a.xs,d.cF h x
  cc a:= .two (own (Deep.cells (τ:=τ)) (Deep.c τ) a.sv a.xs) (.all (a.xs.map d.cc))
  jg h _ hs:=⟨hs.1.1,fun x hx=>d.jg h x (aj.zA hs.2.1 _ (ard hx))⟩
  mono w w' _ hg hb:=⟨hg.1.mono hb,fun x hx=>d.mono w w' x (hg.2 x hx) hb⟩
theorem Mem.zB{τ:Type}[d:Deep τ]{w0 w:World}{L:List aj}{a:Sl τ}:Mem w0 (Deep.cc a::L) w↔Mem w0 (own (Deep.cells (τ:=τ)) (Deep.c τ) a.sv a.xs::a.xs.map d.cc++L) w:=by
  show Mem w0 (.two _ (.all _)::L) w↔_;rw[Mem.xD];have sw: ∀(a b:aj) (K:List aj),Mem w0 (a::b::K) w↔Mem w0 (b::a::K) w:=fun a b K=>⟨fun h=>h.perm (List.Perm.swap _ _ _),fun h=>h.perm (List.Perm.swap _ _ _)⟩;rw[sw,Mem.BP];exact⟨fun h=>h.perm (as2),fun h=>h.perm (as2).symm⟩
section
variable {w0:World} {L:List aj} {τ:Type}
class Hd(w0:World)(L:List aj)(s:Sv){α:outParam Type}(enc:outParam (α->Array Value))(c:outParam Nat)(xs:outParam (List α)):Prop where
  h:Holds w0 L enc c s xs
class Gv(w0:World)(s:Sv){α:outParam Type}(enc:outParam (α->Array Value))(c:outParam Nat)(xs:outParam (List α)):Prop where
  h:eJ enc c (hp w0) s xs
instance (priority:=high) Hd.owned {s:Sv}{α:Type}{enc:α->Array Value}{c:Nat}{xs:List α}{i:Nat}[q:fw L s enc c xs i]:Hd w0 L s enc c xs:=⟨q.holds⟩
instance Hd.given{s:Sv}{α:Type}{enc:α->Array Value}{c:Nat}{xs:List α}[q:Gv w0 s enc c xs][bm enc c]:Hd w0 L s enc c xs:=⟨BJ q.h⟩
class Rg(lo hi n:Nat):Prop where
  h:lo<=hi/\hi<=n
instance Hd.sub{s:Sv}{α:Type}{enc:α->Array Value}{c:Nat}{xs:List α}{lo hi:Nat}[q:Hd w0 L s enc c xs][r:Rg lo hi xs.length]:Hd w0 L (s.sub c lo hi) enc c ((xs.drop lo).take (hi -lo)):=⟨q.h.sub r.h.1 r.h.2⟩
class di(w0:World)(L:List aj){α:Type}(enc:α->Array Value)(c:Nat)(s:Sv)(xs:outParam (List α)):Prop where
  h:Holds w0 L enc c s xs
instance (priority:=high) di.of {s:Sv}{α:Type}{enc:α->Array Value}{c:Nat}{xs:List α}[q:Hd w0 L s enc c xs]:di w0 L enc c s xs:=⟨q.h⟩
instance di.none{α:Type}{enc:α->Array Value}{c:Nat}:di w0 L enc c Sv.none []:=⟨fun _ _=>eJ.nil enc c _⟩
class aT(w0:World)(L:List aj){τ:Type}[Deep τ](a:τ):Prop where
  h: ∀w,Mem w0 L w->Deep.cF (hp w) a
class cH(w0:World){τ:Type}[Deep τ](a:τ):Prop where
  h:Deep.cF (hp w0) a
class Mb{τ:Type}(x:τ)(a:outParam (Sl τ)):Prop where
  h:x∈a.xs
instance aT.given[Deep τ]{a:τ}[q:cH w0 a]:aT w0 L a:=⟨fun _ hw=>Deep.mono w0 _ a q.h hw.below⟩
instance (priority:=high) aT.owned [Deep τ]{a:τ}{i:Nat}[q:At L (Deep.cc a) i]:aT w0 L a:=⟨fun _ hw=>Deep.jg _ a (hw.get q.h)⟩
instance (priority:=low) aT.elem [Deep τ]{a:Sl τ}{x:τ}[q:aT w0 L a][m:Mb x a]:aT w0 L x:=⟨fun w hw=>(q.h w hw).2 x m.h⟩
class fZ(τ:Type)[Deep τ](enc:outParam (τ->Array Value))(c:outParam Nat):Prop where
  hc:Deep.c τ=c
  h: ∀x:τ,Deep.cells x=enc x
instance (priority:=low) Hd.deep [d:Deep τ]{enc:τ->Array Value}{c:Nat}[f:fZ τ enc c]{a:Sl τ}[q:aT w0 L a]:Hd w0 L a.sv enc c a.xs:=⟨fun w hw=>by
  have h:=(q.h w hw).1;have e:Deep.cells (τ:=τ)=enc:=funext f.h;rw[←e,←f.hc];exact h⟩
end
section
variable {P:Program} {N:ct} {w0:World} {env:Env} {L:List aj} {d:Option Tmp} {ty:TypeId} {ps:String} {af:Array Edge} {gd:Option (Nat×Bool)}
variable {α:Type} {enc:α->Array Value} {c:Nat} {s:Sv} {xs:List α}
theorem uy{t e:TypeId}{x:Operand}{m:Nat}[ht:fh P t e m](hx:ev env x=some s.val)[q:Hd w0 L s enc c xs]:
    Ry P N w0 env L ⟨d, .call {callee:= .builtin .len,args:= #[x],argTypes:= #[t]},ty,ps,af,gd⟩ (.int .i64 (xs.length:Nat)):=fun a w ha hw=>
  sY (P:=P) (N:=N) (w0:=w0) (L:=L) (d:=d) (ty:=ty) (ps:=ps) (af:=af) (gd:=gd) hx (q.h w hw).ok (q.h w hw).len a w ha hw
theorem ba{t e:TypeId}{x ix:Operand}{m:Nat}{k:IntKind}{j:Int}[ht:fh P t e m](hx:ev env x=some s.val)(hj:ev env ix=some (.int k j))[q:Hd w0 L s enc c xs](i:Nat)(ej:j=(i:Int))(h1:i<xs.length):
    Ry P N w0 env L ⟨d, .indexAddr t x ix,ty,ps,af,gd⟩ (.pointer (some ⟨s.b,s.o+i*m,none⟩)):=fun a w ha hw=>
  mn (P:=P) (N:=N) (w0:=w0) (L:=L) (d:=d) (ty:=ty) (ps:=ps) (af:=af) (gd:=gd) hx hj ej (q.h w hw).ok (by rw[(q.h w hw).len];exact h1) a w ha hw
theorem iK{t:TypeId}{x:Operand}{p:Nat}{a:α}[ht:fE P t c][he:bm enc c][q:Hd w0 L s enc c xs](hx:ev env x=some (.pointer (some ⟨s.b,p,none⟩)))(i:Nat)(hi:xs[i]? =some a)(fv:p=s.o+i*c):
    Ry P N w0 env L ⟨d, .load t x,ty,ps,af,gd⟩ (.agg (enc a)):=Eg hx q.h hi fv
theorem bL{t:TypeId}{x:Operand}{p j:Nat}{a:α}{v:Value}[ht:fK P t][q:Hd w0 L s enc c xs](hx:ev env x=some (.pointer (some ⟨s.b,p,none⟩)))(i:Nat)(hi:xs[i]? =some a)(fv:p=s.o+i*c+j)(hj:j<c)[hv:cg (enc a) j v]:
    Ry P N w0 env L ⟨d, .load t x,ty,ps,af,gd⟩ v:=Ig hx q.h hi fv hj hv.h
theorem NQ{t:TypeId}{x:Operand}{p j n:Nat}{a:α}{sub:Array Value}[ht:fE P t n][q:Hd w0 L s enc c xs](hx:ev env x=some (.pointer (some ⟨s.b,p,none⟩)))(i:Nat)(hi:xs[i]? =some a)(fv:p=s.o+i*c+j)(hj:j+n≤c)[hs:nk (enc a) j n sub]:
    Ry P N w0 env L ⟨d, .load t x,ty,ps,af,gd⟩ (.agg sub):=Ih hx q.h hi fv hj
theorem Em{t e:TypeId}{x lo hi:Operand}{k k':IntKind}{il ih:Int}[ht:fh P t e c](hx:ev env x=some s.val)(hl:ev env lo=some (.int k il))(hh:ev env hi=some (.int k' ih))[q:Hd w0 L s enc c xs](l h:Nat)(el:il=(l:Int))(eh:ih=(h:Int))(h1:l≤h)(h2:h≤xs.length):
    Ry P N w0 env L ⟨d, .slice t x (some lo) (some hi) none,ty,ps,af,gd⟩ (s.sub c l h).val:=fun a w ha hw=>
  Eh (P:=P) (N:=N) (w0:=w0) (L:=L) (d:=d) (ty:=ty) (ps:=ps) (af:=af) (gd:=gd) hx hl hh el eh (q.h w hw).ok h1 (by have:=(q.h w hw).len;have:=(q.h w hw).ok.le;omega) a w ha hw
theorem NR{t e:TypeId}{x hi:Operand}{k':IntKind}{ih:Int}[ht:fh P t e c](hx:ev env x=some s.val)(hh:ev env hi=some (.int k' ih))[q:Hd w0 L s enc c xs](h:Nat)(eh:ih=(h:Int))(h2:h≤xs.length):
    Ry P N w0 env L ⟨d, .slice t x none (some hi) none,ty,ps,af,gd⟩ (s.sub c 0 h).val:=fun a w ha hw=>
  vP (P:=P) (N:=N) (w0:=w0) (L:=L) (d:=d) (ty:=ty) (ps:=ps) (af:=af) (gd:=gd) hx hh eh (q.h w hw).ok (by have:=(q.h w hw).len;have:=(q.h w hw).ok.le;omega) a w ha hw
theorem En{t e:TypeId}{x lo:Operand}{k:IntKind}{il:Int}[ht:fh P t e c](hx:ev env x=some s.val)(hl:ev env lo=some (.int k il))[q:Hd w0 L s enc c xs](l:Nat)(el:il=(l:Int))(h1:l≤xs.length):
    Ry P N w0 env L ⟨d, .slice t x (some lo) none none,ty,ps,af,gd⟩ (s.sub c l xs.length).val:=fun a w ha hw=>
  sZ (P:=P) (N:=N) (w0:=w0) (L:=L) (d:=d) (ty:=ty) (ps:=ps) (af:=af) (gd:=gd) hx hl el (q.h w hw).ok (q.h w hw).len h1 a w ha hw
theorem Ir{t e tb:TypeId}{x:Operand}{xs:List UInt8}(hs:P.underlying tb=some (.slice e))(he:P.underlying e=some (.int .u8))(hd:P.underlying t=some .string)(hx:ev env x=some s.val)[q:Hd w0 L s aN 1 xs]:
    Ry P N w0 env L ⟨d, .convert tb t x,ty,ps,af,gd⟩ (.string ⟨xs.toArray⟩):=WS hs he hd hx q.h
theorem vS{s t:TypeId}{x:Operand}{k:IntKind}{b:UInt8}[hs:mi P s .u8][ht:mi P t k](hx:ev env x=some (.int .u8 b.toNat))(hk:8≤nb k:=by decide):
    Ry P N w0 env L ⟨d, .convert s t x,ty,ps,af,gd⟩ (.int k b.toNat):=kZ hx (arM b.toNat_lt (ar2 (by decide) hk))
theorem WU{s t:TypeId}{x:Operand}{k:IntKind}{b:UInt16}[hs:mi P s .u16][ht:mi P t k](hx:ev env x=some (.int .u16 b.toNat))(hk:16≤nb k:=by decide):
    Ry P N w0 env L ⟨d, .convert s t x,ty,ps,af,gd⟩ (.int k b.toNat):=kZ hx (arM b.toNat_lt (ar2 (by decide) hk))
end
section
variable {P:Program} {N:ct} {w0:World} {env:Env} {L:List aj} {l:List Oper} {Q:Exit->Act->World->Prop} {rest:List Oper} {d:Option Tmp} {ty:TypeId} {ps:String} {af:Array Edge} {gd:Option (Nat×Bool)}
class cd(P:Program)(f:FuncId)(w0:World)(L:List aj)(vs:List Value)(v:outParam Value)(pre:outParam Prop):Prop where
  h:pre-> ∀w,Mem w0 L w->Calls P f vs.toArray w fun e w'=>e= .returned v/\Mem w [] w'
class bZ(P:Program)(f:FuncId)(w0:World)(L:List aj)(vs:List Value)(X:outParam Type)(val:outParam (X->Value))(L':outParam (X->List aj))(pr:outParam (X->Prop))(pre:outParam Prop):Prop where
  h:pre-> ∀w,Mem w0 L w->Calls P f vs.toArray w fun e w'=> ∃x,e= .returned (val x)/\pr x/\Mem w0 (L' x) w'
instance (priority:=high) cd.pure {f:FuncId}{vs:List Value}{v:Value}[h:pq P f vs v]:cd P f w0 L vs v True:=⟨fun _ w _=>h.h w⟩
theorem cj{f:FuncId}{xs:List Operand}{ts:Array TypeId}{vs:List Value}{v:Value}{pre:Prop}[hf:aI P f](hx:iH env xs=some vs)[hc:cd P f w0 L vs v pre](hp:pre):
    Yl P N w0 env L ⟨d, .call {callee:= .value (.func f),args:=xs.toArray,argTypes:=ts},ty,ps,af,gd⟩ v:=D3 hx fun w hw=>hc.h hp w hw
theorem bg{X:Type}{val:X→Value}{L':X→List aj}{pr:X→Prop}{pre:Prop}{f:FuncId}{xs:List Operand}{ts:Array TypeId}{vs:List Value}[hf:aI P f](hx:iH env xs=some vs)
    [hc:bZ P f w0 L vs X val L' pr pre] (hp:pre) (hk: ∀x,pr x->Sq P N w0 l Q rest (cB env d (val x)) (L' x)) (hd:dn N d=true:=by rfl):
    Sq P N w0 l Q (⟨d, .call {callee:= .value (.func f),args:=xs.toArray,argTypes:=ts},ty,ps,af,none⟩::rest) env L:=WJ hx (fun w hw=>hc.h hp w hw) hk hd
theorem WW{Lq:List aj}{n j:Nat}{js:List Nat}{X:Type}{val:X→Value}{L':X→List aj}{pr:X→Prop}{pre:Prop}{f:FuncId}{xs:List Operand}{ts:Array TypeId}{vs:List Value}(hj:l[j]? =some ⟨d, .call {callee:= .value (.func f),args:=xs.toArray,argTypes:=ts},ty,ps,af,none⟩)[hf:aI P f](hx:iH env xs=some vs)
    [hc:bZ P f w0 L vs X val L' pr pre] (hp:pre) (hL: ∀x w,Mem w0 (L' x) w->Mem w0 Lq w) (hk: ∀x,pr x->Fr P N w0 Lq l n Q js (cB env d (val x)) (L' x)) (hd:dn N d=true:=by rfl):
    Fr P N w0 Lq l n Q (j::js) env L:=Wt hj hx (fun w hw=>hc.h hp w hw) hL hk hd
end
class dq(L:List aj)(i:Nat)(R:outParam (List aj)):Prop where
  h:L.eraseIdx i=R
instance dq.here{e:aj}{L:List aj}:dq (e::L) 0 L:=⟨rfl⟩
instance dq.there{e:aj}{L R:List aj}{i:Nat}[q:dq L i R]:dq (e::L) (i+1) (e::R):=⟨by simp[q.h]⟩
class ai(L L':List aj):Prop where
  h: ∃R,L.Perm (L'++R)
instance (priority:=high) ai.nil {L:List aj}:ai L []:=⟨⟨L, .refl _⟩⟩
instance (priority:=high) ai.same {L:List aj}:ai L L:=⟨⟨[],by simp⟩⟩
theorem oq{e:aj}: ∀{L:List aj} {i:Nat},L[i]? =some e->L.Perm (e::L.eraseIdx i)
  |[],i,h=>by simp at h
  |x::L,0,h=>by obtain rfl:x=e:=by simpa using h
                simp
  |x::L,i+1,h=>by
   have:=oq (L:=L) (i:=i) (by simpa using h);rw[atK];exact(this.cons x).trans (.swap _ _ _)
instance ai.cons{L L' R:List aj}{e:aj}{i:Nat}[a:At L e i][b:dq L i R][k:ai R L']:ai L (e::L'):=⟨by
  obtain⟨S,hS⟩:=k.h;exact⟨S,(oq a.h).trans (by rw[b.h];exact hS.cons e)⟩⟩
theorem ai.mem{L L':List aj}[k:ai L L']{w0 w:World}(h:Mem w0 L w):Mem w0 L' w:=by
  obtain⟨R,hR⟩:=k.h;exact(h.perm hR).sub (List.sublist_append_left _ _)
theorem ta{P:Program}{N:ct}{w0:World}{env:Env}{L:List aj}{Q:Exit->Act->World->Prop}{c:Code}(L':List aj)(h: ∀w,Mem w0 L w->Mem w0 L' w)(hk:Cw P N w0 Q c env L'):Cw P N w0 Q c env L:=fun a w ha hw=>hk a w ha (h w hw)
theorem NT{P:Program}{N:ct}{w0:World}{env:Env}{L:List aj}{Q:Exit->Act->World->Prop}{c:Code}(s:Sv){α:Type}{enc:α->Array Value}{n:Nat}{xs:List α}[q:Hd w0 L s enc n xs](hk:xs.length<=140737488355328->Cw P N w0 Q c env L):Cw P N w0 Q c env L:=
  fun a w ha hw=>hk (q.h w hw).bd a w ha hw
theorem pt{α:Type}{xs:List α}{i:Nat}{d:α}(h:i<xs.length):xs[i]? =some (xs.getD i d):=by
  simp[List.getD,h]
section
variable {P:Program} {N:ct} {w0:World} {env:Env} {L:List aj} {l:List Oper} {Q:Exit->Act->World->Prop} {rest:List Oper} {d:Option Tmp} {ty:TypeId} {ps:String} {af:Array Edge} {gd:Option (Nat×Bool)}
variable {α:Type} {enc:α->Array Value} {c:Nat} {s:Sv} {xs:List α}
theorem NU{x y:Operand}{t u:TypeId}{a b:List UInt8}(hx:ev env x=some (.string ⟨a.toArray⟩))(hy:ev env y=some (.string ⟨b.toArray⟩)):
    Ry P N w0 env L ⟨d, .binOp .eql t x y u,ty,ps,af,gd⟩ (.bool (decide (a=b))):=by
  have e:((⟨a.toArray⟩:ByteArray).toList==(⟨b.toArray⟩:ByteArray).toList)=decide (a=b):=by
    rw[ByteArray.toList_mk,ByteArray.toList_mk,atx];simp
  rw[←e];exact WT hx hy
theorem uz{t e:TypeId}{x:Operand}{u:TypeId}(ht:P.underlying t=some (.slice e))(hx:ev env x=some s.val):
    Ry P N w0 env L ⟨d, .binOp .eql t x (.const (.slice none 0 0)) u,ty,ps,af,gd⟩ (.bool s.nil):=fun a w ha _=>by
  have h1:(eqGuard BinOp.eql t x (.const (.slice none 0 0)) s.val (.slice none 0 0)).run P w= .ok () w:=by
    unfold Sv.val;split<;>rfl
  have h3:(Op.equal t s.val (.slice none 0 0)).run P w= .ok s.nil w:=by
    unfold Sv.val;split<;>rename_i hn<;>rw[run_equal_slice_nil w t e _ _ _ ht,hn]<;>rfl
  have h2:(binOp .eql t s.val (.slice none 0 0)).run P w= .ok (.bool s.nil) w:=by
    have:binOp .eql t s.val (.slice none 0 0)=(do pure (.bool (←Op.equal t s.val (.slice none 0 0)))):=by unfold Sv.val;split<;>rfl
    rw[this,Sem.run_bind,h3];rfl
  simp only[execOp,ha.ev hx,show a.eval (.const (.slice none 0 0))= .slice none 0 0 from rfl,Sem.run_bind,h1,Result.andThen_ok,h2,Sem.run_pure]
theorem WX{t e:TypeId}{x:Operand}{u:TypeId}(ht:P.underlying t=some (.slice e))(hx:ev env x=some s.val):
    Ry P N w0 env L ⟨d, .binOp .neq t x (.const (.slice none 0 0)) u,ty,ps,af,gd⟩ (.bool (!s.nil)):=fun a w ha _=>by
  have h1:(eqGuard BinOp.neq t x (.const (.slice none 0 0)) s.val (.slice none 0 0)).run P w= .ok () w:=by
    unfold Sv.val;split<;>rfl
  have h3:(Op.equal t s.val (.slice none 0 0)).run P w= .ok s.nil w:=by
    unfold Sv.val;split<;>rename_i hn<;>rw[run_equal_slice_nil w t e _ _ _ ht,hn]<;>rfl
  have h2:(binOp .neq t s.val (.slice none 0 0)).run P w= .ok (.bool (!s.nil)) w:=by
    have:binOp .neq t s.val (.slice none 0 0)=(do pure (.bool (!(←Op.equal t s.val (.slice none 0 0))))):=by unfold Sv.val;split<;>rfl
    rw[this,Sem.run_bind,h3];rfl
  simp only[execOp,ha.ev hx,show a.eval (.const (.slice none 0 0))= .slice none 0 0 from rfl,Sem.run_bind,h1,Result.andThen_ok,h2,Sem.run_pure]
theorem WY{t e:TypeId}{cE:Nat}(ht:fa P t e c cE)(w:World):(Instr.buildSlice t 0 #[]).run P w= .ok (.slice (some ⟨w.heap.size,0,none⟩) 0 0) (w.alloc (.cells #[] e)):=by
  obtain⟨i',z,bc,aH,bB,cT,nq⟩:=ht.info;have:(Array.range 0:Array Nat)= #[]:=by simp
  simp[Instr.buildSlice,run_underlying ht.eU,sizeOf,typeInfo,bc,Instr.fill,newRow,newObj,Sem.run,Result.andThen,this]
theorem vT{t e:TypeId}{cE:Nat}(enc:α→Array Value)[ht:fa P t e c cE][he:bm enc c](hk: ∀b,Sq P N w0 l Q rest (cB env d (Sv.val ⟨false,b,0,0,0,none⟩)) (own enc c ⟨false,b,0,0,0,none⟩ []::L))(hd:dn N d=true:=by rfl):
    Sq P N w0 l Q (⟨d, .buildSlice t 0 #[],ty,ps,af,none⟩::rest) env L:=
  oc rfl hd fun a w _ hw=>by
    refine⟨_,_,_,?_,hw.call (vR (enc:=enc) (c:=c) (xs:=[]) (cs:= #[]) (e:=e) rfl 0 0 rfl (aqY _) (arn _) (by simp) (by simp)),hk _⟩;simp only[execOp,Sem.run_bind,List.map_toArray,arZ,WY ht w,Result.andThen,Sem.run_pure];rfl
end
instance:Deep UInt8:=Deep.flat aN 1
instance:fZ UInt8 aN 1:=⟨rfl,fun _=>rfl⟩
def ca{τ:Type}(a:Sl τ):Array Value:= #[a.sv.val]
instance {τ:Type}:bm (ca (τ:=τ)) 1:=⟨fun _=>rfl,fun a=>bm.one (enc:=s8) (c:=1) a.sv⟩
instance {τ:Type}[Deep τ]:fZ (Sl τ) ca 1:=⟨rfl,fun _=>rfl⟩
instance {τ:Type}(a:Sl τ):cg (ca a) 0 a.sv.val:=⟨rfl⟩
def lx{τ:Type}(a:Sl (Sl τ)):List (List τ):=a.xs.map (·.xs)
theorem xE{τ:Type}(a:Sl (Sl τ)):(lx a).length=a.xs.length:=by simp[lx]
section
variable {L L' L1 L2 R R1 R2:List aj} {τ:Type}
def Tr(L L':List aj):Prop:= ∀(K:List aj) (w0 w:World),Mem w0 (L++K) w->Mem w0 (L'++K) w
theorem Tr.mem(h:Tr L L'){w0 w:World}(hw:Mem w0 L w):Mem w0 L' w:=by
  have:=h [] w0 w (by simpa using hw);simpa using this
theorem Tr.refl:Tr L L:=fun _ _ _ h=>h
theorem Tr.trans(h:Tr L L1)(h':Tr L1 L2):Tr L L2:=fun K w0 w hw=>h' K w0 w (h K w0 w hw)
theorem Tr.perm(h:L.Perm L'):Tr L L':=fun K _ _ hw=>Mem.perm hw (h.append_right K)
theorem Tr.left(h:Tr L L')(X:List aj):Tr (X++L) (X++L'):=fun K w0 w hw=>by
  have p: ∀Y:List aj,(X++Y++K).Perm (Y++(X++K)):=fun Y=>by
    rw[aq6,←aq6 Y];refine(List.perm_append_comm_assoc X Y K).trans ?_;rw[aq6]
  exact(h (X++K) w0 w (hw.perm (p L))).perm (p L').symm
theorem Tr.right(h:Tr L L')(X:List aj):Tr (L++X) (L'++X):=fun K w0 w hw=>by
  rw[aq6]at hw⊢;exact h (X++K) w0 w hw
theorem Tr.cons(h:Tr L L')(x:aj):Tr (x::L) (x::L'):=h.left [x]
theorem Tr.sub(h:L'.Sublist L):Tr L L':=fun K _ _ hw=>Mem.sub hw (h.append (.refl K))
theorem Tr.front{e:aj}{i:Nat}(hi:L[i]? =some e):Tr L (e::L.eraseIdx i):= .perm (oq hi)
theorem Tr.back{e:aj}{i:Nat}(hi:L[i]? =some e):Tr (e::L.eraseIdx i) L:= .perm (oq hi).symm
theorem Tr.emp:Tr (.emp::L) L:=fun _ _ _ hw=>Mem.BO.1 hw
theorem Tr.NV:Tr L (.emp::L):=fun _ _ _ hw=>Mem.BO.2 hw
theorem Tr.two{a b:aj}:Tr (.two a b::L) (a::b::L):=fun _ _ _ hw=>Mem.xD.1 hw
theorem Tr.zB[d:Deep τ]{a:Sl τ}:Tr (Deep.cc a::L) (own (Deep.cells (τ:=τ)) (Deep.c τ) a.sv a.xs::a.xs.map d.cc++L):=fun K w0 w hw=>by
  have:=Mem.zB.1 hw;simpa using this
theorem Tr.WZ[d:Deep τ]{a:Sl τ}:Tr (own (Deep.cells (τ:=τ)) (Deep.c τ) a.sv a.xs::a.xs.map d.cc++L) (Deep.cc a::L):=fun K w0 w hw=>by
  refine Mem.zB.2 ?_;simpa using hw
class Plain(τ:Type)[Deep τ]:Prop where
  h: ∀x:τ,Deep.cc x= .emp
theorem Tr.plain[Deep τ][p:Plain τ]: ∀{xs:List τ},Tr (xs.map Deep.cc++L) L
  |[]=> .refl
  |x::xs=>by
   rw[arh,p.h];exact Tr.emp.trans Tr.plain
theorem Tr.NW[Deep τ][p:Plain τ]: ∀{xs:List τ},Tr L (xs.map Deep.cc++L)
  |[]=> .refl
  |x::xs=>by
   rw[arh,p.h];exact(Tr.NW (xs:=xs)).trans Tr.NV
theorem NX[Deep τ]{enc:τ->Array Value}{c:Nat}[f:fZ τ enc c](s:Sv)(xs:List τ):own (Deep.cells (τ:=τ)) (Deep.c τ) s xs=own enc c s xs:=by
  have e:Deep.cells (τ:=τ)=enc:=funext f.h;rw[e,f.hc]
theorem Tr.Is[d:Deep τ]{enc:τ->Array Value}{c:Nat}[f:fZ τ enc c]{a:Sl τ}:Tr (Deep.cc a::L) (own enc c a.sv a.xs::(a.xs.map d.cc++L)):=by
  rw[←NX];exact Tr.zB
theorem Tr.BQ[d:Deep τ]{enc:τ->Array Value}{c:Nat}[f:fZ τ enc c]{a:Sl τ}:Tr (own enc c a.sv a.xs::(a.xs.map d.cc++L)) (Deep.cc a::L):=by
  rw[←NX];exact Tr.WZ
theorem Tr.W0[d:Deep τ]{enc:τ->Array Value}{c:Nat}[f:fZ τ enc c][Plain τ]{a:Sl τ}:Tr (Deep.cc a::L) (own enc c a.sv a.xs::L):=Tr.Is.trans (Tr.plain.cons _)
theorem Tr.Eo[d:Deep τ]{enc:τ->Array Value}{c:Nat}[f:fZ τ enc c][Plain τ]{a:Sl τ}:Tr (own enc c a.sv a.xs::L) (Deep.cc a::L):=(Tr.NW.cons _).trans Tr.BQ
theorem NY{α β:Type}(f:α->β){xs:List α}{i:Nat}{x:α}(hx:xs[i]? =some x):(xs.map f).Perm (f x::(xs.eraseIdx i).map f):=by
  have h1:=(NZ hx).map f;exact h1
where NZ {α:Type}: ∀{L:List α} {i:Nat} {e:α},L[i]? =some e->L.Perm (e::L.eraseIdx i)
  |[],i,e,h=>by simp at h
  |x::L,0,e,h=>by obtain rfl:x=e:=by simpa using h
                  simp
  |x::L,i+1,e,h=>by
   have:=NZ (L:=L) (i:=i) (e:=e) (by simpa using h);rw[atK];exact(this.cons x).trans (.swap _ _ _)
theorem Tr.pick[d:Deep τ]{enc:τ→Array Value}{c:Nat}[f:fZ τ enc c]{a:Sl τ}{i:Nat}{x:τ}(hx:a.xs[i]? =some x):
    Tr (Deep.cc a::L) (own enc c a.sv a.xs::Deep.cc x::((a.xs.eraseIdx i).map d.cc++L)):=
  Tr.Is.trans (Tr.cons (Tr.right (Tr.perm (NY d.cc hx)) L) _)
theorem N1{α:Type}: ∀(xs:List α) (i:Nat) (y:α),(xs.set i y).eraseIdx i=xs.eraseIdx i
  |[],_,_=>by simp
  |_::_,0,_=>by simp
  |_::xs,i+1,y=>by simp[N1 xs i y]
theorem Tr.lay[d:Deep τ]{enc:τ→Array Value}{c:Nat}[f:fZ τ enc c]{s:Sv}{xs:List τ}{i:Nat}{y:τ}(hi:i<xs.length):
    Tr (own enc c s (xs.set i y)::Deep.cc y::((xs.eraseIdx i).map d.cc++L)) (Deep.cc (⟨s,xs.set i y⟩:Sl τ)::L):=by
  have hy:(xs.set i y)[i]? =some y:=by simp[hi]
  have:=(NY d.cc hy).symm;rw[N1]at this;exact(Tr.cons (Tr.right (Tr.perm this) L) _).trans (Tr.BQ (a:=⟨s,xs.set i y⟩))
class Take(L:List aj){τ:Type}[Deep τ](x:τ)(R:outParam (List aj)):Prop where
  h:Tr L (Deep.cc x::R)
class zC(L:List aj){τ:Type}[Deep τ](xs:List τ)(R:outParam (List aj)):Prop where
  h:Tr L (xs.map Deep.cc++R)
instance (priority:=high) Take.at [Deep τ]{x:τ}{i:Nat}[a:At L (Deep.cc x) i][d:dq L i R]:Take L x R:=⟨by
  have:=Tr.front a.h;rwa [d.h]at this⟩
instance (priority:=low) Take.plain [Deep τ][p:Plain τ]{x:τ}:Take L x L:=⟨by rw[p.h];exact Tr.NV⟩
instance Take.own[Deep τ][p:Plain τ]{enc:τ->Array Value}{c:Nat}[f:fZ τ enc c]{s:Sv}{xs:List τ}{i:Nat}[a:At L (own enc c s xs) i][d:dq L i R]:Take L (⟨s,xs⟩:Sl τ) R:=⟨by
  have:=Tr.front a.h;rw[d.h]at this;exact this.trans (Tr.Eo (a:=⟨s,xs⟩))⟩
instance zC.nil[Deep τ]:zC L ([]:List τ) L:=⟨.refl⟩
instance zC.cons[Deep τ]{x:τ}{xs:List τ}[a:Take L x R1][b:zC R1 xs R2]:zC L (x::xs) R2:=⟨a.h.trans (b.h.cons _)⟩
instance:Plain UInt8:=⟨fun _=>rfl⟩
end
section
variable {P:Program} {N:ct} {w0:World} {env:Env} {L R R1 R2:List aj} {l:List Oper} {Q:Exit->Act->World->Prop} {rest:List Oper} {d:Option Tmp} {ty:TypeId} {ps:String} {af:Array Edge}
variable {τ:Type} [dp:Deep τ] {enc:τ->Array Value} {c:Nat}
theorem W1{α:Type}{enc:α→Array Value}{c:Nat}{s:Sv}{xs ys:List α}{t tx e:TypeId}{x y:Operand}{yv:Value}{cE:Nat}[ht:fa P t e c cE][he:bm enc c](R:List aj)(hx:ev env x=some s.val)(hy:ev env y=some yv)
    (ho: ∀w,Mem w0 L w->Mem w0 (own enc c s xs::R) w) (hc:0<c) (hs: ∀w,Mem w0 L w->Src P c tx yv ys.length (aJ enc ys) w) (hb:(xs.length+ys.length)*cE<=140737488355328) (ju:xs.length+ys.length<=140737488355328)
    (hk: ∀s':Sv,Sq P N w0 l Q rest (cB env d s'.val) (own enc c s' (xs++ys)::R)) (hd:dn N d=true:=by rfl):
    Sq P N w0 l Q (⟨d, .call {callee:= .builtin .append,args:= #[x,y],argTypes:= #[t,tx]},ty,ps,af,none⟩::rest) env L:=
  oc rfl hd fun a w ha hw=>by
    obtain⟨s',w',h1,h2,h3,h4⟩:=Il (i:=0) (ty:=ty) ht hc (ho w hw) rfl (hs w hw) hb ju;refine⟨s'.val,w',_,?_,by simpa using h4,hk s'⟩;simp[execOp,ha.ev hx,ha.ev hy,resolve,invoke,builtin,h1,Result.andThen]
theorem W2{s:Sv}{t tx e e':TypeId}{x y:Operand}{cE m:Nat}[f:fZ τ enc c][ht:fa P t e c cE][Iu:fh P tx e' m][he:bm enc c](a:Sl τ)(ys:List τ)(hx:ev env x=some a.sv.val)(hy:ev env y=some s.val)[q:Hd w0 L s enc c ys]
    [k1:Take L a R1] [k2:zC R1 ys R2] (hc:0<c) (hb:(a.xs.length+ys.length)*cE<=140737488355328) (ju:a.xs.length+ys.length<=140737488355328)
    (hk: ∀a':Sl τ,a'.xs=a.xs++ys->Sq P N w0 l Q rest (cB env d a'.sv.val) (Deep.cc a'::R2)) (hd:dn N d=true:=by rfl):
    Sq P N w0 l Q (⟨d, .call {callee:= .builtin .append,args:= #[x,y],argTypes:= #[t,tx]},ty,ps,af,none⟩::rest) env L:=
  W1 (enc:=enc) (c:=c) (xs:=a.xs) (ys:=ys) (a.xs.map dp.cc++(ys.map dp.cc++R2)) hx hy (fun w hw=>((k1.h.trans (k2.h.cons _)).trans Tr.Is).mem hw) hc (fun w hw=>ke Iu.eU hc (q.h w hw)) hb ju
    (fun s' aa w ha hw=>hk ⟨s',a.xs++ys⟩ rfl aa w ha (by
      have t1:Tr (own enc c s' (a.xs++ys)::(a.xs.map dp.cc++(ys.map dp.cc++R2))) (Deep.cc (⟨s',a.xs++ys⟩:Sl τ)::R2):=by
        have:=Tr.BQ (enc:=enc) (c:=c) (a:=(⟨s',a.xs++ys⟩:Sl τ)) (L:=R2);simpa using this
      exact t1.mem hw)) hd
theorem Mem.zD{w:World}[f:fZ τ enc c](h:Mem w0 L w):Mem w0 (Deep.cc (⟨Sv.none,[]⟩:Sl τ)::L) w:=
  (Tr.BQ (enc:=enc) (c:=c) (a:=(⟨Sv.none,[]⟩:Sl τ)) (L:=L)).mem (by simpa using h.dH enc c)
def tc{τ:Type}(s:Sl (Sl τ))(i:Nat):Sl τ:=s.xs.getD i ⟨Sv.none,[]⟩
theorem Ep{τ:Type}{s:Sl (Sl τ)}{i:Nat}{x:Sl τ}(h:s.xs[i]? =some x):tc s i=x:=by simp[tc,h]
theorem Er{τ:Type}{s:Sl (Sl τ)}{i:Nat}(h:s.xs.length<=i):tc s i=⟨Sv.none,[]⟩:=by simp[tc,h]
theorem BR{τ:Type}(s:Sl (Sl τ))(i:Nat):(tc s i).xs=(lx s).getD i []:=by
  rcases aqX i s.xs.length with h|h
  ·have:s.xs[i]? =some s.xs[i]:=by simp[h]
   simp[Ep this,lx,h]
  ·rw[Er h];simp[lx,h]
theorem vU{h:Nat->Option Obj}:Deep.cF h (⟨Sv.none,[]⟩:Sl τ):=⟨eJ.nil _ _ _,fun _ hx=>by cases hx⟩
def Sl.nil{τ:Type}:Sl τ:=⟨Sv.none,[]⟩
instance aT.none:aT w0 L (Sl.nil:Sl τ):=⟨fun _ _=>vU⟩
instance aT.tc{s:Sl (Sl τ)}{i:Nat}[q:aT w0 L s]:aT w0 L (tc s i):=⟨fun w hw=>by
  rcases aqX i s.xs.length with h|h
  ·have hx:s.xs[i]? =some s.xs[i]:=by simp[h]
   rw[Ep hx];exact(q.h w hw).2 _ (anc hx)
  ·rw[Er h];exact vU⟩
theorem Tr.N2{L:List aj}[f:fZ τ enc c]: ∀n,Tr L ((List.replicate n (⟨Sv.none,[]⟩:Sl τ)).map Deep.cc++L)
  |0=> .refl
  |n+1=>by
   rw[atJ,arh];exact(Tr.N2 n).trans fun K w0 w hw=>Mem.zD (enc:=enc) (c:=c) hw
theorem W3{t e:TypeId}{cE n cap:Nat}{x y:Operand}{k k':IntKind}{ix iy:Int}[f:fZ τ enc c][ht:fa P t e 1 cE][hz:eI P e (.slice none 0 0)](hx:ev env x=some (.int k ix))(hy:ev env y=some (.int k' iy))(ex:ix=(n:Int))(ey:iy=(cap:Int))(hle:n≤cap)(hb:cE*cap≤281474976710656)(ju:cap≤140737488355328)
    (hk: ∀a:Sl (Sl τ),a.xs=List.replicate n ⟨Sv.none,[]⟩->Sq P N w0 l Q rest (cB env d a.sv.val) (Deep.cc a::L)) (hd:dn N d=true:=by rfl):
    Sq P N w0 l Q (⟨d, .makeSlice t x y,ty,ps,af,none⟩::rest) env L:=
  rJ (enc:=ca (τ:=τ)) (n:=n) (cap:=cap) (⟨Sv.none,[]⟩:Sl τ) rfl hx hy ex ey hle hb ju (fun b a w ha hw=>hk ⟨⟨false,b,0,n,cap,none⟩,List.replicate n ⟨Sv.none,[]⟩⟩ rfl a w ha
    (((Tr.N2 (enc:=enc) (c:=c) n).cons _|>.trans (Tr.BQ (enc:=ca) (c:=1) (a:=(⟨⟨false,b,0,n,cap,none⟩,List.replicate n ⟨Sv.none,[]⟩⟩:Sl (Sl τ))))).mem hw)) hd
end
section
variable {P:Program} {N:ct} {w0:World} {env:Env} {L:List aj} {l:List Oper} {Q:Exit->Act->World->Prop} {rest:List Oper} {d:Option Tmp} {ty:TypeId} {ps:String} {af:Array Edge}
end
theorem Sv.jw(s:Sv):s.val.cells= #[s.val]:=by unfold Sv.val;split<;>rfl
theorem Tr.W4{τ:Type}[Deep τ][Plain τ]{enc:τ→Array Value}{c:Nat}[fZ τ enc c]{a:Sl (Sl τ)}{x:Sl τ}{i:Nat}{B:List aj}(hx:a.xs[i]? =some x):
    Tr (B++[Deep.cc a]) (own ca 1 a.sv a.xs::own enc c x.sv x.xs::(B++(a.xs.eraseIdx i).map Deep.cc)):=by
  refine(Tr.perm (List.perm_append_comm (l₁:=B) (l₂:=[Deep.cc a]))).trans ?_;refine(Tr.pick (L:=B) hx).trans (Tr.cons (Tr.W0.trans (Tr.cons (Tr.perm List.perm_append_comm) _)) _)
theorem Tr.W5{τ:Type}[Deep τ][Plain τ]{enc:τ→Array Value}{c:Nat}[fZ τ enc c]{s y:Sv}{xs:List (Sl τ)}{ys:List τ}{i:Nat}{B:List aj}(hi:i<xs.length):
    Tr (own ca 1 s (xs.set i ⟨y,ys⟩)::own enc c y ys::(B++(xs.eraseIdx i).map Deep.cc)) (Deep.cc (⟨s,xs.set i ⟨y,ys⟩⟩:Sl (Sl τ))::B):=by
  refine Tr.trans ?_ (Tr.lay (L:=B) hi);exact Tr.cons ((Tr.Eo (a:=(⟨y,ys⟩:Sl τ))).trans (Tr.cons (Tr.perm List.perm_append_comm) _)) _
theorem Es{P:Program}{N:ct}{w0:World}{env:Env}{L:List aj}{l:List Oper}{Q:Exit→Act→World→Prop}{rest:List Oper}{ty:TypeId}{ps:String}{af:Array Edge}{τ:Type}{t:TypeId}{x y:Operand}{i k p:Nat}{s:Sv}{xs:List (Sl τ)}{a:Sl τ}(a':Sl τ)
    (sz:(P.info? t).map (·.size)=some 1) (hx:ev env x=some (.pointer (some ⟨s.b,p,none⟩))) (hy:ev env y=some a'.sv.val) [q:fw L s (ca (τ:=τ)) 1 xs i] (fv:p=s.o+k*1) (ha:xs[k]? =some a) {L':List aj} [hu:fu L i (own ca 1 s (xs.set k a')) L'] (hk:Sq P N w0 l Q rest env L'):
    Sq P N w0 l Q (⟨none, .store t x y,ty,ps,af,none⟩::rest) env L:=
  kz (j:=0) (a':=a') sz hx hy (q:=q) fv ha (by rw[Sv.jw];simp[Sv.one]) (by rw[Sv.jw];rfl) (by decide) (by rw[Sv.jw];rfl) hk
section
variable {P:Program} {N:ct} {w0:World} {env:Env} {L:List aj} {l:List Oper} {Q:Exit->Act->World->Prop} {rest:List Oper} {d:Option Tmp} {ty:TypeId} {ps:String} {af:Array Edge} {gd:Option (Nat×Bool)}
variable {fs:List Nat} {F:Act->Prop} {k:Nat}
theorem nu{o:Oper}{v:Value}{j t:Nat}{b g:Bool}(hg:o.guard=some (j,b))(hj:(l[j]?).bind (·.dst)=some t)(hv:look env t=some (.bool g))(ht:g=b)(h:Yl P N w0 env L o v)
    (hk:Sq P N w0 l Q rest (cB env o.dst v) L) (hd:dn N o.dst=true:=by rfl):Sq P N w0 l Q (o::rest) env L:=fun a w ha hw=>by
  unfold wpList;rw[xA ha hg hj hv,ht,beq_self_eq_true,if_pos rfl];exact .inl (zn ha hw h fun w' gp=>hk _ _ (ha.put hd v) gp)
end
theorem vV{P:Program}{N:ct}{w0:World}{env:Env}{L:List aj}{d:Option Tmp}{ty:TypeId}{ps:String}{af:Array Edge}{gd:Option (Nat×Bool)}{c x y:Operand}{g:Bool}{v:Value}(hc:ev env c=some (.bool g))(ht:g=true)(hx:ev env x=some v)(hy:ev env y=some (.bool false)):
    Ry P N w0 env L ⟨d, .pick c x y,ty,ps,af,gd⟩ v:=by
  subst ht;have h:=HU (P:=P) (N:=N) (w0:=w0) (L:=L) (d:=d) (ty:=ty) (ps:=ps) (af:=af) (gd:=gd) hc hx hy;simpa using h
abbrev bD:=List UInt8
def dec(n:Nat):bD:=Lib.decDigits n
variable {n top:Nat} {s t:bD} {c:UInt8}
theorem vW(h:n<10):dec n=[UInt8.ofNat (48+n)]:=by rw[dec,Lib.decDigits,dif_pos h]
theorem zE(h:10<=n):dec n=dec (n/10)++[UInt8.ofNat (48+n%10)]:=by
 rw[dec,Lib.decDigits,dif_neg (by omega)];rfl
def k7(c:UInt8):Bool:=decide (48<=c.toNat/\c.toNat<=57)
def val(s:bD):Nat:=s.foldl (fun a c=>10*a+(c.toNat -48)) 0
theorem Et:val (s++[c])=10*val s+(c.toNat -48):=by simp[val,ato]
theorem BS{d:Nat}(h:d<10):(UInt8.ofNat (48+d)).toNat=48+d:=by
 rw[UInt8.toNat_ofNat'];omega
theorem Iv: ∀n,(dec n).all k7=true:=by
 intro n
 induction n using Nat.strongRecOn with
 |_ n ih=>
  rcases aqX n 10 with h|h
  ·
   rw[vW h];have:=BS h;simp[k7,this];omega
  rw[zE h,List.all_append,ih (n/10) (by omega)];have:=BS (asX n (show 0<10 by decide));simp[k7,this];omega
theorem Iw: ∀n,val (dec n)=n:=by
 intro n
 induction n using Nat.strongRecOn with
 |_ n ih=>
  rcases aqX n 10 with h|h
  ·
   rw[vW h];have:=BS h;simp[val];omega
  rw[zE h,Et,ih (n/10) (by omega),BS (asX n (by decide))];omega
theorem N3:dec n≠[]:=by
 rcases aqX n 10 with h|h
 ·
  rw[vW h];simp
 rw[zE h];simp
def Eu(s:bD):Prop:=s≠[]/\(s.length<=1\/s.head?≠some 48)
theorem W6: ∀n,0<n->(dec n).head?≠some 48:=by
 intro n
 induction n using Nat.strongRecOn with
 |_ n ih=>
  intro hn;rcases aqX n 10 with h|h
  ·
   rw[vW h];intro e;simp only[List.head?_cons,asu]at e;have h2:=congrArg UInt8.toNat e;rw[BS h]at h2;have:(48:UInt8).toNat=48:=rfl;omega
  rw[zE h,List.head?_append]
  cases hd:(dec (n/10)).head? with
  |none=>exact absurd (List.head?_eq_none_iff.1 hd) N3
  |some x=>
   have:=ih (n/10) (by omega) (by omega);rw[hd]at this;simpa using this
theorem Ix(n:Nat):Eu (dec n):=by
 refine⟨N3,?_⟩;rcases asm n with rfl|h
 ·
  left;rw[vW (by decide)];simp
 exact .inr (W6 n h)
theorem W7: ∀{s:bD},Eu s->s.all k7=true->dec (val s)=s:=by
 intro s;have key: ∀k (s:bD),s.length=k->Eu s->s.all k7=true->dec (val s)=s:=by
  intro k
  induction k with
  |zero=>intro s hl hp _;exact absurd (arb.1 hl) hp.1
  |succ k ih=>
   intro s hl hp hd;obtain⟨t,c,rfl⟩: ∃t c,s=t++[c]:=by
    rcases List.eq_nil_or_concat s with h|⟨t,c,h⟩
    ·
     exact absurd h hp.1
    exact⟨t,c,by simpa using h⟩
   rw[List.all_append,alM]at hd;have hc:48<=c.toNat/\c.toNat<=57:=by
    have:=hd.2;simpa[k7]using this
   have Ev:UInt8.ofNat (48+(c.toNat -48))=c:=by
    rw[show 48+(c.toNat -48)=c.toNat by omega];exact UInt8.ofNat_toNat
   rw[Et]
   by_cases ht:t=[]
   ·
    subst ht;rw[show val []=0 from rfl,Nat.mul_zero,ary,vW (by omega),Ev];rfl
   have bb:t.length=k:=by simpa using hl
   have W8:Eu t:=by
    refine⟨ht,?_⟩;rcases hp.2 with h|h
    ·
     left;simp only[af0,aqQ,aqS]at h;omega
    right;rw[List.head?_append]at h
    cases DU:t.head? with
    |none=>simp
    |some x=>rw[DU]at h;simpa using h
   have Iy:=ih t bb W8 hd.1;have hv:0<val t:=by
    rcases asm (val t)with h0|h0
    ·
     exfalso;rw[h0,vW (by decide)]at Iy;rcases hp.2 with h|h
     ·
      simp only[af0,aqQ,aqS]at h;have:=asU.2 ht;omega
     rw[←Iy]at h;exact h rfl
    exact h0
   rw[zE (by omega),show(10*val t+(c.toNat -48))/10=val t by omega,Iy,show(10*val t+(c.toNat -48))%10=c.toNat -48 by omega,Ev]
 exact key s.length s rfl
def cV(s:bD)(top:Nat):Option Nat:=if(s≠[]/\(s.length<=1\/s.head?≠some 48)/\s.all k7=true/\val s<=top)then some (val s)else none
theorem kA:cV s top=some n↔s=dec n/\n<=top:=by
 unfold cV;constructor
 ·
  intro h;split at h
  ·
   rename_i h1;obtain⟨h2,h3,h4,h5⟩:=h1;obtain rfl:=aqP h;exact⟨(W7 ⟨h2,h3⟩ h4).symm,h5⟩
  cases h
 rintro⟨rfl,h⟩;obtain⟨h1,h2⟩:=Ix n;rw[if_pos ⟨h1,h2,Iv n,by rw[Iw];exact h⟩,Iw]
theorem BT(h:n<=top):cV (dec n) top=some n:=kA.2 ⟨rfl,h⟩
theorem uA: ∀k n,n<10^k->0<k->(dec n).length<=k:=by
 intro k
 induction k with
 |zero=>intro n _ h;omega
 |succ k ih=>
  intro n h _;rcases aqX n 10 with h1|h1
  ·
   rw[vW h1];simp
  rw[zE h1,af0];have hk:0<k:=by
   rcases asm k with rfl|hk
   ·
    simp at h;omega
   exact hk
  have:=ih (n/10) (by rw[Nat.pow_succ]at h;omega) hk;simpa using this
theorem zF(h:k7 c=false):c∉dec n:=fun hc=>by
 have:=aq8.1 (Iv n) c hc;rw[h]at this;cases this
def cM(c:UInt8):bD->List bD
 |[]=>[[]]
 |x::s=>if x=c then[]::cM c s else match cM c s with
  |[]=>[[x]]
  |p::r=>(x::p)::r
theorem Iz: ∀s,cM c s≠[]
 |[]=>by simp[cM]
 |x::s=>by
  rw[cM];split
  ·
   simp
  split<;>simp
theorem BU(h:c∉s):cM c s=[s]:=by
 induction s with
 |nil=>rfl
 |cons x s ih=>
  rw[cM,if_neg (fun e=>h (by simp[e])),ih (fun hc=>h (aq2 _ hc))]
theorem zG(h:c∉s):cM c (s++c::t)=s::cM c t:=by
 induction s with
 |nil=>rw[arJ,cM,if_pos rfl]
 |cons x s ih=>
  rw[asc,cM,if_neg (fun e=>h (by simp[e])),ih (fun hc=>h (aq2 _ hc))]
theorem zH: ∀(s:bD),(c∉s/\cM c s=[s])\/ ∃a b,s=a++c::b/\c∉a/\cM c s=a::cM c b
 |[]=> .inl ⟨by simp,rfl⟩
 |x::s=>by
  by_cases hx:x=c
  ·
   subst hx;exact .inr ⟨[],s,rfl,by simp,by rw[cM,if_pos rfl]⟩
  rcases zH s with⟨h1,h2⟩|⟨a,b,h1,h2,h3⟩
  ·
   left;have:c∉x::s:=fun h=>(aqW.1 h).elim (fun e=>hx e.symm) h1;exact⟨this,BU this⟩
  right;have:c∉x::a:=fun h=>(aqW.1 h).elim (fun e=>hx e.symm) h2;exact⟨x::a,b,by rw[h1];rfl,this,by rw[h1,←asc,zG this]⟩
theorem IA{a:bD}(h:cM c s=[a]):s=a/\c∉s:=by
 rcases zH (c:=c) s with⟨h1,h2⟩|⟨x,y,h1,h2,h3⟩
 ·
  rw[h2]at h;exact⟨(atX h).1,h1⟩
 rw[h3]at h;exact absurd (atX h).2 (Iz y)
theorem BW{a b:bD}{r:List bD}(h:cM c s=a::b::r): ∃u,s=a++c::u/\c∉a/\cM c u=b::r:=by
 rcases zH (c:=c) s with⟨h1,h2⟩|⟨x,y,h1,h2,h3⟩
 ·
  rw[h2]at h;cases(atX h).2
 rw[h3]at h;obtain⟨e1,e2⟩:=atX h;subst e1;exact⟨y,h1,h2,e2⟩
def nv(s:bD):Array Value:= #[.string ⟨s.toArray⟩]
instance:bm nv 1:=⟨fun _=>rfl,fun s=>by simp[nv,Value.oneCell']⟩
instance (s:bD):cg (nv s) 0 (.string ⟨s.toArray⟩):=⟨rfl⟩
theorem zI(s:bD):(⟨s.toArray⟩:ByteArray).size=s.length:=by simp[ByteArray.size]
theorem W9(s:bD)(i:Nat):(⟨s.toArray⟩:ByteArray)[i]? =s[i]? :=by
 by_cases h:i<s.length
 ·
  rw[ByteArray.getElem?_lt' _ _ (by rw[zI];exact h),aqR h];rfl
 rw[ByteArray.getElem?_ge' _ _ (by rw[zI];exact h),aqV (by omega)]
theorem Xa(s:ByteArray):s=⟨s.data.toList.toArray⟩:=by cases s;simp
theorem N4(c:UInt8): ∀s:bD,(cM c s).length<=s.length+1
 |[]=>by simp[cM]
 |x::s=>by
  have ih:=N4 c s;rw[cM];split
  ·
   simp;omega
  split
  ·
   simp
  rename_i p r h;rw[h]at ih;simp at ih⊢;omega
section
variable {P:Program} {N:ct} {w0:World} {env:Env} {L:List aj} {d:Option Tmp} {ty t u:TypeId} {ps:String} {af:Array Edge} {gd:Option (Nat×Bool)} {x y lo hi:Operand} {k k':IntKind} {a b s:bD}
theorem rL(ht:P.underlying t=some .string)(hx:ev env x=some (.string ⟨s.toArray⟩)):
  Ry P N w0 env L ⟨d, .call {callee:= .builtin .len,args:= #[x],argTypes:= #[t]},ty,ps,af,gd⟩ (.int .i64 (s.length:Nat)):=fun aa w ha _=>by
 have h:(Builtin.len_ #[t] ty #[.string ⟨s.toArray⟩]).run P w= .ok (goInt s.length) w:=by
  rw[run_len_string w t ty _ ht,zI]
 simp[execOp,ha.ev hx,resolve,invoke,builtin,h,Result.andThen,goInt]
theorem uB{j:Int}(i:Nat)(hu:P.underlying t=some .string)(hx:ev env x=some (.string ⟨s.toArray⟩))(hj:ev env y=some (.int k j))(ej:j=(i:Int))(h:i<s.length):
  Ry P N w0 env L ⟨d, .index t x y,ty,ps,af,gd⟩ (.int .u8 ((s.getD i 0).toNat:Nat)):=H4 hu hx hj (by omega) (by
 subst ej;rw[W9,arN,aqR h];simp[List.getD,h])
theorem Ry.as{o:Oper}{v v':Value}(h:Ry P N w0 env L o v)(e:v=v'):Ry P N w0 env L o v':=e▸h
theorem Xb{p:Nat}{v1 v2:Int}(hx:ev env x=some (.int .u8 v1))(hy:ev env y=some (.int k' v2))(ea:v1=p)(hp:p<16)(eb:v2=4:=by rfl):
  Ry P N w0 env L ⟨d, .binOp .shl t x y u,ty,ps,af,gd⟩ (.int .u8 ((p*16:Nat):Int)):=by
 subst ea eb;refine Ry.as (D5 hx hy (by decide)) (congrArg (Value.int .u8) ?_);have e:((p:Int)*2^min (4:Int).toNat IntKind.u8.bits)=((p*16:Nat):Int):=by
  rw[show(2:Int)^min (4:Int).toNat IntKind.u8.bits=16 by decide];omega
 rw[e];exact qa (by simp only[nb];omega)
theorem Ew{p q:Nat}{v1 v2:Int}(hx:ev env x=some (.int k v1))(hy:ev env y=some (.int k v2))(ea:v1=p)(eb:v2=q)(h:q<=p)(h2:p<2^nb k:=by first|(simp only[nb];omega)|exact(UInt8.toNat_lt _)):
  Ry P N w0 env L ⟨d, .binOp .sub t x y u,ty,ps,af,gd⟩ (.int k ((p -q:Nat):Int)):=et hx hy (by
 subst ea eb;rw[lL,show(p:Int) -(q:Int)=((p -q:Nat):Int) by omega,qa (by omega)])
end
variable {s a b:bD} {c:UInt8}
theorem N5(h:c∉s):Lib.index s [c]= -1:=by
 induction s with
 |nil=>rfl
 |cons x s ih=>
  have hx:x≠c:=fun e=>h (by simp[e]);have hp:([c]:bD).isPrefixOf (x::s)=false:=by
   simp only[List.isPrefixOf,Bool.and_true];simpa using fun e=>hx e.symm
  rw[Lib.index,hp,ih (fun hc=>h (aq2 _ hc))];rfl
theorem N6(h:c∉a):Lib.index (a++c::b) [c]=(a.length:Int):=by
 induction a with
 |nil=>
  rw[arJ,Lib.index,if_pos (by simp[List.isPrefixOf])];rfl
 |cons x a ih=>
  have hx:x≠c:=fun e=>h (by simp[e]);have hp:([c]:bD).isPrefixOf (x::(a++c::b))=false:=by
   simp only[List.isPrefixOf,Bool.and_true];simpa using fun e=>hx e.symm
  rw[asc,Lib.index,hp,ih (fun hc=>h (aq2 _ hc)),if_neg (by simp),if_neg (by simp only[beq_iff_eq];omega)];simp
def eF(c:UInt8)(s:bD):bD×bD×Bool:=Lib.cut s [c]
theorem Xc(h:c∉s):eF c s=(s,[],false):=by
 rw[eF,Lib.cut,N5 h,if_neg (by decide)]
theorem Xd(h:c∉a):eF c (a++c::b)=(a,b,true):=by
 rw[eF,Lib.cut,N6 h,if_pos (by omega)];simp
theorem N7(c:UInt8): ∀(n:Nat) (s:ByteArray),s.size<=n->(Lib.splitB ⟨#[c]⟩ 0 (Lib.countB s ⟨#[c]⟩) s).map (·.data.toList)=cM c s.data.toList:=by
 intro n
 induction n with
 |zero=>
  intro s hs;have hz:s.data.toList=[]:=by
   apply arb.1;have:=Lib.size_eq s;omega
  have hi:Lib.indexB s ⟨#[c]⟩= -1:=by
   show Lib.index s.data.toList [c]= -1;rw[hz];rfl
  rw[Lib.splitB_miss _ _ _ _ hi,hz];simp[hz,cM]
 |succ n ih=>
  intro s hs;rcases zH (c:=c) s.data.toList with⟨h1,h2⟩|⟨a,b,h1,h2,h3⟩
  ·
   have hi:Lib.indexB s ⟨#[c]⟩= -1:=N5 h1;rw[Lib.splitB_miss _ _ _ _ hi,h2];rfl
  have hi:Lib.indexB s ⟨#[c]⟩=(a.length:Int):=by
   show Lib.index s.data.toList [c]=_;rw[h1];exact N6 h2
  have eZ:(⟨#[c]⟩:ByteArray).size=1:=rfl;have hlen:s.size=a.length+(b.length+1):=by rw[Lib.size_eq,h1];simp
  rw[Lib.countB_hit s _ a.length (by rw[eZ];decide) hi,atS 1,Lib.splitB,if_neg (by rw[hi];simp only[beq_iff_eq];omega),hi,h3];have e1:((a.length:Int)).toNat=a.length:=by omega
  rw[e1,arh];have ed: ∀x y:Nat,(s.extract x y).data.toList=(s.data.toList.drop x).take (y -x):=fun x y=>Lib.extract_data s x y;have e2:(s.extract 0 (a.length+0)).data.toList=a:=by rw[ed,h1];simp
  have e3:(s.extract (a.length+(⟨#[c]⟩:ByteArray).size) s.size).data.toList=b:=by
   rw[ed,h1,eZ,hlen];simp;exact aq5 (by omega)
  rw[e2,ih _ (by have:=Lib.size_eq (s.extract (a.length+(⟨#[c]⟩:ByteArray).size) s.size);rw[e3]at this;omega),e3]
theorem Xe(c:UInt8)(s:ByteArray):Lib.countB s ⟨#[c]⟩+1=(cM c s.data.toList).length:=by
 rw[←N7 c s.size s (aqY _),arA,Lib.splitB_all _ (aqY _) 0 _ s rfl]
end Go.ax
namespace Go.Kb
abbrev Key:=BitVec 128
def aW(k:Key)(i:Nat):Nat:=k.toNat/2^(8*(15 -i))%2^8
theorem gR(k:Key)(i:Nat):aW k i<256:=asX _ (by decide)
theorem Xf(k:Key)(i j:Nat)(hj:j<8):(aW k i).testBit j=k.toNat.testBit (8*(15 -i)+j):=by
 unfold aW;rw[Nat.testBit_mod_two_pow,as8];simp[hj,atS]
theorem Xg(k:Key)(n:Nat)(h:n<128):k.getMsbD n=k.toNat.testBit (127 -n):=by
 simp only[BitVec.getMsbD,BitVec.getLsbD,h,decide_true,arH]
theorem uC(k:Key)(n:Nat)(h:n<128):k.getMsbD n=(aW k (n/8)).testBit (7 -n%8):=by
 rw[Xg k n h,Xf k (n/8) (7 -n%8) (by omega)];congr 1;omega
theorem IB(k:Key)(n:Nat)(h:128<=n):k.getMsbD n=false:=by
 simp only[BitVec.getMsbD];simp;omega
theorem vX{a b:Key}(h: ∀n,n<128->a.getMsbD n=b.getMsbD n):a=b:=BitVec.eq_of_getMsbD_eq fun i hi=>h i hi
theorem Xh{x y:Nat}(hx:x<256)(hy:y<256)(h: ∀j,j<8->x.testBit j=y.testBit j):x=y:=by
 refine atl fun j=>?_;rcases aqX j 8 with hj|hj
 ·
  exact h j hj
 have hp:2^8<=2^j:=ar2 (by decide) hj;rw[asH (arM hx hp),asH (arM hy hp)]
theorem td{a b:Key}(h: ∀i,i<16->aW a i=aW b i):a=b:=
 vX fun n hn=>by rw[uC a n hn,uC b n hn,h (n/8) (by omega)]
theorem Xi{k:Key}{i x:Nat}(hi:i<16)(hx:x<256)(h: ∀m,m<8->k.getMsbD (8*i+m)=x.testBit (7 -m)):aW k i=x:=
 Xh (gR k i) hx fun j hj=>by
  have:=h (7 -j) (by omega);rw[uC k _ (by omega),show(8*i+(7 -j))/8=i by omega,show 7 -(8*i+(7 -j))%8=j by omega,show 7 -(7 -j)=j by omega]at this;exact this
def nw(f:Nat->Nat):Key:=BitVec.ofNat 128 ((List.range 16).foldl (fun a i=>a*2^8+f i%2^8) 0)
theorem Ey(f:Nat->Nat): ∀n,(List.range n).foldl (fun a i=>a*2^8+f i%2^8) 0<2^(8*n)
 |0=>by simp
 |n+1=>by
  rw[ar1,ato];have:=Ey f n;have h2:f n%2^8<2^8:=asX _ (by decide);simp only[asw,List.foldl_nil];rw[Nat.mul_add,ass,Nat.pow_add];omega
theorem N8(f:Nat->Nat): ∀n i,i<n->(List.range n).foldl (fun a i=>a*2^8+f i%2^8) 0/2^(8*(n -1 -i))%2^8=f i%2^8
 |0,i,h=>by omega
 |n+1,i,h=>by
  rw[ar1,ato];simp only[asw,List.foldl_nil];generalize hF:(List.range n).foldl (fun a i=>a*2^8+f i%2^8) 0=F
  by_cases hi:i=n
  ·
   subst hi;rw[show i+1 -1 -i=0 by omega];simp
  have ih:=N8 f n i (by omega);rw[hF]at ih;rw[show 8*(n+1 -1 -i)=8+8*(n -1 -i) by omega,Nat.pow_add,←Nat.div_div_eq_div_mul];have:(F*2^8+f n%2^8)/2^8=F:=by
   have h2:f n%2^8<2^8:=asX _ (by decide);omega
  rw[this];exact ih
theorem te(f:Nat->Nat)(i:Nat)(h:i<16):aW (nw f) i=f i%2^8:=by
 unfold aW nw;have e:((List.range 16).foldl (fun a i=>a*2^8+f i%2^8) 0)%2^128=(List.range 16).foldl (fun a i=>a*2^8+f i%2^8) 0:=arF (Ey f 16);rw[asD,e];exact N8 f 16 i h
def zJ(k:Key)(i x:Nat):Key:=nw fun j=>if j=i then x else aW k j
theorem IC(k:Key)(i x j:Nat)(hj:j<16)(hx:x<256):aW (zJ k i x) j=if j=i then x else aW k j:=by
 unfold zJ;rw[te _ j hj];split
 ·
  omega
 have:=gR k j;omega
def bN(k:Key):Array Value:=((List.range 16).map fun i=>Value.int .u8 (aW k i)).toArray
theorem fR(k:Key):(bN k).size=16:=by unfold bN;simp
theorem jQ(k:Key)(i:Nat)(h:i<16):(bN k)[i]? =some (.int .u8 (aW k i)):=by unfold bN;simp[h]
theorem N9(k:Key)(i:Nat)(h:16<=i):(bN k)[i]? =none:=by unfold bN;simp;omega
theorem ID{A:Array Value}{k:Key}(hs:A.size=16)(h: ∀i,i<16->A[i]? =some (.int .u8 (aW k i))):A=bN k:=by
 apply asv;intro i;rcases aqX i 16 with hi|hi
 ·
  rw[h i hi,jQ k i hi]
 rw[N9 k i hi];simp;omega
theorem Xj(k:Key)(i x:Nat)(hi:i<16)(hx:x<256):(bN k).setIfInBounds i (.int .u8 x)=bN (zJ k i x):=by
 refine ID (by simp[fR]) fun j hj=>?_;rw[arW,IC k i x j hj hx]
 by_cases h:i=j
 ·
  subst h;simp[fR,hi]
 rw[if_neg h,if_neg (fun e=>h e.symm),jQ k j hj]
theorem Oa{a b:Key}(h:bN a=bN b):a=b:=td fun i hi=>by
 have h1:=jQ a i hi;rw[h,jQ b i hi]at h1;simp at h1;omega
def dB(k:Key)(n:Int):Key:=if n<1 then 0#128 else(k>>>(128 -n.toNat))<<<(128 -n.toNat)
theorem tg(k:Key)(n:Int)(i:Nat):(dB k n).getMsbD i=(decide ((i:Int)<n)&&k.getMsbD i):=by
 unfold dB;split
 ·
  have: ¬((i:Int)<n):=by omega
  simp[this]
 rcases aqX i 128 with hi|hi
 ·
  rw[BitVec.getMsbD_shiftLeft,BitVec.getMsbD_ushiftRight]
  by_cases hn:(i:Int)<n
  ·
   have h1:i+(128 -n.toNat)<128:=by omega
   have h2:i+(128 -n.toNat) -(128 -n.toNat)=i:=by omega
   simp[hn,h1,h2]
  have h1: ¬i+(128 -n.toNat)<128:=by omega
  simp[hn,h1]
 rw[IB _ _ hi,IB _ _ hi];simp
theorem Ob(k:Key)(n:Int)(h:128<=n):dB k n=k:=vX fun i hi=>by
 rw[tg];have:(i:Int)<n:=by omega
 simp[this]
theorem Ez(k:Key)(n:Int)(h:n<1):dB k n=0#128:=by unfold dB;rw[if_pos h]
theorem IE(k:Key)(n m:Int):dB (dB k n) m=dB k (min n m):=vX fun i _=>by
 rw[tg,tg,tg,←Bool.and_assoc];congr 1;rw[←Bool.decide_and,decide_eq_decide];omega
theorem EA(k:Key)(n:Int):dB k n=k↔ ∀i:Nat,i<128->n<=(i:Int)->k.getMsbD i=false:=by
 constructor
 ·
  intro h i hi hn;rw[←h,tg];have: ¬(i:Int)<n:=by omega
  simp[this]
 intro h;refine vX fun i hi=>?_;rw[tg]
 by_cases hn:(i:Int)<n
 ·
  simp[hn]
 rw[h i hi (by omega)];simp
theorem BX(k:Key)(n:Nat)(i:Nat)(hi:i<16):aW (dB k n) i=if 8*i+8<=n then aW k i else if 8*i<=n then aW k i/2^(8 -(n -8*i))*2^(8 -(n -8*i))else 0:=by
 have hb:=gR k i;have bb:(if 8*i+8<=n then aW k i else if 8*i<=n then aW k i/2^(8 -(n -8*i))*2^(8 -(n -8*i))else 0)<256:=by
  split
  ·
   exact hb
  split
  ·
   exact asE (Nat.div_mul_le_self _ _) hb
  omega
 refine Xi hi bb fun m hm=>?_;rw[tg,uC k _ (by omega),show(8*i+m)/8=i by omega,show 7 -(8*i+m)%8=7 -m by omega];split
 ·
  have:((8*i+m:Nat):Int)<(n:Int):=by omega
  simp only[this,decide_true,arH]
 split
 ·
  generalize ht:8 -(n -8*i)=t;rw[Nat.testBit_mul_two_pow,as8]
  by_cases bb:((8*i+m:Nat):Int)<(n:Int)
  ·
   have h1:t<=7 -m:=by omega
   simp only[bb,h1,decide_true,arH];rw[show 7 -m -t+t=7 -m by omega]
  have h1: ¬t<=7 -m:=by omega
  simp only[bb,h1,decide_false,as7]
 have: ¬((8*i+m:Nat):Int)<(n:Int):=by omega
 simp only[this,decide_false,as7,Nat.zero_testBit]
def qR(k:Key)(n:Int):Int:=if 0<=n/\n<128 then(if k.getMsbD n.toNat then 1 else 0)else 0
theorem Xk(x j:Nat):((x/2^j%2:Nat):Int)=if x.testBit j then 1 else 0:=by
 rw[Nat.testBit_eq_decide_div_mod_eq]
 by_cases h:x/2^j%2=1
 ·
  simp[h]
 have:x/2^j%2=0:=by omega
 simp[this]
theorem Xl(k:Key)(n:Int)(h0:0<=n)(h1:n<128):qR k n=((aW k (n/8).toNat/2^(7 -n%8).toNat%2:Nat):Int):=by
 unfold qR;rw[if_pos ⟨h0,h1⟩,Xk,uC k n.toNat (by omega)];rw[show(n/8).toNat=n.toNat/8 by omega,show(7 -n%8).toNat=7 -n.toNat%8 by omega]
theorem vY(k:Key)(n:Int):0<=qR k n/\qR k n<=1:=by unfold qR;split<;>(try split)<;>omega
theorem EB(k:Key)(n:Nat):qR k n=if k.getMsbD n then 1 else 0:=by
 unfold qR;rcases aqX n 128 with h|h
 ·
  rw[if_pos (by omega)];simp
 rw[if_neg (by omega),IB k n h];simp
def iR(k:Key)(n:Int):Int:=if 0<=n/\n<32 then 8*qR k (4*n)+4*qR k (4*n+1)+2*qR k (4*n+2)+qR k (4*n+3)else 0
theorem Xm(k:Key)(n:Int)(h:n<0\/32<=n):iR k n=0:=by unfold iR;rw[if_neg (by omega)]
theorem vZ(k:Key)(i j:Nat)(hi:i<16)(hj:j<8):qR k ((8*i+j:Nat):Int)=((aW k i/2^(7 -j)%2:Nat):Int):=by
 rw[Xl k _ (by omega) (by omega)];rw[show(((8*i+j:Nat):Int)/8).toNat=i by omega,show(7 -((8*i+j:Nat):Int)%8).toNat=7 -j by omega]
theorem Xn(b:Nat)(h:b<256):8*(b/2^7%2)+4*(b/2^6%2)+2*(b/2^5%2)+b/2^4%2=b/2^4:=by
 simp only[Nat.reducePow];omega
theorem Xo(b:Nat):8*(b/2^3%2)+4*(b/2^2%2)+2*(b/2^1%2)+b/2^0%2=b%16:=by
 simp only[Nat.reducePow];omega
theorem Xp(k:Key)(n:Int)(h0:0<=n)(h1:n<32)(he:n%2=0):iR k n=((aW k (n/2).toNat/2^4:Nat):Int):=by
 unfold iR;rw[if_pos ⟨h0,h1⟩];generalize hi:(n/2).toNat=i;have e0:4*n=((8*i+0:Nat):Int):=by omega
 have e1:4*n+1=((8*i+1:Nat):Int):=by omega
 have e2:4*n+2=((8*i+2:Nat):Int):=by omega
 have e3:4*n+3=((8*i+3:Nat):Int):=by omega
 rw[e1,e2,e3,e0,vZ k i 0 (by omega) (by omega),vZ k i 1 (by omega) (by omega),vZ k i 2 (by omega) (by omega),vZ k i 3 (by omega) (by omega)];have:=Xn (aW k i) (gR k i);simp only[Nat.reduceSub]at*;omega
theorem Xq(k:Key)(n:Int)(h0:0<=n)(h1:n<32)(he:n%2=1):iR k n=((aW k (n/2).toNat%16:Nat):Int):=by
 unfold iR;rw[if_pos ⟨h0,h1⟩];generalize hi:(n/2).toNat=i;have e0:4*n=((8*i+4:Nat):Int):=by omega
 have e1:4*n+1=((8*i+5:Nat):Int):=by omega
 have e2:4*n+2=((8*i+6:Nat):Int):=by omega
 have e3:4*n+3=((8*i+7:Nat):Int):=by omega
 rw[e1,e2,e3,e0,vZ k i 4 (by omega) (by omega),vZ k i 5 (by omega) (by omega),vZ k i 6 (by omega) (by omega),vZ k i 7 (by omega) (by omega)];have:=Xo (aW k i);simp only[Nat.reduceSub]at*;omega
structure bo where
 bits:Int
 len:Int
 key:Key
 deriving DecidableEq
def bj(p:bo):Bool:=decide (p.bits=32\/p.bits=128)&&decide (0<=p.len)&&decide (p.len<=p.bits)&&decide (dB p.key p.len=p.key)
theorem rM(p:bo):bj p=true↔(p.bits=32\/p.bits=128)/\0<=p.len/\p.len<=p.bits/\dB p.key p.len=p.key:=by
 unfold bj;simp[and_assoc]
def IF(p:bo)(k:Key):Bool:=bj p&&decide (dB k p.bits=k)&&decide (dB k p.len=p.key)
def Xr(p q:bo):Bool:=bj p&&bj q&&decide (p.bits=q.bits)&&decide (p.len<=q.len)&&decide (dB q.key p.len=p.key)
def dt(p q:bo):Bool:=bj p&&bj q&&(if p.bits≠q.bits then decide (p.bits=32)else if p.key≠q.key then decide (p.key.toNat<q.key.toNat)else decide (p.len<q.len))
def db(p:bo):Array Value:= #[.int .i64 p.bits, .int .i64 p.len]++bN p.key
theorem qd(p:bo):(db p).size=18:=by unfold db;rw[atn,fR];rfl
theorem xF(p:bo):(db p)[0]? =some (.int .i64 p.bits):=by unfold db;rw[Array.getElem?_append];rfl
theorem xG(p:bo):(db p)[1]? =some (.int .i64 p.len):=by unfold db;rw[Array.getElem?_append];rfl
theorem qS(p:bo)(j:Nat):(db p)[2+j]? =(bN p.key)[j]? :=by
 unfold db;rw[Array.getElem?_append,if_neg (by simp)];congr 1;simp
theorem Oc{a b:bo}(h:db a=db b):a=b:=by
 have h0:=xF a;rw[h,xF]at h0;have h1:=xG a;rw[h,xG]at h1;have h2:a.key=b.key:=Oa (asv fun i=>by rw[←qS,←qS,h])
 cases a;cases b
 simp at h0 h1 h2⊢;exact⟨h0.symm,h1.symm,h2⟩
theorem Od(k:Key):nw (aW k)=k:=td fun i hi=>by
 rw[te _ i hi];have:=gR k i;omega
theorem Oe{a b:Key}{i:Nat}(hi:i<16)(hs: ∀j,j<i->aW a j=aW b j)(hd:aW a i<aW b i):a.toNat<b.toNat:=by
 have key: ∀n,n<=16->i<n->(List.range n).foldl (fun x j=>x*2^8+aW a j%2^8) 0<(List.range n).foldl (fun x j=>x*2^8+aW b j%2^8) 0:=by
  intro n
  induction n with
  |zero=>intro _ h;omega
  |succ n ih=>
   intro hn ic;rw[ar1,ato,ato];simp only[asw,List.foldl_nil];have ha:=gR a n;have hb:=gR b n
   by_cases h:i=n
   ·
    subst h;have e:(List.range i).foldl (fun x j=>x*2^8+aW a j%2^8) 0=(List.range i).foldl (fun x j=>x*2^8+aW b j%2^8) 0:=by
     have aux: ∀(l:List Nat) (z:Nat),(∀j∈l,aW a j=aW b j)->l.foldl (fun x j=>x*2^8+aW a j%2^8) z=l.foldl (fun x j=>x*2^8+aW b j%2^8) z:=by
      intro l
      induction l with
      |nil=>intro z _;rfl
      |cons x l ih=>intro z hl;simp only[asw];rw[hl x (by simp)];exact ih _ fun j hj=>hl j (by simp[hj])
     exact aux _ _ fun j hj=>hs j (arw.1 hj)
    rw[e];omega
   have:=ih (by omega) (by omega);omega
 have Of:=key 16 (aqY _) hi;have ea:a.toNat=(List.range 16).foldl (fun x j=>x*2^8+aW a j%2^8) 0:=by
  conv=>lhs;rw[←Od a]
  unfold nw;rw[asD];exact arF (Ey (aW a) 16)
 have eb:b.toNat=(List.range 16).foldl (fun x j=>x*2^8+aW b j%2^8) 0:=by
  conv=>lhs;rw[←Od b]
  unfold nw;rw[asD];exact arF (Ey (aW b) 16)
 rw[ea,eb];exact Of
def qT(a b:Key):Int:=if a.toNat<b.toNat then -1 else if b.toNat<a.toNat then 1 else 0
theorem Og(a b:Key):qT a b=0↔a=b:=by
 unfold qT;constructor
 ·
  intro h;split at h
  ·
   omega
  split at h
  ·
   omega
  exact BitVec.eq_of_toNat_eq (by omega)
 rintro rfl;simp
theorem Xs(a b:Key):qT a b<0↔a.toNat<b.toNat:=by
 unfold qT;split
 ·
  simp[*]
 split<;>simp[*]
theorem IG(p:bo)(k:Key):IF p k=true↔bj p=true/\dB k p.bits=k/\dB k p.len=p.key:=by
 unfold IF;simp[and_assoc]
theorem zK(p:bo):bj p=true↔(p.bits=32\/p.bits=128)/\0<=p.len/\p.len<=p.bits/\ ∀i:Nat,i<128->p.len<=(i:Int)->p.key.getMsbD i=false:=by
 rw[rM,EA]
theorem mS{p q:bo}(hp:bj p=true)(hq:bj q=true):dt p q=true↔p.bits<q.bits\/(p.bits=q.bits/\(p.key.toNat<q.key.toNat\/(p.key.toNat=q.key.toNat/\p.len<q.len))):=by
 obtain⟨p1,_⟩:=(rM p).1 hp;obtain⟨q1,_⟩:=(rM q).1 hq;have ek:p.key=q.key↔p.key.toNat=q.key.toNat:=⟨fun h=>by rw[h],BitVec.eq_of_toNat_eq⟩;unfold dt;rw[hp,hq,arH,arH]
 by_cases hb:p.bits=q.bits
 ·
  rw[if_neg (by simpa using hb)]
  by_cases hk:p.key=q.key
  ·
   rw[if_neg (by simpa using hk)];rw[ek]at hk;simp;omega
  rw[if_pos hk];rw[ek]at hk;simp;omega
 rw[if_pos hb];simp;omega
theorem Xt{p q:bo}:p=q↔p.bits=q.bits/\p.key.toNat=q.key.toNat/\p.len=q.len:=by
 constructor
 ·
  rintro rfl;exact⟨rfl,rfl,rfl⟩
 rintro⟨h1,h2,h3⟩;have:=BitVec.eq_of_toNat_eq h2
 cases p;cases q;simp_all
structure Rt where
 p:bo
 cx:UInt16
 deriving DecidableEq
def iS:Rt:=⟨⟨0,0,0#128⟩,0⟩
def aA(r:Rt):Array Value:=db r.p++ #[.int .u16 r.cx.toNat]
theorem k8(r:Rt):(aA r).size=19:=by unfold aA;rw[atn,qd];rfl
theorem pv(r:Rt)(j:Nat)(h:j<18):(aA r)[j]? =(db r.p)[j]? :=by
 unfold aA;rw[asO (by rw[qd];exact h)]
theorem zL(r:Rt):(aA r)[18]? =some (.int .u16 r.cx.toNat):=by
 unfold aA;rw[Array.getElem?_append_right (by rw[qd];omega),qd];rfl
def rN(xs:List Rt)(i:Nat):Bool:=match xs[i]?with
 |none=>true
 |some r=>bj r.p&&match i with
  |0=>true
  |j+1=>match xs[j]?with
   |none=>true
   |some q=>dt q.p r.p
def rO(xs:List Rt)(n:Nat):Bool:=(List.range n).all (rN xs)
def bJ(xs:List Rt):Bool:=decide (xs.length<=256)&&rO xs xs.length
theorem Oh(xs:List Rt):rO xs 0=true:=rfl
theorem IH(xs:List Rt)(n:Nat):rO xs (n+1)=(rO xs n&&rN xs n):=by
 simp[rO,ar1]
theorem Oi{xs:List Rt}(h:256<xs.length):bJ xs=false:=by
 simp[bJ];omega
theorem EC{xs:List Rt}{i:Nat}(hi:i<xs.length)(h:rN xs i=false):bJ xs=false:=by
 have:rO xs xs.length=false:=by
  rw[rO,List.all_eq_false];exact⟨i,arw.2 hi,by simp[h]⟩
 simp[bJ,this]
theorem Oj{xs:List Rt}(h:xs.length<=256)(ho:rO xs xs.length=true):bJ xs=true:=by simp[bJ,h,ho]
theorem Ol{xs:List Rt}{i:Nat}{r:Rt}(hi:xs[i]? =some r)(h:bj r.p=false):rN xs i=false:=by simp[rN,hi,h]
theorem II{xs:List Rt}{r:Rt}(hi:xs[0]? =some r):rN xs 0=bj r.p:=by simp[rN,hi]
theorem ED{xs:List Rt}{i:Nat}{q r:Rt}(hi:xs[i+1]? =some r)(hq:xs[i]? =some q):rN xs (i+1)=(bj r.p&&dt q.p r.p):=by simp[rN,hi,hq]
theorem Xu{xs:List Rt}{i:Nat}{q r:Rt}(h0:0<i)(hi:xs[i]? =some r)(hq:xs[i -1]? =some q):rN xs i=(bj r.p&&dt q.p r.p):=by
 obtain⟨j,rfl⟩: ∃j,i=j+1:=⟨i -1,by omega⟩;exact ED hi (by simpa using hq)
theorem Om{xs:List Rt}{i:Nat}{q r:Rt}(hi:xs[i]? =some r)(hq:xs[i -1]? =some q):rN xs i=(bj r.p&& !(decide (0<(i:Int))&& !dt q.p r.p)):=by
 rcases asm i with h|h
 ·
  subst h;rw[II hi];simp
 rw[Xu h hi hq];simp[h]
theorem get_some{α:Type}{xs:List α}{i:Nat}(h:i<xs.length): ∃r,xs[i]? =some r:=⟨xs[i],by simp[h]⟩
theorem Xv{a b:Rt}(h:aA a=aA b):a=b:=by
 have hp:db a.p=db b.p:=asv fun j=>by
  rcases aqX j 18 with hj|hj
  ·
   rw[←pv a j hj,←pv b j hj,h]
  rw[ar7 (by rw[qd];exact hj),ar7 (by rw[qd];exact hj)]
 have hh:=zL a;rw[h,zL b]at hh;have e1:b.cx=a.cx:=by
  apply UInt16.toNat_inj.1;simp only[asu,Value.int.injEq,true_and]at hh;omega
 obtain⟨p,q⟩:=a;obtain⟨p',q'⟩:=b;simp only at e1 hp;rw[Oc hp,e1]
theorem Xw{α:Type}{xs ys:List α}{i:Nat}{a b:α}(ha:xs[i]? =some a)(hb:ys[i]? =some b)(h: ¬a=b): ¬xs=ys:=fun e=>by
 rw[e,hb]at ha;exact h (aqP ha).symm
theorem Xx{α:Type}{xs ys:List α}(hl:xs.length=ys.length)(h: ∀j,j<xs.length->xs[j]? =ys[j]?):xs=ys:=arS fun j=>by
 rcases aqX j xs.length with hj|hj
 ·
  exact h j hj
 rw[aqV hj,aqV (by omega)]
open Go.ax
variable {s:bD} {c:UInt8} {k:Key}
def jx(n:Nat):UInt8:=if n<10 then UInt8.ofNat (48+n)else UInt8.ofNat (87+n)
def kB(c:UInt8):Option Nat:=if 48<=c.toNat/\c.toNat<=57 then some (c.toNat -48)else if 97<=c.toNat/\c.toNat<=102 then some (c.toNat -87)else none
theorem Xy{n:Nat}(h:n<16):(jx n).toNat=if n<10 then 48+n else 87+n:=by
 unfold jx;split
 ·
  rw[UInt8.toNat_ofNat'];omega
 rw[UInt8.toNat_ofNat'];omega
theorem EE{n:Nat}(h:n<16):kB c=some n↔c=jx n:=by
 have ht:=Xy h;constructor
 ·
  intro h1;apply atc.1;rw[ht];unfold kB at h1;split at h1
  ·
   have:=aqP h1;split<;>omega
  split at h1
  ·
   have:=aqP h1;split<;>omega
  cases h1
 rintro rfl;unfold kB;rw[ht];split
 ·
  rw[if_pos (by omega)];congr 1;omega
 rw[if_neg (by omega),if_pos (by omega)];congr 1;omega
theorem IJ{n:Nat}(h:kB c=some n):n<16:=by
 unfold kB at h;split at h
 ·
  have:=aqP h;omega
 split at h
 ·
  have:=aqP h;omega
 cases h
theorem Xz{n:Nat}(h:n<16){c:UInt8}(hc:kB c=none):jx n≠c:=fun e=>by
 have:=(EE h).2 e.symm;rw[hc]at this;cases this
def rP(k:Key):bD:=dec (aW k 0)++46::(dec (aW k 1)++46::(dec (aW k 2)++46::dec (aW k 3)))
def gS(k:Key)(i:Nat):Nat:=if i%2=0 then aW k (i/2)/16 else aW k (i/2)%16
theorem BY(k:Key)(i:Nat):gS k i<16:=by
 have:=gR k (i/2);unfold gS;split<;>omega
def ny(k:Key):bD:=(List.range 32).map fun i=>jx (gS k i)
def qU(k:Key)(bits:Int):bD:=if bits=32 then rP k else ny k
def four(a b c d:Nat):Key:=nw fun i=>if i=0 then a else if i=1 then b else if i=2 then c else if i=3 then d else 0
def kC(s:bD):Option Key:=match cM 46 s with
 |[a,b,c,d]=>match cV a 255,cV b 255,cV c 255,cV d 255 with
  |some a,some b,some c,some d=>some (four a b c d)
  |_,_,_,_=>none
 |_=>none
def EF(s:bD):Bool:=s.all fun c=>(kB c).isSome
def k9(s:bD)(i:Nat):Nat:=(kB (s.getD i 0)).getD 0
def zM(s:bD):Key:=nw fun i=>16*k9 s (2*i)+k9 s (2*i+1)
def mT(s:bD):Option Key:=if s.length=32/\EF s=true then some (zM s)else none
def nz(s:bD):Option (Key×Int):=match kC s with
 |some k=>some (k,32)
 |none=>(mT s).map fun k=>(k,128)
theorem xH{a b c d:Nat}(ha:a<=255)(hb:b<=255)(hc:c<=255)(hd:d<=255){i:Nat}(hi:i<16):aW (four a b c d) i=if i=0 then a else if i=1 then b else if i=2 then c else if i=3 then d else 0:=by
 rw[four,te _ _ hi];split
 ·
  omega
 split
 ·
  omega
 split
 ·
  omega
 split<;>omega
theorem On:dB k 32=k↔ ∀i,4<=i->i<16->aW k i=0:=by
 constructor
 ·
  intro h i h1 h2;have:=BX k 32 i h2;rw[show dB k ((32:Nat):Int)=k from h]at this;rw[this,if_neg (by omega)];split
  ·
   have hb:=gR k i;obtain rfl:i=4:=by omega
   rw[show(8 -(32 -8*4))=8 by decide];omega
  rfl
 intro h;refine td fun i hi=>?_;rw[show dB k 32=dB k ((32:Nat):Int)from rfl,BX k 32 i hi];split
 ·
  rfl
 have:=h i (by omega) hi;rw[this];split<;>simp
theorem Oo:kC s=some k↔dB k 32=k/\s=rP k:=by
 constructor
 ·
  intro h;unfold kC at h;split at h
  ·
   rename_i a b c d hs;obtain⟨u1,e1,_,h1⟩:=BW hs;obtain⟨u2,e2,_,h2⟩:=BW h1;obtain⟨u3,e3,_,h3⟩:=BW h2;obtain⟨e4,_⟩:=IA h3;split at h
   ·
    rename_i na nb nc nd ha hb hc hd;obtain⟨ea,la⟩:=kA.1 ha;obtain⟨eb,lb⟩:=kA.1 hb;obtain⟨ec,lc⟩:=kA.1 hc;obtain⟨ed,ld⟩:=kA.1 hd;obtain rfl:=aqP h;refine⟨On.2 fun i h1 h2=>?_,?_⟩
    ·
     rw[xH la lb lc ld h2,if_neg (by omega),if_neg (by omega),if_neg (by omega),if_neg (by omega)]
    rw[rP,xH la lb lc ld (by decide),xH la lb lc ld (by decide),xH la lb lc ld (by decide),xH la lb lc ld (by decide)];simp only[if_true,Nat.one_ne_zero,if_false,(by decide:(2:Nat)≠0),(by decide:(2:Nat)≠1),(by decide:(3:Nat)≠0),(by decide:(3:Nat)≠1),(by decide:(3:Nat)≠2)];rw[e1,e2,e3,e4,ea,eb,ec,ed]
   cases h
  cases h
 rintro⟨h,rfl⟩;have hn: ∀n,(46:UInt8)∉dec n:=fun n=>zF (by decide);have hs:cM 46 (rP k)=[dec (aW k 0),dec (aW k 1),dec (aW k 2),dec (aW k 3)]:=by
  rw[rP,zG (hn _),zG (hn _),zG (hn _),BU (hn _)]
 have hl: ∀i,aW k i<=255:=fun i=>by have:=gR k i;omega
 have e:kC (rP k)=some (four (aW k 0) (aW k 1) (aW k 2) (aW k 3)):=by
  unfold kC;rw[hs];simp only[BT (hl _)]
 rw[e];refine congrArg some (td fun i hi=>?_);rw[xH (hl _) (hl _) (hl _) (hl _) hi];rcases aqX i 4 with h4|h4
 ·
  have:i=0\/i=1\/i=2\/i=3:=by omega
  rcases this with rfl|rfl|rfl|rfl<;>simp
 rw[if_neg (by omega),if_neg (by omega),if_neg (by omega),if_neg (by omega),On.1 h i h4 hi]
theorem IK(k:Key){i:Nat}(h:i<32):(ny k)[i]? =some (jx (gS k i)):=by simp[ny,h]
theorem BZ(k:Key):(ny k).length=32:=by simp[ny]
theorem Oq(k:Key){i:Nat}(h:i<32):k9 (ny k) i=gS k i:=by
 unfold k9;rw[List.getD,IK k h,as3,(EE (BY k i)).2 rfl];rfl
theorem XA(k:Key):EF (ny k)=true:=by
 unfold EF ny;rw[List.all_map,aq8];intro i _;simp only[Function.comp];rw[(EE (BY k i)).2 rfl];rfl
theorem Ot:mT s=some k↔s=ny k:=by
 constructor
 ·
  intro h;unfold mT at h;split at h
  ·
   rename_i h1;obtain⟨hl,ha⟩:=h1;obtain rfl:=aqP h;have hh: ∀i,i<32-> ∃n,n<16/\s[i]? =some (jx n)/\k9 s i=n:=fun i hi=>by
    have dD:i<s.length:=by omega
    have hm:s[i]? =some (s.getD i 0):=by simp[List.getD,dD]
    have:=aq8.1 ha _ (anc hm);obtain⟨n,hn⟩:=arV.1 this;have bb:=IJ hn;exact⟨n,bb,by rw[hm,(EE bb).1 hn],by rw[k9,hn];rfl⟩
   have hb: ∀j,j<16->aW (zM s) j=16*k9 s (2*j)+k9 s (2*j+1):=fun j hj=>by
    obtain⟨n,h1,_,h2⟩:=hh (2*j) (by omega);obtain⟨m,h3,_,h4⟩:=hh (2*j+1) (by omega);rw[zM,te _ _ hj];omega
   refine arS fun i=>?_;rcases aqX i 32 with hi|hi
   ·
    obtain⟨n,h1,h2,h3⟩:=hh i hi;rw[h2,IK _ hi];have hn:gS (zM s) i=n:=by
     unfold gS;rw[hb (i/2) (by omega)];have v7:=fun j (hj:j<32)=>hh j hj;split
     ·
      rename_i he;obtain⟨m,h5,_,h6⟩:=hh (2*(i/2)+1) (by omega);rw[show 2*(i/2)=i by omega,h3,show i+1=2*(i/2)+1 by omega,h6];omega
     rename_i he;obtain⟨m,h5,_,h6⟩:=hh (2*(i/2)) (by omega);rw[show 2*(i/2)+1=i by omega,h3,h6];omega
    rw[hn]
   rw[aqV (by omega),aqV (by rw[BZ];omega)]
  cases h
 rintro rfl;unfold mT;rw[if_pos ⟨BZ k,XA k⟩];congr 1;refine td fun j hj=>?_;rw[zM,te _ _ hj,Oq k (by omega),Oq k (by omega)];have hb:=gR k j;have e1:gS k (2*j)=aW k j/16:=by unfold gS;rw[if_pos (by omega),show 2*j/2=j by omega]
 have e2:gS k (2*j+1)=aW k j%16:=by unfold gS;rw[if_neg (by omega),show(2*j+1)/2=j by omega]
 rw[e1,e2];omega
theorem Ou(k:Key){c:UInt8}(hc:kB c=none):c∉ny k:=fun h=>by
 obtain⟨i,_,hi⟩:=ar0.1 h;exact Xz (BY k i) hc hi
theorem XB(k:Key):kC (ny k)=none:=by
 unfold kC;rw[BU (Ou k (by decide))]
theorem IL{b:Int}:nz s=some (k,b)↔bj ⟨b,b,k⟩=true/\s=qU k b:=by
 rw[rM];simp only;constructor
 ·
  intro h;unfold nz at h;split at h
  ·
   rename_i k' hk;obtain⟨rfl,rfl⟩:=Prod.mk.inj (aqP h);obtain⟨h1,h2⟩:=Oo.1 hk;exact⟨⟨.inl rfl,by decide,arU _,h1⟩,by rw[qU,if_pos rfl];exact h2⟩
  obtain⟨k',hk,he⟩:=asI.1 h;obtain⟨rfl,rfl⟩:=Prod.mk.inj he;exact⟨⟨.inr rfl,by decide,arU _,Ob _ _ (arU _)⟩,by rw[qU,if_neg (by decide)];exact Ot.1 hk⟩
 rintro⟨⟨h1,_,_,h2⟩,rfl⟩;rcases h1 with rfl|rfl
 ·
  rw[qU,if_pos rfl,nz,Oo.2 ⟨h2,rfl⟩]
 rw[qU,if_neg (by decide),nz,XB,Ot.2 rfl];rfl
def uD(p:bo):bD:=qU p.key p.bits++47::dec p.len.toNat
def lf(s:bD):Option bo:=match cM 47 s with
 |[a,b]=>match nz a,cV b 128 with
  |some (k,bits),some n=>if bj ⟨bits,(n:Int),k⟩=true then some ⟨bits,(n:Int),k⟩else none
  |_,_=>none
 |_=>none
theorem Ov{k:Key}{b:Int}{c:UInt8}(h1:kB c=none)(h2:c≠46)(h3:k7 c=false):c∉qU k b:=by
 unfold qU;split
 ·
  unfold rP;have hn: ∀n,c∉dec n:=fun n=>zF h3;simp[hn,h2]
 exact Ou k h1
theorem XC{p:bo}(h:bj p=true):bj ⟨p.bits,p.bits,p.key⟩=true:=by
 obtain⟨h1,h2,h3,h4⟩:=(rM p).1 h;refine(rM _).2 ⟨h1,by simp only;omega,arU _,?_⟩;show dB p.key p.bits=p.key
 conv=>lhs;rw[←h4]
 rw[IE,show min p.len p.bits=p.len by omega,h4]
theorem Ow{p:bo}:lf s=some p↔bj p=true/\s=uD p:=by
 constructor
 ·
  intro h;unfold lf at h;split at h
  ·
   rename_i a b hs;obtain⟨u,e1,_,h1⟩:=BW hs;obtain⟨e2,_⟩:=IA h1;split at h
   ·
    rename_i k bits n hk hn;split at h
    ·
     rename_i hm;obtain rfl:=aqP h;refine⟨hm,?_⟩;obtain⟨_,ek⟩:=IL.1 hk;obtain⟨en,_⟩:=kA.1 hn;rw[uD,e1,e2,ek,en];rfl
    cases h
   cases h
  cases h
 rintro⟨hm,rfl⟩;obtain⟨h1,h2,h3,h4⟩:=(rM p).1 hm;unfold lf;rw[uD,zG (Ov (by decide) (by decide) (by decide)),BU (zF (by decide))];simp only[IL.2 ⟨XC hm,rfl⟩];rw[BT (by rcases h1 with h|h<;>omega)]
 have e:(⟨p.bits,((p.len.toNat:Nat):Int),p.key⟩:bo)=p:=by
  obtain⟨b,l,k⟩:=p;simp only at h2⊢;rw[arY h2]
 simp only[e,hm,if_true]
def zN(r:Rt):bD:=uD r.p++32::dec r.cx.toNat
def qe(s:bD):Option Rt:=match cM 32 s with
 |[a,b]=>match lf a,cV b 65535 with
  |some p,some n=>some ⟨p,UInt16.ofNat n⟩
  |_,_=>none
 |_=>none
theorem XD{p:bo}:(32:UInt8)∉uD p:=by
 unfold uD;rw[aqZ,aqW];rintro(h|h|h)
 ·
  exact Ov (by decide) (by decide) (by decide) h
 ·
  cases h
 exact zF (by decide) h
theorem XE{r:Rt}:qe s=some r↔bj r.p=true/\s=zN r:=by
 constructor
 ·
  intro h;unfold qe at h;split at h
  ·
   rename_i a b hs;obtain⟨u,e1,_,h1⟩:=BW hs;obtain⟨e2,_⟩:=IA h1;split at h
   ·
    rename_i p n hp hn;obtain rfl:=aqP h;obtain⟨hm,ep⟩:=Ow.1 hp;obtain⟨en,ln⟩:=kA.1 hn;refine⟨hm,?_⟩;rw[zN,e1,e2,ep,en];have:(UInt16.ofNat n).toNat=n:=by rw[UInt16.toNat_ofNat'];omega
    simp only[this]
   cases h
  cases h
 rintro⟨hm,rfl⟩;unfold qe;rw[zN,zG XD,BU (zF (by decide))];simp only[Ow.2 ⟨hm,rfl⟩];rw[BT (by have:=r.cx.toNat_lt;omega)];simp only[UInt16.ofNat_toNat]
end Go.Kb

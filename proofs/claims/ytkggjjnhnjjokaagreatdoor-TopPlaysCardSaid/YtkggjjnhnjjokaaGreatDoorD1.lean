/- Part of a proof. -/
import Derived.WalkKit
import Derived.Deep.Quiet
import Derived.Laws.CopyRow
import Derived.RangeFuncRecord
import Derived.RangeFuncCalls
import Derived.OrdersIn
import Derived.IntWalk
import Derived.StillTail
import Derived.Deep.MidRow
import Derived.Deep.AppendSrc
import Derived.Laws.MakeOwn
import Derived.Laws.Append
import Derived.Laws.Slices
import Derived.Laws.AppendOwn
import Derived.Laws.IdiomStrings
import Derived.Laws.Strings
import Derived.Laws.Cover3
import Derived.Lib.ItoaNum
import Derived.Laws.DeepStrings4
import Derived.Laws.Runes
import Derived.Lib.Strings
import Derived.Lib.SplitLaws
import Derived.Lib.CutLaws
import GoSem.Core.Value
import Derived.Lib.Join
set_option maxRecDepth 20000
set_option linter.unusedSimpArgs false
set_option linter.unusedVariables false
theorem ad2:type_of% @List.getElem?_eq_some_iff:=List.getElem?_eq_some_iff
theorem af0:type_of% @List.length_append:=List.length_append
theorem alM:type_of% @Bool.and_eq_true:=Bool.and_eq_true
theorem anc:type_of% @List.mem_of_getElem?:=List.mem_of_getElem?
theorem asm:type_of% @List.length_cons:=List.length_cons
theorem asn:type_of% @List.length_nil:=List.length_nil
theorem aso:type_of% @Option.some.inj:=Option.some.inj
theorem asq:type_of% @List.length_take:=List.length_take
theorem asr:type_of% @List.getElem?_eq_getElem:=List.getElem?_eq_getElem
theorem ass:type_of% @List.length_drop:=List.length_drop
theorem ast:type_of% @List.getElem?_eq_none:=List.getElem?_eq_none
theorem asu:type_of% @Nat.le_refl:=Nat.le_refl
theorem asv:type_of% @List.mem_cons_self:=List.mem_cons_self
theorem asw:type_of% @List.mem_cons:=List.mem_cons
theorem asx:type_of% @Nat.lt_or_ge:=Nat.lt_or_ge
theorem asy:type_of% @List.take_of_length_le:=List.take_of_length_le
theorem asz:type_of% @List.mem_append:=List.mem_append
theorem asA:type_of% @List.getElem?_append_right:=List.getElem?_append_right
theorem asB:type_of% @List.getElem?_map:=List.getElem?_map
theorem asC:type_of% @List.take_add_one:=List.take_add_one
theorem asD:type_of% @List.all_eq_true:=List.all_eq_true
theorem asE:type_of% @List.mem_cons_of_mem:=List.mem_cons_of_mem
theorem asF:type_of% @List.append_assoc:=List.append_assoc
theorem asG:type_of% @List.getElem?_append_left:=List.getElem?_append_left
theorem asH:type_of% @Classical.byContradiction:=Classical.byContradiction
theorem asI:type_of% @List.length_eq_zero_iff:=List.length_eq_zero_iff
theorem asJ:type_of% @List.getElem?_set_self:=List.getElem?_set_self
theorem asK:type_of% @Nat.mul_le_mul_right:=Nat.mul_le_mul_right
theorem asL:type_of% @List.map_cons:=List.map_cons
theorem asM:type_of% @List.getElem?_of_mem:=List.getElem?_of_mem
theorem asN:type_of% @List.mem_map_of_mem:=List.mem_map_of_mem
theorem asO:type_of% @Nat.zero_le:=Nat.zero_le
theorem asP:type_of% @List.take_length:=List.take_length
theorem asQ:type_of% @List.mem_filter:=List.mem_filter
theorem asR:type_of% @List.take_append_drop:=List.take_append_drop
theorem asS:type_of% @List.getElem?_set_ne:=List.getElem?_set_ne
theorem asT:type_of% @List.pairwise_cons:=List.pairwise_cons
theorem asU:type_of% @List.mem_range:=List.mem_range
theorem asV:type_of% @List.mem_or_eq_of_mem_set:=List.mem_or_eq_of_mem_set
theorem asW:type_of% @List.take_zero:=List.take_zero
theorem asX:type_of% @List.mem_append_left:=List.mem_append_left
theorem asY:type_of% @Nat.add_mul:=Nat.add_mul
theorem asZ:type_of% @List.append_nil:=List.append_nil
theorem as0:type_of% @List.map_append:=List.map_append
theorem as1:type_of% @List.length_set:=List.length_set
theorem as2:type_of% @Bool.false_eq_true:=Bool.false_eq_true
theorem as3:type_of% @Nat.zero_add:=Nat.zero_add
theorem as4:type_of% @Array.all_eq_true_iff_forall_mem:=Array.all_eq_true_iff_forall_mem
theorem as5:type_of% @Nat.mod_eq_of_lt:=Nat.mod_eq_of_lt
theorem as6:type_of% @List.mem_singleton:=List.mem_singleton
theorem as7:type_of% @Option.map_some:=Option.map_some
theorem as8:type_of% @List.length_map:=List.length_map
theorem as9:type_of% @List.nil_sublist:=List.nil_sublist
theorem ata:type_of% @List.length_replicate:=List.length_replicate
theorem atb:type_of% @List.getElem?_set:=List.getElem?_set
theorem atc:type_of% @List.nil_append:=List.nil_append
theorem atd:type_of% @Nat.lt_of_lt_of_le:=Nat.lt_of_lt_of_le
theorem ate:type_of% @List.size_toArray:=List.size_toArray
theorem atf:type_of% @List.filter_cons:=List.filter_cons
theorem atg:type_of% @Array.getElem?_setIfInBounds:=Array.getElem?_setIfInBounds
theorem ath:type_of% @Bool.true_and:=Bool.true_and
theorem ati:type_of% @List.getD_eq_getElem?_getD:=List.getD_eq_getElem?_getD
theorem atj:type_of% @List.ext_getElem?:=List.ext_getElem?
theorem atk:type_of% @List.take_succ_cons:=List.take_succ_cons
theorem atl:type_of% @Nat.add_zero:=Nat.add_zero
theorem atm:type_of% @List.sublist_cons_self:=List.sublist_cons_self
theorem atn:type_of% @Int.ediv_eq_zero_of_lt:=Int.ediv_eq_zero_of_lt
theorem ato:type_of% @List.map_nil:=List.map_nil
theorem atp:type_of% @List.map_congr_left:=List.map_congr_left
theorem atq:type_of% @List.range_succ:=List.range_succ
theorem atr:type_of% @Option.isSome_iff_exists:=Option.isSome_iff_exists
theorem att:type_of% @Bool.not_eq_true':=Bool.not_eq_true'
theorem atu:type_of% @Int.toNat_natCast:=Int.toNat_natCast
theorem atv:type_of% @Nat.pow_le_pow_right:=Nat.pow_le_pow_right
theorem atw:type_of% @List.mem_map:=List.mem_map
theorem atx:type_of% @Int.le_refl:=Int.le_refl
theorem aty:type_of% @List.getElem?_drop:=List.getElem?_drop
theorem atz:type_of% @List.pairwise_iff_getElem:=List.pairwise_iff_getElem
theorem atA:type_of% @List.cons_append:=List.cons_append
theorem atB:type_of% @Bool.false_ne_true:=Bool.false_ne_true
theorem atC:type_of% @Int.toNat_of_nonneg:=Int.toNat_of_nonneg
theorem atD:type_of% @List.drop_zero:=List.drop_zero
theorem atE:type_of% @Int.add_mul_ediv_right:=Int.add_mul_ediv_right
theorem atF:type_of% @Bool.or_eq_true:=Bool.or_eq_true
theorem atG:type_of% @Nat.add_sub_cancel_left:=Nat.add_sub_cancel_left
theorem atH:type_of% @List.filter_append:=List.filter_append
theorem atI:type_of% @List.set_cons_zero:=List.set_cons_zero
theorem atJ:type_of% @List.contains_iff_mem:=List.contains_iff_mem
theorem atK:type_of% @Nat.mul_comm:=Nat.mul_comm
theorem atL:type_of% @List.flatten_cons:=List.flatten_cons
theorem atM:type_of% @Array.ext_getElem?:=Array.ext_getElem?
theorem atN:type_of% @Nat.add_assoc:=Nat.add_assoc
theorem atO:type_of% @List.mem_append_right:=List.mem_append_right
theorem atP:type_of% @List.mem_iff_getElem?:=List.mem_iff_getElem?
theorem atQ:type_of% @List.getElem?_range:=List.getElem?_range
theorem atS:type_of% @Nat.sub_self:=Nat.sub_self
theorem atT:type_of% @UInt8.toNat_inj:=UInt8.toNat_inj
theorem atU:type_of% @List.take_succ_eq_append_getElem:=List.take_succ_eq_append_getElem
theorem atV:type_of% @Option.bind_some:=Option.bind_some
theorem atW:type_of% @Nat.eq_zero_or_pos:=Nat.eq_zero_or_pos
theorem atX:type_of% @Int.add_sub_cancel:=Int.add_sub_cancel
theorem atY:type_of% @List.getElem?_toArray:=List.getElem?_toArray
theorem atZ:type_of% @List.getElem_of_mem:=List.getElem_of_mem
theorem at0:type_of% @Option.some.injEq:=Option.some.injEq
theorem at1:type_of% @Array.getElem?_eq_none:=Array.getElem?_eq_none
theorem at2:type_of% @Nat.mul_one:=Nat.mul_one
theorem at3:type_of% @List.drop_drop:=List.drop_drop
theorem at4:type_of% @List.foldl_cons:=List.foldl_cons
theorem at5:type_of% @List.set_append_right:=List.set_append_right
theorem at6:type_of% @List.nodup_append:=List.nodup_append
theorem at7:type_of% @Bool.and_self:=Bool.and_self
theorem aua:type_of% @Array.getElem?_eq_some_iff:=Array.getElem?_eq_some_iff
theorem aub:type_of% @Int.mul_nonneg:=Int.mul_nonneg
theorem auc:type_of% @BitVec.toNat_ofNat:=BitVec.toNat_ofNat
theorem aud:type_of% @Nat.lt_of_le_of_lt:=Nat.lt_of_le_of_lt
theorem aue:type_of% @Bool.true_eq_false:=Bool.true_eq_false
theorem auf:type_of% @List.getElem_mem:=List.getElem_mem
theorem aug:type_of% @Nat.testBit_lt_two_pow:=Nat.testBit_lt_two_pow
theorem auh:type_of% @List.all_toArray:=List.all_toArray
theorem aui:type_of% @List.not_mem_nil:=List.not_mem_nil
theorem auj:type_of% @List.drop_succ_cons:=List.drop_succ_cons
theorem auk:type_of% @List.singleton_append:=List.singleton_append
theorem aul:type_of% @Int.add_comm:=Int.add_comm
theorem aum:type_of% @List.mem_of_mem_take:=List.mem_of_mem_take
theorem aun:type_of% @Nat.mod_lt:=Nat.mod_lt
theorem auo:type_of% @List.all_cons:=List.all_cons
theorem aup:type_of% @Int.zero_add:=Int.zero_add
theorem auq:type_of% @Bool.not_false:=Bool.not_false
theorem aur:type_of% @Option.map_eq_some_iff:=Option.map_eq_some_iff
theorem aus:type_of% @Array.length_toList:=Array.length_toList
theorem aut:type_of% @List.drop_eq_getElem_cons:=List.drop_eq_getElem_cons
theorem auu:type_of% @Int.ediv_nonneg:=Int.ediv_nonneg
theorem auv:type_of% @Nat.div_add_mod:=Nat.div_add_mod
theorem auw:type_of% @Int.emod_nonneg:=Int.emod_nonneg
theorem auy:type_of% @List.mem_of_find?_eq_some:=List.mem_of_find?_eq_some
theorem auz:type_of% @Array.getElem?_append:=Array.getElem?_append
theorem auA:type_of% @List.getElem?_take:=List.getElem?_take
theorem auB:type_of% @List.perm_middle:=List.perm_middle
theorem auC:type_of% @Option.getD_some:=Option.getD_some
theorem auD:type_of% @List.all_nil:=List.all_nil
theorem auE:type_of% @Int.emod_lt_of_pos:=Int.emod_lt_of_pos
theorem auF:type_of% @List.pairwise_append:=List.pairwise_append
theorem auG:type_of% @Bool.false_and:=Bool.false_and
theorem auH:type_of% @List.getElem?_replicate:=List.getElem?_replicate
theorem auI:type_of% @Nat.testBit_div_two_pow:=Nat.testBit_div_two_pow
theorem auJ:type_of% @Array.size_append:=Array.size_append
theorem auK:type_of% @List.nodup_cons:=List.nodup_cons
theorem auL:type_of% @List.filter_nil:=List.filter_nil
theorem auM:type_of% @Nat.min_eq_left:=Nat.min_eq_left
theorem auN:type_of% @List.length_pos_iff:=List.length_pos_iff
theorem auO:type_of% @Nat.le_trans:=Nat.le_trans
theorem auP:type_of% @List.map_set:=List.map_set
theorem auQ:type_of% @List.filter_eq_nil_iff:=List.filter_eq_nil_iff
theorem auR:type_of% @Array.getElem?_append_left:=Array.getElem?_append_left
theorem auS:type_of% @List.drop_length:=List.drop_length
theorem auT:type_of% @List.set_cons_succ:=List.set_cons_succ
theorem auU:type_of% @List.append_of_mem:=List.append_of_mem
theorem auV:type_of% @List.find?_eq_none:=List.find?_eq_none
theorem auW:type_of% @List.length_filter_le:=List.length_filter_le
theorem auX:type_of% @Nat.eq_of_testBit_eq:=Nat.eq_of_testBit_eq
theorem auY:type_of% @List.prefix_rfl:=List.prefix_rfl
theorem auZ:type_of% @List.foldl_append:=List.foldl_append
theorem au0:type_of% @Bool.false_or:=Bool.false_or
theorem au1:type_of% @List.take_set_of_le:=List.take_set_of_le
theorem au2:type_of% @List.replicate_succ:=List.replicate_succ
theorem au3:type_of% @List.filter_sublist:=List.filter_sublist
theorem au4:type_of% @Option.toList_some:=Option.toList_some
theorem au5:type_of% @Int.add_mul_emod_self_right:=Int.add_mul_emod_self_right
theorem au6:type_of% @List.cons.injEq:=List.cons.injEq
theorem au7:type_of% @List.sum_cons:=List.sum_cons
theorem au8:type_of% @Int.ediv_neg_of_neg_of_pos:=Int.ediv_neg_of_neg_of_pos
theorem au9:type_of% @List.flatMap_cons:=List.flatMap_cons
theorem ava:type_of% @Nat.lt_trichotomy:=Nat.lt_trichotomy
theorem avb:type_of% @Int.emod_eq_of_lt:=Int.emod_eq_of_lt
theorem avc:type_of% @Nat.add_eq:=Nat.add_eq
theorem avd:type_of% @List.mem_of_mem_drop:=List.mem_of_mem_drop
theorem ave:type_of% @Array.ext':=Array.ext'
theorem avf:type_of% @Nat.div_lt_of_lt_mul:=Nat.div_lt_of_lt_mul
theorem avg:type_of% @List.contains_eq_mem:=List.contains_eq_mem
theorem avh:type_of% @Nat.add_comm:=Nat.add_comm
theorem avi:type_of% @List.flatten_nil:=List.flatten_nil
theorem avj:type_of% @List.set_set:=List.set_set
theorem avk:type_of% @List.flatten_append:=List.flatten_append
theorem avl:type_of% @List.eraseIdx_cons_succ:=List.eraseIdx_cons_succ
theorem avm:type_of% @Nat.lt_or_gt_of_ne:=Nat.lt_or_gt_of_ne
theorem avn:type_of% @Nat.xor_lt_two_pow:=Nat.xor_lt_two_pow
theorem avo:type_of% @Bool.eq_iff_iff:=Bool.eq_iff_iff
theorem avp:type_of% @List.sum_append:=List.sum_append
theorem avq:type_of% @List.drop_eq_nil_of_le:=List.drop_eq_nil_of_le
theorem avr:type_of% @List.length_range:=List.length_range
theorem avs:type_of% @Nat.sub_zero:=Nat.sub_zero
theorem avt:type_of% @Int.mul_le_mul:=Int.mul_le_mul
theorem avu:type_of% @List.mem_reverse:=List.mem_reverse
theorem avv:type_of% @List.cons.inj:=List.cons.inj
theorem avw:type_of% @Prod.mk.injEq:=Prod.mk.injEq
namespace Go.ax
open Go.RowKit
structure aj where
 fp:Nat->Prop
 sat:(Nat->Option Obj)->Prop
 loc: ∀h h':Nat->Option Obj,(∀k,fp k->h' k=h k)->sat h->sat h'
def ar(b:Nat)(cs:Array Value)(T:TypeId):aj:=⟨fun k=>k=b,fun h=>h b=some (.cells cs T (0,0)),fun _ _ e s=>by rw[e b rfl];exact s⟩
structure Mem(w0:World)(L:List aj)(w:World):Prop where
 below:Below w0.heap.size w0 w
 sat: ∀e∈L,e.sat fun k=>w.heap[k]?
 jV: ∀e∈L,∀k,e.fp k->w0.heap.size<=k/\k<w.heap.size
 pG:L.Pairwise fun a b=> ∀k,a.fp k-> ¬b.fp k
theorem Mem.init(w:World):Mem w [] w:=⟨Below.refl _ _,by simp,by simp,by simp⟩
theorem Mem.N4{w w':World}(h:Below w.heap.size w w'):Mem w [] w':=⟨h,by simp,by simp,by simp⟩
variable {w0:World}{L:List aj}
theorem Mem.le{w:World}(h:Mem w0 L w):w0.heap.size<=w.heap.size:=h.below.size
theorem Mem.call{w0:World}{L E:List aj}{w w':World}(h:Mem w0 L w)(h':Mem w E w'):Mem w0 (E++L) w':=by
 refine⟨h.below.trans (h'.below.mono h.le),fun e he=>?_,fun e he k hk=>?_,?_⟩
 ·
  rcases asz.1 he with he|he
  ·
   exact h'.sat e he
  exact e.loc _ _ (fun k hk=>h'.below.block k (h.jV e he k hk).2) (h.sat e he)
 ·
  rcases asz.1 he with he|he
  ·
   have:=h'.jV e he k hk;have:=h.le;omega
  have:=h.jV e he k hk;have:=h'.below.size;omega
 refine auF.2 ⟨h'.pG,h.pG,fun a ha b hb k hk kr=>?_⟩;have:=h'.jV a ha k hk;have:=h.jV b hb k kr;omega
theorem Mem.step{w w':World}(h:Mem w0 L w)(h':Below w.heap.size w w'):Mem w0 L w':=h.call (E:=[]) (.N4 h')
theorem Mem.drew{w:World}(h:Mem w0 L w):Mem w0 L w.drew:=h.step ((Below.refl _ _).drew)
theorem Mem.En{w:World}(h:Mem w0 L w):Mem w0 L {w with drawn:=w.drawn+1}:=h.step ((Below.refl _ _).drew)
theorem Mem.sub{w0:World}{L L':List aj}{w:World}(h:Mem w0 L w)(s:L'.Sublist L):Mem w0 L' w:=
 ⟨h.below,fun e he=>h.sat e (s.subset he),fun e he=>h.jV e (s.subset he),h.pG.sublist s⟩
theorem Mem.perm{w0:World}{L L':List aj}{w:World}(h:Mem w0 L w)(s:L.Perm L'):Mem w0 L' w:=
 ⟨h.below,fun e he=>h.sat e (s.mem_iff.2 he),fun e he=>h.jV e (s.mem_iff.2 he),s.pairwise h.pG (fun uV k hk kr=>uV k kr hk)⟩
theorem Mem.get{w:World}(h:Mem w0 L w){i:Nat}{e:aj}(hi:L[i]? =some e):e.sat fun k=>w.heap[k]? :=h.sat e (anc hi)
theorem Below.Eo(w:World)(o:Obj):(w.alloc o).heap[w.heap.size]? =some o:=by
 show(w.heap.push o)[w.heap.size]? =some o;simp
theorem Mem.alloc{w:World}(h:Mem w0 L w)(cs:Array Value)(T:TypeId):Mem w0 (ar w.heap.size cs T::L) (w.alloc (.cells cs T)):=by
 refine h.call (E:=[ar w.heap.size cs T]) ⟨(Below.refl _ _).alloc (asu _) _,fun e he=>?_,fun e he k hk=>?_,by simp⟩
 ·
  simp at he;subst he;exact Below.Eo w _
 simp at he;subst he;have:k=w.heap.size:=hk;subst this;simp
theorem Mem.change{w w':World}(h:Mem w0 L w){i:Nat}{e e':aj}(hi:L[i]? =some e)(uW: ∀k,e'.fp k->e.fp k)
  (hB: ∀k,¬e.fp k->w'.heap[k]? =w.heap[k]?) (hs:w'.heap.size=w.heap.size) (ho:w'.os=w.os/\w'.tape=w.tape/\w'.output=w.output)
  (IB:e'.sat fun k=>w'.heap[k]?):Mem w0 (L.set i e') w':=by
 have Ep:i<L.length:=by
  rcases asx i L.length with h'|h'
  ·
   exact h'
  ·
   simp[ast h']at hi
 have Er:L[i]=e:=by simpa[asr Ep]using hi
 have N5:e∈L:=Er▸auf Ep;refine⟨⟨ho.1.trans h.below.os,ho.2.1.trans h.below.tape,ho.2.2.trans h.below.output,hs▸h.below.size,fun k hk=>?_⟩,fun x hx=>?_,fun x hx k hk=>?_,?_⟩
 ·
  rw[hB k (fun hf=>by have:=h.jV e N5 k hf;omega)];exact h.below.block k hk
 ·
  obtain⟨j,hj,oz⟩:=atZ hx;rw[List.getElem_set]at oz;split at oz
  ·
   subst oz;exact IB
  ·
   rename_i bO;have iu:j<L.length:=by simpa using hj
   subst oz;have hd:=h.pG;rw[atz]at hd;refine(L[j]).loc _ _ (fun k hk=>hB k (fun hf=>?_)) (h.sat _ (auf iu));rw[←Er]at hf;rcases avm bO with bc|bc
   ·
    exact hd i j Ep iu bc k hf hk
   ·
    exact hd j i iu Ep bc k hk hf
 ·
  rw[hs];obtain⟨j,hj,oz⟩:=atZ hx;rw[List.getElem_set]at oz;split at oz
  ·
   subst oz;exact h.jV e N5 k (uW k hk)
  ·
   subst oz;exact h.jV _ (auf _) k hk
 ·
  rw[atz];intro p q hp hq zI k hk kr;have hd:=h.pG;rw[atz]at hd;rw[List.getElem_set]at hk kr;have bW:p<L.length:=by simpa using hp
  have BY:q<L.length:=by simpa using hq
  have:=hd p q bW BY zI k;split at hk<;>split at kr
  ·
   omega
  ·
   rename_i h1 h2;subst h1;exact this (by rw[Er];exact uW k hk) kr
  ·
   rename_i h1 h2;subst h2;exact this hk (by rw[Er];exact uW k kr)
  ·
   exact this hk kr
theorem Mem.cell{w:World}(h:Mem w0 L w){i b:Nat}{cs:Array Value}{T:TypeId}(hi:L[i]? =some (ar b cs T))(o:Nat):w.cell? ⟨b,o,none⟩=cs[o]? :=by
 have:w.heap[b]? =some (.cells cs T (0,0)):=h.get hi;simp[World.cell?,this]
theorem Mem.block{w:World}(h:Mem w0 L w){i b:Nat}{cs:Array Value}{T:TypeId}(hi:L[i]? =some (ar b cs T)):w.heap[b]? =some (.cells cs T (0,0)):=h.get hi
theorem Mem.setRow{w:World}(h:Mem w0 L w){i b:Nat}{cs:Array Value}{T:TypeId}(hi:L[i]? =some (ar b cs T))(cs':Array Value):Mem w0 (L.set i (ar b cs' T)) (w.setRow b cs'):=by
 have hb:=h.block hi;refine h.change hi (fun k hk=>hk) (fun k hk=>?_) (by simp[World.setRow]) ⟨rfl,rfl,rfl⟩ ?_
 ·
  exact setRow_other w b k cs' (fun e=>hk e)
 exact setRow_heap w b cs cs' T (0,0) hb
def mv(ro:Option Nat):Fence:={fn:=fun _=>True,depth:=none,alive:=false,round:=ro}
def qq(l:List Oper):Bool:=l.all fun o=>match o.op with
 | .defer _=>false
 |_=>true
theorem N6{l:List Oper}(h:qq l=true){i:Nat}{o:Oper}(hi:l.toArray[i]? =some o): ∀c,o.op≠ .defer c:=fun c e=>by
 have hm:o∈l:=by simpa using Array.mem_of_getElem? hi
 have:=asD.1 h o hm;rw[e]at this;cases this
class kM(Q:Exit->Act->World->Prop):Prop where
 h: ∀a w,¬Q .outgrown a w
instance kM.then{K:Act->World->Prop}{Q:Exit->Act->World->Prop}[q:kM Q]:kM (Exit.then K Q):=⟨fun a w h=>q.h a w h⟩
instance kM.block{id:Nat}{Q:Exit->Act->World->Prop}[q:kM Q]:kM (Exit.inBlock id Q):=⟨fun a w h=>q.h a w h⟩
variable {P:Program} {ro:Option Nat}
theorem Xd{f:FuncId}{args:Array Value}{w:World}{R:Ending->World->Prop}(h:Calls P f args w R):CallsIn (mv ro) 0 P f args w R:=by
 have h':CallsIn Fence.wide 0 P f args w R:=callsIn_wide.2 h
 cases ro with
 |none=>exact h'
 |some l=>exact h'.inRound l
theorem Xe{row:String}{args:Array Value}{w:World}{R:Value->World->Prop}(h:Rows P row args w R):RowsIn (mv ro) 0 P row args w R:=fun c cs _=>by
 obtain⟨v,w',hR,hs⟩:=h c cs;refine⟨v,w',hR,?_⟩;have h':StepsIn (Machine.fenced P Fence.wide) P _ _:=stepsIn_wide.2 hs;exact h'
theorem Xf{o:Oper}{a:Act}{w:World}{K:Act->World->Prop}{Q:Exit->Act->World->Prop}(cC: ∀c,o.op≠ .defer c)(h:o.wp P a w K Q):o.wpIn (mv ro) 0 P a w K Q:=by
 refine⟨fun _ _=>trivial,?_⟩;rw[Oper.semAt_eq _ _ _ cC];unfold Oper.wp at h;generalize(execOp a.eval o).run P w=r at h⊢;unfold Oper.upon at h;unfold Oper.uponIn;split at h
 ·
  exact h
 ·
  exact h
 ·
  exact h
 ·
  exact⟨fun e=>(by cases e),Xd h⟩
 ·
  exact⟨fun e=>(by cases e),Xe h⟩
 ·
  exact h
 exact h.elim
theorem BZ{ops:Array Oper}{Q:Exit->Act->World->Prop}[q:kM Q](cC: ∀(i:Nat) (o:Oper),ops[i]? =some o-> ∀c,o.op≠ .defer c): ∀(l:List Nat) (a:Act) (w:World),wpOps P ops Q l a w->wpOpsIn (mv ro) 0 P ops Q l a w
 |[],_,_,h=>h
 |i::rest,a,w,h=>by
  unfold wpOps at h;unfold wpOpsIn;split at h
  ·
   rename_i ho;simp only[ho];exact BZ cC rest a w h
  rename_i o ho;simp only[ho];split at h
  ·
   rename_i hw;rw[if_pos hw];rcases h with h|⟨_,a',w',h⟩
   ·
    exact Oper.wpIn_mono (fun a w h=>BZ cC rest a w h) (Xf (cC i o ho) h)
   exact absurd h (q.h a' w')
  rename_i hw;rw[if_neg hw];exact⟨fun _ _=>trivial,BZ cC rest _ w h⟩
theorem Xg{id:Nat}{l:List Oper}{Q:Exit->Act->World->Prop}{a:Act}{w:World}[kM Q](cC:qq l=true)(h:wpList P l.toArray Q l a w):(Code.region id l.toArray false).wpIn (mv ro) 0 P Q a w:=
 wpIn_region (BZ (fun _ _ hi=>N6 cC hi) _ a w (by rw[List.range_eq_range',←aus,wpOps_eq_wpList l.toArray.toList 0 (by simp)];exact h))
theorem IC{id:Nat}{l:List Oper}{Q:Exit->Act->World->Prop}{a:Act}{w:World}[kM Q](cC:qq l=true)(hm:P.follows .mixedOrders=true)
  (h:wpAny P .any l.toArray Q l.toArray.size (Array.replicate l.toArray.size false) a {w with drawn:=w.drawn+1}):(Code.region id l.toArray true).wpIn (mv ro) 0 P Q a w:=
 wpIn_region_draw fun t=>BZ (fun _ _ hi=>N6 cC hi) _ a _ (by
  simp only[Region.schedule,hm,Bool.true_or,if_true];exact wpAny_sound l.toArray.size t _ a _ h)
theorem Xh{id:Nat}{l:List Oper}{C:World->Prop}{Q:Exit->Act->World->Prop}{a:Act}{w:World}[kM Q](cC:qq l=true)(hm:P.follows .mixedOrders=true)(hB:Region.lexB .any l.toArray=true)(hC:C {w with drawn:=w.drawn+1})
  (h:wpQuiet P l.toArray C (fun a'=> ∀w',C w'->Q .normal a' w') l a):(Code.region id l.toArray true).wpIn (mv ro) 0 P Q a w:=by
 simp only[Region.lexB,alM]at hB;refine IC cC hm (wpAny_of_quiet (Q:=fun a'=> ∀w',C w'->Q .normal a' w') (fun _ w' gF h=>h w' gF) _ _ _ _ hC ?_);have:=wpAnyQ_lex (C:=C) (md:= .any) hB.1 l 0 (Array.replicate l.toArray.size false) a (by simp) (by simpa using hB.2) h;simpa using this
def mark(D:Nat):Deferred:={target:= .collected D,args:= #[]}
def r8(P:Program)(fn:Func)(R:Ending->World->Prop):Exit->Act->World->Prop:=fun e a w=>(e= .normal\/e= .ret)/\bodyPostM (mv none) 0 P fn R e a w
instance kM.end{fn:Func}{R:Ending->World->Prop}:kM (r8 P fn R):=⟨fun a w h=>by rcases h.1 with h|h<;>cases h⟩
theorem N7{f:FuncId}{fn:Func}{c:Code}{args:Array Value}{w:World}{R:Ending->World->Prop}(hf:P.funcs[f]? =some fn)(hb:fn.body=some c)
  (h:c.wpIn (mv none) 0 P (r8 P fn R) {tmps:=args++Array.replicate (fn.ntmps -args.size) undef,defers:=[]} w):Calls P f args w R:=
 callsIn_wide.1 (callsIn_of_wp_marks (F:=mv none) (n:=0) hf hb trivial (wpIn_mono h fun _ _ _ h=>h.2))
section
variable {P:Program} {l:List Oper} {C:World->Prop} {Q:Exit->Act->World->Prop} {n:Nat} {fs:List Nat}
def fr(l:List Oper)(fs:List Nat)(v:Nat->Value)(a0:Act):Nat->Act
 |0=>a0
 |k+1=>if fs.contains k=true then fr l fs v a0 k else match l[k]?with
  |some o=>(fr l fs v a0 k).put o.dst (v k)
  |none=>fr l fs v a0 k
def dY(l:List Oper)(j:Nat):Option Tmp:=(l[j]?).bind (·.dst)
theorem jW(a:Act)(d:Option Tmp)(v:Value)(t:Nat)(h:d≠some t):(a.put d v).tmps[t]? =a.tmps[t]? :=by
 cases d with
 |none=>rfl
 |some d=>
  have:d≠t:=fun e=>h (by rw[e]);simp[Act.put,this]
theorem tE(a:Act)(d:Option Tmp)(v:Value):(a.put d v).tmps.size=a.tmps.size:=by cases d<;>simp[Act.put]
theorem tF(a:Act)(d:Option Tmp)(v:Value):(a.put d v).defers=a.defers:=by cases d<;>rfl
theorem N8(a b:Act)(d:Nat)(v:Value)(h:a.tmps.size=b.tmps.size):(a.put (some d) v).tmps[d]? =(b.put (some d) v).tmps[d]? :=by
 simp[Act.put,atg,h]
theorem ya{v:Nat->Value}{a0:Act}{k:Nat}{o:Oper}(hf:fs.contains k=false)(h:l[k]? =some o):fr l fs v a0 (k+1)=(fr l fs v a0 k).put o.dst (v k):=by
 show(if fs.contains k=true then _ else match l[k]?with|some o=>(fr l fs v a0 k).put o.dst (v k)|none=>fr l fs v a0 k)=_;rw[hf,h];rfl
theorem zJ{v:Nat->Value}{a0:Act}{k:Nat}(hf:fs.contains k=true):fr l fs v a0 (k+1)=fr l fs v a0 k:=by
 show(if fs.contains k=true then _ else match l[k]?with|some o=>(fr l fs v a0 k).put o.dst (v k)|none=>fr l fs v a0 k)=_;rw[hf];rfl
theorem B2{v:Nat->Value}{a0:Act}{k:Nat}(h:l[k]? =none):fr l fs v a0 (k+1)=fr l fs v a0 k:=by
 show(if fs.contains k=true then _ else match l[k]?with|some o=>(fr l fs v a0 k).put o.dst (v k)|none=>fr l fs v a0 k)=_;rw[h];split<;>rfl
theorem B3(v:Nat->Value)(a0:Act): ∀k,(fr l fs v a0 k).tmps.size=a0.tmps.size
 |0=>rfl
 |k+1=>by
  cases hf:fs.contains k with
  |true=>rw[zJ hf];exact B3 v a0 k
  |false=>
   cases ho:l[k]?with
   |none=>rw[B2 ho];exact B3 v a0 k
   |some o=>rw[ya hf ho,tE];exact B3 v a0 k
theorem Es(v:Nat->Value)(a0:Act): ∀k,(fr l fs v a0 k).defers=a0.defers
 |0=>rfl
 |k+1=>by
  cases hf:fs.contains k with
  |true=>rw[zJ hf];exact Es v a0 k
  |false=>
   cases ho:l[k]?with
   |none=>rw[B2 ho];exact Es v a0 k
   |some o=>rw[ya hf ho,tF];exact Es v a0 k
theorem yb(v:Nat->Value)(a0:Act)(t k:Nat): ∀m,k<=m->(∀j,k<=j->j<m->fs.contains j=false->dY l j≠some t)->(fr l fs v a0 m).tmps[t]? =(fr l fs v a0 k).tmps[t]?
 |0,h,_=>by obtain rfl:k=0:=by omega
            rfl
 |m+1,h,hn=>by
  by_cases e:k=m+1
  ·
   subst e;rfl
  have ih:=yb v a0 t k m (by omega) fun j h1 h2=>hn j h1 (by omega);rw[←ih]
  cases hf:fs.contains m with
  |true=>rw[zJ hf]
  |false=>
   cases ho:l[m]?with
   |none=>rw[B2 ho]
   |some o=>
    rw[ya hf ho];exact jW _ _ _ _ (by simpa[dY,ho]using hn m (by omega) (by omega) hf)
def B4(l:List Oper)(fs:List Nat)(n:Nat):Bool:=
 (List.range n).all fun k=>match l[k]?with
  |none=>false
  |some o=>
   (match o.op with| .select .. =>false|_=>true)&&
   (o.after.all fun e=> !Region.binds .any e||decide (e.on<k))&&
   (List.range n).all fun j=>match dY l j with
    |none=>true
    |some d=>(!(o.looksAt l.toArray).contains d||(decide (j<k)&&(!fs.contains j||fs.contains k)&&o.after.any fun e=>Region.binds .any e&&e.on==j))&&(j==k||o.dst !=some d)
structure B5(l:List Oper)(fs:List Nat)(n k:Nat)(o:Oper):Prop where
 wy: ∀cs b,o.op≠ .select cs b
 back: ∀e∈o.after,Region.binds .any e=true->e.on<k
 reads: ∀j d,j<n->dY l j=some d->d∈o.looksAt l.toArray->j<k/\(fs.contains j=true->fs.contains k=true)/\ ∃e∈o.after,Region.binds .any e=true/\e.on=j
 one: ∀j d,j<n->dY l j=some d->j≠k->o.dst≠some d
theorem Et(h:B4 l fs n=true)(k:Nat)(hk:k<n): ∃o,l[k]? =some o/\B5 l fs n k o:=by
 have:=asD.1 h k (asU.2 hk)
 cases ho:l[k]?with
 |none=>simp[ho]at this
 |some o=>
  rw[ho]at this;simp only[alM]at this;obtain⟨⟨h1,h2⟩,h3⟩:=this;refine⟨o,rfl,⟨fun cs b e=>by rw[e]at h1;simp at h1,fun e he hb=>?_,fun j d hj hd hl=>?_,fun j d hj hd bO=>?_⟩⟩
  ·
   have:=(as4.1 h2) e he;simpa[hb]using this
  ·
   have:=asD.1 h3 j (asU.2 hj);rw[hd]at this;simp only[alM,atF,att,decide_eq_true_eq]at this;rcases this.1 with h4|h4
   ·
    exact absurd hl (by simpa using h4)
   obtain⟨⟨h5,h6⟩,h7⟩:=h4;obtain⟨e,he,hb⟩:=Array.any_eq_true'.1 h7;simp only[alM,beq_iff_eq]at hb;exact⟨h5,fun jd=>h6.elim (fun h=>by rw[h]at jd;cases jd) id,e,he,hb.1,hb.2⟩
  have:=asD.1 h3 j (asU.2 hj);rw[hd]at this;simp only[alM,atF,beq_iff_eq]at this;rcases this.2 with h4|h4
  ·
   exact absurd h4 bO
  simpa using h4
def uX(P:Program)(o:Oper)(a:Act)(C:World->Prop)(v:Value):Prop:= ∀w,C w->o.quietAt P a (Mem w []) w v
def ID(P:Program)(l:List Oper)(fs:List Nat)(C:World->Prop)(v:Nat->Value)(a0:Act)(k:Nat):Prop:=
 ∀o,l[k]? =some o->(Region.wanted o (yielded l.toArray (fr l fs v a0 k).tmps)=true->uX P o (fr l fs v a0 k) C (v k))/\
  (Region.wanted o (yielded l.toArray (fr l fs v a0 k).tmps)=false->v k=undef)
def nH(P:Program)(ops:Array Oper)(fs:List Nat)(C:World->Prop)(F:Act->Prop):Nat->List Oper->Act->Prop
 |_,[],a=>F a
 |k,o::rest,a=>if fs.contains k=true then nH P ops fs C F (k+1) rest a
  else if Region.wanted o (yielded ops a.tmps)=true then∃v,uX P o a C v/\nH P ops fs C F (k+1) rest (a.put o.dst v)else nH P ops fs C F (k+1) rest (a.put o.dst undef)
theorem IE{F:Act->Prop}: ∀(m k:Nat) (a0:Act) (v0:Nat->Value),k+m<=l.length->nH P l.toArray fs C F k ((l.drop k).take m) (fr l fs v0 a0 k)->
  ∃v,(∀j,j<k->v j=v0 j)/\(∀j,k<=j->j<k+m->fs.contains j=false->ID P l fs C v a0 j)/\F (fr l fs v a0 (k+m))
 |0,k,a0,v0,_,h=>⟨v0,fun _ _=>rfl,fun j h1 h2=>by omega,by simpa[nH]using h⟩
 |m+1,k,a0,v0,hle,h=>by
  have hk:k<l.length:=by omega
  have ed:l.drop k=l[k]::l.drop (k+1):=aut hk;rw[ed,atk]at h;have N9:l[k]? =some l[k]:=asr hk;have agree: ∀v v':Nat->Value,∀j,(∀i,i<j->v i=v' i)->fr l fs v a0 j=fr l fs v' a0 j:=by
   intro v v' j
   induction j with
   |zero=>intro _;rfl
   |succ j ih=>
    intro hh;have e:=ih fun i hi=>hh i (by omega)
    cases hf:fs.contains j with
    |true=>rw[zJ hf,zJ hf,e]
    |false=>
     cases ho:l[j]?with
     |none=>rw[B2 ho,B2 ho,e]
     |some o=>rw[ya hf ho,ya hf ho,e,hh j (by omega)]
  unfold nH at h
  cases yc:fs.contains k with
  |true=>
   rw[if_pos yc]at h;obtain⟨v,g1,g2,g3⟩:=IE m (k+1) a0 v0 (by omega) (by rw[zJ yc];exact h);refine⟨v,fun j hj=>g1 j (by omega),fun j h3 h4 h5=>?_,by rw[show k+(m+1)=k+1+m by omega];exact g3⟩
   by_cases hj:j=k
   ·
    subst hj;rw[yc]at h5;cases h5
   ·
    exact g2 j (by omega) (by omega) h5
  |false=>
   rw[if_neg (by rw[yc];exact atB)]at h;have step: ∀u:Value,nH P l.toArray fs C F (k+1) ((l.drop (k+1)).take m) ((fr l fs v0 a0 k).put l[k].dst u)->
     ((Region.wanted l[k] (yielded l.toArray (fr l fs v0 a0 k).tmps)=true->uX P l[k] (fr l fs v0 a0 k) C u)/\(Region.wanted l[k] (yielded l.toArray (fr l fs v0 a0 k).tmps)=false->u=undef))->
     ∃v,(∀j,j<k->v j=v0 j)/\(∀j,k<=j->j<k+(m+1)->fs.contains j=false->ID P l fs C v a0 j)/\F (fr l fs v a0 (k+(m+1))):=by
    intro u h2 hu
    let v1:Nat->Value:=fun j=>if j=k then u else v0 j
    have e1:fr l fs v1 a0 k=fr l fs v0 a0 k:=agree _ _ k fun i hi=>by simp[v1,show i≠k by omega]
    have e2:fr l fs v1 a0 (k+1)=(fr l fs v0 a0 k).put l[k].dst u:=by
     rw[ya yc N9,e1];simp[v1]
    obtain⟨v,g1,g2,g3⟩:=IE m (k+1) a0 v1 (by omega) (by rw[e2];exact h2);have e3:fr l fs v a0 k=fr l fs v0 a0 k:=agree _ _ k fun i hi=>by rw[g1 i (by omega)];simp[v1,show i≠k by omega]
    have e4:v k=u:=by rw[g1 k (by omega)];simp[v1]
    refine⟨v,fun j hj=>by rw[g1 j (by omega)];simp[v1,show j≠k by omega],fun j h3 h4 h5=>?_,by rw[show k+(m+1)=k+1+m by omega];exact g3⟩
    by_cases hj:j=k
    ·
     subst hj;intro o ho;rw[N9]at ho;cases ho;rw[e3,e4];exact hu
    ·
     exact g2 j (by omega) (by omega) h5
   split at h
   ·
    rename_i hw;obtain⟨u,h1,h2⟩:=h;exact step u h2 ⟨fun _=>h1,fun hf=>by rw[hw]at hf;cases hf⟩
   ·
    rename_i hw;exact step undef h ⟨fun ht=>absurd ht hw,fun _=>rfl⟩
def Oa(P:Program)(w:World)(R:Value->World->List aj->Prop):Result Next->Prop
 | .ok (.value v) w'=> ∃E,R v w' E
 | .ok (.enter f args) w'=>w'=w/\Calls P f args w fun e qt=> ∃v E,e= .returned v/\R v qt E
 |_=>False
def uY(P:Program)(l:List Oper)(n:Nat)(Q:Exit->Act->World->Prop)(w0:World)(Lq:List aj):List Nat->Act->List aj->Prop
 |[],af,L=> ∀w,Mem w0 L w->wpList P l.toArray Q (l.drop n) af w
 |j::js,af,L=> ∃o,l[j]? =some o/\o.guard=none/\ ∀w,Mem w0 L w->Oa P w (fun v w' L'=>Mem w0 L' w'/\(∀w,Mem w0 L' w->Mem w0 Lq w)/\uY P l n Q w0 Lq js (af.put o.dst v) L') ((execOp af.eval o).run P w)
def tG(l:List Oper):List Nat->Bool
 |j::k::r=>(match l[k]?with|some o=>o.after.any fun e=>Region.binds .any e&&e.on==j|none=>false)&&tG l (k::r)
 |_=>true
theorem Ob: ∀(rs:List Nat) (j0:Nat),tG l (j0::rs)=true-> ∀i∈rs,∃p∈j0::rs,∃o,l[i]? =some o/\ ∃e∈o.after,Region.binds .any e=true/\e.on=p
 |[],_,_,i,hi=>by cases hi
 |k::r,j0,h,i,hi=>by
  simp only[tG,alM]at h;rcases asw.1 hi with rfl|hi
  ·
   cases ho:l[i]?with
   |none=>rw[ho]at h;simp at h
   |some o=>
    rw[ho]at h;obtain⟨e,he,hb⟩:=Array.any_eq_true'.1 h.1;simp only[alM,beq_iff_eq]at hb;exact⟨j0,by simp,o,rfl,e,he,hb.1,hb.2⟩
  obtain⟨p,hp,o,ho,e,he,hb⟩:=Ob r k h.2 i hi;exact⟨p,asE _ hp,o,ho,e,he,hb⟩
structure wz(P:Program)(l:List Oper)(fs:List Nat)(Q:Exit->Act->World->Prop)(w0:World)(L0:List aj)(n:Nat)(v:Nat->Value)(a0:Act)(rs:List Nat)(af:Act)(listed:Array Bool)(a:Act)(w:World):Prop where
 inv:HeadInv .any l.toArray n listed
 mem: ∃L,Mem w0 L w/\(∀w,Mem w0 L w->Mem w0 L0 w)/\uY P l n Q w0 L0 rs af L
 size:a.tmps.size=a0.tmps.size
 qY:af.tmps.size=a0.tmps.size
 defers:a.defers=a0.defers
 tH:af.defers=a0.defers
 iv: ∃ds,fs=ds++rs
 todo: ∀j,j<n->fs.contains j=true->(listed.getD j true=false↔j∈rs)
 done: ∀j d,j<n->listed.getD j true=true->dY l j=some d->a.tmps[d]? =af.tmps[d]?
 rest: ∀d,(∀j,j<n->listed.getD j true=true->dY l j≠some d)->a.tmps[d]? =a0.tmps[d]?
 full: ∀d,(∀j,j<n->fs.contains j=true->listed.getD j true=true->dY l j≠some d)->af.tmps[d]? =(fr l fs v a0 n).tmps[d]?
variable {w0:World} {L0:List aj}
theorem IF{listed:Array Bool}{i:Nat}(h:listed.getD i true=false):i<listed.size:=by
 rcases asx i listed.size with h'|h'
 ·
  exact h'
 simp[at1 h']at h
theorem Oc{v:Nat->Value}{a0 a af:Act}{rs:List Nat}{listed:Array Bool}{w:World}(H:wz P l fs Q w0 L0 n v a0 rs af listed a w){k:Nat}{o:Oper}(ho:B5 l fs n k o)
  (qZ: ∀e∈o.after,Region.binds .any e=true->listed.getD e.on false=true) (t:Nat) (ht:t∈o.looksAt l.toArray):a.tmps[t]? =af.tmps[t]? :=by
 by_cases hw: ∃j,j<n/\dY l j=some t
 ·
  obtain⟨j,hj,hd⟩:=hw;obtain⟨_,_,e,he,hb,fQ⟩:=ho.reads j t hj hd ht;have hl:=qZ e he hb;rw[fQ]at hl;have Xi:listed.getD j true=true:=by
   have B6:j<listed.size:=by
    rcases asx j listed.size with h|h
    ·
     exact h
    ·
     simp[at1 h]at hl
   simp[B6]at hl⊢;exact hl
  exact H.done j t hj Xi hd
 ·
  have h1: ∀j,j<n->dY l j≠some t:=fun j hj hd=>hw ⟨j,hj,hd⟩;rw[H.rest t fun j hj _=>h1 j hj,H.full t fun j hj _ _=>h1 j hj];exact(yb v a0 t 0 n (by omega) fun j _ h2 _=>h1 j h2).symm
theorem Xj{v:Nat->Value}{a0 a af:Act}{rs:List Nat}{listed:Array Bool}{w:World}(H:wz P l fs Q w0 L0 n v a0 rs af listed a w){k:Nat}{o:Oper}(hk:k<n)(yc:fs.contains k=false)(ho:B5 l fs n k o)(hB:B4 l fs n=true)
  (qZ: ∀e∈o.after,Region.binds .any e=true->listed.getD e.on false=true) (t:Nat) (ht:t∈o.looksAt l.toArray):a.tmps[t]? =(fr l fs v a0 k).tmps[t]? :=by
 rw[Oc H ho qZ t ht]
 by_cases hw: ∃j,j<n/\dY l j=some t
 ·
  obtain⟨j,hj,hd⟩:=hw;obtain⟨Eu,Xk,_⟩:=ho.reads j t hj hd ht;have uniq: ∀i,i<n->i≠j->dY l i≠some t:=fun i hi nI he=>by
   obtain⟨oi,wA,pH⟩:=Et hB i hi;exact pH.one j t hj hd (Ne.symm nI) (by simpa[dY,wA]using he)
  rw[H.full t fun i hi hf _ he=>?_]
  ·
   exact yb v a0 t k n (by omega) fun i h1 h2 _=>uniq i h2 (by omega)
  ·
   by_cases nI:i=j
   ·
    subst nI;have:=Xk hf;rw[yc]at this;cases this
   ·
    exact uniq i hi nI he
 ·
  have h1: ∀j,j<n->dY l j≠some t:=fun j hj hd=>hw ⟨j,hj,hd⟩;rw[H.full t fun j hj _ _=>h1 j hj,yb v a0 t 0 n (by omega) fun j _ h2 _=>h1 j h2];exact(yb v a0 t 0 k (by omega) fun j _ h2 _=>h1 j (by omega)).symm
theorem IG{a b:Act}{o:Oper}{ops:Array Oper}(h: ∀t∈o.looksAt ops,a.tmps[t]? =b.tmps[t]?): ∀x∈o.op.operands,a.eval x=b.eval x:=by
 intro x hx
 cases x with
 |tmp t=>
  have:t∈o.looksAt ops:=by
   unfold Oper.looksAt;refine asX _ (List.mem_filterMap.2 ⟨.tmp t,by simpa using hx,rfl⟩)
  simp[Act.eval,h t this]
 |_=>rfl
theorem Od{a b:Act}{o:Oper}{ops:Array Oper}(h: ∀t∈o.looksAt ops,a.tmps[t]? =b.tmps[t]?):Region.wanted o (yielded ops a.tmps)=Region.wanted o (yielded ops b.tmps):=by
 unfold Region.wanted
 cases hg:o.guard with
 |none=>rfl
 |some p=>
  obtain⟨j,b'⟩:=p;have:yielded ops a.tmps j=yielded ops b.tmps j:=by
   unfold yielded
   cases hd:(ops[j]?).bind (·.dst)with
   |none=>rfl
   |some d=>
    have hm:d∈o.looksAt ops:=by unfold Oper.looksAt;rw[hg];simp[hd]
    simp[h d hm]
  simp[this]
def zK(size n:Nat):Array Bool:=((List.range size).map fun i=>decide (i<n)).toArray
theorem Xl{v:Nat->Value}{a0 a af:Act}{rs:List Nat}{listed:Array Bool}{w w':World}(H:wz P l fs Q w0 L0 n v a0 rs af listed a w){i:Nat}{o:Oper}(hi:i<n)(jX:fs.contains i=false)(yd:l[i]? =some o)(ho:B5 l fs n i o)(hB:B4 l fs n=true)
  (hr:i∈Region.ready .any l.toArray listed) (gF:Mem w [] w'):wz P l fs Q w0 L0 n v a0 rs af (listed.setIfInBounds i true) (a.put o.dst (v i)) w':=by
 have iS:=(mem_ready.1 hr).1;have lr:dY l i=o.dst:=by simp[dY,yd]
 have bc:=IF iS;have iw: ∀j,j≠i->(listed.setIfInBounds i true).getD j true=listed.getD j true:=fun j cA=>getD_set_ne true (Ne.symm cA);have qu:(listed.setIfInBounds i true).getD i true=true:=by simp[bc]
 obtain⟨L,hL,nf,hF⟩:=H.mem;have uniq: ∀d,dY l i=some d-> ∀j,j<n->j≠i->dY l j≠some d:=fun d hd j hj cA he=>by
  obtain⟨oj,Xm,jd⟩:=Et hB j hj;exact jd.one i d hi hd (Ne.symm cA) (by simpa[dY,Xm]using he)
 refine⟨H.inv.set hr hi,⟨L,by simpa using hL.call gF,nf,hF⟩,by rw[tE];exact H.size,H.qY,by rw[tF];exact H.defers,H.tH,H.iv,fun j hj hf=>?_,fun j d hj hl hd=>?_,fun d hd=>?_,fun d hd=>?_⟩
 ·
  rw[iw j (fun e=>by subst e;rw[jX]at hf;cases hf)];exact H.todo j hj hf
 ·
  by_cases cA:j=i
  ·
   subst cA;have Ev:=hd;rw[lr]at hd;rw[hd,H.full d fun j' jd r9 _=>uniq d Ev j' jd (fun e=>by subst e;rw[jX]at r9;cases r9)];have e1:(fr l fs v a0 n).tmps[d]? =(fr l fs v a0 (j+1)).tmps[d]? :=yb v a0 d (j+1) n (by omega) fun i' h1 h2 _=>uniq d Ev i' h2 (by omega);rw[e1,ya jX yd,hd];exact N8 _ _ _ _ (by rw[H.size,B3])
  ·
   rw[iw j cA]at hl;rw[jW _ _ _ _ (ho.one j d hj hd cA)];exact H.done j d hj hl hd
 ·
  have h1:o.dst≠some d:=by
   have:=hd i hi qu;rwa [lr]at this
  rw[jW _ _ _ _ h1];refine H.rest d fun j hj hl=>?_
  by_cases cA:j=i
  ·
   subst cA;rw[lr];exact h1
  ·
   exact hd j hj (by rw[iw j cA];exact hl)
 ·
  refine H.full d fun j hj hf hl=>?_;exact hd j hj hf (by rw[iw j (fun e=>by subst e;rw[jX]at hf;cases hf)];exact hl)
theorem Xn{v:Nat->Value}{a0 a af:Act}{i:Nat}{rs:List Nat}{listed:Array Bool}{w w':World}(H:wz P l fs Q w0 L0 n v a0 (i::rs) af listed a w){o:Oper}(hi:i<n)(jX:fs.contains i=true)(cC:fs.Nodup)(yd:l[i]? =some o)(ho:B5 l fs n i o)
  (hr:i∈Region.ready .any l.toArray listed) {u:Value} {L':List aj} (gF:Mem w0 L' w') (nf: ∀w,Mem w0 L' w->Mem w0 L0 w) (hF:uY P l n Q w0 L0 rs (af.put o.dst u) L'):
  wz P l fs Q w0 L0 n v a0 rs (af.put o.dst u) (listed.setIfInBounds i true) (a.put o.dst u) w':=by
 have iS:=(mem_ready.1 hr).1;have lr:dY l i=o.dst:=by simp[dY,yd]
 have bc:=IF iS;have iw: ∀j,j≠i->(listed.setIfInBounds i true).getD j true=listed.getD j true:=fun j cA=>getD_set_ne true (Ne.symm cA);have qu:(listed.setIfInBounds i true).getD i true=true:=by simp[bc]
 obtain⟨ds,ye⟩:=H.iv;have Ew:i∉rs:=fun h=>by
  rw[ye]at cC;have:=(at6.1 cC).2.1;exact(auK.1 this).1 h
 refine⟨H.inv.set hr hi,⟨L',gF,nf,hF⟩,by rw[tE];exact H.size,by rw[tE];exact H.qY,by rw[tF];exact H.defers,by rw[tF];exact H.tH,⟨ds++[i],by rw[ye];simp⟩,fun j hj hf=>?_,fun j d hj hl hd=>?_,fun d hd=>?_,fun d hd=>?_⟩
 ·
  by_cases cA:j=i
  ·
   subst cA;rw[qu];simp[Ew]
  ·
   rw[iw j cA,H.todo j hj hf];simp[cA]
 ·
  by_cases cA:j=i
  ·
   subst cA;rw[lr]at hd;rw[hd];exact N8 _ _ _ _ (by rw[H.size,H.qY])
  ·
   rw[iw j cA]at hl;rw[jW _ _ _ _ (ho.one j d hj hd cA),jW _ _ _ _ (ho.one j d hj hd cA)];exact H.done j d hj hl hd
 ·
  have h1:o.dst≠some d:=by
   have:=hd i hi qu;rwa [lr]at this
  rw[jW _ _ _ _ h1];refine H.rest d fun j hj hl=>?_
  by_cases cA:j=i
  ·
   subst cA;rw[lr];exact h1
  ·
   exact hd j hj (by rw[iw j cA];exact hl)
 ·
  have h1:o.dst≠some d:=by
   have:=hd i hi jX qu;rwa [lr]at this
  rw[jW _ _ _ _ h1];refine H.full d fun j hj hf hl=>?_
  by_cases cA:j=i
  ·
   subst cA;rw[lr];exact h1
  ·
   exact hd j hj hf (by rw[iw j cA];exact hl)
theorem Xo{v:Nat->Value}{a0 a af:Act}{rs:List Nat}{listed:Array Bool}{w:World}(H:wz P l fs Q w0 L0 n v a0 rs af listed a w)(iT: ∀j,j<n->listed.getD j true=true):a=af:=by
 have:a.tmps=af.tmps:=by
  apply atM;intro d
  by_cases hw: ∃j,j<n/\dY l j=some d
  ·
   obtain⟨j,hj,hd⟩:=hw;exact H.done j d hj (iT j hj) hd
  have h1: ∀j,j<n->dY l j≠some d:=fun j hj hd=>hw ⟨j,hj,hd⟩;rw[H.rest d fun j hj _=>h1 j hj,H.full d fun j hj _ _=>h1 j hj];exact(yb v a0 d 0 n (by omega) fun j _ h2 _=>h1 j h2).symm
 have h2:a.defers=af.defers:=by rw[H.defers,H.tH]
 cases a;cases af
 simp_all
def left(n:Nat)(listed:Array Bool):Nat:=((List.range n).filter fun i=> !listed.getD i true).length
theorem Oe{listed:Array Bool}{i:Nat}(hi:i<n)(iS:listed.getD i true=false):left n listed=left n (listed.setIfInBounds i true)+1:=by
 have bc:=IF iS;have key: ∀m,i<m->((List.range m).filter fun j=> !listed.getD j true).length=((List.range m).filter fun j=> !(listed.setIfInBounds i true).getD j true).length+1:=by
  intro m
  induction m with
  |zero=>intro h;omega
  |succ m ih=>
   intro h;rw[atq,atH,atH,af0,af0]
   by_cases e:i=m
   ·
    subst e;have h1:((List.range i).filter fun j=> !listed.getD j true)=((List.range i).filter fun j=> !(listed.setIfInBounds i true).getD j true):=by
     apply List.filter_congr;intro j hj;rw[getD_set_ne true (by have:=asU.1 hj;omega)]
    rw[h1];simp only[atf,iS,auq,if_true,auL,asm,asn];simp[bc]
   have:=ih (by omega);have h2:(listed.setIfInBounds i true).getD m true=listed.getD m true:=getD_set_ne true e;simp only[atf,h2,auL];omega
 exact key n hi
theorem IH{v:Nat->Value}{a0:Act}(hB:B4 l fs n=true)(hn:n<l.length)(hs:Region.sinkB .any l.toArray n=true)(hc:Region.chainB .any l.toArray n=true)
  (II:Region.seqB .any l.toArray (l.length -n) n (zK l.length n)=true) (cC:fs.Nodup) (bc: ∀j∈fs,j<n) (B7:tG l fs=true) (hq: ∀k,k<n->fs.contains k=false->ID P l fs (Mem w0 L0) v a0 k):
  ∀(m:Nat) (rs:List Nat) (af:Act) (listed:Array Bool) (a:Act) (w:World),left n listed=m->wz P l fs Q w0 L0 n v a0 rs af listed a w->wpAny P .any l.toArray Q (m+(l.length -n)) listed a w
 |0,rs,af,listed,a,w,hm,H=>by
  have iT: ∀j,j<n->listed.getD j true=true:=fun j hj=>by
   cases h:listed.getD j true with
   |true=>rfl
   |false=>
    have:j∈(List.range n).filter fun i=> !listed.getD i true:=asQ.2 ⟨List.mem_range.2 hj,by rw[h];rfl⟩;rw[asI.1 hm]at this
    cases this
  have e1:=Xo H iT;have e2:listed=zK l.length n:=by
   apply atM;intro j;have fh:listed.size=l.length:=by simpa using H.inv.size
   by_cases hj:j<l.length
   ·
    have B6:j<listed.size:=by omega
    simp only[zK,atY,asB,atQ hj,as7,Array.getElem?_eq_getElem B6]
    by_cases wB:j<n
    ·
     have:=iT j wB;simp[B6]at this;simp[this,wB]
    ·
     have:=H.inv.tail j (by omega) (by simpa using hj);simp[B6]at this;simp[this,wB]
   ·
    simp[zK,show ¬j<l.length from hj];omega
  have e3:rs=[]:=by
   cases rs with
   |nil=>rfl
   |cons r yf=>
    obtain⟨ds,ye⟩:=H.iv;have hr:r∈fs:=by rw[ye];simp
    have:=(H.todo r (bc r hr) (by simpa using hr)).2 (by simp);rw[iT r (bc r hr)]at this;cases this
  subst e1 e2 e3;obtain⟨L,hL,_,hF⟩:=H.mem;have:=wpAny_of_seq (P:=P) (md:= .any) (Q':=Q) (l.drop n) n (zK l.length n) a w (fun j=>by simp[aty]) (by rw[ass];exact II) (hF w hL);rw[ass]at this;rw[as3];exact this
 |m+1,rs,af,listed,a,w,hm,H=>by
  rw[show m+1+(l.length -n)=(m+(l.length -n))+1 by omega];obtain⟨i0,B8,Ey,B9⟩: ∃i,i<n/\listed.getD i true=false/\ ∀j,j<i->listed.getD j true=true:=by
   have bO: ∃i,i<n/\listed.getD i true=false:=by
    cases hf:(List.range n).filter fun i=> !listed.getD i true with
    |nil=>rw[left,hf]at hm;cases hm
    |cons i r=>
     have:i∈(List.range n).filter fun i=> !listed.getD i true:=by rw[hf];simp
     obtain⟨h1,h2⟩:=asQ.1 this;exact⟨i,asU.1 h1,by simpa using h2⟩
   obtain⟨i,h1,h2⟩:=bO
   induction i using Nat.strongRecOn with
   |_ i ih=>
    by_cases h: ∃j,j<i/\listed.getD j true=false
    ·
     obtain⟨j,hj,dJ⟩:=h;exact ih j hj (by omega) dJ
    ·
     refine⟨i,h1,h2,fun j hj=>?_⟩
     cases hh:listed.getD j true with
     |true=>rfl
     |false=>exact absurd ⟨j,hj,hh⟩ h
  have fh:listed.size=l.length:=by simpa using H.inv.size
  have Ca:i0∈Region.ready .any l.toArray listed:=by
   obtain⟨o,ho,bB⟩:=Et hB i0 B8;refine mem_ready.2 ⟨Ey,o,by simpa using ho,fun e he hb=>?_⟩;have h1:=bB.back e he hb;have h2:=B9 e.on h1;have h3:e.on<listed.size:=by omega
   simp[h3]at h2⊢;exact h2
  refine⟨fun h=>(by rw[h]at Ca;cases Ca),fun i hi=>?_⟩;have iE:i<n:=by
   rcases asx i n with h|h
   ·
    exact h
   ·
    exact absurd hi (tail_waits hs hc (by simpa using hn) H.inv _ i0 rfl B8 Ey i h)
  obtain⟨o,ho,bB⟩:=Et hB i iE;obtain⟨iS,o',pI,qZ⟩:=mem_ready.1 hi;have:o'=o:=by simpa[ho]using pI.symm
  subst this;have tI:left n (listed.setIfInBounds i true)=m:=by have:=Oe iE iS;omega
  obtain⟨L,hL,nf,hF⟩:=H.mem
  cases jX:fs.contains i with
  |false=>
   have Ez:=Xj H iE jX bB hB qZ;have ew:=Od (ops:=l.toArray) Ez;have ee:execOp a.eval o'=execOp (fr l fs v a0 i).eval o':=execOp_congr o' bB.wy (IG Ez);obtain⟨IJ,EA⟩:=hq i iE jX o' ho;have next: ∀w',Mem w [] w'->wpAny P .any l.toArray Q (m+(l.length -n)) (listed.setIfInBounds i true) (a.put o'.dst (v i)) w':=fun w' gF=>
    IH hB hn hs hc II cC bc B7 hq m rs af _ _ w' tI (Xl H iE jX ho bB hB hi gF)
   unfold wpOp;simp only[pI];rw[ew];split
   ·
    rename_i q8;have h1:=IJ q8 w (nf w hL);refine .inl ?_;unfold Oper.wp;rw[ee];unfold Oper.quietAt at h1;generalize(execOp (fr l fs v a0 i).eval o').run P w=r at h1;unfold Oper.quietUpon at h1;split at h1
    ·
     obtain⟨rfl,rfl⟩:=h1;exact next _ (Mem.init _)
    ·
     obtain⟨rfl,e⟩:=h1;rw[e]at next;exact next _ (Mem.init _)
    ·
     obtain⟨rfl,uZ⟩:=h1;exact uZ.mono fun e qt ⟨he,hm⟩=>by subst he;exact next _ hm
    ·
     exact h1.elim
   ·
    rename_i q8;have:=EA (by simpa using q8);rw[this]at next;exact next w (Mem.init _)
  |true=>
   have Ew:i∈rs:=(H.todo i iE jX).1 iS
   cases rs with
   |nil=>cases Ew
   |cons r yf=>
    have Cb:i=r:=by
     rcases asw.1 Ew with h|h
     ·
      exact h
     ·
      exfalso;obtain⟨ds,ye⟩:=H.iv;have Xp:tG l (r::yf)=true:=by
       rw[ye]at B7;have key: ∀ds:List Nat,tG l (ds++r::yf)=true->tG l (r::yf)=true:=by
        intro ds
        induction ds with
        |nil=>exact id
        |cons d ds ih=>
         intro hh
         cases ds with
         |nil=>simp only[atA,atc,tG,alM]at hh;exact hh.2
         |cons d' ds'=>simp only[atA,tG,alM]at hh;exact ih hh.2
       exact key ds B7
      obtain⟨p,hp,op,bH,e,he,hb,fQ⟩:=Ob yf r Xp i h;have:op=o':=by rw[ho]at bH;exact(aso bH).symm
      subst this;have hl:=qZ e he hb;rw[fQ]at hl;have Of:p∈fs:=by rw[ye];exact atO _ hp
      have h1:=(H.todo p (bc p Of) (by simpa using Of)).2 hp;rw[getD_both h1]at hl
      cases hl
    subst Cb;obtain⟨of,q9,hg,gG⟩:=hF;have:of=o':=by rw[ho]at q9;exact(aso q9).symm
    subst this;have Ez:=Oc H bB qZ;have ee:execOp a.eval of=execOp af.eval of:=execOp_congr of bB.wy (IG Ez);have h1:=gG w hL;have next: ∀u w' E,(Mem w0 E w'/\(∀w,Mem w0 E w->Mem w0 L0 w)/\uY P l n Q w0 L0 yf (af.put of.dst u) E)->wpAny P .any l.toArray Q (m+(l.length -n)) (listed.setIfInBounds i true) (a.put of.dst u) w':=fun u w' E ⟨gF,zL,Xq⟩=>
     IH hB hn hs hc II cC bc B7 hq m yf (af.put of.dst u) _ _ w' tI (Xn H iE jX cC ho bB hi gF zL Xq)
    unfold wpOp;simp only[pI];rw[if_pos (by simp[Region.wanted,hg])];refine .inl ?_;unfold Oper.wp;rw[ee];generalize(execOp af.eval of).run P w=r at h1;unfold Oa at h1;split at h1
    ·
     obtain⟨E,hR⟩:=h1;exact next _ _ E hR
    ·
     obtain⟨rfl,uZ⟩:=h1;exact uZ.mono fun e qt ⟨u,E,he,hR⟩=>by subst he;exact next u _ E hR
    ·
     exact h1.elim
def EB(l:List Oper)(fs:List Nat)(n:Nat):Bool:=
 B4 l fs n&&decide (n<l.length)&&Region.sinkB .any l.toArray n&&Region.chainB .any l.toArray n&&Region.seqB .any l.toArray (l.length -n) n (zK l.length n)&&
  decide fs.Nodup&&(fs.all fun j=>decide (j<n))&&tG l fs
theorem Xr{id:Nat}{ro:Option Nat}[kM Q]{a:Act}{w:World}(n:Nat)(cC:qq l=true)(hm:P.follows .mixedOrders=true)(hB:EB l fs n=true){L:List aj}(hC:Mem w0 L {w with drawn:=w.drawn+1})(nf: ∀w,Mem w0 L w->Mem w0 L0 w)
  (h:nH P l.toArray fs (Mem w0 L0) (fun a'=>uY P l n Q w0 L0 fs a' L) 0 (l.take n) a):(Code.region id l.toArray true).wpIn (mv ro) 0 P Q a w:=by
 simp only[EB,alM,decide_eq_true_eq]at hB;obtain⟨⟨⟨⟨⟨⟨⟨h1,h2⟩,h3⟩,h4⟩,h5⟩,h6⟩,h7⟩,h8⟩:=hB;have Xs: ∀j∈fs,j<n:=fun j hj=>by have:=asD.1 h7 j hj;simpa using this
 obtain⟨v,_,g2,g3⟩:=IE (P:=P) (C:=Mem w0 L0) (l:=l) (fs:=fs) n 0 a (fun _=>undef) (by omega) (by simpa[fr]using h);refine IC cC hm ?_;have IK:HeadInv .any l.toArray n (Array.replicate l.toArray.size false):=
  ⟨by simp,fun j oj _ hl=>(by rw[getD_replicate_false]at hl;cases hl),fun t _ ht=>getD_in (by simpa using ht) (getD_replicate_false _ _)⟩
 have tI:left n (Array.replicate l.toArray.size false)=n:=by
  unfold left;rw[List.filter_eq_self.2 (fun j hj=>?_),avr];have jd:=asU.1 hj;simp[show j<l.length by omega]
 rw[as3]at g3;have:=IH (P:=P) (Q:=Q) (w0:=w0) (L0:=L0) (v:=v) (a0:=a) h1 h2 h3 h4 h5 h6 Xs h8 (fun k hk hf=>g2 k (by omega) (by omega) hf) n fs (fr l fs v a n) (Array.replicate l.toArray.size false) a _ tI
  ⟨IK,⟨L,hC,nf,g3⟩,rfl,B3 v a n,rfl,Es v a n,⟨[],rfl⟩,fun j hj hf=>?_,fun j d hj hl=>?_,fun _ _=>rfl,fun _ _=>rfl⟩
 ·
  rw[show n+(l.length -n)=l.toArray.size by simp;omega]at this;exact this
 ·
  have:j∈fs:=by simpa using hf
  simp[show j<l.length by omega,this]
 ·
  simp[show j<l.length by omega]at hl
end
abbrev Env:=List (Nat×Value)
theorem IL{a b:Nat}(h: ¬a=b):Nat.beq a b=false:=by
 cases hb:Nat.beq a b with
 |false=>rfl
 |true=>exact absurd (Nat.eq_of_beq_eq_true hb) h
def look:Env->Nat->Option Value
 |[],_=>none
 |(k,v)::r,d=>match Nat.beq k d with
  |true=>some v
  |false=>look r d
structure ct where
 n:Nat
 ds:List Nat
 ro:Option Nat
structure dr(N:ct)(env:Env)(a:Act):Prop where
 size:a.tmps.size=N.n
 get: ∀d v,look env d=some v->a.tmps[d]? =some v
 defers:a.defers=N.ds.map mark
def ev(env:Env):Operand->Option Value
 | .tmp t=>look env t
 | .const v=>some v
 | .global g=>some (.pointer (some ⟨g,0,none⟩))
 | .func f=>some (.func (.func f) #[] #[])
theorem dr.ev{N:ct}{env:Env}{a:Act}(h:dr N env a){x:Operand}{v:Value}(e:ev env x=some v):a.eval x=v:=by
 match x,e with
 | .tmp t,e=>
  have:=h.get t v e;simp[Act.eval,this]
 | .const u,e=>simpa[ax.ev,Act.eval]using e
 | .global g,e=>simpa[ax.ev,Act.eval]using e
 | .func f,e=>simpa[ax.ev,Act.eval]using e
def iU(env:Env):List Operand->Option (List Value)
 |[]=>some []
 |x::r=>match ev env x,iU env r with
  |some v,some vs=>some (v::vs)
  |_,_=>none
theorem dr.iU{N:ct}{env:Env}{a:Act}(h:dr N env a): ∀{xs:List Operand} {vs:List Value},iU env xs=some vs->xs.map a.eval=vs
 |[],vs,e=>by simp[ax.iU]at e;simp[e]
 |x::r,vs,e=>by
  unfold ax.iU at e;split at e
  ·
   rename_i v Xt hv zM;simp only[at0]at e;subst e;simp[h.ev hv,h.iU zM]
  simp at e
theorem iV{env:Env}:iU env []=some []:=rfl
theorem eL{env:Env}{x:Operand}{r:List Operand}{v:Value}{vs:List Value}(h:ev env x=some v)(h':iU env r=some vs):iU env (x::r)=some (v::vs):=by
 simp[iU,h,h']
def cJ(env:Env):Option Tmp->Value->Env
 |some d,v=>(d,v)::env
 |none,_=>env
def dA(N:ct):Option Tmp->Bool
 |some d=>Nat.ble (d+1) N.n
 |none=>true
theorem dr.put{N:ct}{env:Env}{a:Act}(h:dr N env a){dst:Option Tmp}(hd:dA N dst=true)(v:Value):dr N (cJ env dst v) (a.put dst v):=by
 cases dst with
 |none=>exact h
 |some d=>
  have bc:d<N.n:=Nat.le_of_ble_eq_true hd;refine⟨by simp[Act.put,h.size],fun d' v' hv=>?_,h.defers⟩;simp only[cJ,look]at hv;simp only[Act.put,atg]
  by_cases he:d=d'
  ·
   subst he;simp at hv;simp[hv,h.size,bc]
  have:Nat.beq d d'=false:=IL he;rw[this]at hv;rw[if_neg he];exact h.get d' v' hv
def Sub(EC env:Env):Prop:= ∀d v,look EC d=some v->look env d=some v
theorem Sub.refl(env:Env):Sub env env:=fun _ _ h=>h
theorem Sub.nil(env:Env):Sub [] env:=fun _ _ h=>by simp[look]at h
theorem Sub.cons{r env:Env}{d:Nat}{v:Value}(hv:look env d=some v)(h:Sub r env):Sub ((d,v)::r) env:=fun d' v' h'=>by
 simp only[look]at h'
 by_cases he:d=d'
 ·
  subst he;simp at h';rw[←h'];exact hv
 have:Nat.beq d d'=false:=IL he;rw[this]at h';exact h d' v' h'
theorem dr.sub{N:ct}{env EC:Env}{a:Act}(h:dr N env a)(s:Sub EC env):dr N EC a:=⟨h.size,fun d v e=>h.get d v (s d v e),h.defers⟩
theorem dr.enter(args:List Value)(N:Nat)(h:args.length<=N):dr ⟨N,[],none⟩ (args.zipIdx.map fun p=>(p.2,p.1)) {tmps:=args.toArray++Array.replicate (N -args.toArray.size) undef,defers:=[]}:=by
 refine⟨by simp;omega,fun d v e=>?_,rfl⟩;have key: ∀(l:List Value) (k:Nat),look ((l.zipIdx k).map fun p=>(p.2,p.1)) d=some v->k<=d/\l[d -k]? =some v:=by
  intro l
  induction l with
  |nil=>intro k h;simp[look]at h
  |cons x r ih=>
   intro k h;simp only[List.zipIdx_cons,asL,look]at h
   by_cases he:k=d
   ·
    subst he;simp at h;simp[h]
   have:Nat.beq k d=false:=IL he;rw[this]at h;obtain⟨h1,h2⟩:=ih (k+1) h;refine⟨by omega,?_⟩;rw[show d -k=(d -(k+1))+1 by omega,List.getElem?_cons_succ];exact h2
 have hh:=(key args 0 e).2;rw[avs]at hh;have bc:d<args.length:=by
  rcases asx d args.length with h'|h'
  ·
   exact h'
  simp[ast h']at hh
 rw[auR (by simpa using bc)];simpa using hh
section
variable {P:Program} {N:ct} {w0:World} {env:Env} {L:List aj} {d:Option Tmp} {ty:TypeId} {ps:String} {af:Array Edge} {gd:Option (Nat×Bool)}
def Ry(P:Program)(N:ct)(w0:World)(env:Env)(L:List aj)(o:Oper)(v:Value):Prop:=
 ∀a w,dr N env a->Mem w0 L w->(execOp a.eval o).run P w= .ok (.value v) w
def Yl(P:Program)(N:ct)(w0:World)(env:Env)(L:List aj)(o:Oper)(v:Value):Prop:=
 ∀a,dr N env a->uX P o a (Mem w0 L) v
theorem Ry.yl{o:Oper}{v:Value}(h:Ry P N w0 env L o v):Yl P N w0 env L o v:=fun a ha w hw=>by
 unfold Oper.quietAt;rw[h a w ha hw];exact⟨rfl,rfl⟩
theorem bf{x:Operand}{v:Value}(hx:ev env x=some v):Ry P N w0 env L ⟨d, .move x,ty,ps,af,gd⟩ v:=fun a w ha _=>by
 simp only[execOp,ha.ev hx,Sem.run_pure]
theorem hG{x:Operand}{v:Value}(hx:ev env x=some v):Ry P N w0 env L ⟨d, .assign x,ty,ps,af,gd⟩ v:=fun a w ha _=>by
 simp only[execOp,ha.ev hx,Sem.run_pure]
theorem IM{c x y:Operand}{g:Bool}{vx vy:Value}(hc:ev env c=some (.bool g))(hx:ev env x=some vx)(hy:ev env y=some vy):
  Ry P N w0 env L ⟨d, .pick c x y,ty,ps,af,gd⟩ (if g=true then vx else vy):=fun a w ha _=>by
 simp only[execOp,ha.ev hx,ha.ev hc,ha.ev hy,Sem.run_bind,Sem.run_pure,asBool,Result.andThen]
theorem zN{c x y:Operand}{g b:Bool}(hc:ev env c=some (.bool g))(hx:ev env x=some (if g=true then .bool b else undef))(hy:ev env y=some (.bool false)):
  Ry P N w0 env L ⟨d, .pick c x y,ty,ps,af,gd⟩ (.bool (g&&b)):=by
 have h:=IM (P:=P) (N:=N) (w0:=w0) (L:=L) (d:=d) (ty:=ty) (ps:=ps) (af:=af) (gd:=gd) hc hx hy
 cases g<;>simpa using h
theorem zO{c x y:Operand}{g b:Bool}(hc:ev env c=some (.bool g))(hx:ev env x=some (.bool true))(hy:ev env y=some (if(!g)=true then .bool b else undef)):
  Ry P N w0 env L ⟨d, .pick c x y,ty,ps,af,gd⟩ (.bool (g||b)):=by
 have h:=IM (P:=P) (N:=N) (w0:=w0) (L:=L) (d:=d) (ty:=ty) (ps:=ps) (af:=af) (gd:=gd) hc hx hy
 cases g<;>simpa using h
theorem ng{x:Operand}{g:Bool}{t:TypeId}(hx:ev env x=some (.bool g)):Ry P N w0 env L ⟨d, .unOp .not t x,ty,ps,af,gd⟩ (.bool (!g)):=fun a w ha _=>by
 simp only[execOp,ha.ev hx,Op.unary,Sem.run_bind,Sem.run_pure,Result.andThen]
theorem aJ{x:Operand}{vs:Array Value}{i:Nat}{v:Value}(hx:ev env x=some (.tuple vs))(hv:vs[i]? =some v):Ry P N w0 env L ⟨d, .extract x i,ty,ps,af,gd⟩ v:=fun a w ha _=>by
 simp only[execOp,ha.ev hx,Instr.extract,hv,Sem.run_bind,Sem.run_pure,Result.andThen]
def lQ(op:BinOp)(k:IntKind)(a b:Int):Option Value:=
 match op with
 | .add=>some (.int k (k.wrap (a+b)))
 | .sub=>some (.int k (k.wrap (a -b)))
 | .mul=>some (.int k (k.wrap (a*b)))
 | .quo=>if b=0 then none else some (.int k (k.wrap (a.tdiv b)))
 | .rem=>if b=0 then none else some (.int k (a.tmod b))
 | .and=>some (.int k (k.wrap (BitVec.ofInt k.bits a&&&BitVec.ofInt k.bits b).toNat))
 | .or=>some (.int k (k.wrap (BitVec.ofInt k.bits a|||BitVec.ofInt k.bits b).toNat))
 | .xor=>some (.int k (k.wrap (BitVec.ofInt k.bits a^^^BitVec.ofInt k.bits b).toNat))
 | .andNot=>some (.int k (k.wrap (BitVec.ofInt k.bits a&&& ~~~BitVec.ofInt k.bits b).toNat))
 | .eql=>some (.bool (decide (a=b)))
 | .neq=>some (.bool (!decide (a=b)))
 | .lss=>some (.bool (decide (a<b)))
 | .leq=>some (.bool (decide (a<=b)))
 | .gtr=>some (.bool (decide (b<a)))
 | .geq=>some (.bool (decide (b<=a)))
 |_=>none
theorem IN(op:BinOp)(t:TypeId)(x y:Operand)(k k':IntKind)(a b:Int)(w:World):(eqGuard op t x y (.int k a) (.int k' b)).run P w= .ok () w:=by
 cases op<;>rfl
theorem Xu{op:BinOp}{k:IntKind}{a b:Int}{v:Value}(t:TypeId)(h:lQ op k a b=some v)(w:World):(binOp op t (.int k a) (.int k b)).run P w= .ok v w:=by
 cases op<;>simp only[lQ,at0,reduceCtorEq]at h<;>(try split at h)<;>(try simp only[at0,reduceCtorEq]at h)<;>(try subst h)<;>
  simp_all[binOp,Op.intArith,Op.intDiv,Op.intBits,Op.intCmp]<;>rfl
theorem et{op:BinOp}{k:IntKind}{x y:Operand}{a b:Int}{v:Value}{t u:TypeId}(hx:ev env x=some (.int k a))(hy:ev env y=some (.int k b))(h:lQ op k a b=some v):
  Ry P N w0 env L ⟨d, .binOp op t x y u,ty,ps,af,gd⟩ v:=fun a w ha _=>by
 simp only[execOp,ha.ev hx,ha.ev hy,Sem.run_bind,IN,Xu t h,Sem.run_pure,Result.andThen]
end
def wC:TypeDesc->Bool
 | .struct _| .array _ _=>true
 |_=>false
class fK(P:Program)(t:TypeId)(n:outParam Nat):Prop where
 row: ∃d,P.underlying t=some d/\wC d=true
 size:(P.info? t).map (·.size)=some n
class fR(P:Program)(t:TypeId):Prop where
 one: ∃d,P.underlying t=some d/\wC d=false
 size:(P.info? t).map (·.size)=some 1
class dG(P:Program)(s:TypeId)(i:Nat)(off:outParam Nat):Prop where
 Xv: ∃fs f m,P.underlying s=some (.struct fs)/\fs[i]? =some f/\f.offset=off/\(P.info? f.type).map (·.size)=some (m+1)
class u4(P:Program)(t:TypeId)(n m:outParam Nat):Prop where
 arr: ∃e,P.underlying t=some (.array n e)/\(P.info? e).map (·.size)=some m
class fj(P:Program)(t:TypeId)(e:outParam TypeId)(m:outParam Nat):Prop where
 fc:P.underlying t=some (.slice e)
 size:(P.info? e).map (·.size)=some m
class mw(P:Program)(t:TypeId)(k:outParam IntKind):Prop where
 fc:P.underlying t=some (.int k)
class eR(P:Program)(t:TypeId)(v:outParam Value):Prop where
 zero:(P.info? t).map (·.zero)=some (some v)
class aK(P:Program)(f:FuncId):Prop where
 fn: ∃fn,P.funcs[f]? =some fn∧fn.body.isNone=false∧(fn.name== "runtime.NumGoroutine")=false
class Has(L:List aj)(b:Nat)(cs:outParam (Array Value))(T:outParam TypeId)(i:outParam Nat):Prop where
 h:L[i]? =some (ar b cs T)
instance (priority:=high) Has.here {L:List aj}{b:Nat}{cs:Array Value}{T:TypeId}:Has (ar b cs T::L) b cs T 0:=⟨rfl⟩
instance Has.there{L:List aj}{e:aj}{b:Nat}{cs:Array Value}{T:TypeId}{i:Nat}[q:Has L b cs T i]:Has (e::L) b cs T (i+1):=⟨by simpa using q.h⟩
class fC(L:List aj)(i:Nat)(e:aj)(L':outParam (List aj)):Prop where
 h:L.set i e=L'
instance fC.here{L:List aj}{x e:aj}:fC (x::L) 0 e (e::L):=⟨rfl⟩
instance fC.there{L L':List aj}{x e:aj}{i:Nat}[q:fC L i e L']:fC (x::L) (i+1) e (x::L'):=⟨by simp[q.h]⟩
class cc(cs:Array Value)(o:Nat)(v:outParam Value):Prop where
 h:cs[o]? =some v
class nJ(cs:Array Value)(o n:Nat)(sub:outParam (Array Value)):Prop where
 size:sub.size=n
 h: ∀j,j<n->cs[o+j]? =sub[j]?
class fW(cs:Array Value)(n:outParam Nat):Prop where
 h:cs.size=n
 one:cs.all (·.oneCell')=true
class pJ(P:Program)(f:FuncId)(vs:List Value)(v:outParam Value):Prop where
 h: ∀w,Calls P f vs.toArray w fun e w'=>e= .returned v/\Mem w [] w'
class zP(P:Program)(t:TypeId)(x y:Value)(r:outParam Bool):Prop where
 h: ∀w,(Op.equalIn 10000 t x y).run P w= .ok r w
 plain:P.eqGuardType P.depth t=false
 agg: ∃xs ys,x= .agg xs/\y= .agg ys
section
variable {P:Program} (w:World)
theorem Og{t:TypeId}{i:TypeInfo}(h:P.info? t=some i):(typeInfo t).run P w= .ok i w:=by
 simp[typeInfo,h]
theorem lR{t:TypeId}{n:Nat}(h:(P.info? t).map (·.size)=some n):(sizeOf t).run P w= .ok n w:=by
 cases hi:P.info? t with
 |none=>simp[hi]at h
 |some i=>simp[hi]at h;simp[sizeOf,Og w hi,h]
theorem ED{t:TypeId}{v:Value}(h:eR P t v):(zeroValue t).run P w= .ok v w:=by
 have h:=h.zero
 cases hi:P.info? t with
 |none=>simp[hi]at h
 |some i=>simp[hi]at h;simp[zeroValue,Og w hi,h]
theorem EE{t:TypeId}{d:TypeDesc}(h:P.underlying t=some d):(isAgg t).run P w= .ok (wC d) w:=by
 cases d<;>simp[isAgg,run_underlying h,wC]
theorem Xw{t:TypeId}(h:fR P t){a:Addr}{v:Value}(hc:w.cell? a=some v):(loadVar t a).run P w= .ok v w:=by
 obtain⟨d,hu,hd⟩:=h.one;simp[loadVar,EE w hu,hd,hc]
theorem IP{t:TypeId}{n:Nat}(h:fK P t n){a:Addr}{cs:Array Value}(hn:cs.size=n)(hc: ∀j,j<n->w.cell? (a.add j)=cs[j]?):(loadVar t a).run P w= .ok (.agg cs) w:=by
 obtain⟨d,hu,hd⟩:=h.row;have hl:(loadCells a n).run P w= .ok cs w:=by
  have:=run_loadCells_list (P:=P) w a cs.toList (fun j v hv=>by
   have hj:j<n:=by
    have:=(ad2.1 hv).1;simpa[hn]using this
   rw[hc j hj];simpa using hv)
  simpa[hn]using this
 simp[loadVar,EE w hu,hd,lR w h.size,hl]
end
section
variable {P:Program} {N:ct} {w0:World} {env:Env} {L:List aj} {d:Option Tmp} {ty:TypeId} {ps:String} {af:Array Edge} {gd:Option (Nat×Bool)}
theorem Addr.hH(b o j:Nat):(⟨b,o,none⟩:Addr).add j=⟨b,o+j,none⟩:=by
 unfold Addr.add;split<;>simp_all
theorem zQ{t:TypeId}{x:Operand}{p:Addr}{v:Value}(ht:fR P t)(hx:ev env x=some (.pointer (some p)))(hc: ∀w,Mem w0 L w->w.cell? p=some v):
  Ry P N w0 env L ⟨d, .load t x,ty,ps,af,gd⟩ v:=fun a w ha hw=>by
 simp only[execOp,ha.ev hx,Instr.loadAt,Instr.sureAddr,Sem.run_bind,Sem.run_pure,Result.andThen,Xw w ht (hc w hw)]
theorem Cc{t:TypeId}{x:Operand}{p:Addr}{n:Nat}{cs:Array Value}(ht:fK P t n)(hx:ev env x=some (.pointer (some p)))(hn:cs.size=n)(hc: ∀w,Mem w0 L w-> ∀j,j<n->w.cell? (p.add j)=cs[j]?):
  Ry P N w0 env L ⟨d, .load t x,ty,ps,af,gd⟩ (.agg cs):=fun a w ha hw=>by
 simp only[execOp,ha.ev hx,Instr.loadAt,Instr.sureAddr,Sem.run_bind,Sem.run_pure,Result.andThen,IP w ht hn (hc w hw)]
theorem zR{t:TypeId}{x:Operand}{i b o:Nat}{cs:Array Value}{T:TypeId}{v:Value}(hx:ev env x=some (.pointer (some ⟨b,o,none⟩)))[ht:fR P t][hi:Has L b cs T i](hc:cs[o]? =some v):
  Ry P N w0 env L ⟨d, .load t x,ty,ps,af,gd⟩ v:=zQ ht hx fun w hw=>by rw[hw.cell hi.h];exact hc
theorem bY{t:TypeId}{x:Operand}{i b o:Nat}{cs:Array Value}{T:TypeId}{v:Value}(hx:ev env x=some (.pointer (some ⟨b,o,none⟩)))[ht:fR P t][hi:Has L b cs T i][hc:cc cs o v]:
  Ry P N w0 env L ⟨d, .load t x,ty,ps,af,gd⟩ v:=zR hx hc.h
theorem jY{t:TypeId}{x:Operand}{i b n:Nat}{cs:Array Value}{T:TypeId}(hx:ev env x=some (.pointer (some ⟨b,0,none⟩)))[ht:fK P t n][hi:Has L b cs T i][hn:fW cs n]:
  Ry P N w0 env L ⟨d, .load t x,ty,ps,af,gd⟩ (.agg cs):=Cc ht hx hn.h fun w hw j _=>by rw[Addr.hH,hw.cell hi.h,as3]
theorem hK{t:TypeId}{x:Operand}{i b o n:Nat}{cs sub:Array Value}{T:TypeId}(hx:ev env x=some (.pointer (some ⟨b,o,none⟩)))[ht:fK P t n][hi:Has L b cs T i][hs:nJ cs o n sub]:
  Ry P N w0 env L ⟨d, .load t x,ty,ps,af,gd⟩ (.agg sub):=Cc ht hx hs.size fun w hw j hj=>by rw[Addr.hH,hw.cell hi.h];exact hs.h j hj
theorem aO{s:TypeId}{x:Operand}{fi off b o o':Nat}[hf:dG P s fi off](hx:ev env x=some (.pointer (some ⟨b,o,none⟩)))(ho:Nat.add o off=o'):
  Ry P N w0 env L ⟨d, .fieldAddr s x fi,ty,ps,af,gd⟩ (.pointer (some ⟨b,o',none⟩)):=fun a w ha _=>by
 obtain⟨fs,f,m,hu,jX,q9,fh⟩:=hf.Xv;subst ho q9;simp only[execOp,ha.ev hx,Instr.fieldAt,Sem.run_bind,run_underlying hu,Result.andThen,jX,Instr.sureAddr,Sem.run_pure,fieldPlace,lR w fh,Nat.succ_ne_zero,if_false,Addr.hH,avc]
theorem wD{t:TypeId}{x ix:Operand}{n m b o:Nat}{k:IntKind}{j:Int}[ht:u4 P t n m](hx:ev env x=some (.pointer (some ⟨b,o,none⟩)))(hj:ev env ix=some (.int k j))(h0:0<=j)(h1:j<n):
  Ry P N w0 env L ⟨d, .indexAddr t x ix,ty,ps,af,gd⟩ (.pointer (some ⟨b,o+j.toNat*m,none⟩)):=fun a w ha _=>by
 obtain⟨e,hu,fh⟩:=ht.arr;simp only[execOp,ha.ev hx,ha.ev hj,Instr.indexAt,asIntOf,Sem.run_bind,run_underlying hu,Result.andThen,Instr.sureAddr,Sem.run_pure,lR w fh,h0,h1,and_self,if_true,Addr.hH]
theorem qv{t:TypeId}{x ix:Operand}{n b:Nat}{k:IntKind}{j:Int}[ht:u4 P t n 1](hx:ev env x=some (.pointer (some ⟨b,0,none⟩)))(hj:ev env ix=some (.int k j))(h0:0<=j)(h1:j<n):
  Ry P N w0 env L ⟨d, .indexAddr t x ix,ty,ps,af,gd⟩ (.pointer (some ⟨b,j.toNat,none⟩)):=by
 have:=wD (P:=P) (t:=t) (N:=N) (w0:=w0) (L:=L) (d:=d) (ty:=ty) (ps:=ps) (af:=af) (gd:=gd) hx hj h0 h1;simpa using this
theorem Oh{t e:TypeId}{x ix:Operand}{m b o len cap:Nat}{k:IntKind}{j:Int}[ht:fj P t e m](hx:ev env x=some (.slice (some ⟨b,o,none⟩) len cap))(hj:ev env ix=some (.int k j))(h0:0<=j)(h1:j<len):
  Ry P N w0 env L ⟨d, .indexAddr t x ix,ty,ps,af,gd⟩ (.pointer (some ⟨b,o+j.toNat*m,none⟩)):=fun a w ha _=>by
 simp only[execOp,ha.ev hx,ha.ev hj,Instr.indexAt,asIntOf,Sem.run_bind,run_underlying ht.fc,Result.andThen,Sem.run_pure,lR w ht.size,h0,h1,and_self,if_true,Addr.hH]
theorem pK{s t:TypeId}{x:Operand}{k k':IntKind}{n m:Int}[hs:mw P s k'][ht:mw P t k](hx:ev env x=some (.int k' n))(hm:k.wrap n=m):
  Ry P N w0 env L ⟨d, .convert s t x,ty,ps,af,gd⟩ (.int k m):=fun a w ha _=>by
 subst hm;simp only[execOp,ha.ev hx,convert,Sem.run_bind,run_underlying hs.fc,run_underlying ht.fc,Result.andThen,Conv.intToInt,Sem.run_pure]
theorem yg{t e:TypeId}{x:Operand}{m len cap:Nat}{p:Option Addr}[ht:fj P t e m](hx:ev env x=some (.slice p len cap)):
  Ry P N w0 env L ⟨d, .call {callee:= .builtin .len,args:= #[x],argTypes:= #[t]},ty,ps,af,gd⟩ (.int .i64 len):=fun a w ha _=>by
 simp[execOp,ha.ev hx,resolve,invoke,builtin,Builtin.len_,run_underlying ht.fc,goInt,Result.andThen]
theorem EF{f:FuncId}(hf:aK P f){ρ:Operand->Value}{xs:List Operand}{ts:Array TypeId}(w:World)(Xx:ρ (.func f)= .func (.func f) #[] #[]):
  (execOp ρ ⟨d, .call {callee:= .value (.func f),args:=xs.toArray,argTypes:=ts},ty,ps,af,gd⟩).run P w= .ok (.enter f (xs.map ρ).toArray) w:=by
 obtain⟨fn,h1,h2,h3⟩:=hf.fn;have IQ: ¬fn.body=none:=fun e=>by simp[e]at h2
 have zS: ¬fn.name= "runtime.NumGoroutine" :=by simpa using h3
 simp[execOp,resolve,Xx,Deferred.ofValue,invoke,callFunc,h1,IQ,zS,Result.andThen]
theorem EG{f:FuncId}{xs:List Operand}{ts:Array TypeId}{vs:List Value}{v:Value}[hf:aK P f](hx:iU env xs=some vs)
  (hc: ∀w,Mem w0 L w->Calls P f vs.toArray w fun e w'=>e= .returned v/\Mem w [] w'):
  Yl P N w0 env L ⟨d, .call {callee:= .value (.func f),args:=xs.toArray,argTypes:=ts},ty,ps,af,gd⟩ v:=fun a ha w hw=>by
 unfold Oper.quietAt;rw[EF hf w rfl,ha.iU hx];exact⟨rfl,hc w hw⟩
theorem zT{f:FuncId}{xs:List Operand}{ts:Array TypeId}{vs:List Value}{v:Value}[hf:aK P f](hx:iU env xs=some vs)[hc:pJ P f vs v]:
  Yl P N w0 env L ⟨d, .call {callee:= .value (.func f),args:=xs.toArray,argTypes:=ts},ty,ps,af,gd⟩ v:=EG hx fun w _=>hc.h w
theorem Oi{op:BinOp}{t:TypeId}(hm:P.eqGuardType P.depth t=false)(x y:Operand)(xs ys:Array Value)(w:World):(eqGuard op t x y (.agg xs) (.agg ys)).run P w= .ok () w:=run_eqGuard_agg w op t x y xs ys hm
theorem Oj{x y:Operand}{t u:TypeId}{vx vy:Value}{r:Bool}(hx:ev env x=some vx)(hy:ev env y=some vy)[h:zP P t vx vy r]:
  Ry P N w0 env L ⟨d, .binOp .eql t x y u,ty,ps,af,gd⟩ (.bool r):=fun a w ha _=>by
 obtain⟨xs,ys,e1,e2⟩:=h.agg;subst e1 e2;simp only[execOp,ha.ev hx,ha.ev hy,Sem.run_bind,Oi h.plain,Result.andThen,run_eql_struct,h.h,Sem.run_pure]
theorem IS{x y:Operand}{t u:TypeId}{vx vy:Value}{r:Bool}(hx:ev env x=some vx)(hy:ev env y=some vy)[h:zP P t vx vy r]:
  Ry P N w0 env L ⟨d, .binOp .neq t x y u,ty,ps,af,gd⟩ (.bool (!r)):=fun a w ha _=>by
 obtain⟨xs,ys,e1,e2⟩:=h.agg;subst e1 e2;simp only[execOp,ha.ev hx,ha.ev hy,Sem.run_bind,Oi h.plain,Result.andThen,run_neq_struct,h.h,Sem.run_pure]
theorem Xy{x y:Operand}{t u:TypeId}{a b:Bool}(hx:ev env x=some (.bool a))(hy:ev env y=some (.bool b))(ht:P.underlying t=some .bool):
  Ry P N w0 env L ⟨d, .binOp .eql t x y u,ty,ps,af,gd⟩ (.bool (a==b)):=fun aa w ha _=>by
 have h1:(Op.equal t (.bool a) (.bool b)).run P w= .ok (a==b) w:=run_equalIn_bool' w 9999 t a b ht;have h2:(eqGuard BinOp.eql t x y (.bool a) (.bool b)).run P w= .ok () w:=rfl;simp only[execOp,ha.ev hx,ha.ev hy,Sem.run_bind,h2,Result.andThen_ok,binOp,h1,Sem.run_pure]
theorem wrap64_in{n:Int}(h: -9223372036854775808<=n/\n<=9223372036854775807):IntKind.i64.wrap n=n:=IntWalk.i64_in n h
theorem yh{x y:Operand}{a b:Int}{t u:TypeId}(hx:ev env x=some (.int .i64 a))(hy:ev env y=some (.int .i64 b))(h: -9223372036854775808<=a+b/\a+b<=9223372036854775807):
  Ry P N w0 env L ⟨d, .binOp .add t x y u,ty,ps,af,gd⟩ (.int .i64 (a+b)):=et hx hy (by rw[lQ,wrap64_in h])
theorem zU{x y:Operand}{a b:Int}{t u:TypeId}(hx:ev env x=some (.int .i64 a))(hy:ev env y=some (.int .i64 b))(h: -9223372036854775808<=a -b/\a -b<=9223372036854775807):
  Ry P N w0 env L ⟨d, .binOp .sub t x y u,ty,ps,af,gd⟩ (.int .i64 (a -b)):=et hx hy (by rw[lQ,wrap64_in h])
theorem pL{x y:Operand}{a b:Int}{t u:TypeId}(hx:ev env x=some (.int .i64 a))(hy:ev env y=some (.int .i64 b))(h: -9223372036854775808<=a*b/\a*b<=9223372036854775807):
  Ry P N w0 env L ⟨d, .binOp .mul t x y u,ty,ps,af,gd⟩ (.int .i64 (a*b)):=et hx hy (by rw[lQ,wrap64_in h])
theorem my{x y:Operand}{a b:Int}{t u:TypeId}(hx:ev env x=some (.int .i64 a))(hy:ev env y=some (.int .i64 b))(h:0<=a/\a<=9223372036854775807)(hb:0<b):
  Ry P N w0 env L ⟨d, .binOp .quo t x y u,ty,ps,af,gd⟩ (.int .i64 (a/b)):=et hx hy (by
 have h2:a/b<=a:=Int.ediv_le_self _ h.1;have h3:0<=a/b:=auu h.1 (by omega);rw[lQ,if_neg (by omega),Int.tdiv_eq_ediv_of_nonneg h.1,wrap64_in (by omega)])
theorem zV{x y:Operand}{a b:Int}{k:IntKind}{t u:TypeId}(hx:ev env x=some (.int k a))(hy:ev env y=some (.int k b))(h:0<=a)(hb:0<b):
  Ry P N w0 env L ⟨d, .binOp .rem t x y u,ty,ps,af,gd⟩ (.int k (a%b)):=et hx hy (by
 rw[lQ,if_neg (by omega),Int.tmod_eq_emod_of_nonneg h])
def kN(env:Env):List (Nat×Operand)->Option (List (Nat×Value))
 |[]=>some []
 |(i,x)::r=>match ev env x,kN env r with
  |some v,some vs=>some ((i,v)::vs)
  |_,_=>none
theorem Xz:kN env []=some []:=rfl
theorem Ol{i:Nat}{x:Operand}{r:List (Nat×Operand)}{v:Value}{vs:List (Nat×Value)}(h:ev env x=some v)(h':kN env r=some vs):kN env ((i,x)::r)=some ((i,v)::vs):=by
 simp[kN,h,h']
theorem dr.kN{a:Act}(h:dr N env a): ∀{xs:List (Nat×Operand)} {vs:List (Nat×Value)},kN env xs=some vs->(xs.map fun p=>(p.1,a.eval p.2))=vs
 |[],vs,e=>by simp[ax.kN]at e;simp[e]
 |(i,x)::r,vs,e=>by
  unfold ax.kN at e;split at e
  ·
   rename_i v Xt hv zM;simp only[at0]at e;subst e;simp[h.ev hv,h.kN zM]
  simp at e
class nK(P:Program)(t:TypeId)(vs:List (Nat×Value))(v:outParam Value):Prop where
 h: ∀w,(Instr.build t vs.toArray).run P w= .ok v w
theorem dm{t:TypeId}{xs:List (Nat×Operand)}{vs:List (Nat×Value)}{v:Value}(hx:kN env xs=some vs)(hb: ∀w,(Instr.build t vs.toArray).run P w= .ok v w):
  Ry P N w0 env L ⟨d, .build t xs.toArray,ty,ps,af,gd⟩ v:=fun a w ha _=>by
 have e:(xs.toArray.map fun(p:Nat×Operand)=>match p with|(i,x)=>(i,a.eval x))=vs.toArray:=by
  rw[←ha.kN hx];simp
 simp only[execOp,e,Sem.run_bind,hb w,Result.andThen,Sem.run_pure]
theorem iz{t:TypeId}{xs:List (Nat×Operand)}{vs:List (Nat×Value)}{v:Value}(hx:kN env xs=some vs)[hb:nK P t vs v]:
  Ry P N w0 env L ⟨d, .build t xs.toArray,ty,ps,af,gd⟩ v:=dm hx hb.h
theorem Om{k:IntKind}{i:Int}{y:Nat}(h0:0<=i)(h1:i<=y)(c:BoundsCode)(w:World):(Instr.sliceBound (.int k i) y c).run P w= .ok i.toNat w:=by
 simp[Instr.sliceBound,asIntOf,h0,h1]
theorem On{t:TypeId}{x hi:Operand}{n m b o:Nat}{k:IntKind}{h:Int}[ht:u4 P t n m](hx:ev env x=some (.pointer (some ⟨b,o,none⟩)))(hh:ev env hi=some (.int k h))(h0:0<=h)(h1:h<=n):
  Ry P N w0 env L ⟨d, .slice t x none (some hi) none,ty,ps,af,gd⟩ (.slice (some ⟨b,o,none⟩) h.toNat n):=fun a w ha _=>by
 obtain⟨e,hu,fh⟩:=ht.arr;have e0:(⟨b,o,none⟩:Addr).add 0=⟨b,o,none⟩:=rfl;simp[execOp,ha.ev hx,ha.ev hh,Instr.sliceAt,run_underlying hu,Instr.sureAddr,Instr.sliceBounds,Om h0 h1,lR w fh,Result.andThen,e0]
theorem ra{t:TypeId}{x:Operand}{n m b o:Nat}[ht:u4 P t n m](hx:ev env x=some (.pointer (some ⟨b,o,none⟩))):
  Ry P N w0 env L ⟨d, .slice t x none none none,ty,ps,af,gd⟩ (.slice (some ⟨b,o,none⟩) n n):=fun a w ha _=>by
 obtain⟨e,hu,fh⟩:=ht.arr;have e0:(⟨b,o,none⟩:Addr).add 0=⟨b,o,none⟩:=rfl;simp[execOp,ha.ev hx,Instr.sliceAt,run_underlying hu,Instr.sureAddr,Instr.sliceBounds,lR w fh,Result.andThen,e0]
theorem Oo{t:TypeId}{x lo:Operand}{n m b o:Nat}{k:IntKind}{l:Int}[ht:u4 P t n m](hx:ev env x=some (.pointer (some ⟨b,o,none⟩)))(hl:ev env lo=some (.int k l))(h0:0<=l)(h1:l<n):
  Ry P N w0 env L ⟨d, .slice t x (some lo) none none,ty,ps,af,gd⟩ (.slice (some ⟨b,o+l.toNat*m,none⟩) (n -l.toNat) (n -l.toNat)):=fun a w ha _=>by
 obtain⟨e,hu,fh⟩:=ht.arr;have e0:(if n=l.toNat then(⟨b,o,none⟩:Addr)else(⟨b,o,none⟩:Addr).add (l.toNat*m))=⟨b,o+l.toNat*m,none⟩:=by rw[if_neg (by omega),Addr.hH]
 simp[execOp,ha.ev hx,ha.ev hl,Instr.sliceAt,run_underlying hu,Instr.sureAddr,Instr.sliceBounds,Om h0 (Int.le_of_lt h1),lR w fh,Result.andThen,e0]
def nb:IntKind->Nat
 | .i8=>7| .i16=>15| .i32=>31| .i64=>63| .u8=>8| .u16=>16| .u32=>32| .u64=>64
theorem XA(k:IntKind):nb k<=k.bits:=by cases k<;>decide
theorem pM{k:IntKind}{n:Nat}(h:n<2^nb k):k.wrap (n:Int)=n:=by
 cases k<;>simp[IntKind.wrap,IntKind.bits,IntKind.signed,nb]at* <;>omega
theorem zW(b n:Nat):BitVec.ofInt b (n:Int)=BitVec.ofNat b n:=by
 apply BitVec.eq_of_toNat_eq;simp
theorem rb{k:IntKind}{n:Nat}(h:n<2^nb k):n<2^k.bits:=atd h (atv (by decide) (XA k))
variable {x y:Operand} {k k':IntKind} {p q:Nat} {t u:TypeId}
theorem Oq{a b:Int}(hx:ev env x=some (.int k a))(hy:ev env y=some (.int k b))(ea:a=p)(eb:b=q)(hp:p<2^nb k)(hq:q<2^nb k):
  Ry P N w0 env L ⟨d, .binOp .and t x y u,ty,ps,af,gd⟩ (.int k ((p&&&q:Nat):Int)):=et hx hy (by
 subst ea eb;simp only[lQ,zW,BitVec.toNat_and,auc,as5 (rb hp),as5 (rb hq)];rw[pM (Nat.and_lt_two_pow _ hq)])
theorem Cd{a b:Int}(hx:ev env x=some (.int k a))(hy:ev env y=some (.int k b))(ea:a=p)(eb:b=q)(hp:p<2^nb k)(hq:q<2^nb k):
  Ry P N w0 env L ⟨d, .binOp .or t x y u,ty,ps,af,gd⟩ (.int k ((p|||q:Nat):Int)):=et hx hy (by
 subst ea eb;simp only[lQ,zW,BitVec.toNat_or,auc,as5 (rb hp),as5 (rb hq)];rw[pM (Nat.or_lt_two_pow hp hq)])
theorem Ot{a b:Int}(hx:ev env x=some (.int k a))(hy:ev env y=some (.int k b))(ea:a=p)(eb:b=q)(hp:p<2^nb k)(hq:q<2^nb k):
  Ry P N w0 env L ⟨d, .binOp .xor t x y u,ty,ps,af,gd⟩ (.int k ((p^^^q:Nat):Int)):=et hx hy (by
 subst ea eb;simp only[lQ,zW,BitVec.toNat_xor,auc,as5 (rb hp),as5 (rb hq)];rw[pM (avn hp hq)])
theorem XB(hp:p<2^nb k)(hq:q<2^nb k):lQ .andNot k p q=some (.int k ((p&&&(2^k.bits -1 -q):Nat):Int)):=by
 simp only[lQ,zW,BitVec.toNat_and,BitVec.toNat_not,auc,as5 (rb hp),as5 (rb hq)];rw[pM (aud Nat.and_le_left hp)]
theorem XC{a b:Int}(h:0<=b)(w:World):(binOp .shr t (.int k a) (.int k' b)).run P w= .ok (.int k (a.fdiv (2^min b.toNat k.bits))) w:=by
 simp[binOp,Op.shift,show ¬b<0 by omega]
theorem XD{a b:Int}(h:0<=b)(w:World):(binOp .shl t (.int k a) (.int k' b)).run P w= .ok (.int k (k.wrap (a*2^min b.toNat k.bits))) w:=by
 simp[binOp,Op.shift,show ¬b<0 by omega]
theorem Ce{a b:Int}(hx:ev env x=some (.int k a))(hy:ev env y=some (.int k b))(ea:a=p)(eb:b=q)(h:p+q<2^nb k):
  Ry P N w0 env L ⟨d, .binOp .add t x y u,ty,ps,af,gd⟩ (.int k ((p+q:Nat):Int)):=et hx hy (by
 subst ea eb;rw[lQ,←Int.natCast_add,pM h])
theorem IT{a b:Int}{ts:Array TypeId}(hx:ev env x=some (.int k a))(hy:ev env y=some (.int k b)):
  Ry P N w0 env L ⟨d, .call {callee:= .builtin .min,args:= #[x,y],argTypes:=ts},ty,ps,af,gd⟩ (.int k (min a b)):=fun aa w ha _=>by
 have e:(if b<a then b else a)=min a b:=by rw[Int.min_def];split<;>split<;>omega
 simp[execOp,ha.ev hx,ha.ev hy,resolve,invoke,builtin,Builtin.min_,Builtin.min2,e]
theorem wE{a b:Int}{ts:Array TypeId}(hx:ev env x=some (.int k a))(hy:ev env y=some (.int k b)):
  Ry P N w0 env L ⟨d, .call {callee:= .builtin .max,args:= #[x,y],argTypes:=ts},ty,ps,af,gd⟩ (.int k (max a b)):=fun aa w ha _=>by
 have e:(if a<b then b else a)=max a b:=by rw[Int.max_def];split<;>split<;>omega
 simp[execOp,ha.ev hx,ha.ev hy,resolve,invoke,builtin,Builtin.max_,Builtin.max2,e]
theorem XE{ix:Operand}{s:ByteArray}{j:Int}{v:Nat}(hu:P.underlying t=some .string)(hx:ev env x=some (.string s))(hj:ev env ix=some (.int k j))(h0:0<=j)(hv:(s[j.toNat]?).map (·.toNat)=some v):
  Ry P N w0 env L ⟨d, .index t x ix,ty,ps,af,gd⟩ (.int .u8 v):=fun a w ha _=>by
 cases hs:s[j.toNat]?with
 |none=>simp[hs]at hv
 |some b=>
  simp[hs]at hv;simp[execOp,ha.ev hx,ha.ev hj,Instr.index,asIntOf,run_underlying hu,h0,hs,hv,Result.andThen]
theorem gH{s:TypeId}{n:Nat}[hs:mw P s k'][ht:mw P t k](hx:ev env x=some (.int k' n))(hn:n<2^nb k):
  Ry P N w0 env L ⟨d, .convert s t x,ty,ps,af,gd⟩ (.int k n):=pK hx (pM hn)
theorem IU{s:TypeId}{n:Int}[hs:mw P s k'][ht:mw P t k](hx:ev env x=some (.int k' n))(h0:0<=n)(hn:n.toNat<2^nb k):
  Ry P N w0 env L ⟨d, .convert s t x,ty,ps,af,gd⟩ (.int k n):=pK hx (by
 have:=pM hn;rwa [atC h0]at this)
theorem wF{b:Int}(hx:ev env x=some (.int k p))(hy:ev env y=some (.int k' b))(hp:p<2^nb k)(hb:0<=b):
  Ry P N w0 env L ⟨d, .binOp .shr t x y u,ty,ps,af,gd⟩ (.int k ((p/2^b.toNat:Nat):Int)):=fun a w ha _=>by
 have e:((p:Int).fdiv (2^min b.toNat k.bits))=((p/2^b.toNat:Nat):Int):=by
  rw[Int.fdiv_eq_ediv_of_nonneg _ (Int.pow_nonneg (by decide)),show((2:Int)^min b.toNat k.bits)=((2^min b.toNat k.bits:Nat):Int) by simp,←Int.natCast_ediv];congr 1
  by_cases h:b.toNat<=k.bits
  ·
   rw[auM h]
  ·
   rw[Nat.min_eq_right (by omega),Nat.div_eq_of_lt (rb hp),Nat.div_eq_of_lt (atd (rb hp) (atv (by decide) (by omega)))]
 simp only[execOp,ha.ev hx,ha.ev hy,Sem.run_bind,IN,XC hb,e,Sem.run_pure,Result.andThen]
theorem EH{a b:Int}(hx:ev env x=some (.int k a))(hy:ev env y=some (.int k' b))(hb:0<=b):
  Ry P N w0 env L ⟨d, .binOp .shl t x y u,ty,ps,af,gd⟩ (.int k (k.wrap (a*2^min b.toNat k.bits))):=fun aa w ha _=>by
 simp only[execOp,ha.ev hx,ha.ev hy,Sem.run_bind,IN,XD hb,Sem.run_pure,Result.andThen]
end
section
variable {P:Program} {N:ct} {w0:World} {env:Env} {L:List aj} {l:List Oper} {Q:Exit->Act->World->Prop} {F:Act->Prop} {fs:List Nat} {k:Nat} {rest:List Oper}
def Ex(N:ct)(w0:World)(Q:Exit->Act->World->Prop)(e:Exit)(env:Env)(L:List aj):Prop:= ∀a w,dr N env a->Mem w0 L w->Q e a w
def Sq(P:Program)(N:ct)(w0:World)(l:List Oper)(Q:Exit->Act->World->Prop)(rest:List Oper)(env:Env)(L:List aj):Prop:=
 ∀a w,dr N env a->Mem w0 L w->wpList P l.toArray Q rest a w
def Qt(P:Program)(N:ct)(w0:World)(l:List Oper)(fs:List Nat)(F:Act->Prop)(k:Nat)(rest:List Oper)(env:Env)(L:List aj):Prop:=
 ∀a,dr N env a->nH P l.toArray fs (Mem w0 L) F k rest a
theorem EI(h:Ex N w0 Q .normal env L):Sq P N w0 l Q [] env L:=h
theorem Ou(h:Ex N w0 Q .normal env L):Qt P N w0 l fs (fun a'=> ∀w',Mem w0 L w'->Q .normal a' w') k [] env L:=fun a ha w' gF=>h a w' ha gF
def Fr(P:Program)(N:ct)(w0:World)(Lq:List aj)(l:List Oper)(n:Nat)(Q:Exit->Act->World->Prop)(fs:List Nat)(env:Env)(L:List aj):Prop:=
 (∀w,Mem w0 L w->Mem w0 Lq w)-> ∀a,dr N env a->uY P l n Q w0 Lq fs a L
theorem wG{n:Nat}{gs:List Nat}{L':List aj}(h:Fr P N w0 L l n Q gs env L')(hq: ∀w,Mem w0 L' w->Mem w0 L w:=by exact fun _ h=>h):Qt P N w0 l fs (fun a'=>uY P l n Q w0 L gs a' L') k [] env L:=fun a ha=>h hq a ha
theorem wH{n:Nat}{Lq:List aj}(h:Sq P N w0 l Q (l.drop n) env L):Fr P N w0 Lq l n Q [] env L:=fun _ a ha w hw=>h a w ha hw
theorem XF{o:Oper}(hk:Qt P N w0 l fs F (k+1) rest env L)(hf:fs.contains k=true:=by rfl):Qt P N w0 l fs F k (o::rest) env L:=fun a ha=>by
 unfold nH;rw[if_pos hf];exact hk a ha
theorem sa{o:Oper}{y:Nat->Option Bool}(h:o.guard=none):Region.wanted o y=true:=by simp[Region.wanted,h]
theorem yi{o:Oper}{a:Act}{j t:Nat}{b g:Bool}(ha:dr N env a)(h:o.guard=some (j,b))(hj:(l[j]?).bind (·.dst)=some t)(hv:look env t=some (.bool g)):
  Region.wanted o (yielded l.toArray a.tmps)=(g==b):=by
 have:=ha.get _ _ hv;simp[Region.wanted,h,yielded,hj,this]
theorem IV{o:Oper}{a:Act}{j t:Nat}{b c g:Bool}(ha:dr N env a)(h:o.guard=some (j,b))(hj:(l[j]?).bind (·.dst)=some t)(hv:look env t=some (if c=true then .bool g else undef)):
  Region.wanted o (yielded l.toArray a.tmps)=(c&&(g==b)):=by
 have:=ha.get _ _ hv
 cases c
 ·
  simp only[as2,if_false]at this;simp[Region.wanted,h,yielded,hj,this,undef]
 ·
  simp only[if_true]at this;simp[Region.wanted,h,yielded,hj,this]
theorem zX{o:Oper}{a:Act}{w:World}{v:Value}{K:Act->World->Prop}(ha:dr N env a)(hw:Mem w0 L w)(h:Yl P N w0 env L o v)(hk: ∀w',Mem w0 L w'->K (a.put o.dst v) w'):o.wp P a w K Q:=by
 have h1:=h a ha w hw;unfold Oper.quietAt at h1;unfold Oper.wp;generalize(execOp a.eval o).run P w=r at h1;unfold Oper.quietUpon at h1;split at h1
 ·
  obtain⟨rfl,rfl⟩:=h1;exact hk _ hw
 ·
  obtain⟨rfl,rfl⟩:=h1;exact hk _ hw
 ·
  obtain⟨rfl,hc⟩:=h1;exact hc.mono fun e qt ⟨he,hm⟩=>by subst he;exact hk _ (by simpa using hw.call hm)
 exact h1.elim
theorem eS{o:Oper}{v:Value}(h:Yl P N w0 env L o v)(hk:Sq P N w0 l Q rest (cJ env o.dst v) L)(hg:o.guard=none:=by rfl)(hd:dA N o.dst=true:=by rfl):Sq P N w0 l Q (o::rest) env L:=fun a w ha hw=>by
 unfold wpList;rw[if_pos (sa hg)];exact .inl (zX ha hw h fun w' gF=>hk _ _ (ha.put hd v) gF)
theorem ag{o:Oper}{v:Value}(h:Ry P N w0 env L o v)(hk:Sq P N w0 l Q rest (cJ env o.dst v) L)(hg:o.guard=none:=by rfl)(hd:dA N o.dst=true:=by rfl):Sq P N w0 l Q (o::rest) env L:=eS h.yl hk hg hd
theorem sd{o:Oper}{v:Value}(h:Yl P N w0 env L o v)(hk:Qt P N w0 l fs F (k+1) rest (cJ env o.dst v) L)(hg:o.guard=none:=by rfl)(hd:dA N o.dst=true:=by rfl)(hf:fs.contains k=false:=by rfl):Qt P N w0 l fs F k (o::rest) env L:=fun a ha=>by
 unfold nH;rw[if_neg (by rw[hf];exact atB)];rw[if_pos (sa hg)];exact⟨v,h a ha,hk _ (ha.put hd v)⟩
theorem bC{o:Oper}{v:Value}(h:Ry P N w0 env L o v)(hk:Qt P N w0 l fs F (k+1) rest (cJ env o.dst v) L)(hg:o.guard=none:=by rfl)(hd:dA N o.dst=true:=by rfl)(hf:fs.contains k=false:=by rfl):Qt P N w0 l fs F k (o::rest) env L:=sd h.yl hk hg hd hf
theorem look_eq{t:Nat}{u v:Value}(h:look env t=some u)(e:u=v):look env t=some v:=by rw[h,e]
theorem jr{o:Oper}{v:Value}{j t:Nat}{g:Bool}(hg:o.guard=some (j,true))(hj:(l[j]?).bind (·.dst)=some t)(hv:look env t=some (.bool g))(h:g=true->Yl P N w0 env L o v)
  (hk:Sq P N w0 l Q rest (cJ env o.dst (if g=true then v else undef)) L) (hd:dA N o.dst=true:=by rfl):Sq P N w0 l Q (o::rest) env L:=fun a w ha hw=>by
 unfold wpList;rw[yi ha hg hj hv]
 cases g
 ·
  exact hk _ _ (ha.put hd undef) hw
 ·
  exact .inl (zX ha hw (h rfl) fun w' gF=>hk _ _ (ha.put hd v) gF)
theorem fX{o:Oper}{v:Value}{j t:Nat}{g:Bool}(hg:o.guard=some (j,true))(hj:(l[j]?).bind (·.dst)=some t)(hv:look env t=some (.bool g))(h:g=true->Yl P N w0 env L o v)
  (hk:Qt P N w0 l fs F (k+1) rest (cJ env o.dst (if g=true then v else undef)) L) (hd:dA N o.dst=true:=by rfl) (hf:fs.contains k=false:=by rfl):Qt P N w0 l fs F k (o::rest) env L:=fun a ha=>by
 unfold nH;rw[if_neg (by rw[hf];exact atB)];rw[yi ha hg hj hv]
 cases g
 ·
  exact hk _ (ha.put hd undef)
 ·
  exact⟨v,h rfl a ha,hk _ (ha.put hd v)⟩
theorem bI{o:Oper}{v:Value}{j t:Nat}{g:Bool}(hg:o.guard=some (j,false))(hj:(l[j]?).bind (·.dst)=some t)(hv:look env t=some (.bool g))(h:(!g)=true->Yl P N w0 env L o v)
  (hk:Sq P N w0 l Q rest (cJ env o.dst (if(!g)=true then v else undef)) L) (hd:dA N o.dst=true:=by rfl):Sq P N w0 l Q (o::rest) env L:=fun a w ha hw=>by
 unfold wpList;rw[yi ha hg hj hv]
 cases g
 ·
  exact .inl (zX ha hw (h rfl) fun w' gF=>hk _ _ (ha.put hd v) gF)
 ·
  exact hk _ _ (ha.put hd undef) hw
theorem fD{o:Oper}{v:Value}{j t:Nat}{g:Bool}(hg:o.guard=some (j,false))(hj:(l[j]?).bind (·.dst)=some t)(hv:look env t=some (.bool g))(h:(!g)=true->Yl P N w0 env L o v)
  (hk:Qt P N w0 l fs F (k+1) rest (cJ env o.dst (if(!g)=true then v else undef)) L) (hd:dA N o.dst=true:=by rfl) (hf:fs.contains k=false:=by rfl):Qt P N w0 l fs F k (o::rest) env L:=fun a ha=>by
 unfold nH;rw[if_neg (by rw[hf];exact atB)];rw[yi ha hg hj hv]
 cases g
 ·
  exact⟨v,h rfl a ha,hk _ (ha.put hd v)⟩
 ·
  exact hk _ (ha.put hd undef)
theorem oA{o:Oper}{v:Value}{j t:Nat}{c g:Bool}(hg:o.guard=some (j,true))(hj:(l[j]?).bind (·.dst)=some t)(hv:look env t=some (if c=true then .bool g else undef))(h:(c&&g)=true->Yl P N w0 env L o v)
  (hk:Sq P N w0 l Q rest (cJ env o.dst (if(c&&g)=true then v else undef)) L) (hd:dA N o.dst=true:=by rfl):Sq P N w0 l Q (o::rest) env L:=fun a w ha hw=>by
 unfold wpList;rw[IV ha hg hj hv]
 cases c<;>cases g
 ·
  exact hk _ _ (ha.put hd undef) hw
 ·
  exact hk _ _ (ha.put hd undef) hw
 ·
  exact hk _ _ (ha.put hd undef) hw
 ·
  exact .inl (zX ha hw (h rfl) fun w' gF=>hk _ _ (ha.put hd v) gF)
theorem u5{o:Oper}{v:Value}{j t:Nat}{c g:Bool}(hg:o.guard=some (j,false))(hj:(l[j]?).bind (·.dst)=some t)(hv:look env t=some (if c=true then .bool g else undef))(h:(c&& !g)=true->Yl P N w0 env L o v)
  (hk:Sq P N w0 l Q rest (cJ env o.dst (if(c&& !g)=true then v else undef)) L) (hd:dA N o.dst=true:=by rfl):Sq P N w0 l Q (o::rest) env L:=fun a w ha hw=>by
 unfold wpList;rw[IV ha hg hj hv]
 cases c<;>cases g
 ·
  exact hk _ _ (ha.put hd undef) hw
 ·
  exact hk _ _ (ha.put hd undef) hw
 ·
  exact .inl (zX ha hw (h rfl) fun w' gF=>hk _ _ (ha.put hd v) gF)
 ·
  exact hk _ _ (ha.put hd undef) hw
theorem IW{o:Oper}{v:Value}{j t:Nat}{c g:Bool}(hg:o.guard=some (j,false))(hj:(l[j]?).bind (·.dst)=some t)(hv:look env t=some (if c=true then .bool g else undef))(h:(c&& !g)=true->Yl P N w0 env L o v)
  (hk:Qt P N w0 l fs F (k+1) rest (cJ env o.dst (if(c&& !g)=true then v else undef)) L) (hd:dA N o.dst=true:=by rfl) (hf:fs.contains k=false:=by rfl):Qt P N w0 l fs F k (o::rest) env L:=fun a ha=>by
 unfold nH;rw[if_neg (by rw[hf];exact atB)];rw[IV ha hg hj hv]
 cases c<;>cases g
 ·
  exact hk _ (ha.put hd undef)
 ·
  exact hk _ (ha.put hd undef)
 ·
  exact⟨v,h rfl a ha,hk _ (ha.put hd v)⟩
 ·
  exact hk _ (ha.put hd undef)
theorem yj{x:Operand}{c g:Bool}{v u:Value}(hc:c=true)(h:ev env x=some (if(c&&g)=true then v else u)):ev env x=some (if g=true then v else u):=by subst hc;simpa using h
theorem aF{x:Operand}{g:Bool}{v u:Value}(hg:g=true)(h:ev env x=some (if g=true then v else u)):ev env x=some v:=by rw[h,if_pos hg]
variable {d:Option Tmp} {ty:TypeId} {ps:String} {af:Array Edge}
theorem oB{o:Oper}(hg:o.guard=none)(hd:dA N o.dst=true)
  (h: ∀a w,dr N env a->Mem w0 L w-> ∃v w' L',(execOp a.eval o).run P w= .ok (.value v) w'/\Mem w0 L' w'/\Sq P N w0 l Q rest (cJ env o.dst v) L'):Sq P N w0 l Q (o::rest) env L:=fun a w ha hw=>by
 unfold wpList;rw[if_pos (sa hg)];obtain⟨v,w',L',h1,h2,h3⟩:=h a w ha hw;refine .inl ?_;unfold Oper.wp;rw[h1];exact h3 _ _ (ha.put hd v) h2
theorem EJ{o:Oper}(hg:o.guard=none)(hd:o.dst=none)
  (h: ∀a w,dr N env a->Mem w0 L w-> ∃w' L',(execOp a.eval o).run P w= .ok .skip w'/\Mem w0 L' w'/\Sq P N w0 l Q rest env L'):Sq P N w0 l Q (o::rest) env L:=fun a w ha hw=>by
 unfold wpList;rw[if_pos (sa hg)];obtain⟨w',L',h1,h2,h3⟩:=h a w ha hw;refine .inl ?_;unfold Oper.wp;rw[h1];show wpList P l.toArray Q rest (a.put o.dst undef) w';rw[hd];exact h3 _ _ ha h2
theorem IX{t:TypeId}{x:Operand}{v:Value}(hx:ev env x=some v)(hk: ∀b,Sq P N w0 l Q rest (cJ env d (.pointer (some ⟨b,0,none⟩))) (ar b v.cells t::L))(hd:dA N d=true:=by rfl):
  Sq P N w0 l Q (⟨d, .box t x,ty,ps,af,none⟩::rest) env L:=
 oB rfl hd fun a w ha hw=>⟨_,_,_,by simp only[execOp,ha.ev hx,Instr.box,newVar,newRow,Sem.run_bind,newObj,Sem.run,Result.andThen,Sem.run_pure];rfl,hw.alloc v.cells t,hk _⟩
theorem Ov{t:TypeId}{z:Value}[hz:eR P t z](hk: ∀b,Sq P N w0 l Q rest (cJ env d (.pointer (some ⟨b,0,none⟩))) (ar b z.cells t::L))(hd:dA N d=true:=by rfl):
  Sq P N w0 l Q (⟨d, .alloc t,ty,ps,af,none⟩::rest) env L:=
 oB rfl hd fun a w ha hw=>⟨_,_,_,by simp only[execOp,Instr.alloc,newVar,newRow,Sem.run_bind,ED w hz,newObj,Sem.run,Result.andThen,Sem.run_pure];rfl,hw.alloc z.cells t,hk _⟩
theorem cf{t:TypeId}{x:Operand}{cs:Array Value}(hx:ev env x=some (.agg cs))(hk: ∀b,Sq P N w0 l Q rest (cJ env d (.pointer (some ⟨b,0,none⟩))) (ar b cs t::L))(hd:dA N d=true:=by rfl):
  Sq P N w0 l Q (⟨d, .box t x,ty,ps,af,none⟩::rest) env L:=IX hx hk hd
theorem bl{t:TypeId}{cs:Array Value}[hz:eR P t (.agg cs)](hk: ∀b,Sq P N w0 l Q rest (cJ env d (.pointer (some ⟨b,0,none⟩))) (ar b cs t::L))(hd:dA N d=true:=by rfl):
  Sq P N w0 l Q (⟨d, .alloc t,ty,ps,af,none⟩::rest) env L:=Ov (z:= .agg cs) hk hd
theorem XG{cs:Array Value}(h:cs.all (·.oneCell')=true)(a b:Nat):(cs.extract a b).all (·.oneCell')=true:=by
 rw[as4]at h⊢;intro v hv;have:v∈(cs.extract a b).toList:=Array.mem_toList_iff.2 hv;rw[Array.toList_extract]at this;simp only[List.extract]at this;exact h v (by simpa using avd (aum this))
theorem eu{t:TypeId}{x y:Operand}{i b o:Nat}{cs:Array Value}{T:TypeId}{v:Value}(hx:ev env x=some (.pointer (some ⟨b,o,none⟩)))(hy:ev env y=some v)[ht:fR P t][hh:Has L b cs T i](ho:o<cs.size)(hv:v.oneCell'=true){cs':Array Value}{L':List aj}(iA:cs.setIfInBounds o v=cs')[hu:fC L i (ar b cs' T) L'](hk:Sq P N w0 l Q rest env L'):
  Sq P N w0 l Q (⟨none, .store t x y,ty,ps,af,none⟩::rest) env L:=
 EJ rfl rfl fun a w ha hw=>by
  have hi:=hh.h;have hb:=hw.block hi;have hc:w.cell? ⟨b,o,none⟩=some cs[o]:=by rw[hw.cell hi];simp[ho]
  have hf:w.frozen? ⟨b,o,none⟩=false:=frozen_of_row w b o cs T hb;subst iA;refine⟨w.setCell ⟨b,o,none⟩ v,_,?_,?_,hk⟩
  ·
   have h1:(storeCells ⟨b,o,none⟩ [v]).run P w= .ok () (w.setCell ⟨b,o,none⟩ v):=by
    have:=run_storeCells_at (P:=P) b o T [v] 0 cs w hb (by simp;omega) (by simpa using hv);rw[this,setCell_eq_setRow w b o cs T (0,0) v hb];congr 2;apply ave;simp[List.set_eq_take_append_cons_drop,ho]
   have iA:v.cells= #[v]:=by cases v<;>simp_all[Value.oneCell',Value.cells]
   simp only[execOp,ha.ev hx,ha.ev hy,Instr.storeAt,Instr.sureAddr,storeVar,Sem.run_bind,Sem.run_pure,Result.andThen,lR w ht.size,iA];simp[h1]
  ·
   rw[setCell_eq_setRow w b o cs T (0,0) v hb];rw[←hu.h];exact hw.setRow hi _
def over(cs:Array Value)(o:Nat)(vs:Array Value):Array Value:=(cs.toList.take o++vs.toList++cs.toList.drop (o+vs.size)).toArray
theorem Cf{t:TypeId}{x y:Operand}{i b o n:Nat}{cs vs:Array Value}{T:TypeId}(hx:ev env x=some (.pointer (some ⟨b,o,none⟩)))(hy:ev env y=some (.agg vs))[ht:fK P t n][hh:Has L b cs T i][hs:fW vs n](ho:o+n<=cs.size){cs':Array Value}{L':List aj}(iA:over cs o vs=cs')[hu:fC L i (ar b cs' T) L'](hk:Sq P N w0 l Q rest env L'):
  Sq P N w0 l Q (⟨none, .store t x y,ty,ps,af,none⟩::rest) env L:=
 EJ rfl rfl fun a w ha hw=>by
  have hi:=hh.h;have hn:=hs.h;have hv:=hs.one;have hb:=hw.block hi;subst iA;refine⟨_,_,?_,by rw[←hu.h];exact hw.setRow hi _,hk⟩;have h1:=run_storeCells_at (P:=P) b o T vs.toList 0 cs w hb (by simp;omega) (fun v lS=>(as4.1 hv) v (by simpa using lS));simp only[execOp,ha.ev hx,ha.ev hy,Instr.storeAt,Instr.sureAddr,storeVar,Value.cells,Sem.run_bind,Sem.run_pure,Result.andThen,lR w ht.size,hn];simp[h1,over]
theorem XH{t:TypeId}{x y:Operand}{i b n:Nat}{cs vs:Array Value}{T:TypeId}(hx:ev env x=some (.pointer (some ⟨b,0,none⟩)))(hy:ev env y=some (.agg vs))[ht:fK P t n][hh:Has L b cs T i][hs:fW vs n][hc:fW cs n]{L':List aj}[hu:fC L i (ar b vs T) L'](hk:Sq P N w0 l Q rest env L'):
  Sq P N w0 l Q (⟨none, .store t x y,ty,ps,af,none⟩::rest) env L:=by
 have hn:=hs.h;have XI:=hc.h;refine Cf hx hy (by omega) (?_:over cs 0 vs=vs) hk;apply ave;simp[over];omega
theorem IY{x y:Operand}{tx gI e:TypeId}{i b o dl dc sl sc:Nat}{a:Addr}{cs vs:Array Value}{T:TypeId}(hx:ev env x=some (.slice (some ⟨b,o,none⟩) dl dc))(hy:ev env y=some (.slice (some a) sl sc))
  [ht:fj P tx e 1] [hh:Has L b cs T i] (hn:vs.size=Nat.min sl dl) (nh: ∀w,Mem w0 L w-> ∀j,j<vs.size->w.cell? (a.add j)=vs[j]?) (hv:vs.all (·.oneCell')=true) (ho:o+vs.size<=cs.size)
  {cs':Array Value} {L':List aj} (iA:over cs o vs=cs') [hu:fC L i (ar b cs' T) L'] (hk:Sq P N w0 l Q rest (cJ env d (.int .i64 vs.size)) L') (hd:dA N d=true:=by rfl):
  Sq P N w0 l Q (⟨d, .call {callee:= .builtin .copy,args:= #[x,y],argTypes:= #[tx,gI]},ty,ps,af,none⟩::rest) env L:=
 oB rfl hd fun aa w ha hw=>by
  have hi:=hh.h;have hb:=hw.block hi;subst iA;have gG:=run_copy_row (P:=P) w tx gI ty e b o dl dc a sl sc cs T vs.toList ht.fc ht.size hb (by simpa using hn)
   (fun j v lS=>by
    have hj:j<vs.size:=by simpa using(ad2.1 lS).1
    rw[nh w hw j hj];simpa using lS) (by simpa using ho) (fun v lS=>(as4.1 hv) v (by simpa using lS))
  refine⟨_,w.setRow b (over cs o vs),_,?_,by rw[←hu.h];exact hw.setRow hi _,hk⟩;simp[execOp,ha.ev hx,ha.ev hy,resolve,invoke,builtin,gG,Result.andThen,goInt,over]
end
section
variable {P:Program} {N:ct} {w0:World} {env:Env} {L Lq:List aj} {l:List Oper} {n j:Nat} {js:List Nat} {Q:Exit->Act->World->Prop} {d:Option Tmp} {ty:TypeId} {ps:String} {af:Array Edge}
theorem XJ{X:Type}{val:X->Value}{L':X->List aj}{pr:X->Prop}{f:FuncId}{xs:List Operand}{ts:Array TypeId}{vs:List Value}(hj:l[j]? =some ⟨d, .call {callee:= .value (.func f),args:=xs.toArray,argTypes:=ts},ty,ps,af,none⟩)[hf:aK P f](hx:iU env xs=some vs)
  (hc: ∀w,Mem w0 L w->Calls P f vs.toArray w fun e w'=> ∃x,e= .returned (val x)/\pr x/\Mem w0 (L' x) w') (hL: ∀x w,Mem w0 (L' x) w->Mem w0 Lq w) (hk: ∀x,pr x->Fr P N w0 Lq l n Q js (cJ env d (val x)) (L' x)) (hd:dA N d=true:=by rfl):
  Fr P N w0 Lq l n Q (j::js) env L:=fun _ a ha=>
 ⟨_,hj,rfl,fun w hw=>by
  rw[EF hf w rfl,ha.iU hx];exact⟨rfl,(hc w hw).mono fun e w' ⟨x,he,hp,hm⟩=>⟨val x,L' x,he,hm,hL x,hk x hp (hL x) _ (ha.put hd _)⟩⟩⟩
end
section
variable {P:Program} {N:ct} {w0:World} {env:Env} {L:List aj} {Q:Exit->Act->World->Prop}
def Cw(P:Program)(N:ct)(w0:World)(Q:Exit->Act->World->Prop)(c:Code)(env:Env)(L:List aj):Prop:= ∀a w,dr N env a->Mem w0 L w->c.wpIn (mv N.ro) 0 P Q a w
theorem EK{x y:Code}(h:Cw P N w0 (Exit.then (y.wpIn (mv N.ro) 0 P Q) Q) x env L):Cw P N w0 Q (.seq x y) env L:=fun a w ha hw=>wpIn_seq (h a w ha hw)
theorem EL{id:Nat}{l:List Oper}[kM Q](h:Sq P N w0 l Q l env L)(cC:qq l=true:=by kernel_rfl):Cw P N w0 Q (.region id l.toArray false) env L:=fun a w ha hw=>Xg cC (h a w ha hw)
theorem IZ{ops:Array Oper}{C:World->Prop}{F:Act->Prop}(hC: ∀w w',C w->Mem w [] w'->C w'): ∀(rest:List Oper) (k:Nat) (a:Act),nH P ops [] C F k rest a->wpQuiet P ops C F rest a
 |[],_,_,h=>h
 |o::rest,k,a,h=>by
  unfold nH at h;rw[if_neg (by simp)]at h;unfold wpQuiet;split
  ·
   rename_i hw;rw[if_pos hw]at h;obtain⟨v,h1,h2⟩:=h;refine⟨v,fun w EM=>?_,IZ hC rest (k+1) _ h2⟩;have h3:=h1 w EM;unfold Oper.quietAt at h3⊢;generalize(execOp a.eval o).run P w=r at h3;unfold Oper.quietUpon at h3⊢;split at h3
   ·
    exact h3
   ·
    exact h3
   ·
    exact⟨h3.1,by obtain⟨rfl,uZ⟩:=h3;exact uZ.mono fun e qt ⟨he,hm⟩=>⟨he,hC _ _ EM hm⟩⟩
   exact h3.elim
  rename_i hw;rw[if_neg hw]at h;exact IZ hC rest (k+1) _ h
theorem gJ{id:Nat}{l:List Oper}[kM Q](hm:P.follows .mixedOrders=true)(hB:Region.lexB .any l.toArray=true)(h:Qt P N w0 l [] (fun a'=> ∀w',Mem w0 L w'->Q .normal a' w') 0 l env L)(cC:qq l=true:=by kernel_rfl):Cw P N w0 Q (.region id l.toArray true) env L:=fun a _ ha hw=>
 Xh cC (C:=Mem w0 L) hm hB hw.En (by simpa using IZ (fun w w' EM gF=>by simpa using EM.call gF) l 0 a (h a ha))
theorem Ow{id:Nat}{l:List Oper}[kM Q](n:Nat)(fs:List Nat)(Lq:List aj)(hq: ∀w,Mem w0 L w->Mem w0 Lq w)(hm:P.follows .mixedOrders=true)(hB:EB l fs n=true)(h:Qt P N w0 l fs (fun a'=>uY P l n Q w0 Lq fs a' L) 0 (l.take n) env Lq)(cC:qq l=true:=by kernel_rfl):Cw P N w0 Q (.region id l.toArray true) env L:=fun a _ ha hw=>
 Xr n cC hm hB hw.En hq (h a ha)
theorem yk{id:Nat}{l:List Oper}[kM Q](n:Nat)(fs:List Nat)(hm:P.follows .mixedOrders=true)(hB:EB l fs n=true)(h:Qt P N w0 l fs (fun a'=>uY P l n Q w0 L fs a' L) 0 (l.take n) env L)(cC:qq l=true:=by kernel_rfl):Cw P N w0 Q (.region id l.toArray true) env L:=
 Ow n fs L (fun _ h=>h) hm hB h cC
theorem jt{c:Operand}{x y:Code}{g:Bool}(hc:ev env c=some (.bool g))(hx:g=true->Cw P N w0 Q x env L)(hy:g=false->Cw P N w0 Q y env L):Cw P N w0 Q (.cond c x y) env L:=fun a w ha hw=>
 wpIn_cond_split (ha.ev hc) (fun h=>hx h a w ha hw) (fun h=>hy h a w ha hw)
theorem Ox{id:Nat}{c:Code}(h:Cw P N w0 (Exit.inBlock id Q) c env L):Cw P N w0 Q (.block id c) env L:=fun a w ha hw=>wpIn_block (h a w ha hw)
theorem Oy(h:Ex N w0 Q .normal env L):Cw P N w0 Q .skip env L:=fun a w ha hw=>wpIn_skip (h a w ha hw)
theorem Oz{id:Nat}(h:Ex N w0 Q (.exit id) env L):Cw P N w0 Q (.exit id) env L:=fun a w ha hw=>wpIn_exit (h a w ha hw)
theorem I0(h:Ex N w0 Q .ret env L):Cw P N w0 Q .ret env L:=fun a w ha hw=>wpIn_ret (h a w ha hw)
theorem bQ{c:Code}{X:Type}(ym:X->Env)(LI:X->List aj)(inv:X->Prop)(m:X->Nat)(x0:X)(h0:inv x0)(hs:Sub (ym x0) env)(hL: ∀w,Mem w0 L w->Mem w0 (LI x0) w)
  (round: ∀x,inv x->Cw P N w0 (Exit.then (fun a w=> ∃x',inv x'/\m x'<m x/\dr N (ym x') a/\Mem w0 (LI x') w) Q) c (ym x) (LI x)):Cw P N w0 Q (.loop c) env L:=by
 intro a0 w1 Cg nL b k cs ni hb hr;have key: ∀n x,m x=n->inv x-> ∀a w,dr N (ym x) a->Mem w0 (LI x) w->
   ∃e a' w',Q e a' w'/\ArrivesIn (Machine.fenced P (mv N.ro)) P (lone (b.atR a (.code c:: .inLoop c::k)) cs w) b k cs e a' w':=by
  intro n
  induction n using Nat.strongRecOn with
  |_ n ih=>
   intro x hm hI a w ha hw;obtain⟨e,zY,zZ,hq,wI⟩:=round x hI a w ha hw b (.inLoop c::k) cs ni hb hr
   cases e with
   |normal=>
    obtain⟨x',XK,bc,yn,gF⟩:=hq;obtain⟨XL,XM,XN,XO,XP⟩:=ih (m x') (hm▸bc) x' rfl XK zY zZ yn gF;exact⟨XL,XM,XN,XO, .of_steps (StepsIn.trans wI (.one (fenced_calm hb hr rfl) stepR_inLoop)) XP⟩
   |exit id=>exact⟨_,zY,zZ,hq, .pass (x:= .inLoop c) rfl (fun _ _=> .inl (by simp)) wI⟩
   |goto l=>exact⟨_,zY,zZ,hq, .pass (x:= .inLoop c) rfl (fun _ _=> .inl (by simp)) wI⟩
   |ret=>exact⟨_,zY,zZ,hq, .pass (x:= .inLoop c) rfl (fun _ _=> .inl (by simp)) wI⟩
   |panic ch=>exact⟨_,zY,zZ,hq, .pass (x:= .inLoop c) rfl (fun _ _=> .inl (by simp)) wI⟩
   |outgrown=>exact⟨_,zY,zZ,hq, .pass (x:= .inLoop c) rfl (fun _ _=> .inl (by simp)) wI⟩
 obtain⟨e,a',w',hq,wI⟩:=key _ x0 rfl h0 a0 w1 (Cg.sub hs) (hL w1 nL);exact⟨e,a',w',hq, .of_steps (.one (fenced_calm hb hr rfl) stepR_loop) wI⟩
theorem yo{x y:Code}{X:Type}(Ci:X->Env)(LJ:X->List aj)(J:X->Prop)
  (h:Cw P N w0 (Exit.then (fun a w=> ∃s,J s/\dr N (Ci s) a/\Mem w0 (LJ s) w) Q) x env L) (hy: ∀s,J s->Cw P N w0 Q y (Ci s) (LJ s)):Cw P N w0 Q (.seq x y) env L:=fun a w ha hw=>
 wpIn_seq (wpIn_mono (h a w ha hw) fun e a' w' hq=>by
  cases e with
  |normal=>obtain⟨s,hs,hr,hm⟩:=hq;exact hy s hs a' w' hr hm
  |exit id=>exact hq
  |goto l=>exact hq
  |ret=>exact hq
  |panic ch=>exact hq
  |outgrown=>exact hq)
theorem EN{y:Code}{Q':Exit->Act->World->Prop}(h:Cw P N w0 Q y env L):Ex N w0 (Exit.then (y.wpIn (mv N.ro) 0 P Q) Q') .normal env L:=h
theorem nM{X:Type}{Ci:X->Env}{LJ:X->List aj}{J:X->Prop}(s:X)(hJ:J s)(hs:Sub (Ci s) env)(hL: ∀w,Mem w0 L w->Mem w0 (LJ s) w):
  Ex N w0 (Exit.then (fun a w=> ∃s,J s/\dr N (Ci s) a/\Mem w0 (LJ s) w) Q) .normal env L:=fun _ w ha hw=>⟨s,hJ,ha.sub hs,hL w hw⟩
theorem bj{X:Type}{ym:X->Env}{LI:X->List aj}{inv:X->Prop}{m:X->Nat}{x:X}(x':X)(hI:inv x')(hm:m x'<m x)(hs:Sub (ym x') env)(hL: ∀w,Mem w0 L w->Mem w0 (LI x') w):
  Ex N w0 (Exit.then (fun a w=> ∃x',inv x'/\m x'<m x/\dr N (ym x') a/\Mem w0 (LI x') w) Q) .normal env L:=fun _ w ha hw=>⟨x',hI,hm,ha.sub hs,hL w hw⟩
theorem OA{K:Act->World->Prop}{id:Nat}(h:Ex N w0 Q (.exit id) env L):Ex N w0 (Exit.then K Q) (.exit id) env L:=h
theorem OB{K:Act->World->Prop}(h:Ex N w0 Q .ret env L):Ex N w0 (Exit.then K Q) .ret env L:=h
theorem OC{id:Nat}(h:Ex N w0 Q .normal env L):Ex N w0 (Exit.inBlock id Q) .normal env L:=h
theorem OD{id:Nat}(h:Ex N w0 Q .normal env L):Ex N w0 (Exit.inBlock id Q) (.exit id) env L:=fun a w ha hw=>by
 simp only[Exit.inBlock,if_true];exact h a w ha hw
theorem EO{id EP:Nat}(bO:Nat.beq EP id=false)(h:Ex N w0 Q (.exit EP) env L):Ex N w0 (Exit.inBlock id Q) (.exit EP) env L:=fun a w ha hw=>by
 have: ¬EP=id:=fun e=>by subst e;simp at bO
 simp only[Exit.inBlock,this,if_false];exact h a w ha hw
theorem OE{id:Nat}(h:Ex N w0 Q .ret env L):Ex N w0 (Exit.inBlock id Q) .ret env L:=h
variable {fn:Func} {R:Ending->World->Prop}
theorem hO{n:Nat}{e:Exit}(he:e= .ret\/e= .normal){v:Value}(hr: ∀a w,dr ⟨n,[],none⟩ env a->Mem w0 L w->(results fn a.tmps).run P w= .ok v w)(h: ∀w,Mem w0 L w->R (.returned v) w):Ex ⟨n,[],none⟩ w0 (r8 P fn R) e env L:=fun a w ha hw=>by
 have key:LeavesInM (mv none) 0 P fn a.tmps R a.defers .returning w:=by
  rw[ha.defers];exact⟨v,hr a w ha hw,h w hw⟩
 rcases he with rfl|rfl
 ·
  exact⟨.inr rfl,key⟩
 exact⟨.inl rfl,key⟩
theorem kt{t:Nat}{v:Value}(hf:fn.results= #[.tmp t])(hv:look env t=some v): ∀a w,dr N env a->Mem w0 L w->(results fn a.tmps).run P w= .ok v w:=fun a w ha _=>by
 have:=ha.get _ _ hv;simp[results,hf,this]
theorem ER{t:Nat}{T T':TypeId}{b i n:Nat}{cs:Array Value}(hf:fn.results= #[.cell t T])(hv:look env t=some (.pointer (some ⟨b,0,none⟩)))[ht:fK P T n][hi:Has L b cs T' i][hn:fW cs n]:
  ∀a w,dr N env a->Mem w0 L w->(results fn a.tmps).run P w= .ok (.agg cs) w:=fun a w ha hw=>by
 have h1:=ha.get _ _ hv;have h2:(loadVar T ⟨b,0,none⟩).run P w= .ok (.agg cs) w:=IP w ht hn.h fun j _=>by rw[Addr.hH,hw.cell hi.h,as3]
 simp[results,hf,h1,asAddr,h2]
theorem z8{N:Nat}{f:FuncId}{c:Code}{args:List Value}{w:World}(hf:P.funcs[f]? =some fn)(hb:fn.body=some c)(hN:fn.ntmps=N)(hle:Nat.ble args.length N=true)
  (h:Cw P ⟨N,[],none⟩ w (r8 P fn R) c (args.zipIdx.map fun p=>(p.2,p.1)) []):Calls P f args.toArray w R:=
 N7 hf hb (h _ _ (by rw[hN];exact dr.enter args N (Nat.le_of_ble_eq_true hle)) (Mem.init w))
end
theorem Z0(a b:Bool):((a&&b)=true)=(a=true/\b=true):=alM a b
theorem Z1(a b:Bool):((a||b)=true)=(a=true\/b=true):=atF a b
theorem Z2{x y:Bool}:(x&&y)=false↔x=false\/y=false:=Bool.and_eq_false_iff
theorem Z3{x y:Bool}:(x||y)=false↔x=false/\y=false:=Bool.or_eq_false_iff
theorem Z4(b:Bool):((!b)=true)=(b=false):=att b
theorem Z5(b:Bool):((!b)=false)=(b=true):=Bool.not_eq_false' b
theorem Z6{p:Prop}[inst:Decidable p]:(decide p=true)=p:=decide_eq_true_eq
theorem Z7{p:Prop}{x:Decidable p}:decide p=false↔ ¬p:=decide_eq_false_iff_not
theorem Z8(b:Bool):(¬b=true)=(b=false):=Bool.not_eq_true b
theorem Z9(b:Bool):(¬b=false)=(b=true):=Bool.not_eq_false b
structure Sv where
  nil:Bool
  b:Nat
  o:Nat
  len:Nat
  cap:Nat
  sp:Option Nat
def Sv.val(s:Sv):Value:=match s.nil with
  |true=> .slice none 0 0
  |false=> .slice (some ⟨s.b,s.o,s.sp⟩) s.len s.cap
structure Sv.Ok(s:Sv):Prop where
  nil:s.nil=true->s.len=0/\s.cap=0
  le:s.len<=s.cap
  bd:s.len<=140737488355328
  sp:0<s.cap->s.sp=none
theorem Sv.Ok.some{s:Sv}(h:s.Ok)(hl:0<s.len):s.nil=false:=by
  cases hn:s.nil with
  |false=>rfl
  |true=>have:=h.nil hn;omega
theorem Sv.iW{s:Sv}(h:s.nil=false):s.val= .slice (some ⟨s.b,s.o,s.sp⟩) s.len s.cap:=by simp[Sv.val,h]
theorem Sv.tJ{s:Sv}(h:s.nil=true):s.val= .slice none 0 0:=by simp[Sv.val,h]
def Sv.none:Sv:=⟨true,0,0,0,0, .none⟩
theorem Sv.Cj:Sv.none.Ok:=⟨fun _=>⟨rfl,rfl⟩,asu _,asO _,fun _=>rfl⟩
theorem Sv.one(s:Sv):s.val.oneCell'=true:=by unfold Sv.val;split<;>rfl
def oC(h:Nat->Option Obj)(b o:Nat):Option Value:=match h b with
  |some (.cells cs _ _)=>cs[o]?
  |_=>none
abbrev hp(w:World):Nat->Option Obj:=fun k=>w.heap[k]?
theorem tK(w:World)(b o:Nat):w.cell? ⟨b,o,none⟩=oC (hp w) b o:=by
  unfold World.cell? oC;split<;>simp_all
class bm{α:Type}(enc:α->Array Value)(c:outParam Nat):Prop where
  size: ∀x,(enc x).size=c
  one: ∀x,(enc x).all (·.oneCell')=true
structure dZ{α:Type}(enc:α->Array Value)(c:Nat)(h:Nat->Option Obj)(s:Sv)(xs:List α):Prop where
  ok:s.Ok
  len:s.len=xs.length
  row: ∀i x,xs[i]? =some x-> ∀j,j<c->oC h s.b (s.o+i*c+j)=(enc x)[j]?
theorem dZ.some{α:Type}{enc:α->Array Value}{c:Nat}{h:Nat->Option Obj}{s:Sv}{xs:List α}(r:dZ enc c h s xs){i:Nat}(hi:i<xs.length):s.nil=false:=r.ok.some (by rw[r.len];omega)
theorem dZ.nil{α:Type}(enc:α->Array Value)(c:Nat)(h:Nat->Option Obj):dZ enc c h Sv.none ([]:List α):=⟨Sv.Cj,rfl,by simp⟩
theorem dZ.bd{α:Type}{enc:α->Array Value}{c:Nat}{h:Nat->Option Obj}{s:Sv}{xs:List α}(r:dZ enc c h s xs):xs.length<=140737488355328:=by have:=r.ok.bd;have:=r.len;omega
theorem dZ.mono{α:Type}{enc:α->Array Value}{c:Nat}[he:bm enc c]{w w':World}{s:Sv}{xs:List α}(r:dZ enc c (hp w) s xs)(hb:Below w.heap.size w w'):dZ enc c (hp w') s xs:=
  ⟨r.ok,r.len,fun i x hi j hj=>by
    have h:=r.row i x hi j hj;rw[←h];have OF:((enc x)[j]?).isSome:=by rw[Array.getElem?_eq_getElem (by rw[he.size];exact hj)];rfl
    rw[←h]at OF;have bc:s.b<w.heap.size:=by
      rcases asx s.b w.heap.size with h'|h'
      ·exact h'
      ·simp[oC,hp,at1 h']at OF
    have e:(hp w') s.b=(hp w) s.b:=hb.block s.b bc;unfold oC;rw[e]⟩
def I1(n:Nat)(fz:Nat×Nat):Prop:= ∀j,j<n-> ¬(fz.1<=j/\j<fz.2)
theorem I2(n:Nat):I1 n (0,0):=fun j _ h=>by have:=h.2;simp at this
def own{α:Type}(enc:α->Array Value)(c:Nat)(s:Sv)(xs:List α):aj:=
  ⟨fun k=>s.nil=false/\k=s.b,fun h=>dZ enc c h s xs/\(s.nil=false->s.sp= .none/\ ∃cs T fz,h s.b=some (.cells cs T fz)/\s.o+s.cap*c<=cs.size/\I1 cs.size fz/\(1<c->fz=(0,0))),
   fun h h' e st=>by
    cases hn:s.nil with
    |true=>
     refine⟨⟨st.1.ok,st.1.len,fun i x hi=>?_⟩,fun h=>by cases h⟩;have:=st.1.some (ad2.1 hi).1;rw[hn]at this;cases this
    |false=>
     have e1:=e s.b ⟨hn,rfl⟩;refine⟨⟨st.1.ok,st.1.len,fun i x hi j hj=>?_⟩,fun _=>?_⟩
     ·rw[←st.1.row i x hi j hj];unfold oC;rw[e1]
     ·rw[e1];exact st.2 hn⟩
section
variable {P:Program} {N:ct} {w0:World} {env:Env} {L:List aj} {d:Option Tmp} {ty:TypeId} {ps:String} {af:Array Edge} {gd:Option (Nat×Bool)}
variable {α:Type} {enc:α->Array Value} {c:Nat} {s:Sv} {xs:List α}
def Holds(w0:World)(L:List aj){α:Type}(enc:α->Array Value)(c:Nat)(s:Sv)(xs:List α):Prop:= ∀w,Mem w0 L w->dZ enc c (hp w) s xs
theorem Ck[bm enc c](r:dZ enc c (hp w0) s xs):Holds w0 L enc c s xs:=fun _ hw=>r.mono hw.below
class At(L:List aj)(e:aj)(i:outParam Nat):Prop where
  h:L[i]? =some e
instance (priority:=high) At.here {L:List aj}{e:aj}:At (e::L) e 0:=⟨rfl⟩
instance At.there{L:List aj}{e x:aj}{i:Nat}[q:At L e i]:At (x::L) e (i+1):=⟨by simpa using q.h⟩
theorem tL{t e:TypeId}{x:Operand}{m n:Nat}[ht:fj P t e m](hx:ev env x=some s.val)(hs:s.Ok)(hn:s.len=n):
    Ry P N w0 env L ⟨d, .call {callee:= .builtin .len,args:= #[x],argTypes:= #[t]},ty,ps,af,gd⟩ (.int .i64 n):=by
  subst hn
  cases h:s.nil with
  |false=>rw[Sv.iW h]at hx;exact yg hx
  |true=>
   rw[Sv.tJ h]at hx;rw[(hs.nil h).1];exact yg hx
theorem mz{t e:TypeId}{x ix:Operand}{m i:Nat}{k:IntKind}{j:Int}[ht:fj P t e m](hx:ev env x=some s.val)(hj:ev env ix=some (.int k j))(ej:j=(i:Int))(hs:s.Ok)(h1:i<s.len):
    Ry P N w0 env L ⟨d, .indexAddr t x ix,ty,ps,af,gd⟩ (.pointer (some ⟨s.b,s.o+i*m,none⟩)):=by
  subst ej;rw[Sv.iW (hs.some (by omega)),hs.sp (by have:=hs.le;omega)]at hx;have:=Oh (P:=P) (N:=N) (w0:=w0) (L:=L) (d:=d) (ty:=ty) (ps:=ps) (af:=af) (gd:=gd) (t:=t) hx hj (by omega) (by omega);simpa using this
theorem ES{t:TypeId}{x:Operand}{i p:Nat}{a:α}[ht:fK P t c][he:bm enc c](hx:ev env x=some (.pointer (some ⟨s.b,p,none⟩)))(hR:Holds w0 L enc c s xs)(hi:xs[i]? =some a)(fE:p=s.o+i*c):
    Ry P N w0 env L ⟨d, .load t x,ty,ps,af,gd⟩ (.agg (enc a)):=Cc ht hx (he.size a) fun w hw j hj=>by
  rw[Addr.hH,tK,fE,(hR w hw).row i a hi j hj]
theorem I3{t:TypeId}{x:Operand}{i p j:Nat}{a:α}{v:Value}[ht:fR P t](hx:ev env x=some (.pointer (some ⟨s.b,p,none⟩)))(hR:Holds w0 L enc c s xs)(hi:xs[i]? =some a)(fE:p=s.o+i*c+j)(hj:j<c)(hv:(enc a)[j]? =some v):
    Ry P N w0 env L ⟨d, .load t x,ty,ps,af,gd⟩ v:=zQ ht hx fun w hw=>by
  rw[tK,fE,(hR w hw).row i a hi j hj,hv]
theorem I4{t:TypeId}{x:Operand}{i p j n:Nat}{a:α}{sub:Array Value}[ht:fK P t n](hx:ev env x=some (.pointer (some ⟨s.b,p,none⟩)))(hR:Holds w0 L enc c s xs)(hi:xs[i]? =some a)(fE:p=s.o+i*c+j)(hj:j+n≤c)[hs:nJ (enc a) j n sub]:
    Ry P N w0 env L ⟨d, .load t x,ty,ps,af,gd⟩ (.agg sub):=Cc ht hx hs.size fun w hw k hk=>by
  rw[Addr.hH,tK,fE,atN,(hR w hw).row i a hi (j+k) (by omega)];exact hs.h k hk
def Sv.sub(s:Sv)(c lo hi:Nat):Sv:=⟨s.nil,s.b,if s.cap=lo then s.o else s.o+lo*c,hi -lo,s.cap -lo,s.sp⟩
theorem Sv.Ok.sub{lo hi:Nat}(h:s.Ok)(h2:hi<=s.cap)(h3:hi<=s.len):(s.sub c lo hi).Ok:=
  ⟨fun hn=>by have:=h.nil hn;simp only[Sv.sub];omega,by simp only[Sv.sub];omega,by have:=h.bd;simp only[Sv.sub];omega,fun hc=>h.sp (by simp only[Sv.sub]at hc;omega)⟩
theorem dZ.sub{h:Nat->Option Obj}(r:dZ enc c h s xs){lo hi:Nat}(h1:lo<=hi)(h2:hi<=xs.length):dZ enc c h (s.sub c lo hi) ((xs.drop lo).take (hi -lo)):=by
  have hl:=r.len;have hc:=r.ok.le;refine⟨r.ok.sub (by omega) (by omega),by simp[Sv.sub];omega,fun i x pH j hj=>?_⟩;have bc:i<hi -lo:=by
    have:=(ad2.1 pH).1;simp at this;omega
  rw[auA,if_pos bc,aty]at pH;have:=r.row (lo+i) x pH j hj;rw[←this];have e:(s.sub c lo hi).o=s.o+lo*c:=by
    simp only[Sv.sub];rw[if_neg (by omega)]
  rw[e,show(s.sub c lo hi).b=s.b from rfl];congr 1;rw[asY];omega
theorem Holds.sub(r:Holds w0 L enc c s xs){lo hi:Nat}(h1:lo<=hi)(h2:hi<=xs.length):Holds w0 L enc c (s.sub c lo hi) ((xs.drop lo).take (hi -lo)):=fun w hw=>(r w hw).sub h1 h2
theorem Aa{t e:TypeId}(hu:P.underlying t=some (.slice e)):P.elem t=e:=by simp[Program.elem,hu]
theorem I5{lo hi:Nat}(hs:s.Ok)(h2:lo<=hi)(h:hi<=s.cap): ∀a len cap,s.val= .slice a len cap->len=s.len/\cap=s.cap/\sliced a lo hi cap c=(s.sub c lo hi).val:=by
  intro a len cap e
  cases hn:s.nil with
  |true=>
   rw[Sv.tJ hn]at e;obtain⟨rfl,rfl,rfl⟩:=by simpa using e
   have:=hs.nil hn;have e2:(s.sub c lo hi).nil=true:=hn;rw[Sv.tJ e2];have:lo=0:=by omega
   have:hi=0:=by omega
   subst lo hi;exact⟨by omega,by omega,by simp[sliced]⟩
  |false=>
   rw[Sv.iW hn]at e;obtain⟨rfl,rfl,rfl⟩:=by simpa using e
   have e2:(s.sub c lo hi).nil=false:=hn;rw[Sv.iW e2];refine⟨rfl,rfl,?_⟩;simp only[sliced,Sv.sub]
   by_cases hc:s.cap=lo
   ·simp[hc]
   ·have hQ:=hs.sp (by omega)
    simp[hc,hQ,Addr.hH]
theorem Sv.ex(s:Sv): ∃ad len cap,s.val= .slice ad len cap:=by unfold Sv.val;split<;>exact⟨_,_,_,rfl⟩
theorem ET{t e:TypeId}{x lo hi:Operand}{m l h:Nat}{k k':IntKind}{il ih:Int}[ht:fj P t e m](hx:ev env x=some s.val)(hl:ev env lo=some (.int k il))(hh:ev env hi=some (.int k' ih))(el:il=(l:Int))(eh:ih=(h:Int))(hs:s.Ok)(h1:l≤h)(h2:h≤s.cap):
    Ry P N w0 env L ⟨d, .slice t x (some lo) (some hi) none,ty,ps,af,gd⟩ (s.sub m l h).val:=fun a w ha _=>by
  subst el eh;have ee:=Aa ht.fc;have hu:P.underlying t=some (.slice (P.elem t)):=by rw[ee];exact ht.fc
  obtain⟨ad,len,cap,oD⟩:=s.ex;obtain⟨e1,e2,e3⟩:=I5 (c:=m) hs h1 h2 ad len cap oD;have hr:=run_slice_lh (P:=P) (w:=w) t ad len cap hu k k' (l:Int) (h:Int) (by omega) (by omega) (by omega);rw[ee,lR w ht.size]at hr;simp only[Result.andThen,atu,e3]at hr;simp only[execOp,ha.ev hx,ha.ev hl,ha.ev hh,oD,as7,Option.map_none,run_sliceAt_slice (h:=hu),hr,Sem.run_bind,Result.andThen,Sem.run_pure]
theorem wJ{t e:TypeId}{x hi:Operand}{m h:Nat}{k':IntKind}{ih:Int}[ht:fj P t e m](hx:ev env x=some s.val)(hh:ev env hi=some (.int k' ih))(eh:ih=(h:Int))(hs:s.Ok)(h2:h≤s.cap):
    Ry P N w0 env L ⟨d, .slice t x none (some hi) none,ty,ps,af,gd⟩ (s.sub m 0 h).val:=fun a w ha _=>by
  subst eh;have ee:=Aa ht.fc;have hu:P.underlying t=some (.slice (P.elem t)):=by rw[ee];exact ht.fc
  obtain⟨ad,len,cap,oD⟩:=s.ex;obtain⟨e1,e2,e3⟩:=I5 (c:=m) hs (asO h) h2 ad len cap oD;have hr:=run_slice_h (P:=P) (w:=w) t ad len cap hu k' (h:Int) (by omega) (by omega);rw[ee,lR w ht.size]at hr;simp only[Result.andThen,atu,e3]at hr;simp only[execOp,ha.ev hx,ha.ev hh,oD,as7,Option.map_none,run_sliceAt_slice (h:=hu),hr,Sem.run_bind,Result.andThen,Sem.run_pure]
theorem tM{t e:TypeId}{x lo:Operand}{m l n:Nat}{k:IntKind}{il:Int}[ht:fj P t e m](hx:ev env x=some s.val)(hl:ev env lo=some (.int k il))(el:il=(l:Int))(hs:s.Ok)(hn:s.len=n)(h1:l≤n):
    Ry P N w0 env L ⟨d, .slice t x (some lo) none none,ty,ps,af,gd⟩ (s.sub m l n).val:=fun a w ha _=>by
  subst el hn;have ee:=Aa ht.fc;have hu:P.underlying t=some (.slice (P.elem t)):=by rw[ee];exact ht.fc
  obtain⟨ad,len,cap,oD⟩:=s.ex;obtain⟨e1,e2,e3⟩:=I5 (c:=m) hs h1 hs.le ad len cap oD;have hle:=hs.le;have hr:=run_slice_l (P:=P) (w:=w) t ad len cap hu k (l:Int) (by omega) (by omega);rw[ee,lR w ht.size]at hr;simp only[Result.andThen,atu,e1]at hr;rw[e1]at oD;rw[e3]at hr;simp only[execOp,ha.ev hx,ha.ev hl,oD,as7,Option.map_none,run_sliceAt_slice (h:=hu),hr,Sem.run_bind,Result.andThen,Sem.run_pure]
end
theorem set_perm(x:aj): ∀(L:List aj) (i:Nat),i<L.length->(x::L.eraseIdx i).Perm (L.set i x)
  |[],_,h=>by simp at h
  |_::_,0,_=>by simp
  |a::L,i+1,h=>by
   simp only[avl,auT];exact(List.Perm.swap a x _).trans ((set_perm x L i (by simpa using h)).cons a)
theorem Mem.swap{w w':World}{E:aj}(h:Mem w0 L w){i:Nat}(hi:i<L.length)(h':Mem w [E] w'):Mem w0 (L.set i E) w':=
  ((h.call h').sub (L':=E::L.eraseIdx i) ((List.eraseIdx_sublist L i).cons_cons E)).perm (set_perm E L i hi)
theorem At.lt{L:List aj}{e:aj}{i:Nat}(h:L[i]? =some e):i<L.length:=(ad2.1 h).1
class fq(P:Program)(t:TypeId)(e:outParam TypeId)(c:outParam Nat)(cM:outParam Nat):Prop where
  fc:P.underlying t=some (.slice e)
  row:(P.info? e).map (fun i=>(i.zero.map (·.cells.size),i.size,i.bytes))=some (some c,c,cM)
theorem fq.info{P:Program}{t e:TypeId}{c cM:Nat}(h:fq P t e c cM): ∃i z,P.info? e=some i/\i.zero=some z/\i.size=c/\i.bytes=cM/\z.cells.size=c:=by
  have h:=h.row
  cases hi:P.info? e with
  |none=>simp[hi]at h
  |some i=>
   cases hz:i.zero with
   |none=>simp[hi,hz]at h
   |some z=>simp[hi,hz]at h;exact⟨i,z,rfl,hz,h.2.1,h.2.2,h.1⟩
theorem se{cs vs:Array Value}{o j:Nat}(ho:o+vs.size<=cs.size):(over cs o vs)[j]? =if o<=j/\j<o+vs.size then vs[j -o]?else cs[j]? :=by
  unfold over;simp only[atY];rw[asF,List.getElem?_append];have e1:(List.take o cs.toList).length=o:=by simp;omega
  rw[e1]
  by_cases h1:j<o
  ·rw[if_pos h1,if_neg (by omega),auA,if_pos h1];simp
  ·rw[if_neg h1,List.getElem?_append]
   by_cases h2:j -o<vs.toList.length
   ·rw[if_pos h2,if_pos (by simp at h2;omega)];simp
   ·rw[if_neg h2,if_neg (by simp at h2;omega),aty]
    simp at h2⊢;congr 1;omega
theorem mA{cs vs:Array Value}{o:Nat}(ho:o+vs.size<=cs.size):(over cs o vs).size=cs.size:=by
  simp[over];omega
theorem Cl{P:Program}(g o:Nat)(t:TypeId)(fz:Nat×Nat): ∀(vs:List Value) (i:Nat) (cur:Array Value) (w:World),w.heap[g]? =some (.cells cur t fz)→I1 cur.size fz→o+i+vs.length≤cur.size→(∀v∈vs,v.oneCell'=true)→
    (storeCells ⟨g,o,none⟩ vs i).run P w= .ok () (w.setRow g (cur.toList.take (o+i)++vs++cur.toList.drop (o+i+vs.length)).toArray)
  |[],i,cur,w,hg,_,_,_=>by
   simp only[storeCells,asZ,asn,atl,asR,Array.toArray_toList];rw[setRow_self w g cur t fz hg];rfl
  |v::rest,i,cur,w,hg,hf,hl,h1=>by
   have hi:o+i<cur.size:=by simp at hl;omega
   have I6:(⟨g,o,none⟩:Addr).add i=⟨g,o+i,none⟩:=by unfold Addr.add;split<;>simp_all
   have Ab:w.cell? ⟨g,o+i,none⟩=some cur[o+i]:=by simp[World.cell?,hg,hi]
   have XQ:w.frozen? ⟨g,o+i,none⟩=false:=by
      have:=hf (o+i) hi;obtain⟨a,b⟩:=fz;simp only[World.frozen?,hg];simp only[Bool.and_eq_false_iff,decide_eq_false_iff_not];omega
   have br:(store ((⟨g,o,none⟩:Addr).add i) v).run P w= .ok () (w.setRow g (cur.setIfInBounds (o+i) v)):=by
      rw[I6,run_store P w _ v _ (h1 v (by simp)),Ab];simp[XQ,setCell_eq_setRow w g (o+i) cur t fz v hg]
   have ih:=Cl (P:=P) g o t fz rest (i+1) (cur.setIfInBounds (o+i) v) (w.setRow g (cur.setIfInBounds (o+i) v)) (setRow_heap w g cur _ t _ hg) (by simpa using hf) (by simp at hl⊢;omega) (fun x hx=>h1 x (by simp[hx]));simp only[storeCells,Sem.run_bind,br,Result.andThen_ok,ih,setRow_setRow];congr 3;have e:=list_seg_step cur.toList (o+i) v rest (by simp at hl⊢;omega);simpa[Array.toList_setIfInBounds,atN]using e
section
variable {α:Type} {enc:α->Array Value} {c:Nat}
def aL(enc:α->Array Value)(xs:List α):List Value:=xs.flatMap fun x=>(enc x).toList
theorem gR[he:bm enc c]: ∀xs:List α,(aL enc xs).length=xs.length*c
  |[]=>by simp[aL]
  |x::xs=>by
   have:=gR xs;simp only[aL,au9,af0]at this⊢;rw[this,aus,he.size,asm,asY];omega
theorem oE[he:bm enc c]: ∀(xs:List α) (i:Nat) (x:α),xs[i]? =some x-> ∀j,j<c->(aL enc xs)[i*c+j]? =(enc x)[j]?
  |[],i,x,h,_,_=>by simp at h
  |y::xs,0,x,h,j,hj=>by
   obtain rfl:y=x:=by simpa using h
   simp only[aL,au9,Nat.zero_mul,as3];rw[asG (by rw[aus,he.size];exact hj)];simp
  |y::xs,i+1,x,h,j,hj=>by
   have:=oE xs i x (by simpa using h) j hj;simp only[aL,au9]at this⊢;rw[asA (by rw[aus,he.size,asY];omega),aus,he.size];rw[←this];congr 1;rw[asY];omega
theorem EU(hc:0<c)[he:bm enc c]{xs:List α}{k:Nat}{v:Value}(h:(aL enc xs)[k]? =some v): ∃x,xs[k/c]? =some x/\(enc x)[k%c]? =some v:=by
  have hk:k<xs.length*c:=by
    have:=(ad2.1 h).1;rwa [gR]at this
  have hd:k/c<xs.length:=avf (by rwa [atK]);refine⟨xs[k/c],by simp[hd],?_⟩;rw[←oE xs (k/c) xs[k/c] (by simp[hd]) (k%c) (aun _ hc),←h];congr 1;rw[atK];exact auv k c
theorem u6[he:bm enc c](xs:List α): ∀u∈aL enc xs,u.oneCell'=true:=fun u hu=>by
  obtain⟨x,_,hx⟩:=List.mem_flatMap.1 hu;exact(as4.1 (he.one x)) u (by simpa using hx)
theorem u9{h:Nat→Option Obj}{s:Sv}{xs:List α}{cs:Array Value}{T:TypeId}{fz:Nat×Nat}(ok:s.Ok)(hl:s.len=xs.length)(hb:h s.b=some (.cells cs T fz))
    (hc: ∀i x,xs[i]? =some x-> ∀j,j<c->cs[s.o+i*c+j]? =(enc x)[j]?):dZ enc c h s xs:=
  ⟨ok,hl,fun i x hi j hj=>by unfold oC;rw[hb];exact hc i x hi j hj⟩
theorem fY{P:Program}{tx e':TypeId}(hk:P.underlying tx=some (.slice e'))(hc:0<c)[he:bm enc c]{w:World}{s:Sv}{xs:List α}(r:dZ enc c (hp w) s xs):Src P c tx s.val xs.length (aL enc xs) w:=by
  cases hn:s.nil with
  |true=>
   have:xs=[]:=by have:=(r.ok.nil hn).1;rw[r.len]at this;exact asI.1 this
   subst this;rw[Sv.tJ hn];exact Src.ofNil w hk 0
  |false=>
   rw[Sv.iW hn,r.len];refine Src.ofSlice w hk _ _ _ _ (gR xs) (fun j u hu=>?_) (u6 xs);obtain⟨x,hx,I7⟩:=EU hc hu;have hQ:=r.ok.sp (by have h1:=aud (asO _) (ad2.1 hx).1;have:=r.len;have:=r.ok.le;omega);rw[hQ,Addr.hH,tK,←I7,←r.row _ x hx (j%c) (aun _ hc)];congr 1;have:=auv j c;rw[atK]at this;omega
theorem I8{P:Program}{t tx ty e:TypeId}{cM:Nat}(ht:fq P t e c cM)(hc:0<c)[he:bm enc c]{w0 w:World}{L:List aj}{i:Nat}{s:Sv}{xs ys:List α}{x:Value}
    (hw:Mem w0 L w) (hi:L[i]? =some (own enc c s xs)) (hs:Src P c tx x ys.length (aL enc ys) w) (hb:(xs.length+ys.length)*cM<=140737488355328) (jE:xs.length+ys.length<=140737488355328):
    ∃s' w',(Builtin.append_ #[t,tx] ty #[s.val,x]).run P w= .ok (Sv.val s') w'/\s'.Ok/\s'.len=(xs++ys).length/\Mem w0 (L.set i (own enc c s' (xs++ys))) w':=by
  obtain⟨r,oG⟩:=hw.get hi;obtain⟨i',z,aZ,aE,bo,dn,nN⟩:=ht.info;subst bo dn;have hlen:=r.len;have hle:=r.ok.le
  have grow:s.cap<s.len+ys.length→ ∀(base:Option Addr),s.val= .slice base s.len s.cap→(Builtin.firstCells i'.size s.len (.slice base s.len s.cap)).run P w.drew= .ok (aL enc xs).toArray w.drew→
      ∃s' w',(Builtin.append_ #[t,tx] ty #[s.val,x]).run P w= .ok (Sv.val s') w'/\s'.Ok/\s'.len=(xs++ys).length/\Mem w0 (L.set i (own enc i'.size s' (xs++ys))) w':=by
    intro hg base hv hold;have yp:=nextslicecap_le hg;have ju:Builtin.nextslicecap (s.len+ys.length) s.cap*i'.bytes<=281474976710656:=by
      have h2:Builtin.nextslicecap (s.len+ys.length) s.cap*i'.bytes<=2*(s.len+ys.length)*i'.bytes:=asK _ yp;rw[Nat.mul_assoc,hlen]at h2;rw[hlen];omega
    have hr:=run_append_grow_src w t tx ty e i' z ht.fc aZ aE base s.len s.cap (aL enc xs) hold x ys.length (aL enc ys) hs hg (by omega) ju;have tN:=grownCap_ge w (s.len+ys.length) s.cap e;generalize grownCap w (s.len+ys.length) s.cap e=C at hr tN;refine⟨⟨false,w.heap.size,0,s.len+ys.length,C,none⟩,_,by rw[hv,hr];rfl,⟨(fun h=>by cases h),tN,by simp only;omega,fun _=>rfl⟩,by simp[hlen],hw.swap (At.lt hi) ?_⟩;have hm:=(Mem.init w).drew.alloc ((aL enc xs++aL enc ys).toArray++Builtin.zeroCells z.cells (C -(s.len+ys.length))) e;refine⟨hm.below,fun q hq=>?_,fun q hq k hk=>?_,by simp⟩
    ·obtain rfl:=as6.1 hq
     have ft:hp (w.drew.alloc (.cells ((aL enc xs++aL enc ys).toArray++Builtin.zeroCells z.cells (C -(s.len+ys.length))) e)) w.heap.size=some (.cells ((aL enc xs++aL enc ys).toArray++Builtin.zeroCells z.cells (C -(s.len+ys.length))) e (0,0)):=Below.Eo w.drew _;have eW:aL enc xs++aL enc ys=aL enc (xs++ys):=by simp[aL]
     rw[eW]at ft;rw[eW];have fh:(aL enc (xs++ys)).length=(xs.length+ys.length)*i'.size:=by rw[gR];simp
     refine⟨u9 (enc:=enc) (c:=i'.size) (xs:=xs++ys) ⟨(fun h=>by cases h),tN,by simp only;omega,fun _=>rfl⟩ (by simp[hlen]) ft fun k y hy j hj=>?_,fun _=>⟨rfl,_,_,_,ft,?_,I2 _,fun _=>rfl⟩⟩
     ·have yq:=oE (enc:=enc) (xs++ys) k y hy j hj
      have bc:k*i'.size+j<(aL enc (xs++ys)).length:=by
          rw[fh];have h1:=(ad2.1 hy).1;rw[af0]at h1
          calc k*i'.size+j<k*i'.size+i'.size:=by omega
            _=(k+1)*i'.size:=by rw[asY];omega
            _<=_:=asK _ h1
      simp only[as3];rw[←yq,auR (by simpa using bc)];simp
     ·have h3:=size_zeroCells z.cells (C -(s.len+ys.length))
      rw[nN]at h3;simp only[auJ,ate,h3,fh,as3];rw[←asY,hlen];refine asK _ ?_;omega
    ·obtain rfl:=as6.1 hq
     obtain rfl:k=w.heap.size:=hk.2;simp
  cases hn:s.nil with
  |true=>
   have h0:=r.ok.nil hn;have dS:xs=[]:=by rw[hlen]at h0;exact asI.1 h0.1
   subst dS
   by_cases hy:ys.length=0
   ·have mB:ys=[]:=asI.1 hy
    subst mB;refine⟨s,w,?_,r.ok,by simpa using hlen,?_⟩
    ·rw[Sv.tJ hn]
     have oH:=hs.cells;simp only[asn]at oH;rcases hs.kind with⟨e',hk⟩|hk<;>simp[Builtin.append_,run_underlying ht.fc,run_underlying hk,sizeOf,typeInfo,aZ,hs.len,oH]
    ·have:L.set i (own enc i'.size s ([]++[]))=L:=by
          rw[asZ];refine atj fun k=>?_;rw[atb]
          by_cases hk:i=k
          ·subst hk;rw[if_pos rfl,hi,if_pos (At.lt hi)]
          ·rw[if_neg hk]
     rw[this];exact hw
   ·refine grow (by omega) .none (by rw[Sv.tJ hn,h0.1,h0.2]) ?_
    rw[h0.1,h0.2];exact run_firstCells_none w.drew _ _ _ _
  |false=>
   obtain⟨hQ,cs,T,fz,ft,fh,nj,nO⟩:=oG hn
   by_cases oI:s.len+ys.length<=s.cap
   ·have hmul:(s.len+ys.length)*i'.size<=s.cap*i'.size:=asK _ oI
    have eW:(aL enc ys).length=ys.length*i'.size:=gR ys
    have ju:s.o+s.len*i'.size+(aL enc ys).toArray.size≤cs.size:=by
        rw[ate,eW];rw[asY]at hmul;omega
    have br:=Cl (P:=P) s.b (s.o+s.len*i'.size) T fz (aL enc ys) 0 cs w ft nj (by simpa using ju) hs.one
    have Cm:(storeCells ⟨s.b,s.o+s.len*i'.size,none⟩ (aL enc ys)).run P w= .ok () (w.setRow s.b (over cs (s.o+s.len*i'.size) (aL enc ys).toArray)):=by
        simpa[over]using br
    refine⟨{s with len:=s.len+ys.length},w.setRow s.b (over cs (s.o+s.len*i'.size) (aL enc ys).toArray),?_,⟨(fun h=>by rw[hn]at h;cases h),oI,by simp only;omega,r.ok.sp⟩,by simp[hlen],?_⟩
    ·have lS:({s with len:=s.len+ys.length}:Sv).val= .slice (some ⟨s.b,s.o,s.sp⟩) (s.len+ys.length) s.cap:=Sv.iW (s:={s with len:=s.len+ys.length}) hn
     rw[Sv.iW hn,lS,hQ];rcases hs.kind with⟨e',hk⟩|hk<;>simp[Builtin.append_,run_underlying ht.fc,run_underlying hk,sizeOf,typeInfo,aZ,hs.len,oI,hs.cells,Addr.hH,Cm]
    ·have cN:hp (w.setRow s.b (over cs (s.o+s.len*i'.size) (aL enc ys).toArray)) s.b=some (.cells (over cs (s.o+s.len*i'.size) (aL enc ys).toArray) T fz):=setRow_heap w s.b cs _ T fz ft
     refine hw.change hi (fun k hk=>hk) (fun k hk=>?_) (by simp[World.setRow]) ⟨rfl,rfl,rfl⟩ ⟨u9 ⟨(fun h=>by rw[hn]at h;cases h),oI,by simp only;omega,r.ok.sp⟩ (by simp[hlen]) cN fun k y hy j hj=>?_,fun _=>⟨hQ,_,_,_,cN,?_,by rw[mA ju];exact nj,nO⟩⟩
     ·exact setRow_other w s.b k _ (fun e=>hk ⟨hn,e⟩)
     ·rw[se ju]
      by_cases hk:k<xs.length
      ·rw[if_neg,←r.row k y (by rw[asG hk]at hy;exact hy) j hj]
       ·unfold oC;rw[ft]
       ·have:(k+1)*i'.size<=s.len*i'.size:=asK _ (by omega)
        rw[asY]at this;intro h;have:=h.1;simp only at this;omega
      ·rw[asA (by omega)]at hy
       have yq:=oE (enc:=enc) ys (k -xs.length) y hy j hj;have oJ:s.len*i'.size+(k -xs.length)*i'.size=k*i'.size:=by rw[←asY];congr 1;omega
       have bc:(k -xs.length+1)*i'.size<=ys.length*i'.size:=asK _ (by have:=(ad2.1 hy).1;omega);rw[asY]at bc;rw[if_pos ⟨by simp only;omega,by rw[ate,eW];simp only;omega⟩,←yq];simp only[atY];congr 1;omega
     ·rw[mA ju];exact fh
   ·refine grow (by omega) _ (by rw[Sv.iW hn,hQ]) ?_
    refine run_firstCells_some w.drew _ _ _ _ _ _ (by rw[gR,hlen]) fun j u hu=>?_;obtain⟨y,hy,I7⟩:=EU hc hu;have:=r.row _ y hy (j%i'.size) (aun _ hc);rw[I7]at this;rw[Addr.hH];show w.cell? _=_;rw[tK,←this];congr 1;have h9:=auv j i'.size;rw[atK]at h9;omega
theorem OG(off:Nat): ∀(vs:List Value) (k:Nat) (cs:Array Value),off+k+vs.length≤cs.size→
    (vs.zipIdx k).foldl (fun cs (p:Value×Nat)=>cs.setIfInBounds (off+p.2) p.1) cs=(cs.toList.take (off+k)++vs++cs.toList.drop (off+k+vs.length)).toArray
  |[],k,cs,_=>by simp
  |v::vs,k,cs,h=>by
   simp only[List.zipIdx_cons,at4,asm]at h⊢;rw[OG off vs (k+1) _ (by simp;omega)];apply ave;have e1:(cs.setIfInBounds (off+k) v).toList=cs.toList.set (off+k) v:=by simp
   rw[e1];have bc:off+k<cs.toList.length:=by simp;omega
   have e2:(cs.toList.set (off+k) v).take (off+(k+1))=cs.toList.take (off+k)++[v]:=by
      rw[←atN,asC,au1 (asu _),asJ bc];rfl
   have e3:(cs.toList.set (off+k) v).drop (off+(k+1)+vs.length)=cs.toList.drop (off+k+(vs.length+1)):=by
      rw[List.drop_set_of_lt (by omega)];congr 1;omega
   rw[e2,e3];simp
def idx(vals:List Value)(i:Nat):List (Nat×Value):=(vals.zipIdx i).map fun p=>(p.2,p.1)
theorem OH[he:bm enc c]: ∀(xs:List α) (vals:List Value) (i:Nat) (cs:Array Value),vals.map Value.cells=xs.map enc→i*c+xs.length*c≤cs.size→
    Instr.fill (fun i=>some (i*c,c)) cs (idx vals i)=some (cs.toList.take (i*c)++aL enc xs++cs.toList.drop (i*c+xs.length*c)).toArray
  |[],[],i,cs,_,_=>by simp[idx,Instr.fill,aL]
  |[],_::_,_,_,h,_=>by simp at h
  |_::_,[],_,_,h,_=>by simp at h
  |x::xs,v::vals,i,cs,h,hs=>by
   simp only[asL,au6]at h;obtain⟨h1,h2⟩:=h;have fh:v.cells.size=c:=by rw[h1];exact he.size x
   rw[asm,asY,Nat.one_mul]at hs;simp only[idx,List.zipIdx_cons,asL,Instr.fill,fh];rw[if_neg (by simp;omega)]
   have ef:v.cells.zipIdx.foldl (fun cs (p:Value×Nat)=>cs.setIfInBounds (i*c+p.2) p.1) cs=(cs.toList.take (i*c)++v.cells.toList++cs.toList.drop (i*c+c)).toArray:=by
      have:=OG (i*c) v.cells.toList 0 cs (by simp;omega);simp only[atl]at this;rw[←Array.foldl_toList,Array.toList_zipIdx,this];simp[fh]
   have XR:(v.cells.zipIdx.foldl (fun cs (x:Value×Nat)=>match x with|(c',j)=>cs.setIfInBounds (i*c+j) c') cs)=(cs.toList.take (i*c)++v.cells.toList++cs.toList.drop (i*c+c)).toArray:=ef
   rw[XR];have pN:(cs.toList.take (i*c)++v.cells.toList).length=(i+1)*c:=by simp[fh,asY];omega
   have:=OH xs vals (i+1) (cs.toList.take (i*c)++v.cells.toList++cs.toList.drop (i*c+c)).toArray h2 (by simp[fh,asY];omega);unfold idx at this;rw[this];congr 1;apply ave;rw[List.take_left' pN,←at3 (j:=(i+1)*c) (i:=xs.length*c),List.drop_left' pN];simp only[aL,au9,h1,asF,List.append_cancel_left_eq];rw[at3,asm,show i*c+c+xs.length*c=i*c+(xs.length+1)*c by rw[asY];omega]
end
section
variable {P:Program} {N:ct} {w0:World} {env:Env} {L:List aj} {l:List Oper} {Q:Exit->Act->World->Prop} {rest:List Oper} {d:Option Tmp} {ty:TypeId} {ps:String} {af:Array Edge}
variable {α:Type} {enc:α->Array Value} {c:Nat} {s:Sv} {xs ys:List α}
class fu(L:List aj)(s:Sv){α:outParam Type}(enc:outParam (α->Array Value))(c:outParam Nat)(xs:outParam (List α))(i:outParam Nat):Prop where
  h:L[i]? =some (own enc c s xs)
instance (priority:=high) fu.here {L:List aj}:fu (own enc c s xs::L) s enc c xs 0:=⟨rfl⟩
instance fu.there{L:List aj}{e:aj}{i:Nat}[q:fu L s enc c xs i]:fu (e::L) s enc c xs (i+1):=⟨by simpa using q.h⟩
theorem fu.holds{i:Nat}(q:fu L s enc c xs i):Holds w0 L enc c s xs:=fun _ hw=>(hw.get q.h).1
theorem Mem.dj{w:World}(enc:α->Array Value)(c:Nat)(h:Mem w0 L w):Mem w0 (own enc c Sv.none []::L) w:=
  h.call (E:=[own enc c Sv.none []]) ⟨Below.refl _ _,fun e he=>by
    obtain rfl:=as6.1 he;exact⟨dZ.nil enc c _,(fun h=>by cases h)⟩,fun e he k hk=>by
    obtain rfl:=as6.1 he;exact absurd hk.1 (by simp[Sv.none]),by simp⟩
theorem gS{t tx e:TypeId}{x y:Operand}{yv:Value}{cM i:Nat}[ht:fq P t e c cM][he:bm enc c](hx:ev env x=some s.val)(hy:ev env y=some yv)[q:fu L s enc c xs i](hc:0<c)
    (hs: ∀w,Mem w0 L w->Src P c tx yv ys.length (aL enc ys) w) (hb:(xs.length+ys.length)*cM<=140737488355328) (jE:xs.length+ys.length<=140737488355328) {L':Sv->List aj} [hu: ∀s',fC L i (own enc c s' (xs++ys)) (L' s')]
    (hk: ∀s':Sv,s'.Ok->s'.len=(xs++ys).length->Sq P N w0 l Q rest (cJ env d s'.val) (L' s')) (hd:dA N d=true:=by rfl):
    Sq P N w0 l Q (⟨d, .call {callee:= .builtin .append,args:= #[x,y],argTypes:= #[t,tx]},ty,ps,af,none⟩::rest) env L:=
  oB rfl hd fun a w ha hw=>by
    obtain⟨s',w',h1,h2,h3,h4⟩:=I8 (ty:=ty) ht hc hw q.h (hs w hw) hb jE;refine⟨s'.val,w',L' s',?_,by rw[←(hu s').h];exact h4,hk s' h2 h3⟩;simp[execOp,ha.ev hx,ha.ev hy,resolve,invoke,builtin,h1,Result.andThen]
theorem yr{w:World}{b:Nat}{cs:Array Value}{e:TypeId}(hb:b=w.heap.size)(n cap:Nat)(hn:n=xs.length)(hle:n≤cap)(jE:n≤140737488355328)(fh:cap*c≤cs.size)(hc: ∀i x,xs[i]? =some x→ ∀j,j<c→cs[i*c+j]? =(enc x)[j]?):
    Mem w [own enc c ⟨false,b,0,n,cap,none⟩ xs] (w.alloc (.cells cs e)):=by
  subst hb;have hm:=(Mem.init w).alloc cs e;have ft:hp (w.alloc (.cells cs e)) w.heap.size=some (.cells cs e (0,0)):=Below.Eo w _;refine⟨hm.below,fun q hq=>?_,fun q hq k hk=>?_,by simp⟩
  ·obtain rfl:=as6.1 hq
   exact⟨u9 ⟨(fun h=>by cases h),hle,jE,fun _=>rfl⟩ hn ft (by simpa using hc),fun _=>⟨rfl,_,_,_,ft,by simpa using fh,I2 _,fun _=>rfl⟩⟩
  ·obtain rfl:=as6.1 hq
   obtain rfl:k=w.heap.size:=hk.2;simp
theorem I9{n c:Nat}(h0:0<n*c)(h:n*c<=16777216):n<=140737488355328:=by
  have:n*1≤n*c:=Nat.mul_le_mul_left _ (by rcases atW c with rfl|h';·simp at h0
                                          ·exact h')
  omega
theorem Ja{t e:TypeId}{cM:Nat}(ht:fq P t e c cM)[he:bm enc c]{vals:List Value}(hv:vals.map Value.cells=xs.map enc)(hc:0<xs.length*c)(sf:xs.length*c≤16777216)(w:World):
    (Instr.buildSlice t xs.length (idx vals 0).toArray).run P w= .ok (.slice (some ⟨w.heap.size,0,none⟩) xs.length xs.length) (w.alloc (.cells (aL enc xs).toArray e)):=by
  obtain⟨i',z,aZ,aE,bo,dn,nN⟩:=ht.info;subst bo;have hf:=OH (enc:=enc) (c:=i'.size) xs vals 0 ((Array.range (xs.length*i'.size)).map (z.cells[· %z.cells.size]!)) hv (by simp);have XS:((Array.range (xs.length*i'.size)).map (z.cells[· %z.cells.size]!)).toList.drop (0*i'.size+xs.length*i'.size)=[]:=by simp
  rw[XS]at hf;simp only[Nat.zero_mul,asW,atc,asZ]at hf;have n1: ¬xs.length*i'.size>2^24:=by omega
  have n2: ¬xs.length*i'.size=0:=by omega
  simp[Instr.buildSlice,run_underlying ht.fc,sizeOf,typeInfo,zeroValue,aZ,aE,n1,n2,hf,newRow,newObj,Sem.run,Result.andThen]
theorem jF{t e:TypeId}{cM n:Nat}[ht:fq P t e c cM][he:bm enc c]{ops:List (Nat×Operand)}{vals:List Value}(xs:List α)(hx:kN env ops=some (idx vals 0))(hv:vals.map Value.cells=xs.map enc)(hn:xs.length=n)(hc:0<n*c)(sf:n*c≤16777216)
    (hk: ∀b,Sq P N w0 l Q rest (cJ env d (Sv.val ⟨false,b,0,n,n,none⟩)) (own enc c ⟨false,b,0,n,n,none⟩ xs::L)) (hd:dA N d=true:=by rfl):
    Sq P N w0 l Q (⟨d, .buildSlice t n ops.toArray,ty,ps,af,none⟩::rest) env L:=
  oB rfl hd fun a w ha hw=>by
    subst hn;have e1:(ops.toArray.map fun(p:Nat×Operand)=>match p with|(i,x)=>(i,a.eval x))=(idx vals 0).toArray:=by
      rw[←ha.kN hx];simp
    refine⟨_,_,_,?_,hw.call (yr (enc:=enc) (c:=c) (xs:=xs) (cs:=(aL enc xs).toArray) (e:=e) rfl xs.length xs.length rfl (asu _) (I9 hc sf) (by simp[gR]) fun i x hx j hj=>by rw[←oE (enc:=enc) xs i x hx j hj];simp),hk _⟩;simp only[execOp,e1,Sem.run_bind,Ja ht hv hc sf w,Result.andThen,Sem.run_pure];rfl
theorem XT{zc:Array Value}(m n:Nat)(h:zc.size=c)(i j:Nat)(hi:i<n)(hj:j<c)(hm:n*c<=m):(madeCells zc m)[i*c+j]? =zc[j]? :=by
  have bc:i*c+j<m:=by
    have:(i+1)*c<=n*c:=asK _ hi;rw[asY]at this;omega
  have e1:(i*c+j)%zc.size=j:=by rw[h,atK,Nat.mul_add_mod];exact as5 hj
  have hz:j<zc.size:=by omega
  simp[madeCells,bc,e1,hz]
theorem Jb{t e:TypeId}{cM n cap:Nat}{z:Value}(ht:fq P t e c cM)(hz:eR P e z){k k':IntKind}(x0:α)(h0:enc x0=z.cells)(hle:n≤cap)(hb:cM*cap≤281474976710656)(jE:cap≤140737488355328)(w:World):
    ∃w',(Instr.makeSlice t (.int k n) (.int k' cap)).run P w= .ok (Sv.val ⟨false,w.heap.size,0,n,cap,none⟩) w'/\Mem w [own enc c ⟨false,w.heap.size,0,n,cap,none⟩ (List.replicate n x0)] w':=by
  obtain⟨i',z',aZ,aE,bo,dn,nN⟩:=ht.info;obtain rfl:z'=z:=by
    have:=hz.zero;rw[aZ,as7,aE]at this;exact aso (aso this)
  subst bo dn;have cN:(i'.bytes:Int)*(cap:Int)<=281474976710656:=by
    have h:((i'.bytes*cap:Nat):Int)<=281474976710656:=by omega
    rwa [Int.natCast_mul]at h
  have hr:=run_make (P:=P) w t e i' _ ht.fc aZ aE k k' n cap (by omega) (by omega) cN (by omega);simp only[atu]at hr;refine⟨_,hr,yr rfl n cap (by simp) hle (by omega) (by simp[size_madeCells]) fun i x hx j hj=>?_⟩;have hi:i<n:=by
    have:=(ad2.1 hx).1;simpa using this
  obtain rfl:x0=x:=by rw[auH,if_pos hi]at hx;exact aso hx
  rw[h0];exact XT _ n nN i j hi hj (asK _ hle)
theorem sg{t e:TypeId}{cM n cap:Nat}{z:Value}{x y:Operand}{k k':IntKind}{ix iy:Int}[ht:fq P t e c cM][hz:eR P e z](x0:α)(h0:enc x0=z.cells)(hx:ev env x=some (.int k ix))(hy:ev env y=some (.int k' iy))(ex:ix=(n:Int))(ey:iy=(cap:Int))(hle:n≤cap)(hb:cM*cap≤281474976710656)(jE:cap≤140737488355328)
    (hk: ∀b,Sq P N w0 l Q rest (cJ env d (Sv.val ⟨false,b,0,n,cap,none⟩)) (own enc c ⟨false,b,0,n,cap,none⟩ (List.replicate n x0)::L)) (hd:dA N d=true:=by rfl):
    Sq P N w0 l Q (⟨d, .makeSlice t x y,ty,ps,af,none⟩::rest) env L:=
  oB rfl hd fun a w ha hw=>by
    subst ex ey;obtain⟨w',h1,h2⟩:=Jb ht hz (k:=k) (k':=k') (n:=n) x0 h0 hle hb jE w;exact⟨_,w',_,by simp only[execOp,ha.ev hx,ha.ev hy,Sem.run_bind,h1,Result.andThen,Sem.run_pure],hw.call h2,hk _⟩
theorem OI{w:World}{L':List aj}{i k j:Nat}{a a':α}{vs:Array Value}[he:bm enc c](hw:Mem w0 L w)(q:fu L s enc c xs i)(ha:xs[k]? =some a)(hv:vs.all (·.oneCell')=true)(hj:j+vs.size≤c)(qw:over (enc a) j vs=enc a')(hu:fC L i (own enc c s (xs.set k a')) L'):
    ∃w',(storeCells ⟨s.b,s.o+k*c+j,none⟩ vs.toList).run P w= .ok () w'/\Mem w0 L' w':=by
  obtain⟨r,oG⟩:=hw.get q.h;have hk:k<xs.length:=(ad2.1 ha).1;have hn:=r.some hk;have hle:=r.ok.le;have hlen:=r.len;obtain⟨hQ,cs,T,fz,ft,fh,nj,nO⟩:=oG hn;have hmul:(k+1)*c<=s.cap*c:=asK _ (by omega);have ajq:=hmul;rw[asY]at hmul;have ju:s.o+k*c+j+vs.size<=cs.size:=by omega
  have br:=Cl (P:=P) s.b (s.o+k*c+j) T fz vs.toList 0 cs w ft nj (by simpa using ju) (fun v lS=>(as4.1 hv) v (by simpa using lS));refine⟨w.setRow s.b (over cs (s.o+k*c+j) vs),by simpa[over]using br,?_⟩;have cN:hp (w.setRow s.b (over cs (s.o+k*c+j) vs)) s.b=some (.cells (over cs (s.o+k*c+j) vs) T fz):=setRow_heap w s.b cs _ T fz ft;rw[←hu.h];refine hw.change q.h (fun k hk=>hk) (fun x hx=>setRow_other w s.b x _ (fun e=>hx ⟨hn,e⟩)) (by simp[World.setRow]) ⟨rfl,rfl,rfl⟩ ⟨u9 r.ok (by simpa using hlen) cN fun x y hy p fE=>?_,fun _=>⟨hQ,_,_,_,cN,by rw[mA ju];exact fh,by rw[mA ju];exact nj,nO⟩⟩;rw[se ju]
  by_cases OJ:x=k
  ·subst OJ
   obtain rfl:a'=y:=by rw[asJ hk]at hy;exact aso hy
   rw[←qw,se (by rw[he.size];exact hj)]
   by_cases h1:j<=p/\p<j+vs.size
   ·rw[if_pos h1,if_pos (by omega)];congr 1;omega
   ·rw[if_neg h1,if_neg (by omega),←r.row x a ha p fE]
    unfold oC;rw[ft]
  ·rw[asS (by omega)]at hy
   rw[if_neg,←r.row x y hy p fE]
   ·unfold oC;rw[ft]
   ·intro h
    rcases avm OJ with h'|h'
    ·have:(x+1)*c<=k*c:=asK _ h'
     rw[asY]at this;omega
    ·have:(k+1)*c<=x*c:=asK _ h'
     rw[asY]at this;omega
theorem ku{t:TypeId}{x y:Operand}{i k j n p:Nat}{a a':α}{v:Value}(sz:(P.info? t).map (·.size)=some n)[he:bm enc c](hx:ev env x=some (.pointer (some ⟨s.b,p,none⟩)))(hy:ev env y=some v)[q:fu L s enc c xs i](fE:p=s.o+k*c+j)
    (ha:xs[k]? =some a) (hv:v.cells.all (·.oneCell')=true) (hn:v.cells.size=n) (hj:j+n<=c) (qw:over (enc a) j v.cells=enc a') {L':List aj} [hu:fC L i (own enc c s (xs.set k a')) L'] (hk:Sq P N w0 l Q rest env L'):
    Sq P N w0 l Q (⟨none, .store t x y,ty,ps,af,none⟩::rest) env L:=
  EJ rfl rfl fun aa w Cn hw=>by
    subst fE hn;obtain⟨w',h1,h2⟩:=OI (P:=P) hw q ha hv hj qw hu;refine⟨w',_,?_,h2,hk⟩;simp only[execOp,Cn.ev hx,Cn.ev hy,Instr.storeAt,Instr.sureAddr,storeVar,Sem.run_bind,Sem.run_pure,Result.andThen,lR w sz];simp[h1]
theorem XU{X:Type}{val:X→Value}{L':X→List aj}{pr:X→Prop}{f:FuncId}{xs:List Operand}{ts:Array TypeId}{vs:List Value}[hf:aK P f](hx:iU env xs=some vs)
    (hc: ∀w,Mem w0 L w->Calls P f vs.toArray w fun e w'=> ∃x,e= .returned (val x)/\pr x/\Mem w0 (L' x) w') (hk: ∀x,pr x->Sq P N w0 l Q rest (cJ env d (val x)) (L' x)) (hd:dA N d=true:=by rfl):
    Sq P N w0 l Q (⟨d, .call {callee:= .value (.func f),args:=xs.toArray,argTypes:=ts},ty,ps,af,none⟩::rest) env L:=fun a w ha hw=>by
  unfold wpList;rw[if_pos (sa rfl)];refine .inl ?_;unfold Oper.wp;rw[EF hf w rfl,ha.iU hx];exact(hc w hw).mono fun e w' ⟨x,he,hp,hm⟩=>by subst he;exact hk x hp _ _ (ha.put hd _) hm
theorem jZ{N:Nat}{fn:Func}{R:Ending→World→Prop}{f:FuncId}{c:Code}{args:List Value}{w:World}(hf:P.funcs[f]? =some fn)(hb:fn.body=some c)(hN:fn.ntmps=N)(hle:Nat.ble args.length N=true)(hw:Mem w0 L w)
    (h:Cw P ⟨N,[],none⟩ w0 (r8 P fn R) c (args.zipIdx.map fun p=>(p.2,p.1)) L):Calls P f args.toArray w R:=
  N7 hf hb (h _ _ (by rw[hN];exact dr.enter args N (Nat.le_of_ble_eq_true hle)) hw)
theorem EV{b n i:Nat}{cs:Array Value}{T:TypeId}[hi:Has L b cs T i][he:bm enc c](iA:cs=(aL enc xs).toArray)(hn:xs.length=n)(jE:n<=140737488355328:=by decide):Holds w0 L enc c ⟨false,b,0,n,n,none⟩ xs:=fun w hw=>by
  have hb:=hw.block hi.h;exact u9 ⟨(fun h=>by cases h),asu _,jE,fun _=>rfl⟩ hn.symm hb fun k x hx j hj=>by
    rw[←oE (enc:=enc) xs k x hx j hj,iA];simp
def Ac(tmps:Array Value)(r:ResultVar):Sem Value:=match r with
  | .tmp t=>pure (tmps.getD t undef)
  | .cell c t=>do loadVar t (←asAddr (tmps.getD c undef))
theorem Jc(fn:Func)(tmps:Array Value):results fn tmps=(do let vs←fn.results.mapM (Ac tmps);pure (if h:vs.size=1 then vs[0]else .tuple vs)):=by
  have:(fun r=>Ac tmps r)=(fun| .tmp t=>pure (tmps.getD t undef)| .cell a t=>do loadVar t (←asAddr (tmps.getD a undef)):ResultVar->Sem Value):=by
    funext r;cases r<;>rfl
  show _=(do let vs←fn.results.mapM (fun r=>Ac tmps r);pure (if h:vs.size=1 then vs[0]else .tuple vs));rw[this];rfl
def RV(P:Program)(N:ct)(w0:World)(env:Env)(L:List aj)(r:ResultVar)(v:Value):Prop:= ∀a w,dr N env a->Mem w0 L w->(Ac a.tmps r).run P w= .ok v w
theorem Ad{t:Nat}{v:Value}(hv:look env t=some v):RV P N w0 env L (.tmp t) v:=fun a w ha _=>by
  have:=ha.get _ _ hv;simp[Ac,this]
theorem Ae{t b i n:Nat}{T T':TypeId}{cs:Array Value}(hv:look env t=some (.pointer (some ⟨b,0,none⟩)))[ht:fK P T n][hi:Has L b cs T' i][hn:fW cs n]:RV P N w0 env L (.cell t T) (.agg cs):=fun a w ha hw=>by
  have h1:=ha.get _ _ hv;have h2:(loadVar T ⟨b,0,none⟩).run P w= .ok (.agg cs) w:=IP w ht hn.h fun j _=>by rw[Addr.hH,hw.cell hi.h,as3]
  simp[Ac,h1,asAddr,h2]
variable {fn:Func} {r1 r2 r3:ResultVar} {v1 v2 v3:Value}
theorem XV{A B:Type}(f:A->Sem B)(x y:A):(#[x,y]:Array A).mapM f=(do let a←f x;let b←f y;pure #[a,b]):=by simp
theorem XW{A B:Type}(f:A->Sem B)(x y z:A):(#[x,y,z]:Array A).mapM f=(do let a←f x;let b←f y;let c←f z;pure #[a,b,c]):=by simp
theorem OK(hf:fn.results= #[r1])(h1:RV P N w0 env L r1 v1): ∀a w,dr N env a->Mem w0 L w->(results fn a.tmps).run P w= .ok v1 w:=fun a w ha hw=>by
  have e1:=h1 a w ha hw;rw[Jc,hf];simp[e1]
theorem XX(hf:fn.results= #[r1,r2])(h1:RV P N w0 env L r1 v1)(h2:RV P N w0 env L r2 v2): ∀a w,dr N env a->Mem w0 L w->(results fn a.tmps).run P w= .ok (.tuple #[v1,v2]) w:=fun a w ha hw=>by
  have e1:=h1 a w ha hw;have e2:=h2 a w ha hw;rw[Jc,hf,XV];simp[e1,e2]
theorem XY(hf:fn.results= #[r1,r2,r3])(h1:RV P N w0 env L r1 v1)(h2:RV P N w0 env L r2 v2)(h3:RV P N w0 env L r3 v3): ∀a w,dr N env a->Mem w0 L w->(results fn a.tmps).run P w= .ok (.tuple #[v1,v2,v3]) w:=fun a w ha hw=>by
  have e1:=h1 a w ha hw;have e2:=h2 a w ha hw;have e3:=h3 a w ha hw;rw[Jc,hf,XW];simp[e1,e2,e3]
end
def aG(b:UInt8):Array Value:= #[.int .u8 b.toNat]
instance:bm aG 1:=⟨fun _=>rfl,fun _=>by simp[aG,Value.oneCell']⟩
instance (b:UInt8):cc (aG b) 0 (.int .u8 b.toNat):=⟨rfl⟩
def tO(s:Sv):Array Value:= #[s.val]
instance:bm tO 1:=⟨fun _=>rfl,fun s=>by simp[tO,Sv.one]⟩
def b8(n:Nat):UInt8:=UInt8.ofNat n
theorem pO(n:Nat):(b8 n).toNat=n%256:=by simp[b8]
theorem XZ(n:Nat):b8 (n%256)=b8 n:=by
 apply atT.1;simp[pO]
theorem X0(n:Nat):IntKind.u8.wrap (n:Int)=((b8 n).toNat:Int):=by
 rw[pO];simp[IntKind.wrap,IntKind.bits,IntKind.signed]
theorem EW(b:UInt8):b8 b.toNat=b:=by
 apply atT.1;rw[pO];have:=b.toNat_lt;omega
def be(n:Nat):Nat->List UInt8
 |0=>[]
 |k+1=>b8 (n/256^k)::be n k
theorem gK(n:Nat): ∀k,(be n k).length=k
 |0=>rfl
 |k+1=>by simp[be,gK n k]
def de(l:List UInt8):Nat:=l.foldl (fun a b=>a*256+b.toNat) 0
theorem OL{xs:List UInt8}{i:Nat}{b:UInt8}(h:xs[i]? =some b):de (xs.take (i+1))=de (xs.take i)*256+b.toNat:=by
 rw[asC,h];simp[de]
theorem Jd(xs:List UInt8): ∀i,i<=xs.length->de (xs.take i)<256^i
 |0,_=>by simp[de]
 |i+1,h=>by
  have:=Jd xs i (by omega);rw[OL (b:=xs[i]) (by simp),Nat.pow_succ];have:=xs[i].toNat_lt;omega
section
variable {P:Program} {N:ct} {w0:World} {env:Env} {L:List aj} {d:Option Tmp} {ty:TypeId} {ps:String} {af:Array Edge} {gd:Option (Nat×Bool)}
variable {x y:Operand} {k k':IntKind} {p q:Nat} {t u s:TypeId}
theorem va{a b:Int}(hx:ev env x=some (.int k a))(hy:ev env y=some (.int k b))(ea:a=p)(eb:b=q)(hq:0<q):
  Ry P N w0 env L ⟨d, .binOp .rem t x y u,ty,ps,af,gd⟩ (.int k ((p%q:Nat):Int)):=et hx hy (by
 subst ea eb;rw[lQ,if_neg (by omega),←Int.ofNat_tmod])
theorem X1{a b:Int}(hx:ev env x=some (.int k a))(hy:ev env y=some (.int k b))(ea:a=p)(eb:b=q)(h:p*q<2^nb k):
  Ry P N w0 env L ⟨d, .binOp .mul t x y u,ty,ps,af,gd⟩ (.int k ((p*q:Nat):Int)):=et hx hy (by
 subst ea eb;rw[lQ,←Int.natCast_mul,pM h])
theorem Co{n:Nat}{a:Int}[hs:mw P s k'][ht:mw P t .u8](hx:ev env x=some (.int k' a))(ea:a=n):
  Ry P N w0 env L ⟨d, .convert s t x,ty,ps,af,gd⟩ (.int .u8 (b8 n).toNat):=pK hx (by subst ea;exact X0 n)
theorem X2{e:TypeId}{sv:Sv}{xs:List UInt8}(hs:P.underlying s=some (.slice e))(he:P.underlying e=some (.int .u8))(hd:P.underlying t=some .string)(hx:ev env x=some sv.val)(hR:Holds w0 L aG 1 sv xs):
  Ry P N w0 env L ⟨d, .convert s t x,ty,ps,af,gd⟩ (.string ⟨xs.toArray⟩):=fun a w ha hw=>by
 have r:=hR w hw;have hr:(convert s t sv.val).run P w= .ok (.string ⟨xs.toArray⟩) w:=by
  cases hn:sv.nil with
  |true=>
   have:xs=[]:=by have:=(r.ok.nil hn).1;rw[r.len]at this;exact asI.1 this
   subst this;rw[Sv.tJ hn,run_convert_bytes_string w s t e none 0 0 hs he hd];rfl
  |false=>
   rw[Sv.iW hn,r.len];refine run_convert_bytes_back w s t e _ _ xs hs he hd fun j hj=>?_;rw[r.ok.sp (by have:=r.len;have:=r.ok.le;omega)];rw[Addr.hH,tK];have:=r.row j xs[j] (by simp) 0 (by decide);simp only[at2,atl]at this;rw[this];rfl
 simp only[execOp,ha.ev hx,Sem.run_bind,hr,Result.andThen,Sem.run_pure]
theorem X3{a b:ByteArray}(hx:ev env x=some (.string a))(hy:ev env y=some (.string b)):
  Ry P N w0 env L ⟨d, .binOp .eql t x y u,ty,ps,af,gd⟩ (.bool (a.toList==b.toList)):=fun aa w ha _=>by
 have h2:(eqGuard BinOp.eql t x y (.string a) (.string b)).run P w= .ok () w:=rfl;simp only[execOp,ha.ev hx,ha.ev hy,Sem.run_bind,h2,Result.andThen_ok,binOp_string_eql,Sem.run_pure]
end
section
variable {P:Program} {N:ct} {w0:World} {env:Env} {L:List aj} {l:List Oper} {Q:Exit->Act->World->Prop} {rest:List Oper} {d:Option Tmp} {ty:TypeId} {ps:String} {af:Array Edge}
end
def oL(b c:UInt8):UInt16:=UInt16.ofNat (b.toNat*256+c.toNat)
theorem EX(b c:UInt8):(oL b c).toNat=b.toNat*256+c.toNat:=by
 have:=b.toNat_lt;have:=c.toNat_lt;simp[oL];omega
theorem OM(p q:Nat)(h:q<256):(p*256)|||q=p*256+q:=by
 have:=Nat.two_pow_add_eq_or_of_lt (i:=8) (b:=q) (by simpa using h) p;rw[show(2^8*p)=p*256 by rw[atK]]at this;exact this.symm
section
variable {P:Program} {N:ct} {w0:World} {env:Env} {L:List aj} {d:Option Tmp} {ty:TypeId} {ps:String} {af:Array Edge} {gd:Option (Nat×Bool)} {x y:Operand} {k:IntKind} {t u:TypeId}
theorem ON{b:UInt8}{k':IntKind}(hx:ev env x=some (.int k b.toNat))(hy:ev env y=some (.int k' 8))(hk:k= .u16\/k= .i64:=by decide):
  Ry P N w0 env L ⟨d, .binOp .shl t x y u,ty,ps,af,gd⟩ (.int k ((b.toNat*256:Nat):Int)):=by
 have h:=EH (P:=P) (N:=N) (w0:=w0) (L:=L) (d:=d) (ty:=ty) (ps:=ps) (af:=af) (gd:=gd) (t:=t) (u:=u) hx hy (by decide);have hb:=b.toNat_lt;have e:k.wrap ((b.toNat:Int)*2^min (Int.toNat 8) k.bits)=((b.toNat*256:Nat):Int):=by
  rcases hk with rfl|rfl<;>simp[IntKind.wrap,IntKind.bits,IntKind.signed]<;>omega
 rw[e]at h;exact h
theorem OO{b c:UInt8}(hx:ev env x=some (.int k ((b.toNat*256:Nat):Int)))(hy:ev env y=some (.int k c.toNat))(hk:k= .u16\/k= .i64:=by decide):
  Ry P N w0 env L ⟨d, .binOp .or t x y u,ty,ps,af,gd⟩ (.int k ((oL b c).toNat:Nat)):=by
 have hb:=b.toNat_lt;have hc:=c.toNat_lt;rw[EX,←OM _ _ hc];rcases hk with rfl|rfl
 ·
  exact Cd hx hy rfl rfl (by simp only[nb];omega) (by simp only[nb];omega)
 ·
  exact Cd hx hy rfl rfl (by simp only[nb];omega) (by simp only[nb];omega)
end
def aj.emp:aj:=⟨fun _=>False,fun _=>True,fun _ _ _ s=>s⟩
def aj.two(a b:aj):aj:=⟨fun k=>a.fp k\/b.fp k,fun h=>a.sat h/\b.sat h/\ ∀k,a.fp k-> ¬b.fp k,
  fun h h' e s=>⟨a.loc h h' (fun k hk=>e k (.inl hk)) s.1,b.loc h h' (fun k hk=>e k (.inr hk)) s.2.1,s.2.2⟩⟩
def aj.all:List aj->aj
  |[]=> .emp
  |e::r=> .two e (.all r)
theorem Mem.Cq{w0 w:World}{L:List aj}:Mem w0 (.emp::L) w↔Mem w0 L w:=
  ⟨fun h=>h.sub (atm _ _),fun h=>⟨h.below,fun e he=>by
    rcases asw.1 he with rfl|he
    ·exact trivial
    ·exact h.sat e he,fun e he k hk=>by
    rcases asw.1 he with rfl|he
    ·exact hk.elim
    ·exact h.jV e he k hk,asT.2 ⟨fun _ _ _ hk=>hk.elim,h.pG⟩⟩⟩
theorem Mem.yt{w0 w:World}{a b:aj}{L:List aj}:Mem w0 (.two a b::L) w↔Mem w0 (a::b::L) w:=by
  constructor
  ·intro h
   have hs:(a.sat fun k=>w.heap[k]?)/\(b.sat fun k=>w.heap[k]?)/\ ∀k,a.fp k-> ¬b.fp k:=h.sat (.two a b) (by simp);have hd:=asT.1 h.pG;refine⟨h.below,fun e he=>?_,fun e he k hk=>?_,?_⟩
   ·rcases asw.1 he with rfl|he
    ·exact hs.1
    ·rcases asw.1 he with rfl|he
     ·exact hs.2.1
     ·exact h.sat e (by simp[he])
   ·rcases asw.1 he with rfl|he
    ·exact h.jV (.two e b) (by simp) k (.inl hk)
    ·rcases asw.1 he with rfl|he
     ·exact h.jV (.two a e) (by simp) k (.inr hk)
     ·exact h.jV e (by simp[he]) k hk
   ·refine asT.2 ⟨fun x hx k hk=>?_,asT.2 ⟨fun x hx k hk=>hd.1 x hx k (.inr hk),hd.2⟩⟩
    rcases asw.1 hx with rfl|hx
    ·exact hs.2.2 k hk
    ·exact hd.1 x hx k (.inl hk)
  ·intro h
   have hd:=asT.1 h.pG;have Ag:=asT.1 hd.2;refine⟨h.below,fun e he=>?_,fun e he k hk=>?_,asT.2 ⟨fun x hx k hk=>?_,Ag.2⟩⟩
   ·rcases asw.1 he with rfl|he
    ·exact⟨h.sat a (by simp),h.sat b (by simp),fun k hk=>hd.1 b (by simp) k hk⟩
    ·exact h.sat e (by simp[he])
   ·rcases asw.1 he with rfl|he
    ·rcases hk with hk|hk
     ·exact h.jV a (by simp) k hk
     ·exact h.jV b (by simp) k hk
    ·exact h.jV e (by simp[he]) k hk
   ·rcases hk with hk|hk
    ·exact hd.1 x (by simp[hx]) k hk
    ·exact Ag.1 x hx k hk
theorem Mem.Cr{w0 w:World}: ∀(es:List aj) {L:List aj},Mem w0 (.all es::L) w↔Mem w0 (es++L) w
  |[],_=>Mem.Cq
  |e::r,L=>by
   show Mem w0 (.two e (.all r)::L) w↔_;rw[Mem.yt];have sw: ∀(a b:aj) (K:List aj),Mem w0 (a::b::K) w↔Mem w0 (b::a::K) w:=fun a b K=>⟨fun h=>h.perm (List.Perm.swap _ _ _),fun h=>h.perm (List.Perm.swap _ _ _)⟩;rw[sw,Mem.Cr r];exact⟨fun h=>h.perm (auB),fun h=>h.perm (auB).symm⟩
class Deep(τ:Type) where
  c:Nat
  cells:τ->Array Value
  size: ∀x,(cells x).size=c
  one: ∀x,(cells x).all (·.oneCell')=true
  cH:(Nat->Option Obj)->τ->Prop
  bR:τ->aj
  jv: ∀h x,(bR x).sat h->cH h x
  mono: ∀(w w':World) x,cH (hp w) x->Below w.heap.size w w'->cH (hp w') x
instance Deep.enc{τ:Type}[Deep τ]:bm (Deep.cells (τ:=τ)) (Deep.c τ):=⟨Deep.size,Deep.one⟩
@[reducible] def Deep.flat {τ:Type}(enc:τ->Array Value)(c:Nat)[he:bm enc c]:Deep τ:=⟨c,enc,he.size,he.one,fun _ _=>True,fun _=> .emp,fun _ _ _=>trivial,fun _ _ _ _ _=>trivial⟩
structure Sl(τ:Type) where
  sv:Sv
  xs:List τ
theorem aj.Ah{h:Nat->Option Obj}: ∀{es:List aj},(aj.all es).sat h-> ∀e∈es,e.sat h
  |[],_,_,he=>by cases he
  |_::_,hs,e,he=>by
   rcases asw.1 he with rfl|he
   ·exact hs.1
   ·exact aj.Ah hs.2.1 e he
instance Deep.slice{τ:Type}[d:Deep τ]:Deep (Sl τ) where
  c:=1
  cells a:=tO a.sv
  size _:=rfl
  one a:=bm.one (enc:=tO) (c:=1) a.sv
  cH h a:=dZ (Deep.cells (τ:=τ)) (Deep.c τ) h a.sv a.xs/\ ∀x∈a.xs,d.cH h x
  bR a:= .two (own (Deep.cells (τ:=τ)) (Deep.c τ) a.sv a.xs) (.all (a.xs.map d.bR))
  jv h _ hs:=⟨hs.1.1,fun x hx=>d.jv h x (aj.Ah hs.2.1 _ (asN hx))⟩
  mono w w' _ hg hb:=⟨hg.1.mono hb,fun x hx=>d.mono w w' x (hg.2 x hx) hb⟩
theorem Mem.yu{τ:Type}[d:Deep τ]{w0 w:World}{L:List aj}{a:Sl τ}:Mem w0 (Deep.bR a::L) w↔Mem w0 (own (Deep.cells (τ:=τ)) (Deep.c τ) a.sv a.xs::a.xs.map d.bR++L) w:=by
  show Mem w0 (.two _ (.all _)::L) w↔_;rw[Mem.yt];have sw: ∀(a b:aj) (K:List aj),Mem w0 (a::b::K) w↔Mem w0 (b::a::K) w:=fun a b K=>⟨fun h=>h.perm (List.Perm.swap _ _ _),fun h=>h.perm (List.Perm.swap _ _ _)⟩;rw[sw,Mem.Cr];exact⟨fun h=>h.perm (auB),fun h=>h.perm (auB).symm⟩
section
variable {w0:World} {L:List aj} {τ:Type}
class Hd(w0:World)(L:List aj)(s:Sv){α:outParam Type}(enc:outParam (α->Array Value))(c:outParam Nat)(xs:outParam (List α)):Prop where
  h:Holds w0 L enc c s xs
class Gv(w0:World)(s:Sv){α:outParam Type}(enc:outParam (α->Array Value))(c:outParam Nat)(xs:outParam (List α)):Prop where
  h:dZ enc c (hp w0) s xs
instance (priority:=high) Hd.owned {s:Sv}{α:Type}{enc:α->Array Value}{c:Nat}{xs:List α}{i:Nat}[q:fu L s enc c xs i]:Hd w0 L s enc c xs:=⟨q.holds⟩
instance Hd.given{s:Sv}{α:Type}{enc:α->Array Value}{c:Nat}{xs:List α}[q:Gv w0 s enc c xs][bm enc c]:Hd w0 L s enc c xs:=⟨Ck q.h⟩
class Rg(lo hi n:Nat):Prop where
  h:lo<=hi/\hi<=n
instance Hd.sub{s:Sv}{α:Type}{enc:α->Array Value}{c:Nat}{xs:List α}{lo hi:Nat}[q:Hd w0 L s enc c xs][r:Rg lo hi xs.length]:Hd w0 L (s.sub c lo hi) enc c ((xs.drop lo).take (hi -lo)):=⟨q.h.sub r.h.1 r.h.2⟩
class cD(w0:World)(L:List aj){α:Type}(enc:α->Array Value)(c:Nat)(s:Sv)(xs:outParam (List α)):Prop where
  h:Holds w0 L enc c s xs
instance (priority:=high) cD.of {s:Sv}{α:Type}{enc:α->Array Value}{c:Nat}{xs:List α}[q:Hd w0 L s enc c xs]:cD w0 L enc c s xs:=⟨q.h⟩
instance cD.none{α:Type}{enc:α->Array Value}{c:Nat}:cD w0 L enc c Sv.none []:=⟨fun _ _=>dZ.nil enc c _⟩
class aU(w0:World)(L:List aj){τ:Type}[Deep τ](a:τ):Prop where
  h: ∀w,Mem w0 L w->Deep.cH (hp w) a
class cL(w0:World){τ:Type}[Deep τ](a:τ):Prop where
  h:Deep.cH (hp w0) a
class Mb{τ:Type}(x:τ)(a:outParam (Sl τ)):Prop where
  h:x∈a.xs
instance aU.given[Deep τ]{a:τ}[q:cL w0 a]:aU w0 L a:=⟨fun _ hw=>Deep.mono w0 _ a q.h hw.below⟩
instance (priority:=high) aU.owned [Deep τ]{a:τ}{i:Nat}[q:At L (Deep.bR a) i]:aU w0 L a:=⟨fun _ hw=>Deep.jv _ a (hw.get q.h)⟩
instance (priority:=low) aU.elem [Deep τ]{a:Sl τ}{x:τ}[q:aU w0 L a][m:Mb x a]:aU w0 L x:=⟨fun w hw=>(q.h w hw).2 x m.h⟩
class fZ(τ:Type)[Deep τ](enc:outParam (τ->Array Value))(c:outParam Nat):Prop where
  hc:Deep.c τ=c
  h: ∀x:τ,Deep.cells x=enc x
instance (priority:=low) Hd.deep [d:Deep τ]{enc:τ->Array Value}{c:Nat}[f:fZ τ enc c]{a:Sl τ}[q:aU w0 L a]:Hd w0 L a.sv enc c a.xs:=⟨fun w hw=>by
  have h:=(q.h w hw).1;have e:Deep.cells (τ:=τ)=enc:=funext f.h;rw[←e,←f.hc];exact h⟩
end
section
variable {P:Program} {N:ct} {w0:World} {env:Env} {L:List aj} {d:Option Tmp} {ty:TypeId} {ps:String} {af:Array Edge} {gd:Option (Nat×Bool)}
variable {α:Type} {enc:α->Array Value} {c:Nat} {s:Sv} {xs:List α}
theorem tP{t e:TypeId}{x:Operand}{m:Nat}[ht:fj P t e m](hx:ev env x=some s.val)[q:Hd w0 L s enc c xs]:
    Ry P N w0 env L ⟨d, .call {callee:= .builtin .len,args:= #[x],argTypes:= #[t]},ty,ps,af,gd⟩ (.int .i64 (xs.length:Nat)):=fun a w ha hw=>
  tL (P:=P) (N:=N) (w0:=w0) (L:=L) (d:=d) (ty:=ty) (ps:=ps) (af:=af) (gd:=gd) hx (q.h w hw).ok (q.h w hw).len a w ha hw
theorem aW{t e:TypeId}{x ix:Operand}{m:Nat}{k:IntKind}{j:Int}[ht:fj P t e m](hx:ev env x=some s.val)(hj:ev env ix=some (.int k j))[q:Hd w0 L s enc c xs](i:Nat)(ej:j=(i:Int))(h1:i<xs.length):
    Ry P N w0 env L ⟨d, .indexAddr t x ix,ty,ps,af,gd⟩ (.pointer (some ⟨s.b,s.o+i*m,none⟩)):=fun a w ha hw=>
  mz (P:=P) (N:=N) (w0:=w0) (L:=L) (d:=d) (ty:=ty) (ps:=ps) (af:=af) (gd:=gd) hx hj ej (q.h w hw).ok (by rw[(q.h w hw).len];exact h1) a w ha hw
theorem iF{t:TypeId}{x:Operand}{p:Nat}{a:α}[ht:fK P t c][he:bm enc c][q:Hd w0 L s enc c xs](hx:ev env x=some (.pointer (some ⟨s.b,p,none⟩)))(i:Nat)(hi:xs[i]? =some a)(fE:p=s.o+i*c):
    Ry P N w0 env L ⟨d, .load t x,ty,ps,af,gd⟩ (.agg (enc a)):=ES hx q.h hi fE
theorem bE{t:TypeId}{x:Operand}{p j:Nat}{a:α}{v:Value}[ht:fR P t][q:Hd w0 L s enc c xs](hx:ev env x=some (.pointer (some ⟨s.b,p,none⟩)))(i:Nat)(hi:xs[i]? =some a)(fE:p=s.o+i*c+j)(hj:j<c)[hv:cc (enc a) j v]:
    Ry P N w0 env L ⟨d, .load t x,ty,ps,af,gd⟩ v:=I3 hx q.h hi fE hj hv.h
theorem EY{t:TypeId}{x:Operand}{p j n:Nat}{a:α}{sub:Array Value}[ht:fK P t n][q:Hd w0 L s enc c xs](hx:ev env x=some (.pointer (some ⟨s.b,p,none⟩)))(i:Nat)(hi:xs[i]? =some a)(fE:p=s.o+i*c+j)(hj:j+n≤c)[hs:nJ (enc a) j n sub]:
    Ry P N w0 env L ⟨d, .load t x,ty,ps,af,gd⟩ (.agg sub):=I4 hx q.h hi fE hj
theorem vb{t e:TypeId}{x lo hi:Operand}{k k':IntKind}{il ih:Int}[ht:fj P t e c](hx:ev env x=some s.val)(hl:ev env lo=some (.int k il))(hh:ev env hi=some (.int k' ih))[q:Hd w0 L s enc c xs](l h:Nat)(el:il=(l:Int))(eh:ih=(h:Int))(h1:l≤h)(h2:h≤xs.length):
    Ry P N w0 env L ⟨d, .slice t x (some lo) (some hi) none,ty,ps,af,gd⟩ (s.sub c l h).val:=fun a w ha hw=>
  ET (P:=P) (N:=N) (w0:=w0) (L:=L) (d:=d) (ty:=ty) (ps:=ps) (af:=af) (gd:=gd) hx hl hh el eh (q.h w hw).ok h1 (by have:=(q.h w hw).len;have:=(q.h w hw).ok.le;omega) a w ha hw
theorem Cs{t e:TypeId}{x hi:Operand}{k':IntKind}{ih:Int}[ht:fj P t e c](hx:ev env x=some s.val)(hh:ev env hi=some (.int k' ih))[q:Hd w0 L s enc c xs](h:Nat)(eh:ih=(h:Int))(h2:h≤xs.length):
    Ry P N w0 env L ⟨d, .slice t x none (some hi) none,ty,ps,af,gd⟩ (s.sub c 0 h).val:=fun a w ha hw=>
  wJ (P:=P) (N:=N) (w0:=w0) (L:=L) (d:=d) (ty:=ty) (ps:=ps) (af:=af) (gd:=gd) hx hh eh (q.h w hw).ok (by have:=(q.h w hw).len;have:=(q.h w hw).ok.le;omega) a w ha hw
theorem vc{t e:TypeId}{x lo:Operand}{k:IntKind}{il:Int}[ht:fj P t e c](hx:ev env x=some s.val)(hl:ev env lo=some (.int k il))[q:Hd w0 L s enc c xs](l:Nat)(el:il=(l:Int))(h1:l≤xs.length):
    Ry P N w0 env L ⟨d, .slice t x (some lo) none none,ty,ps,af,gd⟩ (s.sub c l xs.length).val:=fun a w ha hw=>
  tM (P:=P) (N:=N) (w0:=w0) (L:=L) (d:=d) (ty:=ty) (ps:=ps) (af:=af) (gd:=gd) hx hl el (q.h w hw).ok (q.h w hw).len h1 a w ha hw
theorem OP{t e tb:TypeId}{x:Operand}{xs:List UInt8}(hs:P.underlying tb=some (.slice e))(he:P.underlying e=some (.int .u8))(hd:P.underlying t=some .string)(hx:ev env x=some s.val)[q:Hd w0 L s aG 1 xs]:
    Ry P N w0 env L ⟨d, .convert tb t x,ty,ps,af,gd⟩ (.string ⟨xs.toArray⟩):=X2 hs he hd hx q.h
theorem wK{s t:TypeId}{x:Operand}{k:IntKind}{b:UInt8}[hs:mw P s .u8][ht:mw P t k](hx:ev env x=some (.int .u8 b.toNat))(hk:8≤nb k:=by decide):
    Ry P N w0 env L ⟨d, .convert s t x,ty,ps,af,gd⟩ (.int k b.toNat):=gH hx (atd b.toNat_lt (atv (by decide) hk))
theorem X4{s t:TypeId}{x:Operand}{k:IntKind}{b:UInt16}[hs:mw P s .u16][ht:mw P t k](hx:ev env x=some (.int .u16 b.toNat))(hk:16≤nb k:=by decide):
    Ry P N w0 env L ⟨d, .convert s t x,ty,ps,af,gd⟩ (.int k b.toNat):=gH hx (atd b.toNat_lt (atv (by decide) hk))
end
section
variable {P:Program} {N:ct} {w0:World} {env:Env} {L:List aj} {l:List Oper} {Q:Exit->Act->World->Prop} {rest:List Oper} {d:Option Tmp} {ty:TypeId} {ps:String} {af:Array Edge} {gd:Option (Nat×Bool)}
class cE(P:Program)(f:FuncId)(w0:World)(L:List aj)(vs:List Value)(v:outParam Value)(pre:outParam Prop):Prop where
  h:pre-> ∀w,Mem w0 L w->Calls P f vs.toArray w fun e w'=>e= .returned v/\Mem w [] w'
class bN(P:Program)(f:FuncId)(w0:World)(L:List aj)(vs:List Value)(X:outParam Type)(val:outParam (X->Value))(L':outParam (X->List aj))(pr:outParam (X->Prop))(pre:outParam Prop):Prop where
  h:pre-> ∀w,Mem w0 L w->Calls P f vs.toArray w fun e w'=> ∃x,e= .returned (val x)/\pr x/\Mem w0 (L' x) w'
instance (priority:=high) cE.pure {f:FuncId}{vs:List Value}{v:Value}[h:pJ P f vs v]:cE P f w0 L vs v True:=⟨fun _ w _=>h.h w⟩
theorem cj{f:FuncId}{xs:List Operand}{ts:Array TypeId}{vs:List Value}{v:Value}{pre:Prop}[hf:aK P f](hx:iU env xs=some vs)[hc:cE P f w0 L vs v pre](hp:pre):
    Yl P N w0 env L ⟨d, .call {callee:= .value (.func f),args:=xs.toArray,argTypes:=ts},ty,ps,af,gd⟩ v:=EG hx fun w hw=>hc.h hp w hw
theorem aX{X:Type}{val:X→Value}{L':X→List aj}{pr:X→Prop}{pre:Prop}{f:FuncId}{xs:List Operand}{ts:Array TypeId}{vs:List Value}[hf:aK P f](hx:iU env xs=some vs)
    [hc:bN P f w0 L vs X val L' pr pre] (hp:pre) (hk: ∀x,pr x->Sq P N w0 l Q rest (cJ env d (val x)) (L' x)) (hd:dA N d=true:=by rfl):
    Sq P N w0 l Q (⟨d, .call {callee:= .value (.func f),args:=xs.toArray,argTypes:=ts},ty,ps,af,none⟩::rest) env L:=XU hx (fun w hw=>hc.h hp w hw) hk hd
theorem X5{Lq:List aj}{n j:Nat}{js:List Nat}{X:Type}{val:X→Value}{L':X→List aj}{pr:X→Prop}{pre:Prop}{f:FuncId}{xs:List Operand}{ts:Array TypeId}{vs:List Value}(hj:l[j]? =some ⟨d, .call {callee:= .value (.func f),args:=xs.toArray,argTypes:=ts},ty,ps,af,none⟩)[hf:aK P f](hx:iU env xs=some vs)
    [hc:bN P f w0 L vs X val L' pr pre] (hp:pre) (hL: ∀x w,Mem w0 (L' x) w->Mem w0 Lq w) (hk: ∀x,pr x->Fr P N w0 Lq l n Q js (cJ env d (val x)) (L' x)) (hd:dA N d=true:=by rfl):
    Fr P N w0 Lq l n Q (j::js) env L:=XJ hj hx (fun w hw=>hc.h hp w hw) hL hk hd
end
class dt(L:List aj)(i:Nat)(R:outParam (List aj)):Prop where
  h:L.eraseIdx i=R
instance dt.here{e:aj}{L:List aj}:dt (e::L) 0 L:=⟨rfl⟩
instance dt.there{e:aj}{L R:List aj}{i:Nat}[q:dt L i R]:dt (e::L) (i+1) (e::R):=⟨by simp[q.h]⟩
class ai(L L':List aj):Prop where
  h: ∃R,L.Perm (L'++R)
instance (priority:=high) ai.nil {L:List aj}:ai L []:=⟨⟨L, .refl _⟩⟩
instance (priority:=high) ai.same {L:List aj}:ai L L:=⟨⟨[],by simp⟩⟩
theorem oN{e:aj}: ∀{L:List aj} {i:Nat},L[i]? =some e->L.Perm (e::L.eraseIdx i)
  |[],i,h=>by simp at h
  |x::L,0,h=>by obtain rfl:x=e:=by simpa using h
                simp
  |x::L,i+1,h=>by
   have:=oN (L:=L) (i:=i) (by simpa using h);rw[avl];exact(this.cons x).trans (.swap _ _ _)
instance ai.cons{L L' R:List aj}{e:aj}{i:Nat}[a:At L e i][b:dt L i R][k:ai R L']:ai L (e::L'):=⟨by
  obtain⟨S,hS⟩:=k.h;exact⟨S,(oN a.h).trans (by rw[b.h];exact hS.cons e)⟩⟩
theorem ai.mem{L L':List aj}[k:ai L L']{w0 w:World}(h:Mem w0 L w):Mem w0 L' w:=by
  obtain⟨R,hR⟩:=k.h;exact(h.perm hR).sub (List.sublist_append_left _ _)
theorem sh{P:Program}{N:ct}{w0:World}{env:Env}{L:List aj}{Q:Exit->Act->World->Prop}{c:Code}(L':List aj)(h: ∀w,Mem w0 L w->Mem w0 L' w)(hk:Cw P N w0 Q c env L'):Cw P N w0 Q c env L:=fun a w ha hw=>hk a w ha (h w hw)
theorem OQ{P:Program}{N:ct}{w0:World}{env:Env}{L:List aj}{Q:Exit->Act->World->Prop}{c:Code}(s:Sv){α:Type}{enc:α->Array Value}{n:Nat}{xs:List α}[q:Hd w0 L s enc n xs](hk:xs.length<=140737488355328->Cw P N w0 Q c env L):Cw P N w0 Q c env L:=
  fun a w ha hw=>hk (q.h w hw).bd a w ha hw
theorem nP{α:Type}{xs:List α}{i:Nat}{d:α}(h:i<xs.length):xs[i]? =some (xs.getD i d):=by
  simp[List.getD,h]
section
variable {P:Program} {N:ct} {w0:World} {env:Env} {L:List aj} {l:List Oper} {Q:Exit->Act->World->Prop} {rest:List Oper} {d:Option Tmp} {ty:TypeId} {ps:String} {af:Array Edge} {gd:Option (Nat×Bool)}
variable {α:Type} {enc:α->Array Value} {c:Nat} {s:Sv} {xs:List α}
theorem OR{x y:Operand}{t u:TypeId}{a b:List UInt8}(hx:ev env x=some (.string ⟨a.toArray⟩))(hy:ev env y=some (.string ⟨b.toArray⟩)):
    Ry P N w0 env L ⟨d, .binOp .eql t x y u,ty,ps,af,gd⟩ (.bool (decide (a=b))):=by
  have e:((⟨a.toArray⟩:ByteArray).toList==(⟨b.toArray⟩:ByteArray).toList)=decide (a=b):=by
    rw[ByteArray.toList_mk,ByteArray.toList_mk,avo];simp
  rw[←e];exact X3 hx hy
theorem vd{t e:TypeId}{x:Operand}{u:TypeId}(ht:P.underlying t=some (.slice e))(hx:ev env x=some s.val):
    Ry P N w0 env L ⟨d, .binOp .eql t x (.const (.slice none 0 0)) u,ty,ps,af,gd⟩ (.bool s.nil):=fun a w ha _=>by
  have h1:(eqGuard BinOp.eql t x (.const (.slice none 0 0)) s.val (.slice none 0 0)).run P w= .ok () w:=by
    unfold Sv.val;split<;>rfl
  have h3:(Op.equal t s.val (.slice none 0 0)).run P w= .ok s.nil w:=by
    unfold Sv.val;split<;>rename_i hn<;>rw[run_equal_slice_nil w t e _ _ _ ht,hn]<;>rfl
  have h2:(binOp .eql t s.val (.slice none 0 0)).run P w= .ok (.bool s.nil) w:=by
    have:binOp .eql t s.val (.slice none 0 0)=(do pure (.bool (←Op.equal t s.val (.slice none 0 0)))):=by unfold Sv.val;split<;>rfl
    rw[this,Sem.run_bind,h3];rfl
  simp only[execOp,ha.ev hx,show a.eval (.const (.slice none 0 0))= .slice none 0 0 from rfl,Sem.run_bind,h1,Result.andThen_ok,h2,Sem.run_pure]
theorem X6{t e:TypeId}{x:Operand}{u:TypeId}(ht:P.underlying t=some (.slice e))(hx:ev env x=some s.val):
    Ry P N w0 env L ⟨d, .binOp .neq t x (.const (.slice none 0 0)) u,ty,ps,af,gd⟩ (.bool (!s.nil)):=fun a w ha _=>by
  have h1:(eqGuard BinOp.neq t x (.const (.slice none 0 0)) s.val (.slice none 0 0)).run P w= .ok () w:=by
    unfold Sv.val;split<;>rfl
  have h3:(Op.equal t s.val (.slice none 0 0)).run P w= .ok s.nil w:=by
    unfold Sv.val;split<;>rename_i hn<;>rw[run_equal_slice_nil w t e _ _ _ ht,hn]<;>rfl
  have h2:(binOp .neq t s.val (.slice none 0 0)).run P w= .ok (.bool (!s.nil)) w:=by
    have:binOp .neq t s.val (.slice none 0 0)=(do pure (.bool (!(←Op.equal t s.val (.slice none 0 0))))):=by unfold Sv.val;split<;>rfl
    rw[this,Sem.run_bind,h3];rfl
  simp only[execOp,ha.ev hx,show a.eval (.const (.slice none 0 0))= .slice none 0 0 from rfl,Sem.run_bind,h1,Result.andThen_ok,h2,Sem.run_pure]
theorem X7{t e:TypeId}{cM:Nat}(ht:fq P t e c cM)(w:World):(Instr.buildSlice t 0 #[]).run P w= .ok (.slice (some ⟨w.heap.size,0,none⟩) 0 0) (w.alloc (.cells #[] e)):=by
  obtain⟨i',z,aZ,aE,bo,dn,nN⟩:=ht.info;have:(Array.range 0:Array Nat)= #[]:=by simp
  simp[Instr.buildSlice,run_underlying ht.fc,sizeOf,typeInfo,aZ,Instr.fill,newRow,newObj,Sem.run,Result.andThen,this]
theorem wL{t e:TypeId}{cM:Nat}(enc:α→Array Value)[ht:fq P t e c cM][he:bm enc c](hk: ∀b,Sq P N w0 l Q rest (cJ env d (Sv.val ⟨false,b,0,0,0,none⟩)) (own enc c ⟨false,b,0,0,0,none⟩ []::L))(hd:dA N d=true:=by rfl):
    Sq P N w0 l Q (⟨d, .buildSlice t 0 #[],ty,ps,af,none⟩::rest) env L:=
  oB rfl hd fun a w _ hw=>by
    refine⟨_,_,_,?_,hw.call (yr (enc:=enc) (c:=c) (xs:=[]) (cs:= #[]) (e:=e) rfl 0 0 rfl (asu _) (asO _) (by simp) (by simp)),hk _⟩;simp only[execOp,Sem.run_bind,List.map_toArray,ato,X7 ht w,Result.andThen,Sem.run_pure];rfl
end
instance:Deep UInt8:=Deep.flat aG 1
instance:fZ UInt8 aG 1:=⟨rfl,fun _=>rfl⟩
def bT{τ:Type}(a:Sl τ):Array Value:= #[a.sv.val]
instance {τ:Type}:bm (bT (τ:=τ)) 1:=⟨fun _=>rfl,fun a=>bm.one (enc:=tO) (c:=1) a.sv⟩
instance {τ:Type}[Deep τ]:fZ (Sl τ) bT 1:=⟨rfl,fun _=>rfl⟩
instance {τ:Type}(a:Sl τ):cc (bT a) 0 a.sv.val:=⟨rfl⟩
def lx{τ:Type}(a:Sl (Sl τ)):List (List τ):=a.xs.map (·.xs)
theorem yw{τ:Type}(a:Sl (Sl τ)):(lx a).length=a.xs.length:=by simp[lx]
section
variable {L L' L1 L2 R R1 R2:List aj} {τ:Type}
def Tr(L L':List aj):Prop:= ∀(K:List aj) (w0 w:World),Mem w0 (L++K) w->Mem w0 (L'++K) w
theorem Tr.mem(h:Tr L L'){w0 w:World}(hw:Mem w0 L w):Mem w0 L' w:=by
  have:=h [] w0 w (by simpa using hw);simpa using this
theorem Tr.refl:Tr L L:=fun _ _ _ h=>h
theorem Tr.trans(h:Tr L L1)(h':Tr L1 L2):Tr L L2:=fun K w0 w hw=>h' K w0 w (h K w0 w hw)
theorem Tr.perm(h:L.Perm L'):Tr L L':=fun K _ _ hw=>Mem.perm hw (h.append_right K)
theorem Tr.left(h:Tr L L')(X:List aj):Tr (X++L) (X++L'):=fun K w0 w hw=>by
  have p: ∀Y:List aj,(X++Y++K).Perm (Y++(X++K)):=fun Y=>by
    rw[asF,←asF Y];refine(List.perm_append_comm_assoc X Y K).trans ?_;rw[asF]
  exact(h (X++K) w0 w (hw.perm (p L))).perm (p L').symm
theorem Tr.right(h:Tr L L')(X:List aj):Tr (L++X) (L'++X):=fun K w0 w hw=>by
  rw[asF]at hw⊢;exact h (X++K) w0 w hw
theorem Tr.cons(h:Tr L L')(x:aj):Tr (x::L) (x::L'):=h.left [x]
theorem Tr.sub(h:L'.Sublist L):Tr L L':=fun K _ _ hw=>Mem.sub hw (h.append (.refl K))
theorem Tr.front{e:aj}{i:Nat}(hi:L[i]? =some e):Tr L (e::L.eraseIdx i):= .perm (oN hi)
theorem Tr.back{e:aj}{i:Nat}(hi:L[i]? =some e):Tr (e::L.eraseIdx i) L:= .perm (oN hi).symm
theorem Tr.emp:Tr (.emp::L) L:=fun _ _ _ hw=>Mem.Cq.1 hw
theorem Tr.OS:Tr L (.emp::L):=fun _ _ _ hw=>Mem.Cq.2 hw
theorem Tr.two{a b:aj}:Tr (.two a b::L) (a::b::L):=fun _ _ _ hw=>Mem.yt.1 hw
theorem Tr.yu[d:Deep τ]{a:Sl τ}:Tr (Deep.bR a::L) (own (Deep.cells (τ:=τ)) (Deep.c τ) a.sv a.xs::a.xs.map d.bR++L):=fun K w0 w hw=>by
  have:=Mem.yu.1 hw;simpa using this
theorem Tr.X8[d:Deep τ]{a:Sl τ}:Tr (own (Deep.cells (τ:=τ)) (Deep.c τ) a.sv a.xs::a.xs.map d.bR++L) (Deep.bR a::L):=fun K w0 w hw=>by
  refine Mem.yu.2 ?_;simpa using hw
class Plain(τ:Type)[Deep τ]:Prop where
  h: ∀x:τ,Deep.bR x= .emp
theorem Tr.plain[Deep τ][p:Plain τ]: ∀{xs:List τ},Tr (xs.map Deep.bR++L) L
  |[]=> .refl
  |x::xs=>by
   rw[asL,p.h];exact Tr.emp.trans Tr.plain
theorem Tr.OT[Deep τ][p:Plain τ]: ∀{xs:List τ},Tr L (xs.map Deep.bR++L)
  |[]=> .refl
  |x::xs=>by
   rw[asL,p.h];exact(Tr.OT (xs:=xs)).trans Tr.OS
theorem OU[Deep τ]{enc:τ->Array Value}{c:Nat}[f:fZ τ enc c](s:Sv)(xs:List τ):own (Deep.cells (τ:=τ)) (Deep.c τ) s xs=own enc c s xs:=by
  have e:Deep.cells (τ:=τ)=enc:=funext f.h;rw[e,f.hc]
theorem Tr.Je[d:Deep τ]{enc:τ->Array Value}{c:Nat}[f:fZ τ enc c]{a:Sl τ}:Tr (Deep.bR a::L) (own enc c a.sv a.xs::(a.xs.map d.bR++L)):=by
  rw[←OU];exact Tr.yu
theorem Tr.Ct[d:Deep τ]{enc:τ->Array Value}{c:Nat}[f:fZ τ enc c]{a:Sl τ}:Tr (own enc c a.sv a.xs::(a.xs.map d.bR++L)) (Deep.bR a::L):=by
  rw[←OU];exact Tr.X8
theorem Tr.X9[d:Deep τ]{enc:τ->Array Value}{c:Nat}[f:fZ τ enc c][Plain τ]{a:Sl τ}:Tr (Deep.bR a::L) (own enc c a.sv a.xs::L):=Tr.Je.trans (Tr.plain.cons _)
theorem Tr.EZ[d:Deep τ]{enc:τ->Array Value}{c:Nat}[f:fZ τ enc c][Plain τ]{a:Sl τ}:Tr (own enc c a.sv a.xs::L) (Deep.bR a::L):=(Tr.OT.cons _).trans Tr.Ct
theorem OV{α β:Type}(f:α->β){xs:List α}{i:Nat}{x:α}(hx:xs[i]? =some x):(xs.map f).Perm (f x::(xs.eraseIdx i).map f):=by
  have h1:=(OW hx).map f;exact h1
where OW {α:Type}: ∀{L:List α} {i:Nat} {e:α},L[i]? =some e->L.Perm (e::L.eraseIdx i)
  |[],i,e,h=>by simp at h
  |x::L,0,e,h=>by obtain rfl:x=e:=by simpa using h
                  simp
  |x::L,i+1,e,h=>by
   have:=OW (L:=L) (i:=i) (e:=e) (by simpa using h);rw[avl];exact(this.cons x).trans (.swap _ _ _)
theorem Tr.pick[d:Deep τ]{enc:τ→Array Value}{c:Nat}[f:fZ τ enc c]{a:Sl τ}{i:Nat}{x:τ}(hx:a.xs[i]? =some x):
    Tr (Deep.bR a::L) (own enc c a.sv a.xs::Deep.bR x::((a.xs.eraseIdx i).map d.bR++L)):=
  Tr.Je.trans (Tr.cons (Tr.right (Tr.perm (OV d.bR hx)) L) _)
theorem OX{α:Type}: ∀(xs:List α) (i:Nat) (y:α),(xs.set i y).eraseIdx i=xs.eraseIdx i
  |[],_,_=>by simp
  |_::_,0,_=>by simp
  |_::xs,i+1,y=>by simp[OX xs i y]
theorem Tr.lay[d:Deep τ]{enc:τ→Array Value}{c:Nat}[f:fZ τ enc c]{s:Sv}{xs:List τ}{i:Nat}{y:τ}(hi:i<xs.length):
    Tr (own enc c s (xs.set i y)::Deep.bR y::((xs.eraseIdx i).map d.bR++L)) (Deep.bR (⟨s,xs.set i y⟩:Sl τ)::L):=by
  have hy:(xs.set i y)[i]? =some y:=by simp[hi]
  have:=(OV d.bR hy).symm;rw[OX]at this;exact(Tr.cons (Tr.right (Tr.perm this) L) _).trans (Tr.Ct (a:=⟨s,xs.set i y⟩))
class Take(L:List aj){τ:Type}[Deep τ](x:τ)(R:outParam (List aj)):Prop where
  h:Tr L (Deep.bR x::R)
class Ai(L:List aj){τ:Type}[Deep τ](xs:List τ)(R:outParam (List aj)):Prop where
  h:Tr L (xs.map Deep.bR++R)
instance (priority:=high) Take.at [Deep τ]{x:τ}{i:Nat}[a:At L (Deep.bR x) i][d:dt L i R]:Take L x R:=⟨by
  have:=Tr.front a.h;rwa [d.h]at this⟩
instance (priority:=low) Take.plain [Deep τ][p:Plain τ]{x:τ}:Take L x L:=⟨by rw[p.h];exact Tr.OS⟩
instance Take.own[Deep τ][p:Plain τ]{enc:τ->Array Value}{c:Nat}[f:fZ τ enc c]{s:Sv}{xs:List τ}{i:Nat}[a:At L (own enc c s xs) i][d:dt L i R]:Take L (⟨s,xs⟩:Sl τ) R:=⟨by
  have:=Tr.front a.h;rw[d.h]at this;exact this.trans (Tr.EZ (a:=⟨s,xs⟩))⟩
instance Ai.nil[Deep τ]:Ai L ([]:List τ) L:=⟨.refl⟩
instance Ai.cons[Deep τ]{x:τ}{xs:List τ}[a:Take L x R1][b:Ai R1 xs R2]:Ai L (x::xs) R2:=⟨a.h.trans (b.h.cons _)⟩
instance:Plain UInt8:=⟨fun _=>rfl⟩
end
section
variable {P:Program} {N:ct} {w0:World} {env:Env} {L R R1 R2:List aj} {l:List Oper} {Q:Exit->Act->World->Prop} {rest:List Oper} {d:Option Tmp} {ty:TypeId} {ps:String} {af:Array Edge}
variable {τ:Type} [dp:Deep τ] {enc:τ->Array Value} {c:Nat}
theorem Ya{α:Type}{enc:α→Array Value}{c:Nat}{s:Sv}{xs ys:List α}{t tx e:TypeId}{x y:Operand}{yv:Value}{cM:Nat}[ht:fq P t e c cM][he:bm enc c](R:List aj)(hx:ev env x=some s.val)(hy:ev env y=some yv)
    (ho: ∀w,Mem w0 L w->Mem w0 (own enc c s xs::R) w) (hc:0<c) (hs: ∀w,Mem w0 L w->Src P c tx yv ys.length (aL enc ys) w) (hb:(xs.length+ys.length)*cM<=140737488355328) (jE:xs.length+ys.length<=140737488355328)
    (hk: ∀s':Sv,Sq P N w0 l Q rest (cJ env d s'.val) (own enc c s' (xs++ys)::R)) (hd:dA N d=true:=by rfl):
    Sq P N w0 l Q (⟨d, .call {callee:= .builtin .append,args:= #[x,y],argTypes:= #[t,tx]},ty,ps,af,none⟩::rest) env L:=
  oB rfl hd fun a w ha hw=>by
    obtain⟨s',w',h1,h2,h3,h4⟩:=I8 (i:=0) (ty:=ty) ht hc (ho w hw) rfl (hs w hw) hb jE;refine⟨s'.val,w',_,?_,by simpa using h4,hk s'⟩;simp[execOp,ha.ev hx,ha.ev hy,resolve,invoke,builtin,h1,Result.andThen]
theorem OY{s:Sv}{t tx e e':TypeId}{x y:Operand}{cM m:Nat}[f:fZ τ enc c][ht:fq P t e c cM][Yb:fj P tx e' m][he:bm enc c](a:Sl τ)(ys:List τ)(hx:ev env x=some a.sv.val)(hy:ev env y=some s.val)[q:Hd w0 L s enc c ys]
    [k1:Take L a R1] [k2:Ai R1 ys R2] (hc:0<c) (hb:(a.xs.length+ys.length)*cM<=140737488355328) (jE:a.xs.length+ys.length<=140737488355328)
    (hk: ∀a':Sl τ,a'.xs=a.xs++ys->Sq P N w0 l Q rest (cJ env d a'.sv.val) (Deep.bR a'::R2)) (hd:dA N d=true:=by rfl):
    Sq P N w0 l Q (⟨d, .call {callee:= .builtin .append,args:= #[x,y],argTypes:= #[t,tx]},ty,ps,af,none⟩::rest) env L:=
  Ya (enc:=enc) (c:=c) (xs:=a.xs) (ys:=ys) (a.xs.map dp.bR++(ys.map dp.bR++R2)) hx hy (fun w hw=>((k1.h.trans (k2.h.cons _)).trans Tr.Je).mem hw) hc (fun w hw=>fY Yb.fc hc (q.h w hw)) hb jE
    (fun s' aa w ha hw=>hk ⟨s',a.xs++ys⟩ rfl aa w ha (by
      have t1:Tr (own enc c s' (a.xs++ys)::(a.xs.map dp.bR++(ys.map dp.bR++R2))) (Deep.bR (⟨s',a.xs++ys⟩:Sl τ)::R2):=by
        have:=Tr.Ct (enc:=enc) (c:=c) (a:=(⟨s',a.xs++ys⟩:Sl τ)) (L:=R2);simpa using this
      exact t1.mem hw)) hd
theorem Mem.yx{w:World}[f:fZ τ enc c](h:Mem w0 L w):Mem w0 (Deep.bR (⟨Sv.none,[]⟩:Sl τ)::L) w:=
  (Tr.Ct (enc:=enc) (c:=c) (a:=(⟨Sv.none,[]⟩:Sl τ)) (L:=L)).mem (by simpa using h.dj enc c)
def tT{τ:Type}(s:Sl (Sl τ))(i:Nat):Sl τ:=s.xs.getD i ⟨Sv.none,[]⟩
theorem E3{τ:Type}{s:Sl (Sl τ)}{i:Nat}{x:Sl τ}(h:s.xs[i]? =some x):tT s i=x:=by simp[tT,h]
theorem E4{τ:Type}{s:Sl (Sl τ)}{i:Nat}(h:s.xs.length<=i):tT s i=⟨Sv.none,[]⟩:=by simp[tT,h]
theorem Cu{τ:Type}(s:Sl (Sl τ))(i:Nat):(tT s i).xs=(lx s).getD i []:=by
  rcases asx i s.xs.length with h|h
  ·have:s.xs[i]? =some s.xs[i]:=by simp[h]
   simp[E3 this,lx,h]
  ·rw[E4 h];simp[lx,h]
theorem wM{h:Nat->Option Obj}:Deep.cH h (⟨Sv.none,[]⟩:Sl τ):=⟨dZ.nil _ _ _,fun _ hx=>by cases hx⟩
def Sl.nil{τ:Type}:Sl τ:=⟨Sv.none,[]⟩
instance aU.none:aU w0 L (Sl.nil:Sl τ):=⟨fun _ _=>wM⟩
instance aU.tT{s:Sl (Sl τ)}{i:Nat}[q:aU w0 L s]:aU w0 L (tT s i):=⟨fun w hw=>by
  rcases asx i s.xs.length with h|h
  ·have hx:s.xs[i]? =some s.xs[i]:=by simp[h]
   rw[E3 hx];exact(q.h w hw).2 _ (anc hx)
  ·rw[E4 h];exact wM⟩
theorem Tr.OZ{L:List aj}[f:fZ τ enc c]: ∀n,Tr L ((List.replicate n (⟨Sv.none,[]⟩:Sl τ)).map Deep.bR++L)
  |0=> .refl
  |n+1=>by
   rw[au2,asL];exact(Tr.OZ n).trans fun K w0 w hw=>Mem.yx (enc:=enc) (c:=c) hw
theorem Yc{t e:TypeId}{cM n cap:Nat}{x y:Operand}{k k':IntKind}{ix iy:Int}[f:fZ τ enc c][ht:fq P t e 1 cM][hz:eR P e (.slice none 0 0)](hx:ev env x=some (.int k ix))(hy:ev env y=some (.int k' iy))(ex:ix=(n:Int))(ey:iy=(cap:Int))(hle:n≤cap)(hb:cM*cap≤281474976710656)(jE:cap≤140737488355328)
    (hk: ∀a:Sl (Sl τ),a.xs=List.replicate n ⟨Sv.none,[]⟩->Sq P N w0 l Q rest (cJ env d a.sv.val) (Deep.bR a::L)) (hd:dA N d=true:=by rfl):
    Sq P N w0 l Q (⟨d, .makeSlice t x y,ty,ps,af,none⟩::rest) env L:=
  sg (enc:=bT (τ:=τ)) (n:=n) (cap:=cap) (⟨Sv.none,[]⟩:Sl τ) rfl hx hy ex ey hle hb jE (fun b a w ha hw=>hk ⟨⟨false,b,0,n,cap,none⟩,List.replicate n ⟨Sv.none,[]⟩⟩ rfl a w ha
    (((Tr.OZ (enc:=enc) (c:=c) n).cons _|>.trans (Tr.Ct (enc:=bT) (c:=1) (a:=(⟨⟨false,b,0,n,cap,none⟩,List.replicate n ⟨Sv.none,[]⟩⟩:Sl (Sl τ))))).mem hw)) hd
end
section
variable {P:Program} {N:ct} {w0:World} {env:Env} {L:List aj} {l:List Oper} {Q:Exit->Act->World->Prop} {rest:List Oper} {d:Option Tmp} {ty:TypeId} {ps:String} {af:Array Edge}
end
theorem Sv.iX(s:Sv):s.val.cells= #[s.val]:=by unfold Sv.val;split<;>rfl
theorem Tr.Yd{τ:Type}[Deep τ][Plain τ]{enc:τ→Array Value}{c:Nat}[fZ τ enc c]{a:Sl (Sl τ)}{x:Sl τ}{i:Nat}{B:List aj}(hx:a.xs[i]? =some x):
    Tr (B++[Deep.bR a]) (own bT 1 a.sv a.xs::own enc c x.sv x.xs::(B++(a.xs.eraseIdx i).map Deep.bR)):=by
  refine(Tr.perm (List.perm_append_comm (l₁:=B) (l₂:=[Deep.bR a]))).trans ?_;refine(Tr.pick (L:=B) hx).trans (Tr.cons (Tr.X9.trans (Tr.cons (Tr.perm List.perm_append_comm) _)) _)
theorem Tr.Ye{τ:Type}[Deep τ][Plain τ]{enc:τ→Array Value}{c:Nat}[fZ τ enc c]{s y:Sv}{xs:List (Sl τ)}{ys:List τ}{i:Nat}{B:List aj}(hi:i<xs.length):
    Tr (own bT 1 s (xs.set i ⟨y,ys⟩)::own enc c y ys::(B++(xs.eraseIdx i).map Deep.bR)) (Deep.bR (⟨s,xs.set i ⟨y,ys⟩⟩:Sl (Sl τ))::B):=by
  refine Tr.trans ?_ (Tr.lay (L:=B) hi);exact Tr.cons ((Tr.EZ (a:=(⟨y,ys⟩:Sl τ))).trans (Tr.cons (Tr.perm List.perm_append_comm) _)) _
theorem E5{P:Program}{N:ct}{w0:World}{env:Env}{L:List aj}{l:List Oper}{Q:Exit→Act→World→Prop}{rest:List Oper}{ty:TypeId}{ps:String}{af:Array Edge}{τ:Type}{t:TypeId}{x y:Operand}{i k p:Nat}{s:Sv}{xs:List (Sl τ)}{a:Sl τ}(a':Sl τ)
    (sz:(P.info? t).map (·.size)=some 1) (hx:ev env x=some (.pointer (some ⟨s.b,p,none⟩))) (hy:ev env y=some a'.sv.val) [q:fu L s (bT (τ:=τ)) 1 xs i] (fE:p=s.o+k*1) (ha:xs[k]? =some a) {L':List aj} [hu:fC L i (own bT 1 s (xs.set k a')) L'] (hk:Sq P N w0 l Q rest env L'):
    Sq P N w0 l Q (⟨none, .store t x y,ty,ps,af,none⟩::rest) env L:=
  ku (j:=0) (a':=a') sz hx hy (q:=q) fE ha (by rw[Sv.iX];simp[Sv.one]) (by rw[Sv.iX];rfl) (by decide) (by rw[Sv.iX];rfl) hk
section
variable {P:Program} {N:ct} {w0:World} {env:Env} {L:List aj} {l:List Oper} {Q:Exit->Act->World->Prop} {rest:List Oper} {d:Option Tmp} {ty:TypeId} {ps:String} {af:Array Edge} {gd:Option (Nat×Bool)}
variable {fs:List Nat} {F:Act->Prop} {k:Nat}
theorem kv{o:Oper}{v:Value}{j t:Nat}{b g:Bool}(hg:o.guard=some (j,b))(hj:(l[j]?).bind (·.dst)=some t)(hv:look env t=some (.bool g))(ht:g=b)(h:Yl P N w0 env L o v)
    (hk:Sq P N w0 l Q rest (cJ env o.dst v) L) (hd:dA N o.dst=true:=by rfl):Sq P N w0 l Q (o::rest) env L:=fun a w ha hw=>by
  unfold wpList;rw[yi ha hg hj hv,ht,beq_self_eq_true,if_pos rfl];exact .inl (zX ha hw h fun w' gF=>hk _ _ (ha.put hd v) gF)
end
theorem tU{P:Program}{N:ct}{w0:World}{env:Env}{L:List aj}{d:Option Tmp}{ty:TypeId}{ps:String}{af:Array Edge}{gd:Option (Nat×Bool)}{c x y:Operand}{g:Bool}{v:Value}(hc:ev env c=some (.bool g))(ht:g=true)(hx:ev env x=some v)(hy:ev env y=some (.bool false)):
    Ry P N w0 env L ⟨d, .pick c x y,ty,ps,af,gd⟩ v:=by
  subst ht;have h:=IM (P:=P) (N:=N) (w0:=w0) (L:=L) (d:=d) (ty:=ty) (ps:=ps) (af:=af) (gd:=gd) hc hx hy;simpa using h
abbrev cd:=List UInt8
def dec(n:Nat):cd:=Lib.decDigits n
variable {n top:Nat} {s t:cd} {c:UInt8}
theorem wN(h:n<10):dec n=[UInt8.ofNat (48+n)]:=by rw[dec,Lib.decDigits,dif_pos h]
theorem Aj(h:10<=n):dec n=dec (n/10)++[UInt8.ofNat (48+n%10)]:=by
 rw[dec,Lib.decDigits,dif_neg (by omega)];rfl
def lT(c:UInt8):Bool:=decide (48<=c.toNat/\c.toNat<=57)
def val(s:cd):Nat:=s.foldl (fun a c=>10*a+(c.toNat -48)) 0
theorem E6:val (s++[c])=10*val s+(c.toNat -48):=by simp[val,auZ]
theorem Cv{d:Nat}(h:d<10):(UInt8.ofNat (48+d)).toNat=48+d:=by
 rw[UInt8.toNat_ofNat'];omega
theorem Jf: ∀n,(dec n).all lT=true:=by
 intro n
 induction n using Nat.strongRecOn with
 |_ n ih=>
  rcases asx n 10 with h|h
  ·
   rw[wN h];have:=Cv h;simp[lT,this];omega
  rw[Aj h,List.all_append,ih (n/10) (by omega)];have:=Cv (aun n (show 0<10 by decide));simp[lT,this];omega
theorem Jg: ∀n,val (dec n)=n:=by
 intro n
 induction n using Nat.strongRecOn with
 |_ n ih=>
  rcases asx n 10 with h|h
  ·
   rw[wN h];have:=Cv h;simp[val];omega
  rw[Aj h,E6,ih (n/10) (by omega),Cv (aun n (by decide))];omega
theorem O0:dec n≠[]:=by
 rcases asx n 10 with h|h
 ·
  rw[wN h];simp
 rw[Aj h];simp
def E7(s:cd):Prop:=s≠[]/\(s.length<=1\/s.head?≠some 48)
theorem Yf: ∀n,0<n->(dec n).head?≠some 48:=by
 intro n
 induction n using Nat.strongRecOn with
 |_ n ih=>
  intro hn;rcases asx n 10 with h|h
  ·
   rw[wN h];intro e;simp only[List.head?_cons,at0]at e;have h2:=congrArg UInt8.toNat e;rw[Cv h]at h2;have:(48:UInt8).toNat=48:=rfl;omega
  rw[Aj h,List.head?_append]
  cases hd:(dec (n/10)).head? with
  |none=>exact absurd (List.head?_eq_none_iff.1 hd) O0
  |some x=>
   have:=ih (n/10) (by omega) (by omega);rw[hd]at this;simpa using this
theorem Jh(n:Nat):E7 (dec n):=by
 refine⟨O0,?_⟩;rcases atW n with rfl|h
 ·
  left;rw[wN (by decide)];simp
 exact .inr (Yf n h)
theorem Yg: ∀{s:cd},E7 s->s.all lT=true->dec (val s)=s:=by
 intro s;have key: ∀k (s:cd),s.length=k->E7 s->s.all lT=true->dec (val s)=s:=by
  intro k
  induction k with
  |zero=>intro s hl hp _;exact absurd (asI.1 hl) hp.1
  |succ k ih=>
   intro s hl hp hd;obtain⟨t,c,rfl⟩: ∃t c,s=t++[c]:=by
    rcases List.eq_nil_or_concat s with h|⟨t,c,h⟩
    ·
     exact absurd h hp.1
    exact⟨t,c,by simpa using h⟩
   rw[List.all_append,alM]at hd;have hc:48<=c.toNat/\c.toNat<=57:=by
    have:=hd.2;simpa[lT]using this
   have E8:UInt8.ofNat (48+(c.toNat -48))=c:=by
    rw[show 48+(c.toNat -48)=c.toNat by omega];exact UInt8.ofNat_toNat
   rw[E6]
   by_cases ht:t=[]
   ·
    subst ht;rw[show val []=0 from rfl,Nat.mul_zero,as3,wN (by omega),E8];rfl
   have bc:t.length=k:=by simpa using hl
   have Yh:E7 t:=by
    refine⟨ht,?_⟩;rcases hp.2 with h|h
    ·
     left;simp only[af0,asm,asn]at h;omega
    right;rw[List.head?_append]at h
    cases Ev:t.head? with
    |none=>simp
    |some x=>rw[Ev]at h;simpa using h
   have Ji:=ih t bc Yh hd.1;have hv:0<val t:=by
    rcases atW (val t)with h0|h0
    ·
     exfalso;rw[h0,wN (by decide)]at Ji;rcases hp.2 with h|h
     ·
      simp only[af0,asm,asn]at h;have:=auN.2 ht;omega
     rw[←Ji]at h;exact h rfl
    exact h0
   rw[Aj (by omega),show(10*val t+(c.toNat -48))/10=val t by omega,Ji,show(10*val t+(c.toNat -48))%10=c.toNat -48 by omega,E8]
 exact key s.length s rfl
def c6(s:cd)(top:Nat):Option Nat:=if(s≠[]/\(s.length<=1\/s.head?≠some 48)/\s.all lT=true/\val s<=top)then some (val s)else none
theorem lU:c6 s top=some n↔s=dec n/\n<=top:=by
 unfold c6;constructor
 ·
  intro h;split at h
  ·
   rename_i h1;obtain⟨h2,h3,h4,h5⟩:=h1;obtain rfl:=aso h;exact⟨(Yg ⟨h2,h3⟩ h4).symm,h5⟩
  cases h
 rintro⟨rfl,h⟩;obtain⟨h1,h2⟩:=Jh n;rw[if_pos ⟨h1,h2,Jf n,by rw[Jg];exact h⟩,Jg]
theorem Jj(h:n<=top):c6 (dec n) top=some n:=lU.2 ⟨rfl,h⟩
theorem Yi: ∀k n,n<10^k->0<k->(dec n).length<=k:=by
 intro k
 induction k with
 |zero=>intro n _ h;omega
 |succ k ih=>
  intro n h _;rcases asx n 10 with h1|h1
  ·
   rw[wN h1];simp
  rw[Aj h1,af0];have hk:0<k:=by
   rcases atW k with rfl|hk
   ·
    simp at h;omega
   exact hk
  have:=ih (n/10) (by rw[Nat.pow_succ]at h;omega) hk;simpa using this
theorem O1(h:lT c=false):c∉dec n:=fun hc=>by
 have:=asD.1 (Jf n) c hc;rw[h]at this;cases this
def cV(c:UInt8):cd->List cd
 |[]=>[[]]
 |x::s=>if x=c then[]::cV c s else match cV c s with
  |[]=>[[x]]
  |p::r=>(x::p)::r
theorem Jk: ∀s,cV c s≠[]
 |[]=>by simp[cV]
 |x::s=>by
  rw[cV];split
  ·
   simp
  split<;>simp
theorem Jl(h:c∉s):cV c s=[s]:=by
 induction s with
 |nil=>rfl
 |cons x s ih=>
  rw[cV,if_neg (fun e=>h (by simp[e])),ih (fun hc=>h (asE _ hc))]
theorem E9(h:c∉s):cV c (s++c::t)=s::cV c t:=by
 induction s with
 |nil=>rw[atc,cV,if_pos rfl]
 |cons x s ih=>
  rw[atA,cV,if_neg (fun e=>h (by simp[e])),ih (fun hc=>h (asE _ hc))]
theorem Ak: ∀(s:cd),(c∉s/\cV c s=[s])\/ ∃a b,s=a++c::b/\c∉a/\cV c s=a::cV c b
 |[]=> .inl ⟨by simp,rfl⟩
 |x::s=>by
  by_cases hx:x=c
  ·
   subst hx;exact .inr ⟨[],s,rfl,by simp,by rw[cV,if_pos rfl]⟩
  rcases Ak s with⟨h1,h2⟩|⟨a,b,h1,h2,h3⟩
  ·
   left;have:c∉x::s:=fun h=>(asw.1 h).elim (fun e=>hx e.symm) h1;exact⟨this,Jl this⟩
  right;have:c∉x::a:=fun h=>(asw.1 h).elim (fun e=>hx e.symm) h2;exact⟨x::a,b,by rw[h1];rfl,this,by rw[h1,←atA,E9 this]⟩
theorem Yj{a:cd}(h:cV c s=[a]):s=a/\c∉s:=by
 rcases Ak (c:=c) s with⟨h1,h2⟩|⟨x,y,h1,h2,h3⟩
 ·
  rw[h2]at h;exact⟨(avv h).1,h1⟩
 rw[h3]at h;exact absurd (avv h).2 (Jk y)
theorem Jm{a b:cd}{r:List cd}(h:cV c s=a::b::r): ∃u,s=a++c::u/\c∉a/\cV c u=b::r:=by
 rcases Ak (c:=c) s with⟨h1,h2⟩|⟨x,y,h1,h2,h3⟩
 ·
  rw[h2]at h;cases(avv h).2
 rw[h3]at h;obtain⟨e1,e2⟩:=avv h;subst e1;exact⟨y,h1,h2,e2⟩
def Cx(s:cd):Array Value:= #[.string ⟨s.toArray⟩]
instance (s:cd):cc (Cx s) 0 (.string ⟨s.toArray⟩):=⟨rfl⟩
theorem Al(s:cd):(⟨s.toArray⟩:ByteArray).size=s.length:=by simp[ByteArray.size]
theorem Yk(s:cd)(i:Nat):(⟨s.toArray⟩:ByteArray)[i]? =s[i]? :=by
 by_cases h:i<s.length
 ·
  rw[ByteArray.getElem?_lt' _ _ (by rw[Al];exact h),asr h];rfl
 rw[ByteArray.getElem?_ge' _ _ (by rw[Al];exact h),ast (by omega)]
theorem Ym(s:ByteArray):s=⟨s.data.toList.toArray⟩:=by cases s;simp
theorem O2(c:UInt8): ∀s:cd,(cV c s).length<=s.length+1
 |[]=>by simp[cV]
 |x::s=>by
  have ih:=O2 c s;rw[cV];split
  ·
   simp;omega
  split
  ·
   simp
  rename_i p r h;rw[h]at ih;simp at ih⊢;omega
section
variable {P:Program} {N:ct} {w0:World} {env:Env} {L:List aj} {d:Option Tmp} {ty t u:TypeId} {ps:String} {af:Array Edge} {gd:Option (Nat×Bool)} {x y lo hi:Operand} {k k':IntKind} {a b s:cd}
theorem si(ht:P.underlying t=some .string)(hx:ev env x=some (.string ⟨s.toArray⟩)):
  Ry P N w0 env L ⟨d, .call {callee:= .builtin .len,args:= #[x],argTypes:= #[t]},ty,ps,af,gd⟩ (.int .i64 (s.length:Nat)):=fun aa w ha _=>by
 have h:(Builtin.len_ #[t] ty #[.string ⟨s.toArray⟩]).run P w= .ok (goInt s.length) w:=by
  rw[run_len_string w t ty _ ht,Al]
 simp[execOp,ha.ev hx,resolve,invoke,builtin,h,Result.andThen,goInt]
theorem ve{j:Int}(i:Nat)(hu:P.underlying t=some .string)(hx:ev env x=some (.string ⟨s.toArray⟩))(hj:ev env y=some (.int k j))(ej:j=(i:Int))(h:i<s.length):
  Ry P N w0 env L ⟨d, .index t x y,ty,ps,af,gd⟩ (.int .u8 ((s.getD i 0).toNat:Nat)):=XE hu hx hj (by omega) (by
 subst ej;rw[Yk,atu,asr h];simp[List.getD,h])
theorem Ry.as{o:Oper}{v v':Value}(h:Ry P N w0 env L o v)(e:v=v'):Ry P N w0 env L o v':=e▸h
theorem Yn{p:Nat}{v1 v2:Int}(hx:ev env x=some (.int .u8 v1))(hy:ev env y=some (.int k' v2))(ea:v1=p)(hp:p<16)(eb:v2=4:=by rfl):
  Ry P N w0 env L ⟨d, .binOp .shl t x y u,ty,ps,af,gd⟩ (.int .u8 ((p*16:Nat):Int)):=by
 subst ea eb;refine Ry.as (EH hx hy (by decide)) (congrArg (Value.int .u8) ?_);have e:((p:Int)*2^min (4:Int).toNat IntKind.u8.bits)=((p*16:Nat):Int):=by
  rw[show(2:Int)^min (4:Int).toNat IntKind.u8.bits=16 by decide];omega
 rw[e];exact pM (by simp only[nb];omega)
theorem Fa{p q:Nat}{v1 v2:Int}(hx:ev env x=some (.int k v1))(hy:ev env y=some (.int k v2))(ea:v1=p)(eb:v2=q)(h:q<=p)(h2:p<2^nb k:=by first|(simp only[nb];omega)|exact(UInt8.toNat_lt _)):
  Ry P N w0 env L ⟨d, .binOp .sub t x y u,ty,ps,af,gd⟩ (.int k ((p -q:Nat):Int)):=et hx hy (by
 subst ea eb;rw[lQ,show(p:Int) -(q:Int)=((p -q:Nat):Int) by omega,pM (by omega)])
end
variable {s a b:cd} {c:UInt8}
theorem O3(h:c∉s):Lib.index s [c]= -1:=by
 induction s with
 |nil=>rfl
 |cons x s ih=>
  have hx:x≠c:=fun e=>h (by simp[e]);have hp:([c]:cd).isPrefixOf (x::s)=false:=by
   simp only[List.isPrefixOf,Bool.and_true];simpa using fun e=>hx e.symm
  rw[Lib.index,hp,ih (fun hc=>h (asE _ hc))];rfl
theorem O4(h:c∉a):Lib.index (a++c::b) [c]=(a.length:Int):=by
 induction a with
 |nil=>
  rw[atc,Lib.index,if_pos (by simp[List.isPrefixOf])];rfl
 |cons x a ih=>
  have hx:x≠c:=fun e=>h (by simp[e]);have hp:([c]:cd).isPrefixOf (x::(a++c::b))=false:=by
   simp only[List.isPrefixOf,Bool.and_true];simpa using fun e=>hx e.symm
  rw[atA,Lib.index,hp,ih (fun hc=>h (asE _ hc)),if_neg (by simp),if_neg (by simp only[beq_iff_eq];omega)];simp
def eM(c:UInt8)(s:cd):cd×cd×Bool:=Lib.cut s [c]
theorem Yo(h:c∉s):eM c s=(s,[],false):=by
 rw[eM,Lib.cut,O3 h,if_neg (by decide)]
theorem Yp(h:c∉a):eM c (a++c::b)=(a,b,true):=by
 rw[eM,Lib.cut,O4 h,if_pos (by omega)];simp
theorem O5(c:UInt8): ∀(n:Nat) (s:ByteArray),s.size<=n->(Lib.splitB ⟨#[c]⟩ 0 (Lib.countB s ⟨#[c]⟩) s).map (·.data.toList)=cV c s.data.toList:=by
 intro n
 induction n with
 |zero=>
  intro s hs;have hz:s.data.toList=[]:=by
   apply asI.1;have:=Lib.size_eq s;omega
  have hi:Lib.indexB s ⟨#[c]⟩= -1:=by
   show Lib.index s.data.toList [c]= -1;rw[hz];rfl
  rw[Lib.splitB_miss _ _ _ _ hi,hz];simp[hz,cV]
 |succ n ih=>
  intro s hs;rcases Ak (c:=c) s.data.toList with⟨h1,h2⟩|⟨a,b,h1,h2,h3⟩
  ·
   have hi:Lib.indexB s ⟨#[c]⟩= -1:=O3 h1;rw[Lib.splitB_miss _ _ _ _ hi,h2];rfl
  have hi:Lib.indexB s ⟨#[c]⟩=(a.length:Int):=by
   show Lib.index s.data.toList [c]=_;rw[h1];exact O4 h2
  have fh:(⟨#[c]⟩:ByteArray).size=1:=rfl;have hlen:s.size=a.length+(b.length+1):=by rw[Lib.size_eq,h1];simp
  rw[Lib.countB_hit s _ a.length (by rw[fh];decide) hi,avh 1,Lib.splitB,if_neg (by rw[hi];simp only[beq_iff_eq];omega),hi,h3];have e1:((a.length:Int)).toNat=a.length:=by omega
  rw[e1,asL];have ed: ∀x y:Nat,(s.extract x y).data.toList=(s.data.toList.drop x).take (y -x):=fun x y=>Lib.extract_data s x y;have e2:(s.extract 0 (a.length+0)).data.toList=a:=by rw[ed,h1];simp
  have e3:(s.extract (a.length+(⟨#[c]⟩:ByteArray).size) s.size).data.toList=b:=by
   rw[ed,h1,fh,hlen];simp;exact asy (by omega)
  rw[e2,ih _ (by have:=Lib.size_eq (s.extract (a.length+(⟨#[c]⟩:ByteArray).size) s.size);rw[e3]at this;omega),e3]
theorem Yq(c:UInt8)(s:ByteArray):Lib.countB s ⟨#[c]⟩+1=(cV c s.data.toList).length:=by
 rw[←O5 c s.size s (asu _),as8,Lib.splitB_all _ (asu _) 0 _ s rfl]
end Go.ax
namespace Go.Kb
abbrev Key:=BitVec 128
def bk(k:Key)(i:Nat):Nat:=k.toNat/2^(8*(15 -i))%2^8
theorem jG(k:Key)(i:Nat):bk k i<256:=aun _ (by decide)
theorem Yr(k:Key)(i j:Nat)(hj:j<8):(bk k i).testBit j=k.toNat.testBit (8*(15 -i)+j):=by
 unfold bk;rw[Nat.testBit_mod_two_pow,auI];simp[hj,avh]
theorem Ys(k:Key)(n:Nat)(h:n<128):k.getMsbD n=k.toNat.testBit (127 -n):=by
 simp only[BitVec.getMsbD,BitVec.getLsbD,h,decide_true,ath]
theorem vf(k:Key)(n:Nat)(h:n<128):k.getMsbD n=(bk k (n/8)).testBit (7 -n%8):=by
 rw[Ys k n h,Yr k (n/8) (7 -n%8) (by omega)];congr 1;omega
theorem Jn(k:Key)(n:Nat)(h:128<=n):k.getMsbD n=false:=by
 simp only[BitVec.getMsbD];simp;omega
theorem wO{a b:Key}(h: ∀n,n<128->a.getMsbD n=b.getMsbD n):a=b:=BitVec.eq_of_getMsbD_eq fun i hi=>h i hi
theorem Yt{x y:Nat}(hx:x<256)(hy:y<256)(h: ∀j,j<8->x.testBit j=y.testBit j):x=y:=by
 refine auX fun j=>?_;rcases asx j 8 with hj|hj
 ·
  exact h j hj
 have hp:2^8<=2^j:=atv (by decide) hj;rw[aug (atd hx hp),aug (atd hy hp)]
theorem tV{a b:Key}(h: ∀i,i<16->bk a i=bk b i):a=b:=
 wO fun n hn=>by rw[vf a n hn,vf b n hn,h (n/8) (by omega)]
theorem Yu{k:Key}{i x:Nat}(hi:i<16)(hx:x<256)(h: ∀m,m<8->k.getMsbD (8*i+m)=x.testBit (7 -m)):bk k i=x:=
 Yt (jG k i) hx fun j hj=>by
  have:=h (7 -j) (by omega);rw[vf k _ (by omega),show(8*i+(7 -j))/8=i by omega,show 7 -(8*i+(7 -j))%8=j by omega,show 7 -(7 -j)=j by omega]at this;exact this
def nk(f:Nat->Nat):Key:=BitVec.ofNat 128 ((List.range 16).foldl (fun a i=>a*2^8+f i%2^8) 0)
theorem Fb(f:Nat->Nat): ∀n,(List.range n).foldl (fun a i=>a*2^8+f i%2^8) 0<2^(8*n)
 |0=>by simp
 |n+1=>by
  rw[atq,auZ];have:=Fb f n;have h2:f n%2^8<2^8:=aun _ (by decide);simp only[at4,List.foldl_nil];rw[Nat.mul_add,at2,Nat.pow_add];omega
theorem O6(f:Nat->Nat): ∀n i,i<n->(List.range n).foldl (fun a i=>a*2^8+f i%2^8) 0/2^(8*(n -1 -i))%2^8=f i%2^8
 |0,i,h=>by omega
 |n+1,i,h=>by
  rw[atq,auZ];simp only[at4,List.foldl_nil];generalize hF:(List.range n).foldl (fun a i=>a*2^8+f i%2^8) 0=F
  by_cases hi:i=n
  ·
   subst hi;rw[show i+1 -1 -i=0 by omega];simp
  have ih:=O6 f n i (by omega);rw[hF]at ih;rw[show 8*(n+1 -1 -i)=8+8*(n -1 -i) by omega,Nat.pow_add,←Nat.div_div_eq_div_mul];have:(F*2^8+f n%2^8)/2^8=F:=by
   have h2:f n%2^8<2^8:=aun _ (by decide);omega
  rw[this];exact ih
theorem sj(f:Nat->Nat)(i:Nat)(h:i<16):bk (nk f) i=f i%2^8:=by
 unfold bk nk;have e:((List.range 16).foldl (fun a i=>a*2^8+f i%2^8) 0)%2^128=(List.range 16).foldl (fun a i=>a*2^8+f i%2^8) 0:=as5 (Fb f 16);rw[auc,e];exact O6 f 16 i h
def Am(k:Key)(i x:Nat):Key:=nk fun j=>if j=i then x else bk k j
theorem Jo(k:Key)(i x j:Nat)(hj:j<16)(hx:x<256):bk (Am k i x) j=if j=i then x else bk k j:=by
 unfold Am;rw[sj _ j hj];split
 ·
  omega
 have:=jG k j;omega
def ck(k:Key):Array Value:=((List.range 16).map fun i=>Value.int .u8 (bk k i)).toArray
theorem gf(k:Key):(ck k).size=16:=by unfold ck;simp
theorem kO(k:Key)(i:Nat)(h:i<16):(ck k)[i]? =some (.int .u8 (bk k i)):=by unfold ck;simp[h]
theorem O7(k:Key)(i:Nat)(h:16<=i):(ck k)[i]? =none:=by unfold ck;simp;omega
theorem Jp{A:Array Value}{k:Key}(hs:A.size=16)(h: ∀i,i<16->A[i]? =some (.int .u8 (bk k i))):A=ck k:=by
 apply atM;intro i;rcases asx i 16 with hi|hi
 ·
  rw[h i hi,kO k i hi]
 rw[O7 k i hi];simp;omega
theorem Yv(k:Key)(i x:Nat)(hi:i<16)(hx:x<256):(ck k).setIfInBounds i (.int .u8 x)=ck (Am k i x):=by
 refine Jp (by simp[gf]) fun j hj=>?_;rw[atg,Jo k i x j hj hx]
 by_cases h:i=j
 ·
  subst h;simp[gf,hi]
 rw[if_neg h,if_neg (fun e=>h e.symm),kO k j hj]
theorem O8{a b:Key}(h:ck a=ck b):a=b:=tV fun i hi=>by
 have h1:=kO a i hi;rw[h,kO b i hi]at h1;simp at h1;omega
def dU(k:Key)(n:Int):Key:=if n<1 then 0#128 else(k>>>(128 -n.toNat))<<<(128 -n.toNat)
theorem tW(k:Key)(n:Int)(i:Nat):(dU k n).getMsbD i=(decide ((i:Int)<n)&&k.getMsbD i):=by
 unfold dU;split
 ·
  have: ¬((i:Int)<n):=by omega
  simp[this]
 rcases asx i 128 with hi|hi
 ·
  rw[BitVec.getMsbD_shiftLeft,BitVec.getMsbD_ushiftRight]
  by_cases hn:(i:Int)<n
  ·
   have h1:i+(128 -n.toNat)<128:=by omega
   have h2:i+(128 -n.toNat) -(128 -n.toNat)=i:=by omega
   simp[hn,h1,h2]
  have h1: ¬i+(128 -n.toNat)<128:=by omega
  simp[hn,h1]
 rw[Jn _ _ hi,Jn _ _ hi];simp
theorem O9(k:Key)(n:Int)(h:128<=n):dU k n=k:=wO fun i hi=>by
 rw[tW];have:(i:Int)<n:=by omega
 simp[this]
theorem Fc(k:Key)(n:Int)(h:n<1):dU k n=0#128:=by unfold dU;rw[if_pos h]
theorem Pa(k:Key)(n m:Int):dU (dU k n) m=dU k (min n m):=wO fun i _=>by
 rw[tW,tW,tW,←Bool.and_assoc];congr 1;rw[←Bool.decide_and,decide_eq_decide];omega
theorem Fe(k:Key)(n:Int):dU k n=k↔ ∀i:Nat,i<128->n<=(i:Int)->k.getMsbD i=false:=by
 constructor
 ·
  intro h i hi hn;rw[←h,tW];have: ¬(i:Int)<n:=by omega
  simp[this]
 intro h;refine wO fun i hi=>?_;rw[tW]
 by_cases hn:(i:Int)<n
 ·
  simp[hn]
 rw[h i hi (by omega)];simp
theorem Cy(k:Key)(n:Nat)(i:Nat)(hi:i<16):bk (dU k n) i=if 8*i+8<=n then bk k i else if 8*i<=n then bk k i/2^(8 -(n -8*i))*2^(8 -(n -8*i))else 0:=by
 have hb:=jG k i;have bc:(if 8*i+8<=n then bk k i else if 8*i<=n then bk k i/2^(8 -(n -8*i))*2^(8 -(n -8*i))else 0)<256:=by
  split
  ·
   exact hb
  split
  ·
   exact aud (Nat.div_mul_le_self _ _) hb
  omega
 refine Yu hi bc fun m hm=>?_;rw[tW,vf k _ (by omega),show(8*i+m)/8=i by omega,show 7 -(8*i+m)%8=7 -m by omega];split
 ·
  have:((8*i+m:Nat):Int)<(n:Int):=by omega
  simp only[this,decide_true,ath]
 split
 ·
  generalize ht:8 -(n -8*i)=t;rw[Nat.testBit_mul_two_pow,auI]
  by_cases bc:((8*i+m:Nat):Int)<(n:Int)
  ·
   have h1:t<=7 -m:=by omega
   simp only[bc,h1,decide_true,ath];rw[show 7 -m -t+t=7 -m by omega]
  have h1: ¬t<=7 -m:=by omega
  simp only[bc,h1,decide_false,auG]
 have: ¬((8*i+m:Nat):Int)<(n:Int):=by omega
 simp only[this,decide_false,auG,Nat.zero_testBit]
def re(k:Key)(n:Int):Int:=if 0<=n/\n<128 then(if k.getMsbD n.toNat then 1 else 0)else 0
theorem Yw(x j:Nat):((x/2^j%2:Nat):Int)=if x.testBit j then 1 else 0:=by
 rw[Nat.testBit_eq_decide_div_mod_eq]
 by_cases h:x/2^j%2=1
 ·
  simp[h]
 have:x/2^j%2=0:=by omega
 simp[this]
theorem Yx(k:Key)(n:Int)(h0:0<=n)(h1:n<128):re k n=((bk k (n/8).toNat/2^(7 -n%8).toNat%2:Nat):Int):=by
 unfold re;rw[if_pos ⟨h0,h1⟩,Yw,vf k n.toNat (by omega)];rw[show(n/8).toNat=n.toNat/8 by omega,show(7 -n%8).toNat=7 -n.toNat%8 by omega]
theorem wP(k:Key)(n:Int):0<=re k n/\re k n<=1:=by unfold re;split<;>(try split)<;>omega
theorem Ff(k:Key)(n:Nat):re k n=if k.getMsbD n then 1 else 0:=by
 unfold re;rcases asx n 128 with h|h
 ·
  rw[if_pos (by omega)];simp
 rw[if_neg (by omega),Jn k n h];simp
def je(k:Key)(n:Int):Int:=if 0<=n/\n<32 then 8*re k (4*n)+4*re k (4*n+1)+2*re k (4*n+2)+re k (4*n+3)else 0
theorem Yy(k:Key)(n:Int)(h:n<0\/32<=n):je k n=0:=by unfold je;rw[if_neg (by omega)]
theorem wQ(k:Key)(i j:Nat)(hi:i<16)(hj:j<8):re k ((8*i+j:Nat):Int)=((bk k i/2^(7 -j)%2:Nat):Int):=by
 rw[Yx k _ (by omega) (by omega)];rw[show(((8*i+j:Nat):Int)/8).toNat=i by omega,show(7 -((8*i+j:Nat):Int)%8).toNat=7 -j by omega]
theorem Yz(b:Nat)(h:b<256):8*(b/2^7%2)+4*(b/2^6%2)+2*(b/2^5%2)+b/2^4%2=b/2^4:=by
 simp only[Nat.reducePow];omega
theorem YA(b:Nat):8*(b/2^3%2)+4*(b/2^2%2)+2*(b/2^1%2)+b/2^0%2=b%16:=by
 simp only[Nat.reducePow];omega
theorem YB(k:Key)(n:Int)(h0:0<=n)(h1:n<32)(he:n%2=0):je k n=((bk k (n/2).toNat/2^4:Nat):Int):=by
 unfold je;rw[if_pos ⟨h0,h1⟩];generalize hi:(n/2).toNat=i;have e0:4*n=((8*i+0:Nat):Int):=by omega
 have e1:4*n+1=((8*i+1:Nat):Int):=by omega
 have e2:4*n+2=((8*i+2:Nat):Int):=by omega
 have e3:4*n+3=((8*i+3:Nat):Int):=by omega
 rw[e1,e2,e3,e0,wQ k i 0 (by omega) (by omega),wQ k i 1 (by omega) (by omega),wQ k i 2 (by omega) (by omega),wQ k i 3 (by omega) (by omega)];have:=Yz (bk k i) (jG k i);simp only[Nat.reduceSub]at*;omega
theorem YC(k:Key)(n:Int)(h0:0<=n)(h1:n<32)(he:n%2=1):je k n=((bk k (n/2).toNat%16:Nat):Int):=by
 unfold je;rw[if_pos ⟨h0,h1⟩];generalize hi:(n/2).toNat=i;have e0:4*n=((8*i+4:Nat):Int):=by omega
 have e1:4*n+1=((8*i+5:Nat):Int):=by omega
 have e2:4*n+2=((8*i+6:Nat):Int):=by omega
 have e3:4*n+3=((8*i+7:Nat):Int):=by omega
 rw[e1,e2,e3,e0,wQ k i 4 (by omega) (by omega),wQ k i 5 (by omega) (by omega),wQ k i 6 (by omega) (by omega),wQ k i 7 (by omega) (by omega)];have:=YA (bk k i);simp only[Nat.reduceSub]at*;omega
structure bt where
 bits:Int
 len:Int
 key:Key
 deriving DecidableEq
def bw(p:bt):Bool:=decide (p.bits=32\/p.bits=128)&&decide (0<=p.len)&&decide (p.len<=p.bits)&&decide (dU p.key p.len=p.key)
theorem wR(p:bt):bw p=true↔(p.bits=32\/p.bits=128)/\0<=p.len/\p.len<=p.bits/\dU p.key p.len=p.key:=by
 unfold bw;simp[and_assoc]
def Jq(p:bt)(k:Key):Bool:=bw p&&decide (dU k p.bits=k)&&decide (dU k p.len=p.key)
def YD(p q:bt):Bool:=bw p&&bw q&&decide (p.bits=q.bits)&&decide (p.len<=q.len)&&decide (dU q.key p.len=p.key)
def cO(p q:bt):Bool:=bw p&&bw q&&(if p.bits≠q.bits then decide (p.bits=32)else if p.key≠q.key then decide (p.key.toNat<q.key.toNat)else decide (p.len<q.len))
def cP(p:bt):Array Value:= #[.int .i64 p.bits, .int .i64 p.len]++ck p.key
theorem qx(p:bt):(cP p).size=18:=by unfold cP;rw[auJ,gf];rfl
theorem yy(p:bt):(cP p)[0]? =some (.int .i64 p.bits):=by unfold cP;rw[auz];rfl
theorem yz(p:bt):(cP p)[1]? =some (.int .i64 p.len):=by unfold cP;rw[auz];rfl
theorem qy(p:bt)(j:Nat):(cP p)[2+j]? =(ck p.key)[j]? :=by
 unfold cP;rw[auz,if_neg (by simp)];congr 1;simp
theorem Pb{a b:bt}(h:cP a=cP b):a=b:=by
 have h0:=yy a;rw[h,yy]at h0;have h1:=yz a;rw[h,yz]at h1;have h2:a.key=b.key:=O8 (atM fun i=>by rw[←qy,←qy,h])
 cases a;cases b
 simp at h0 h1 h2⊢;exact⟨h0.symm,h1.symm,h2⟩
theorem Pc(k:Key):nk (bk k)=k:=tV fun i hi=>by
 rw[sj _ i hi];have:=jG k i;omega
theorem Pd{a b:Key}{i:Nat}(hi:i<16)(hs: ∀j,j<i->bk a j=bk b j)(hd:bk a i<bk b i):a.toNat<b.toNat:=by
 have key: ∀n,n<=16->i<n->(List.range n).foldl (fun x j=>x*2^8+bk a j%2^8) 0<(List.range n).foldl (fun x j=>x*2^8+bk b j%2^8) 0:=by
  intro n
  induction n with
  |zero=>intro _ h;omega
  |succ n ih=>
   intro hn iE;rw[atq,auZ,auZ];simp only[at4,List.foldl_nil];have ha:=jG a n;have hb:=jG b n
   by_cases h:i=n
   ·
    subst h;have e:(List.range i).foldl (fun x j=>x*2^8+bk a j%2^8) 0=(List.range i).foldl (fun x j=>x*2^8+bk b j%2^8) 0:=by
     have aux: ∀(l:List Nat) (z:Nat),(∀j∈l,bk a j=bk b j)->l.foldl (fun x j=>x*2^8+bk a j%2^8) z=l.foldl (fun x j=>x*2^8+bk b j%2^8) z:=by
      intro l
      induction l with
      |nil=>intro z _;rfl
      |cons x l ih=>intro z hl;simp only[at4];rw[hl x (by simp)];exact ih _ fun j hj=>hl j (by simp[hj])
     exact aux _ _ fun j hj=>hs j (asU.1 hj)
    rw[e];omega
   have:=ih (by omega) (by omega);omega
 have Pe:=key 16 (asu _) hi;have ea:a.toNat=(List.range 16).foldl (fun x j=>x*2^8+bk a j%2^8) 0:=by
  conv=>lhs;rw[←Pc a]
  unfold nk;rw[auc];exact as5 (Fb (bk a) 16)
 have eb:b.toNat=(List.range 16).foldl (fun x j=>x*2^8+bk b j%2^8) 0:=by
  conv=>lhs;rw[←Pc b]
  unfold nk;rw[auc];exact as5 (Fb (bk b) 16)
 rw[ea,eb];exact Pe
def rf(a b:Key):Int:=if a.toNat<b.toNat then -1 else if b.toNat<a.toNat then 1 else 0
theorem Pf(a b:Key):rf a b=0↔a=b:=by
 unfold rf;constructor
 ·
  intro h;split at h
  ·
   omega
  split at h
  ·
   omega
  exact BitVec.eq_of_toNat_eq (by omega)
 rintro rfl;simp
theorem YE(a b:Key):rf a b<0↔a.toNat<b.toNat:=by
 unfold rf;split
 ·
  simp[*]
 split<;>simp[*]
theorem Jr(p:bt)(k:Key):Jq p k=true↔bw p=true/\dU k p.bits=k/\dU k p.len=p.key:=by
 unfold Jq;simp[and_assoc]
theorem Fg(p:bt):bw p=true↔(p.bits=32\/p.bits=128)/\0<=p.len/\p.len<=p.bits/\ ∀i:Nat,i<128->p.len<=(i:Int)->p.key.getMsbD i=false:=by
 rw[wR,Fe]
theorem nn{p q:bt}(hp:bw p=true)(hq:bw q=true):cO p q=true↔p.bits<q.bits\/(p.bits=q.bits/\(p.key.toNat<q.key.toNat\/(p.key.toNat=q.key.toNat/\p.len<q.len))):=by
 obtain⟨p1,_⟩:=(wR p).1 hp;obtain⟨q1,_⟩:=(wR q).1 hq;have ek:p.key=q.key↔p.key.toNat=q.key.toNat:=⟨fun h=>by rw[h],BitVec.eq_of_toNat_eq⟩;unfold cO;rw[hp,hq,ath,ath]
 by_cases hb:p.bits=q.bits
 ·
  rw[if_neg (by simpa using hb)]
  by_cases hk:p.key=q.key
  ·
   rw[if_neg (by simpa using hk)];rw[ek]at hk;simp;omega
  rw[if_pos hk];rw[ek]at hk;simp;omega
 rw[if_pos hb];simp;omega
theorem YF{p q:bt}:p=q↔p.bits=q.bits/\p.key.toNat=q.key.toNat/\p.len=q.len:=by
 constructor
 ·
  rintro rfl;exact⟨rfl,rfl,rfl⟩
 rintro⟨h1,h2,h3⟩;have:=BitVec.eq_of_toNat_eq h2
 cases p;cases q;simp_all
structure Rt where
 p:bt
 bH:UInt16
 deriving DecidableEq
def dM:Rt:=⟨⟨0,0,0#128⟩,0⟩
def ay(r:Rt):Array Value:=cP r.p++ #[.int .u16 r.bH.toNat]
theorem kP(r:Rt):(ay r).size=19:=by unfold ay;rw[auJ,qx];rfl
theorem pP(r:Rt)(j:Nat)(h:j<18):(ay r)[j]? =(cP r.p)[j]? :=by
 unfold ay;rw[auR (by rw[qx];exact h)]
theorem yA(r:Rt):(ay r)[18]? =some (.int .u16 r.bH.toNat):=by
 unfold ay;rw[Array.getElem?_append_right (by rw[qx];omega),qx];rfl
def sk(xs:List Rt)(i:Nat):Bool:=match xs[i]?with
 |none=>true
 |some r=>bw r.p&&match i with
  |0=>true
  |j+1=>match xs[j]?with
   |none=>true
   |some q=>cO q.p r.p
def sq(xs:List Rt)(n:Nat):Bool:=(List.range n).all (sk xs)
def bF(xs:List Rt):Bool:=decide (xs.length<=256)&&sq xs xs.length
theorem Pg(xs:List Rt):sq xs 0=true:=rfl
theorem Js(xs:List Rt)(n:Nat):sq xs (n+1)=(sq xs n&&sk xs n):=by
 simp[sq,atq]
theorem Ph{xs:List Rt}(h:256<xs.length):bF xs=false:=by
 simp[bF];omega
theorem Fh{xs:List Rt}{i:Nat}(hi:i<xs.length)(h:sk xs i=false):bF xs=false:=by
 have:sq xs xs.length=false:=by
  rw[sq,List.all_eq_false];exact⟨i,asU.2 hi,by simp[h]⟩
 simp[bF,this]
theorem Pj{xs:List Rt}(h:xs.length<=256)(ho:sq xs xs.length=true):bF xs=true:=by simp[bF,h,ho]
theorem Pk{xs:List Rt}{i:Nat}{r:Rt}(hi:xs[i]? =some r)(h:bw r.p=false):sk xs i=false:=by simp[sk,hi,h]
theorem Jt{xs:List Rt}{r:Rt}(hi:xs[0]? =some r):sk xs 0=bw r.p:=by simp[sk,hi]
theorem Fi{xs:List Rt}{i:Nat}{q r:Rt}(hi:xs[i+1]? =some r)(hq:xs[i]? =some q):sk xs (i+1)=(bw r.p&&cO q.p r.p):=by simp[sk,hi,hq]
theorem YG{xs:List Rt}{i:Nat}{q r:Rt}(h0:0<i)(hi:xs[i]? =some r)(hq:xs[i -1]? =some q):sk xs i=(bw r.p&&cO q.p r.p):=by
 obtain⟨j,rfl⟩: ∃j,i=j+1:=⟨i -1,by omega⟩;exact Fi hi (by simpa using hq)
theorem Pm{xs:List Rt}{i:Nat}{q r:Rt}(hi:xs[i]? =some r)(hq:xs[i -1]? =some q):sk xs i=(bw r.p&& !(decide (0<(i:Int))&& !cO q.p r.p)):=by
 rcases atW i with h|h
 ·
  subst h;rw[Jt hi];simp
 rw[YG h hi hq];simp[h]
theorem get_some{α:Type}{xs:List α}{i:Nat}(h:i<xs.length): ∃r,xs[i]? =some r:=⟨xs[i],by simp[h]⟩
theorem YH{a b:Rt}(h:ay a=ay b):a=b:=by
 have hp:cP a.p=cP b.p:=atM fun j=>by
  rcases asx j 18 with hj|hj
  ·
   rw[←pP a j hj,←pP b j hj,h]
  rw[at1 (by rw[qx];exact hj),at1 (by rw[qx];exact hj)]
 have hh:=yA a;rw[h,yA b]at hh;have e1:b.bH=a.bH:=by
  apply UInt16.toNat_inj.1;simp only[at0,Value.int.injEq,true_and]at hh;omega
 obtain⟨p,q⟩:=a;obtain⟨p',q'⟩:=b;simp only at e1 hp;rw[Pb hp,e1]
theorem YI{α:Type}{xs ys:List α}{i:Nat}{a b:α}(ha:xs[i]? =some a)(hb:ys[i]? =some b)(h: ¬a=b): ¬xs=ys:=fun e=>by
 rw[e,hb]at ha;exact h (aso ha).symm
theorem YJ{α:Type}{xs ys:List α}(hl:xs.length=ys.length)(h: ∀j,j<xs.length->xs[j]? =ys[j]?):xs=ys:=atj fun j=>by
 rcases asx j xs.length with hj|hj
 ·
  exact h j hj
 rw[ast hj,ast (by omega)]
open Go.ax
variable {s:cd} {c:UInt8} {k:Key}
def yB(n:Nat):UInt8:=if n<10 then UInt8.ofNat (48+n)else UInt8.ofNat (87+n)
def lu(c:UInt8):Option Nat:=if 48<=c.toNat/\c.toNat<=57 then some (c.toNat -48)else if 97<=c.toNat/\c.toNat<=102 then some (c.toNat -87)else none
theorem YK{n:Nat}(h:n<16):(yB n).toNat=if n<10 then 48+n else 87+n:=by
 unfold yB;split
 ·
  rw[UInt8.toNat_ofNat'];omega
 rw[UInt8.toNat_ofNat'];omega
theorem Fj{n:Nat}(h:n<16):lu c=some n↔c=yB n:=by
 have ht:=YK h;constructor
 ·
  intro h1;apply atT.1;rw[ht];unfold lu at h1;split at h1
  ·
   have:=aso h1;split<;>omega
  split at h1
  ·
   have:=aso h1;split<;>omega
  cases h1
 rintro rfl;unfold lu;rw[ht];split
 ·
  rw[if_pos (by omega)];congr 1;omega
 rw[if_neg (by omega),if_pos (by omega)];congr 1;omega
theorem Ju{n:Nat}(h:lu c=some n):n<16:=by
 unfold lu at h;split at h
 ·
  have:=aso h;omega
 split at h
 ·
  have:=aso h;omega
 cases h
theorem YL{n:Nat}(h:n<16){c:UInt8}(hc:lu c=none):yB n≠c:=fun e=>by
 have:=(Fj h).2 e.symm;rw[hc]at this;cases this
def An(k:Key):cd:=dec (bk k 0)++46::(dec (bk k 1)++46::(dec (bk k 2)++46::dec (bk k 3)))
def sr(k:Key)(i:Nat):Nat:=if i%2=0 then bk k (i/2)/16 else bk k (i/2)%16
theorem Jv(k:Key)(i:Nat):sr k i<16:=by
 have:=jG k (i/2);unfold sr;split<;>omega
def su(k:Key):cd:=(List.range 32).map fun i=>yB (sr k i)
def Cz(k:Key)(bits:Int):cd:=if bits=32 then An k else su k
def four(a b c d:Nat):Key:=nk fun i=>if i=0 then a else if i=1 then b else if i=2 then c else if i=3 then d else 0
def kQ(s:cd):Option Key:=match cV 46 s with
 |[a,b,c,d]=>match c6 a 255,c6 b 255,c6 c 255,c6 d 255 with
  |some a,some b,some c,some d=>some (four a b c d)
  |_,_,_,_=>none
 |_=>none
def Fk(s:cd):Bool:=s.all fun c=>(lu c).isSome
def ly(s:cd)(i:Nat):Nat:=(lu (s.getD i 0)).getD 0
def Ao(s:cd):Key:=nk fun i=>16*ly s (2*i)+ly s (2*i+1)
def np(s:cd):Option Key:=if s.length=32/\Fk s=true then some (Ao s)else none
def nQ(s:cd):Option (Key×Int):=match kQ s with
 |some k=>some (k,32)
 |none=>(np s).map fun k=>(k,128)
theorem yC{a b c d:Nat}(ha:a<=255)(hb:b<=255)(hc:c<=255)(hd:d<=255){i:Nat}(hi:i<16):bk (four a b c d) i=if i=0 then a else if i=1 then b else if i=2 then c else if i=3 then d else 0:=by
 rw[four,sj _ _ hi];split
 ·
  omega
 split
 ·
  omega
 split
 ·
  omega
 split<;>omega
theorem Pn:dU k 32=k↔ ∀i,4<=i->i<16->bk k i=0:=by
 constructor
 ·
  intro h i h1 h2;have:=Cy k 32 i h2;rw[show dU k ((32:Nat):Int)=k from h]at this;rw[this,if_neg (by omega)];split
  ·
   have hb:=jG k i;obtain rfl:i=4:=by omega
   rw[show(8 -(32 -8*4))=8 by decide];omega
  rfl
 intro h;refine tV fun i hi=>?_;rw[show dU k 32=dU k ((32:Nat):Int)from rfl,Cy k 32 i hi];split
 ·
  rfl
 have:=h i (by omega) hi;rw[this];split<;>simp
theorem Po:kQ s=some k↔dU k 32=k/\s=An k:=by
 constructor
 ·
  intro h;unfold kQ at h;split at h
  ·
   rename_i a b c d hs;obtain⟨u1,e1,_,h1⟩:=Jm hs;obtain⟨u2,e2,_,h2⟩:=Jm h1;obtain⟨u3,e3,_,h3⟩:=Jm h2;obtain⟨e4,_⟩:=Yj h3;split at h
   ·
    rename_i na nb nc nd ha hb hc hd;obtain⟨ea,la⟩:=lU.1 ha;obtain⟨eb,lb⟩:=lU.1 hb;obtain⟨ec,lc⟩:=lU.1 hc;obtain⟨ed,ld⟩:=lU.1 hd;obtain rfl:=aso h;refine⟨Pn.2 fun i h1 h2=>?_,?_⟩
    ·
     rw[yC la lb lc ld h2,if_neg (by omega),if_neg (by omega),if_neg (by omega),if_neg (by omega)]
    rw[An,yC la lb lc ld (by decide),yC la lb lc ld (by decide),yC la lb lc ld (by decide),yC la lb lc ld (by decide)];simp only[if_true,Nat.one_ne_zero,if_false,(by decide:(2:Nat)≠0),(by decide:(2:Nat)≠1),(by decide:(3:Nat)≠0),(by decide:(3:Nat)≠1),(by decide:(3:Nat)≠2)];rw[e1,e2,e3,e4,ea,eb,ec,ed]
   cases h
  cases h
 rintro⟨h,rfl⟩;have hn: ∀n,(46:UInt8)∉dec n:=fun n=>O1 (by decide);have hs:cV 46 (An k)=[dec (bk k 0),dec (bk k 1),dec (bk k 2),dec (bk k 3)]:=by
  rw[An,E9 (hn _),E9 (hn _),E9 (hn _),Jl (hn _)]
 have hl: ∀i,bk k i<=255:=fun i=>by have:=jG k i;omega
 have e:kQ (An k)=some (four (bk k 0) (bk k 1) (bk k 2) (bk k 3)):=by
  unfold kQ;rw[hs];simp only[Jj (hl _)]
 rw[e];refine congrArg some (tV fun i hi=>?_);rw[yC (hl _) (hl _) (hl _) (hl _) hi];rcases asx i 4 with h4|h4
 ·
  have:i=0\/i=1\/i=2\/i=3:=by omega
  rcases this with rfl|rfl|rfl|rfl<;>simp
 rw[if_neg (by omega),if_neg (by omega),if_neg (by omega),if_neg (by omega),Pn.1 h i h4 hi]
theorem Pp(k:Key){i:Nat}(h:i<32):(su k)[i]? =some (yB (sr k i)):=by simp[su,h]
theorem Pq(k:Key):(su k).length=32:=by simp[su]
theorem Pr(k:Key){i:Nat}(h:i<32):ly (su k) i=sr k i:=by
 unfold ly;rw[List.getD,Pp k h,auC,(Fj (Jv k i)).2 rfl];rfl
theorem YM(k:Key):Fk (su k)=true:=by
 unfold Fk su;rw[List.all_map,asD];intro i _;simp only[Function.comp];rw[(Fj (Jv k i)).2 rfl];rfl
theorem Ps:np s=some k↔s=su k:=by
 constructor
 ·
  intro h;unfold np at h;split at h
  ·
   rename_i h1;obtain⟨hl,ha⟩:=h1;obtain rfl:=aso h;have hh: ∀i,i<32-> ∃n,n<16/\s[i]? =some (yB n)/\ly s i=n:=fun i hi=>by
    have dK:i<s.length:=by omega
    have hm:s[i]? =some (s.getD i 0):=by simp[List.getD,dK]
    have:=asD.1 ha _ (anc hm);obtain⟨n,hn⟩:=atr.1 this;have bc:=Ju hn;exact⟨n,bc,by rw[hm,(Fj bc).1 hn],by rw[ly,hn];rfl⟩
   have hb: ∀j,j<16->bk (Ao s) j=16*ly s (2*j)+ly s (2*j+1):=fun j hj=>by
    obtain⟨n,h1,_,h2⟩:=hh (2*j) (by omega);obtain⟨m,h3,_,h4⟩:=hh (2*j+1) (by omega);rw[Ao,sj _ _ hj];omega
   refine atj fun i=>?_;rcases asx i 32 with hi|hi
   ·
    obtain⟨n,h1,h2,h3⟩:=hh i hi;rw[h2,Pp _ hi];have hn:sr (Ao s) i=n:=by
     unfold sr;rw[hb (i/2) (by omega)];have wS:=fun j (hj:j<32)=>hh j hj;split
     ·
      rename_i he;obtain⟨m,h5,_,h6⟩:=hh (2*(i/2)+1) (by omega);rw[show 2*(i/2)=i by omega,h3,show i+1=2*(i/2)+1 by omega,h6];omega
     rename_i he;obtain⟨m,h5,_,h6⟩:=hh (2*(i/2)) (by omega);rw[show 2*(i/2)+1=i by omega,h3,h6];omega
    rw[hn]
   rw[ast (by omega),ast (by rw[Pq];omega)]
  cases h
 rintro rfl;unfold np;rw[if_pos ⟨Pq k,YM k⟩];congr 1;refine tV fun j hj=>?_;rw[Ao,sj _ _ hj,Pr k (by omega),Pr k (by omega)];have hb:=jG k j;have e1:sr k (2*j)=bk k j/16:=by unfold sr;rw[if_pos (by omega),show 2*j/2=j by omega]
 have e2:sr k (2*j+1)=bk k j%16:=by unfold sr;rw[if_neg (by omega),show(2*j+1)/2=j by omega]
 rw[e1,e2];omega
theorem YN(k:Key){c:UInt8}(hc:lu c=none):c∉su k:=fun h=>by
 obtain⟨i,_,hi⟩:=atw.1 h;exact YL (Jv k i) hc hi
theorem YO(k:Key):kQ (su k)=none:=by
 unfold kQ;rw[Jl (YN k (by decide))]
theorem YP{b:Int}:nQ s=some (k,b)↔bw ⟨b,b,k⟩=true/\s=Cz k b:=by
 rw[wR];simp only;constructor
 ·
  intro h;unfold nQ at h;split at h
  ·
   rename_i k' hk;obtain⟨rfl,rfl⟩:=Prod.mk.inj (aso h);obtain⟨h1,h2⟩:=Po.1 hk;exact⟨⟨.inl rfl,by decide,atx _,h1⟩,by rw[Cz,if_pos rfl];exact h2⟩
  obtain⟨k',hk,he⟩:=aur.1 h;obtain⟨rfl,rfl⟩:=Prod.mk.inj he;exact⟨⟨.inr rfl,by decide,atx _,O9 _ _ (atx _)⟩,by rw[Cz,if_neg (by decide)];exact Ps.1 hk⟩
 rintro⟨⟨h1,_,_,h2⟩,rfl⟩;rcases h1 with rfl|rfl
 ·
  rw[Cz,if_pos rfl,nQ,Po.2 ⟨h2,rfl⟩]
 rw[Cz,if_neg (by decide),nQ,YO,Ps.2 rfl];rfl
def nq(s:cd):Option bt:=match cV 47 s with
 |[a,b]=>match nQ a,c6 b 128 with
  |some (k,bits),some n=>if bw ⟨bits,(n:Int),k⟩=true then some ⟨bits,(n:Int),k⟩else none
  |_,_=>none
 |_=>none
def tX(s:cd):Option Rt:=match cV 32 s with
 |[a,b]=>match nq a,c6 b 65535 with
  |some p,some n=>some ⟨p,UInt16.ofNat n⟩
  |_,_=>none
 |_=>none
variable {s:cd} {i n top:Nat} {c:UInt8}
def sA(c:UInt8):Int:=match lu c with
 |some n=>(n:Int)
 |none=> -1
def CA(s:cd)(top:Nat):Int:=match c6 s top with
 |some n=>(n:Int)
 |none=> -1
theorem Pt(h:i<s.length):s.take (i+1)=s.take i++[s.getD i 0]:=by
 rw[atU h];simp[List.getD,h]
theorem Fl(h:i<s.length):val (s.take (i+1))=10*val (s.take i)+((s.getD i 0).toNat -48):=by rw[Pt h,E6]
theorem Pu(h:i<s.length)(h1:(s.take i).all lT=true)(h2:48<=(s.getD i 0).toNat/\(s.getD i 0).toNat<=57):(s.take (i+1)).all lT=true:=by
 rw[Pt h,List.all_append,h1];simp only[auo,auD,lT];simpa using h2
theorem YQ: ∀k (s:cd),s.length=k->s.all lT=true->val s<10^k:=by
 intro k
 induction k with
 |zero=>intro s hl _;rw[asI.1 hl];simp[val]
 |succ k ih=>
  intro s hl hd;obtain⟨t,c,rfl⟩: ∃t c,s=t++[c]:=by
   rcases List.eq_nil_or_concat s with h|⟨t,c,h⟩
   ·
    subst h;simp at hl
   exact⟨t,c,by simpa using h⟩
  rw[List.all_append,alM]at hd;have hc:48<=c.toNat/\c.toNat<=57:=by
   have:=hd.2;simpa[lT]using this
  have:=ih t (by simpa using hl) hd.1;rw[E6,Nat.pow_succ];omega
theorem YR(h:i<=5)(hi:i<=s.length)(h1:(s.take i).all lT=true):val (s.take i)<100000:=by
 have:=YQ i (s.take i) (by simp;omega) h1;exact atd this (atv (by decide) h)
theorem YS(a b:cd):val a<=val (a++b):=by
 have key: ∀(b:cd) (m:Nat),m<=b.foldl (fun a c=>10*a+(c.toNat -48)) m:=by
  intro b
  induction b with
  |nil=>intro m;exact asu _
  |cons x b ih=>intro m;exact auO (show m<=10*m+(x.toNat -48) by omega) (ih _)
 unfold val;rw[auZ];exact key b _
theorem Jw(h:0<s.length):s.head?=some (s.getD 0 0):=by
 cases s with
 |nil=>simp at h
 |cons x s=>rfl
theorem YT(ht:top<=65535)(h:s.length=0\/5<s.length\/(1<s.length/\(s.getD 0 0).toNat=48)):c6 s top=none:=by
 cases e:c6 s top with
 |none=>rfl
 |some n=>
  obtain⟨rfl,hn⟩:=lU.1 e;have hl:=Yi 5 n (by omega) (by decide);have hp:=Jh n;have h0:=auN.2 hp.1;rcases h with h|h|⟨h,h2⟩
  ·
   omega
  ·
   omega
  rcases hp.2 with h3|h3
  ·
   omega
  rw[Jw h0]at h3;exact absurd (congrArg some (atT.1 h2:(dec n).getD 0 0=48)) h3
theorem YU(h:s=[]\/(1<s.length/\(s.getD 0 0).toNat=48)):c6 s top=none:=by
 cases e:c6 s top with
 |none=>rfl
 |some n=>
  obtain⟨rfl,hn⟩:=lU.1 e;have hp:=Jh n;have h0:=auN.2 hp.1;rcases h with h|⟨h,h2⟩
  ·
   exact absurd h hp.1
  rcases hp.2 with h3|h3
  ·
   omega
  rw[Jw h0]at h3;exact absurd (congrArg some (atT.1 h2:(dec n).getD 0 0=48)) h3
theorem Pv(h:i<s.length)(h2:(s.getD i 0).toNat<48\/57<(s.getD i 0).toNat):c6 s top=none:=by
 cases e:c6 s top with
 |none=>rfl
 |some n=>
  obtain⟨rfl,hn⟩:=lU.1 e;have:=asD.1 (Jf n) ((dec n).getD i 0) (by simp[List.getD,h]);simp only[lT,decide_eq_true_eq]at this;omega
theorem Pw(h:top<val (s.take i)):c6 s top=none:=by
 cases e:c6 s top with
 |none=>rfl
 |some n=>
  obtain⟨rfl,hn⟩:=lU.1 e;have:=YS ((dec n).take i) ((dec n).drop i);rw[asR,Jg]at this;omega
theorem Px(h:s≠[])(h1: ¬(1<s.length/\(s.getD 0 0).toNat=48))(h2:s.all lT=true)(h3:val s<=top):c6 s top=some (val s):=by
 unfold c6;rw[if_pos];refine⟨h,?_,h2,h3⟩;have h0:=auN.2 h;rcases asx 1 s.length with h4|h4
 ·
  right;rw[Jw h0];intro e;exact h1 ⟨h4,by rw[aso e];rfl⟩
 exact .inl h4
variable {s:cd} {i n st:Nat} {c:UInt8}
variable {ps:List cd}
theorem YV{x:cd}: ∀(s:cd),x∈cV c s->x.length<=s.length:=by
 intro s;have key: ∀n (s:cd),s.length<=n->x∈cV c s->x.length<=s.length:=by
  intro n
  induction n with
  |zero=>
   intro s hs hx;obtain rfl:=asI.1 (Nat.le_zero.1 hs);simp[cV]at hx;simp[hx]
  |succ n ih=>
   intro s hs hx;rcases Ak (c:=c) s with⟨_,h2⟩|⟨a,b,h1,_,h3⟩
   ·
    rw[h2,as6]at hx;rw[hx];exact asu _
   rw[h3,asw]at hx;have hl:s.length=a.length+(b.length+1):=by rw[h1];simp
   rcases hx with rfl|hx
   ·
    omega
   have:=ih b (by omega) hx;omega
 exact key s.length s (asu _)
variable {k:Key} {i n:Nat} {s:cd} {c:UInt8}
section
variable {P:Program} {N:ct} {w0:World} {env:Env} {L:List aj} {d:Option Tmp} {ty t u:TypeId} {ps:String} {af:Array Edge} {gd:Option (Nat×Bool)}
end
def kR(k:Key)(n:Int):Bool:=bw ⟨n,n,k⟩
variable {k:Key} {i:Nat}
end Go.Kb

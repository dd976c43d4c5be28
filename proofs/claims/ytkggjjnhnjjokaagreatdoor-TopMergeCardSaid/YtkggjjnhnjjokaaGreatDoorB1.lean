/- Part of a proof. -/
import Derived.WalkKit
import Derived.Deep.Quiet
import Derived.Laws.CopyRow
import Derived.RangeFuncRecord
import Derived.RangeFuncCalls
import Derived.OrdersIn
import Derived.IntWalk
import Derived.StillTail
import Derived.Deep.MidRow
import Derived.Deep.AppendSrc
import Derived.Laws.MakeOwn
import Derived.Laws.Append
import Derived.Laws.Slices
import Derived.Laws.AppendOwn
import Derived.Laws.IdiomStrings
import Derived.Laws.Strings
import Derived.Laws.Cover3
import Derived.Lib.ItoaNum
import Derived.Laws.DeepStrings4
import Derived.Laws.Runes
import Derived.Lib.Strings
import Derived.Lib.SplitLaws
import Derived.Lib.CutLaws
import GoSem.Core.Value
import Derived.Lib.Join
set_option maxRecDepth 20000
set_option linter.unusedSimpArgs false
set_option linter.unusedVariables false
theorem ad2:type_of% @List.getElem?_eq_some_iff:=List.getElem?_eq_some_iff
theorem af0:type_of% @List.length_append:=List.length_append
theorem alM:type_of% @List.mem_of_getElem?:=List.mem_of_getElem?
theorem anc:type_of% @Bool.and_eq_true:=Bool.and_eq_true
theorem api:type_of% @Option.some.inj:=Option.some.inj
theorem apj:type_of% @List.length_cons:=List.length_cons
theorem apk:type_of% @List.length_take:=List.length_take
theorem apl:type_of% @List.length_nil:=List.length_nil
theorem apm:type_of% @Nat.le_refl:=Nat.le_refl
theorem apn:type_of% @List.mem_cons:=List.mem_cons
theorem apo:type_of% @Nat.lt_or_ge:=Nat.lt_or_ge
theorem apq:type_of% @List.append_assoc:=List.append_assoc
theorem apr:type_of% @List.length_drop:=List.length_drop
theorem aps:type_of% @List.take_add_one:=List.take_add_one
theorem apt:type_of% @List.getElem?_eq_none:=List.getElem?_eq_none
theorem apu:type_of% @List.mem_cons_self:=List.mem_cons_self
theorem apv:type_of% @List.mem_append:=List.mem_append
theorem apw:type_of% @List.getElem?_append_left:=List.getElem?_append_left
theorem apx:type_of% @List.getElem?_append_right:=List.getElem?_append_right
theorem apy:type_of% @List.take_of_length_le:=List.take_of_length_le
theorem apz:type_of% @Nat.mul_le_mul_right:=Nat.mul_le_mul_right
theorem apA:type_of% @List.pairwise_cons:=List.pairwise_cons
theorem apB:type_of% @List.length_eq_zero_iff:=List.length_eq_zero_iff
theorem apC:type_of% @List.all_eq_true:=List.all_eq_true
theorem apD:type_of% @List.mem_filter:=List.mem_filter
theorem apE:type_of% @Nat.zero_le:=Nat.zero_le
theorem apF:type_of% @List.getElem?_eq_getElem:=List.getElem?_eq_getElem
theorem apG:type_of% @List.getElem?_map:=List.getElem?_map
theorem apH:type_of% @List.take_append_drop:=List.take_append_drop
theorem apI:type_of% @List.take_length:=List.take_length
theorem apJ:type_of% @List.getElem?_set_self:=List.getElem?_set_self
theorem apK:type_of% @List.take_zero:=List.take_zero
theorem apL:type_of% @List.mem_cons_of_mem:=List.mem_cons_of_mem
theorem apM:type_of% @Nat.add_mul:=Nat.add_mul
theorem apN:type_of% @List.filter_append:=List.filter_append
theorem apO:type_of% @List.nil_sublist:=List.nil_sublist
theorem apP:type_of% @Nat.zero_add:=Nat.zero_add
theorem apQ:type_of% @List.length_map:=List.length_map
theorem apR:type_of% @Array.all_eq_true_iff_forall_mem:=Array.all_eq_true_iff_forall_mem
theorem apS:type_of% @List.filter_cons:=List.filter_cons
theorem apT:type_of% @List.getD_eq_getElem?_getD:=List.getD_eq_getElem?_getD
theorem apU:type_of% @List.getElem?_drop:=List.getElem?_drop
theorem apV:type_of% @List.nil_append:=List.nil_append
theorem apW:type_of% @List.mem_singleton:=List.mem_singleton
theorem apX:type_of% @List.sublist_cons_self:=List.sublist_cons_self
theorem apY:type_of% @List.map_cons:=List.map_cons
theorem apZ:type_of% @List.append_nil:=List.append_nil
theorem ap0:type_of% @Nat.lt_of_lt_of_le:=Nat.lt_of_lt_of_le
theorem ap1:type_of% @List.size_toArray:=List.size_toArray
theorem ap2:type_of% @List.ext_getElem?:=List.ext_getElem?
theorem ap3:type_of% @Nat.mod_eq_of_lt:=Nat.mod_eq_of_lt
theorem ap4:type_of% @List.mem_iff_getElem?:=List.mem_iff_getElem?
theorem ap5:type_of% @List.length_replicate:=List.length_replicate
theorem ap6:type_of% @List.map_append:=List.map_append
theorem ap7:type_of% @List.pairwise_iff_getElem:=List.pairwise_iff_getElem
theorem ap8:type_of% @List.length_set:=List.length_set
theorem ap9:type_of% @Option.isSome_iff_exists:=Option.isSome_iff_exists
theorem aqa:type_of% @Array.getElem?_setIfInBounds:=Array.getElem?_setIfInBounds
theorem aqb:type_of% @List.mem_map_of_mem:=List.mem_map_of_mem
theorem aqc:type_of% @List.mem_append_left:=List.mem_append_left
theorem aqd:type_of% @List.mem_or_eq_of_mem_set:=List.mem_or_eq_of_mem_set
theorem aqe:type_of% @List.getElem?_set:=List.getElem?_set
theorem aqf:type_of% @Option.map_eq_some_iff:=Option.map_eq_some_iff
theorem aqg:type_of% @List.take_succ_cons:=List.take_succ_cons
theorem aqh:type_of% @Option.map_some:=Option.map_some
theorem aqi:type_of% @List.mem_range:=List.mem_range
theorem aqj:type_of% @List.getElem?_of_mem:=List.getElem?_of_mem
theorem aqk:type_of% @Nat.add_zero:=Nat.add_zero
theorem aql:type_of% @Classical.byContradiction:=Classical.byContradiction
theorem aqm:type_of% @Int.toNat_natCast:=Int.toNat_natCast
theorem aqn:type_of% @Bool.false_ne_true:=Bool.false_ne_true
theorem aqo:type_of% @Nat.pow_le_pow_right:=Nat.pow_le_pow_right
theorem aqp:type_of% @Bool.false_eq_true:=Bool.false_eq_true
theorem aqq:type_of% @Nat.eq_zero_or_pos:=Nat.eq_zero_or_pos
theorem aqr:type_of% @List.mem_map:=List.mem_map
theorem aqs:type_of% @List.cons_append:=List.cons_append
theorem aqt:type_of% @Nat.mul_comm:=Nat.mul_comm
theorem aqu:type_of% @List.map_nil:=List.map_nil
theorem aqv:type_of% @Nat.add_sub_cancel_left:=Nat.add_sub_cancel_left
theorem aqw:type_of% @Bool.true_and:=Bool.true_and
theorem aqx:type_of% @List.flatten_cons:=List.flatten_cons
theorem aqy:type_of% @List.getElem?_take:=List.getElem?_take
theorem aqz:type_of% @Bool.or_eq_true:=Bool.or_eq_true
theorem aqA:type_of% @List.getElem?_toArray:=List.getElem?_toArray
theorem aqB:type_of% @List.drop_zero:=List.drop_zero
theorem aqC:type_of% @List.getElem_of_mem:=List.getElem_of_mem
theorem aqD:type_of% @Int.le_refl:=Int.le_refl
theorem aqE:type_of% @List.drop_eq_getElem_cons:=List.drop_eq_getElem_cons
theorem aqF:type_of% @List.getElem?_append:=List.getElem?_append
theorem aqG:type_of% @List.getElem?_set_ne:=List.getElem?_set_ne
theorem aqH:type_of% @Array.getElem?_eq_none:=Array.getElem?_eq_none
theorem aqI:type_of% @Array.ext_getElem?:=Array.ext_getElem?
theorem aqJ:type_of% @List.filter_eq_nil_iff:=List.filter_eq_nil_iff
theorem aqK:type_of% @Nat.add_assoc:=Nat.add_assoc
theorem aqL:type_of% @List.take_succ_eq_append_getElem:=List.take_succ_eq_append_getElem
theorem aqM:type_of% @Nat.sub_self:=Nat.sub_self
theorem aqN:type_of% @Option.bind_some:=Option.bind_some
theorem aqO:type_of% @Array.length_toList:=Array.length_toList
theorem aqP:type_of% @Bool.not_eq_true':=Bool.not_eq_true'
theorem aqQ:type_of% @List.nodup_append:=List.nodup_append
theorem aqR:type_of% @Option.some.injEq:=Option.some.injEq
theorem aqS:type_of% @Nat.mul_one:=Nat.mul_one
theorem aqT:type_of% @Array.getElem?_eq_some_iff:=Array.getElem?_eq_some_iff
theorem aqU:type_of% @List.pairwise_append:=List.pairwise_append
theorem aqV:type_of% @BitVec.toNat_ofNat:=BitVec.toNat_ofNat
theorem aqW:type_of% @Bool.true_eq_false:=Bool.true_eq_false
theorem aqX:type_of% @Nat.testBit_lt_two_pow:=Nat.testBit_lt_two_pow
theorem aqY:type_of% @List.all_toArray:=List.all_toArray
theorem aqZ:type_of% @List.filter_sublist:=List.filter_sublist
theorem aq0:type_of% @List.set_append_right:=List.set_append_right
theorem aq1:type_of% @List.set_cons_zero:=List.set_cons_zero
theorem aq2:type_of% @Nat.eq_or_lt_of_le:=Nat.eq_or_lt_of_le
theorem aq3:type_of% @List.all_cons:=List.all_cons
theorem aq4:type_of% @Bool.and_self:=Bool.and_self
theorem aq5:type_of% @List.drop_drop:=List.drop_drop
theorem aq6:type_of% @List.foldl_append:=List.foldl_append
theorem aq7:type_of% @List.map_congr_left:=List.map_congr_left
theorem aq8:type_of% @List.drop_succ_cons:=List.drop_succ_cons
theorem aq9:type_of% @List.range_succ:=List.range_succ
theorem ara:type_of% @Nat.mod_lt:=Nat.mod_lt
theorem arb:type_of% @Nat.div_add_mod:=Nat.div_add_mod
theorem arc:type_of% @List.singleton_append:=List.singleton_append
theorem ard:type_of% @List.length_filter_le:=List.length_filter_le
theorem are:type_of% @List.perm_middle:=List.perm_middle
theorem arf:type_of% @List.all_nil:=List.all_nil
theorem arh:type_of% @Array.ext':=Array.ext'
theorem ari:type_of% @Nat.testBit_div_two_pow:=Nat.testBit_div_two_pow
theorem arj:type_of% @List.nodup_cons:=List.nodup_cons
theorem ark:type_of% @List.getElem?_range:=List.getElem?_range
theorem arl:type_of% @List.take_set_of_le:=List.take_set_of_le
theorem arn:type_of% @List.length_pos_iff:=List.length_pos_iff
theorem aro:type_of% @Array.getElem?_append_left:=Array.getElem?_append_left
theorem arp:type_of% @List.drop_length:=List.drop_length
theorem arq:type_of% @Nat.lt_of_le_of_lt:=Nat.lt_of_le_of_lt
theorem ars:type_of% @List.append_of_mem:=List.append_of_mem
theorem art:type_of% @List.mem_of_mem_take:=List.mem_of_mem_take
theorem aru:type_of% @Nat.eq_of_testBit_eq:=Nat.eq_of_testBit_eq
theorem arv:type_of% @Nat.le_trans:=Nat.le_trans
theorem arw:type_of% @List.prefix_rfl:=List.prefix_rfl
theorem arx:type_of% @List.map_set:=List.map_set
theorem ary:type_of% @List.getElem?_replicate:=List.getElem?_replicate
theorem arz:type_of% @List.filter_eq_self:=List.filter_eq_self
theorem arA:type_of% @List.flatten_append:=List.flatten_append
theorem arB:type_of% @BitVec.eq_of_toNat_eq:=BitVec.eq_of_toNat_eq
theorem arC:type_of% @Nat.min_eq_left:=Nat.min_eq_left
theorem arD:type_of% @List.cons.injEq:=List.cons.injEq
theorem arE:type_of% @UInt8.toNat_inj:=UInt8.toNat_inj
theorem arF:type_of% @Option.ne_none_iff_exists':=Option.ne_none_iff_exists'
theorem arG:type_of% @Array.size_append:=Array.size_append
theorem arH:type_of% @Nat.add_eq:=Nat.add_eq
theorem arI:type_of% @Nat.div_lt_of_lt_mul:=Nat.div_lt_of_lt_mul
theorem arJ:type_of% @List.contains_eq_mem:=List.contains_eq_mem
theorem arK:type_of% @Bool.false_and:=Bool.false_and
theorem arL:type_of% @List.replicate_succ:=List.replicate_succ
theorem arM:type_of% @List.getElem?_cons_succ:=List.getElem?_cons_succ
theorem arN:type_of% @List.eraseIdx_cons_succ:=List.eraseIdx_cons_succ
theorem arO:type_of% @Bool.false_or:=Bool.false_or
theorem arP:type_of% @Nat.lt_or_gt_of_ne:=Nat.lt_or_gt_of_ne
theorem arQ:type_of% @List.filter_nil:=List.filter_nil
theorem arR:type_of% @Int.ediv_nonneg:=Int.ediv_nonneg
theorem arS:type_of% @Nat.xor_lt_two_pow:=Nat.xor_lt_two_pow
theorem arT:type_of% @List.foldl_cons:=List.foldl_cons
theorem arU:type_of% @Option.toList_some:=Option.toList_some
theorem arV:type_of% @List.find?_eq_none:=List.find?_eq_none
theorem arW:type_of% @List.drop_eq_nil_of_le:=List.drop_eq_nil_of_le
theorem arX:type_of% @List.getElem_cons_drop:=List.getElem_cons_drop
theorem arY:type_of% @Nat.dvd_of_mod_eq_zero:=Nat.dvd_of_mod_eq_zero
theorem arZ:type_of% @List.flatMap_cons:=List.flatMap_cons
theorem ar0:type_of% @Nat.lt_trichotomy:=Nat.lt_trichotomy
theorem ar1:type_of% @Nat.le_of_lt_succ:=Nat.le_of_lt_succ
theorem ar2:type_of% @Int.mul_le_mul:=Int.mul_le_mul
theorem ar3:type_of% @Int.mul_nonneg:=Int.mul_nonneg
theorem ar4:type_of% @List.getElem_mem:=List.getElem_mem
theorem ar5:type_of% @List.mem_reverse:=List.mem_reverse
theorem ar6:type_of% @List.flatten_nil:=List.flatten_nil
theorem ar7:type_of% @List.not_mem_nil:=List.not_mem_nil
theorem ar8:type_of% @List.cons.inj:=List.cons.inj
theorem ar9:type_of% @Prod.mk.injEq:=Prod.mk.injEq
namespace Go.ay
open Go.RowKit
structure aj where
 fp:Nat->Prop
 sat:(Nat->Option Obj)->Prop
 loc: ∀h h':Nat->Option Obj,(∀k,fp k->h' k=h k)->sat h->sat h'
def an(b:Nat)(cs:Array Value)(T:TypeId):aj:=⟨fun k=>k=b,fun h=>h b=some (.cells cs T (0,0)),fun _ _ e s=>by rw[e b rfl];exact s⟩
structure Mem(w0:World)(L:List aj)(w:World):Prop where
 below:Below w0.heap.size w0 w
 sat: ∀e∈L,e.sat fun k=>w.heap[k]?
 iZ: ∀e∈L,∀k,e.fp k->w0.heap.size<=k/\k<w.heap.size
 nY:L.Pairwise fun a b=> ∀k,a.fp k-> ¬b.fp k
theorem Mem.init(w:World):Mem w [] w:=⟨Below.refl _ _,by simp,by simp,by simp⟩
theorem Mem.Li{w w':World}(h:Below w.heap.size w w'):Mem w [] w':=⟨h,by simp,by simp,by simp⟩
variable {w0:World}{L:List aj}
theorem Mem.le{w:World}(h:Mem w0 L w):w0.heap.size<=w.heap.size:=h.below.size
theorem Mem.call{w0:World}{L E:List aj}{w w':World}(h:Mem w0 L w)(h':Mem w E w'):Mem w0 (E++L) w':=by
 refine⟨h.below.trans (h'.below.mono h.le),fun e he=>?_,fun e he k hk=>?_,?_⟩
 ·
  rcases apv.1 he with he|he
  ·
   exact h'.sat e he
  exact e.loc _ _ (fun k hk=>h'.below.block k (h.iZ e he k hk).2) (h.sat e he)
 ·
  rcases apv.1 he with he|he
  ·
   have:=h'.iZ e he k hk;have:=h.le;omega
  have:=h.iZ e he k hk;have:=h'.below.size;omega
 refine aqU.2 ⟨h'.nY,h.nY,fun a ha b hb k hk jq=>?_⟩;have:=h'.iZ a ha k hk;have:=h.iZ b hb k jq;omega
theorem Mem.step{w w':World}(h:Mem w0 L w)(h':Below w.heap.size w w'):Mem w0 L w':=h.call (E:=[]) (.Li h')
theorem Mem.drew{w:World}(h:Mem w0 L w):Mem w0 L w.drew:=h.step ((Below.refl _ _).drew)
theorem Mem.De{w:World}(h:Mem w0 L w):Mem w0 L {w with drawn:=w.drawn+1}:=h.step ((Below.refl _ _).drew)
theorem Mem.sub{w0:World}{L L':List aj}{w:World}(h:Mem w0 L w)(s:L'.Sublist L):Mem w0 L' w:=
 ⟨h.below,fun e he=>h.sat e (s.subset he),fun e he=>h.iZ e (s.subset he),h.nY.sublist s⟩
theorem Mem.perm{w0:World}{L L':List aj}{w:World}(h:Mem w0 L w)(s:L.Perm L'):Mem w0 L' w:=
 ⟨h.below,fun e he=>h.sat e (s.mem_iff.2 he),fun e he=>h.iZ e (s.mem_iff.2 he),s.pairwise h.nY (fun mU k hk jq=>mU k jq hk)⟩
theorem Mem.get{w:World}(h:Mem w0 L w){i:Nat}{e:aj}(hi:L[i]? =some e):e.sat fun k=>w.heap[k]? :=h.sat e (alM hi)
theorem Below.Df(w:World)(o:Obj):(w.alloc o).heap[w.heap.size]? =some o:=by
 show(w.heap.push o)[w.heap.size]? =some o;simp
theorem Mem.alloc{w:World}(h:Mem w0 L w)(cs:Array Value)(T:TypeId):Mem w0 (an w.heap.size cs T::L) (w.alloc (.cells cs T)):=by
 refine h.call (E:=[an w.heap.size cs T]) ⟨(Below.refl _ _).alloc (apm _) _,fun e he=>?_,fun e he k hk=>?_,by simp⟩
 ·
  simp at he;subst he;exact Below.Df w _
 simp at he;subst he;have:k=w.heap.size:=hk;subst this;simp
theorem Mem.change{w w':World}(h:Mem w0 L w){i:Nat}{e e':aj}(hi:L[i]? =some e)(s9: ∀k,e'.fp k->e.fp k)
  (hB: ∀k,¬e.fp k->w'.heap[k]? =w.heap[k]?) (hs:w'.heap.size=w.heap.size) (ho:w'.os=w.os/\w'.tape=w.tape/\w'.output=w.output)
  (GH:e'.sat fun k=>w'.heap[k]?):Mem w0 (L.set i e') w':=by
 have Dg:i<L.length:=by
  rcases apo i L.length with h'|h'
  ·
   exact h'
  ·
   simp[apt h']at hi
 have qv:L[i]=e:=by simpa[apF Dg]using hi
 have Lj:e∈L:=qv▸ar4 Dg;refine⟨⟨ho.1.trans h.below.os,ho.2.1.trans h.below.tape,ho.2.2.trans h.below.output,hs▸h.below.size,fun k hk=>?_⟩,fun x hx=>?_,fun x hx k hk=>?_,?_⟩
 ·
  rw[hB k (fun hf=>by have:=h.iZ e Lj k hf;omega)];exact h.below.block k hk
 ·
  obtain⟨j,hj,mV⟩:=aqC hx;rw[List.getElem_set]at mV;split at mV
  ·
   subst mV;exact GH
  ·
   rename_i cr;have gU:j<L.length:=by simpa using hj
   subst mV;have hd:=h.nY;rw[ap7]at hd;refine(L[j]).loc _ _ (fun k hk=>hB k (fun hf=>?_)) (h.sat _ (ar4 gU));rw[←qv]at hf;rcases arP cr with bc|bc
   ·
    exact hd i j Dg gU bc k hf hk
   ·
    exact hd j i gU Dg bc k hk hf
 ·
  rw[hs];obtain⟨j,hj,mV⟩:=aqC hx;rw[List.getElem_set]at mV;split at mV
  ·
   subst mV;exact h.iZ e Lj k (s9 k hk)
  ·
   subst mV;exact h.iZ _ (ar4 _) k hk
 ·
  rw[ap7];intro p q hp hq yJ k hk jq;have hd:=h.nY;rw[ap7]at hd;rw[List.getElem_set]at hk jq;have gM:p<L.length:=by simpa using hp
  have wL:q<L.length:=by simpa using hq
  have:=hd p q gM wL yJ k;split at hk<;>split at jq
  ·
   omega
  ·
   rename_i h1 h2;subst h1;exact this (by rw[qv];exact s9 k hk) jq
  ·
   rename_i h1 h2;subst h2;exact this hk (by rw[qv];exact s9 k jq)
  ·
   exact this hk jq
theorem Mem.cell{w:World}(h:Mem w0 L w){i b:Nat}{cs:Array Value}{T:TypeId}(hi:L[i]? =some (an b cs T))(o:Nat):w.cell? ⟨b,o,none⟩=cs[o]? :=by
 have:w.heap[b]? =some (.cells cs T (0,0)):=h.get hi;simp[World.cell?,this]
theorem Mem.block{w:World}(h:Mem w0 L w){i b:Nat}{cs:Array Value}{T:TypeId}(hi:L[i]? =some (an b cs T)):w.heap[b]? =some (.cells cs T (0,0)):=h.get hi
theorem Mem.setRow{w:World}(h:Mem w0 L w){i b:Nat}{cs:Array Value}{T:TypeId}(hi:L[i]? =some (an b cs T))(cs':Array Value):Mem w0 (L.set i (an b cs' T)) (w.setRow b cs'):=by
 have hb:=h.block hi;refine h.change hi (fun k hk=>hk) (fun k hk=>?_) (by simp[World.setRow]) ⟨rfl,rfl,rfl⟩ ?_
 ·
  exact setRow_other w b k cs' (fun e=>hk e)
 exact setRow_heap w b cs cs' T (0,0) hb
def k8(ro:Option Nat):Fence:={fn:=fun _=>True,depth:=none,alive:=false,round:=ro}
def oC(l:List Oper):Bool:=l.all fun o=>match o.op with
 | .defer _=>false
 |_=>true
theorem Lk{l:List Oper}(h:oC l=true){i:Nat}{o:Oper}(hi:l.toArray[i]? =some o): ∀c,o.op≠ .defer c:=fun c e=>by
 have hm:o∈l:=by simpa using Array.mem_of_getElem? hi
 have:=apC.1 h o hm;rw[e]at this;cases this
class jM(Q:Exit->Act->World->Prop):Prop where
 h: ∀a w,¬Q .outgrown a w
instance jM.then{K:Act->World->Prop}{Q:Exit->Act->World->Prop}[q:jM Q]:jM (Exit.then K Q):=⟨fun a w h=>q.h a w h⟩
instance jM.block{id:Nat}{Q:Exit->Act->World->Prop}[q:jM Q]:jM (Exit.inBlock id Q):=⟨fun a w h=>q.h a w h⟩
variable {P:Program} {ro:Option Nat}
theorem Tu{f:FuncId}{args:Array Value}{w:World}{R:Ending->World->Prop}(h:Calls P f args w R):CallsIn (k8 ro) 0 P f args w R:=by
 have h':CallsIn Fence.wide 0 P f args w R:=callsIn_wide.2 h
 cases ro with
 |none=>exact h'
 |some l=>exact h'.inRound l
theorem Tw{row:String}{args:Array Value}{w:World}{R:Value->World->Prop}(h:Rows P row args w R):RowsIn (k8 ro) 0 P row args w R:=fun c cs _=>by
 obtain⟨v,w',hR,hs⟩:=h c cs;refine⟨v,w',hR,?_⟩;have h':StepsIn (Machine.fenced P Fence.wide) P _ _:=stepsIn_wide.2 hs;exact h'
theorem Tx{o:Oper}{a:Act}{w:World}{K:Act->World->Prop}{Q:Exit->Act->World->Prop}(cl: ∀c,o.op≠ .defer c)(h:o.wp P a w K Q):o.wpIn (k8 ro) 0 P a w K Q:=by
 refine⟨fun _ _=>trivial,?_⟩;rw[Oper.semAt_eq _ _ _ cl];unfold Oper.wp at h;generalize(execOp a.eval o).run P w=r at h⊢;unfold Oper.upon at h;unfold Oper.uponIn;split at h
 ·
  exact h
 ·
  exact h
 ·
  exact h
 ·
  exact⟨fun e=>(by cases e),Tu h⟩
 ·
  exact⟨fun e=>(by cases e),Tw h⟩
 ·
  exact h
 exact h.elim
theorem A0{ops:Array Oper}{Q:Exit->Act->World->Prop}[q:jM Q](cl: ∀(i:Nat) (o:Oper),ops[i]? =some o-> ∀c,o.op≠ .defer c): ∀(l:List Nat) (a:Act) (w:World),wpOps P ops Q l a w->wpOpsIn (k8 ro) 0 P ops Q l a w
 |[],_,_,h=>h
 |i::rest,a,w,h=>by
  unfold wpOps at h;unfold wpOpsIn;split at h
  ·
   rename_i ho;simp only[ho];exact A0 cl rest a w h
  rename_i o ho;simp only[ho];split at h
  ·
   rename_i hw;rw[if_pos hw];rcases h with h|⟨_,a',w',h⟩
   ·
    exact Oper.wpIn_mono (fun a w h=>A0 cl rest a w h) (Tx (cl i o ho) h)
   exact absurd h (q.h a' w')
  rename_i hw;rw[if_neg hw];exact⟨fun _ _=>trivial,A0 cl rest _ w h⟩
theorem Ty{id:Nat}{l:List Oper}{Q:Exit->Act->World->Prop}{a:Act}{w:World}[jM Q](cl:oC l=true)(h:wpList P l.toArray Q l a w):(Code.region id l.toArray false).wpIn (k8 ro) 0 P Q a w:=
 wpIn_region (A0 (fun _ _ hi=>Lk cl hi) _ a w (by rw[List.range_eq_range',←aqO,wpOps_eq_wpList l.toArray.toList 0 (by simp)];exact h))
theorem GI{id:Nat}{l:List Oper}{Q:Exit->Act->World->Prop}{a:Act}{w:World}[jM Q](cl:oC l=true)(hm:P.follows .mixedOrders=true)
  (h:wpAny P .any l.toArray Q l.toArray.size (Array.replicate l.toArray.size false) a {w with drawn:=w.drawn+1}):(Code.region id l.toArray true).wpIn (k8 ro) 0 P Q a w:=
 wpIn_region_draw fun t=>A0 (fun _ _ hi=>Lk cl hi) _ a _ (by
  simp only[Region.schedule,hm,Bool.true_or,if_true];exact wpAny_sound l.toArray.size t _ a _ h)
theorem Tz{id:Nat}{l:List Oper}{C:World->Prop}{Q:Exit->Act->World->Prop}{a:Act}{w:World}[jM Q](cl:oC l=true)(hm:P.follows .mixedOrders=true)(hB:Region.lexB .any l.toArray=true)(hC:C {w with drawn:=w.drawn+1})
  (h:wpQuiet P l.toArray C (fun a'=> ∀w',C w'->Q .normal a' w') l a):(Code.region id l.toArray true).wpIn (k8 ro) 0 P Q a w:=by
 simp only[Region.lexB,anc]at hB;refine GI cl hm (wpAny_of_quiet (Q:=fun a'=> ∀w',C w'->Q .normal a' w') (fun _ w' fM h=>h w' fM) _ _ _ _ hC ?_);have:=wpAnyQ_lex (C:=C) (md:= .any) hB.1 l 0 (Array.replicate l.toArray.size false) a (by simp) (by simpa using hB.2) h;simpa using this
def mark(D:Nat):Deferred:={target:= .collected D,args:= #[]}
def pC(P:Program)(fn:Func)(R:Ending->World->Prop):Exit->Act->World->Prop:=fun e a w=>(e= .normal\/e= .ret)/\bodyPostM (k8 none) 0 P fn R e a w
instance jM.end{fn:Func}{R:Ending->World->Prop}:jM (pC P fn R):=⟨fun a w h=>by rcases h.1 with h|h<;>cases h⟩
theorem Ll{f:FuncId}{fn:Func}{c:Code}{args:Array Value}{w:World}{R:Ending->World->Prop}(hf:P.funcs[f]? =some fn)(hb:fn.body=some c)
  (h:c.wpIn (k8 none) 0 P (pC P fn R) {tmps:=args++Array.replicate (fn.ntmps -args.size) undef,defers:=[]} w):Calls P f args w R:=
 callsIn_wide.1 (callsIn_of_wp_marks (F:=k8 none) (n:=0) hf hb trivial (wpIn_mono h fun _ _ _ h=>h.2))
section
variable {P:Program} {l:List Oper} {C:World->Prop} {Q:Exit->Act->World->Prop} {n:Nat} {fs:List Nat}
def fr(l:List Oper)(fs:List Nat)(v:Nat->Value)(a0:Act):Nat->Act
 |0=>a0
 |k+1=>if fs.contains k=true then fr l fs v a0 k else match l[k]?with
  |some o=>(fr l fs v a0 k).put o.dst (v k)
  |none=>fr l fs v a0 k
def dt(l:List Oper)(j:Nat):Option Tmp:=(l[j]?).bind (·.dst)
theorem ja(a:Act)(d:Option Tmp)(v:Value)(t:Nat)(h:d≠some t):(a.put d v).tmps[t]? =a.tmps[t]? :=by
 cases d with
 |none=>rfl
 |some d=>
  have:d≠t:=fun e=>h (by rw[e]);simp[Act.put,this]
theorem ry(a:Act)(d:Option Tmp)(v:Value):(a.put d v).tmps.size=a.tmps.size:=by cases d<;>simp[Act.put]
theorem rz(a:Act)(d:Option Tmp)(v:Value):(a.put d v).defers=a.defers:=by cases d<;>rfl
theorem Lm(a b:Act)(d:Nat)(v:Value)(h:a.tmps.size=b.tmps.size):(a.put (some d) v).tmps[d]? =(b.put (some d) v).tmps[d]? :=by
 simp[Act.put,aqa,h]
theorem wM{v:Nat->Value}{a0:Act}{k:Nat}{o:Oper}(hf:fs.contains k=false)(h:l[k]? =some o):fr l fs v a0 (k+1)=(fr l fs v a0 k).put o.dst (v k):=by
 show(if fs.contains k=true then _ else match l[k]?with|some o=>(fr l fs v a0 k).put o.dst (v k)|none=>fr l fs v a0 k)=_;rw[hf,h];rfl
theorem yK{v:Nat->Value}{a0:Act}{k:Nat}(hf:fs.contains k=true):fr l fs v a0 (k+1)=fr l fs v a0 k:=by
 show(if fs.contains k=true then _ else match l[k]?with|some o=>(fr l fs v a0 k).put o.dst (v k)|none=>fr l fs v a0 k)=_;rw[hf];rfl
theorem A1{v:Nat->Value}{a0:Act}{k:Nat}(h:l[k]? =none):fr l fs v a0 (k+1)=fr l fs v a0 k:=by
 show(if fs.contains k=true then _ else match l[k]?with|some o=>(fr l fs v a0 k).put o.dst (v k)|none=>fr l fs v a0 k)=_;rw[h];split<;>rfl
theorem A2(v:Nat->Value)(a0:Act): ∀k,(fr l fs v a0 k).tmps.size=a0.tmps.size
 |0=>rfl
 |k+1=>by
  cases hf:fs.contains k with
  |true=>rw[yK hf];exact A2 v a0 k
  |false=>
   cases ho:l[k]?with
   |none=>rw[A1 ho];exact A2 v a0 k
   |some o=>rw[wM hf ho,ry];exact A2 v a0 k
theorem Dh(v:Nat->Value)(a0:Act): ∀k,(fr l fs v a0 k).defers=a0.defers
 |0=>rfl
 |k+1=>by
  cases hf:fs.contains k with
  |true=>rw[yK hf];exact Dh v a0 k
  |false=>
   cases ho:l[k]?with
   |none=>rw[A1 ho];exact Dh v a0 k
   |some o=>rw[wM hf ho,rz];exact Dh v a0 k
theorem wN(v:Nat->Value)(a0:Act)(t k:Nat): ∀m,k<=m->(∀j,k<=j->j<m->fs.contains j=false->dt l j≠some t)->(fr l fs v a0 m).tmps[t]? =(fr l fs v a0 k).tmps[t]?
 |0,h,_=>by obtain rfl:k=0:=by omega
            rfl
 |m+1,h,hn=>by
  by_cases e:k=m+1
  ·
   subst e;rfl
  have ih:=wN v a0 t k m (by omega) fun j h1 h2=>hn j h1 (by omega);rw[←ih]
  cases hf:fs.contains m with
  |true=>rw[yK hf]
  |false=>
   cases ho:l[m]?with
   |none=>rw[A1 ho]
   |some o=>
    rw[wM hf ho];exact ja _ _ _ _ (by simpa[dt,ho]using hn m (by omega) (by omega) hf)
def A3(l:List Oper)(fs:List Nat)(n:Nat):Bool:=
 (List.range n).all fun k=>match l[k]?with
  |none=>false
  |some o=>
   (match o.op with| .select .. =>false|_=>true)&&
   (o.after.all fun e=> !Region.binds .any e||decide (e.on<k))&&
   (List.range n).all fun j=>match dt l j with
    |none=>true
    |some d=>(!(o.looksAt l.toArray).contains d||(decide (j<k)&&(!fs.contains j||fs.contains k)&&o.after.any fun e=>Region.binds .any e&&e.on==j))&&(j==k||o.dst !=some d)
structure A4(l:List Oper)(fs:List Nat)(n k:Nat)(o:Oper):Prop where
 uS: ∀cs b,o.op≠ .select cs b
 back: ∀e∈o.after,Region.binds .any e=true->e.on<k
 reads: ∀j d,j<n->dt l j=some d->d∈o.looksAt l.toArray->j<k/\(fs.contains j=true->fs.contains k=true)/\ ∃e∈o.after,Region.binds .any e=true/\e.on=j
 one: ∀j d,j<n->dt l j=some d->j≠k->o.dst≠some d
theorem Di(h:A3 l fs n=true)(k:Nat)(hk:k<n): ∃o,l[k]? =some o/\A4 l fs n k o:=by
 have:=apC.1 h k (aqi.2 hk)
 cases ho:l[k]?with
 |none=>simp[ho]at this
 |some o=>
  rw[ho]at this;simp only[anc]at this;obtain⟨⟨h1,h2⟩,h3⟩:=this;refine⟨o,rfl,⟨fun cs b e=>by rw[e]at h1;simp at h1,fun e he hb=>?_,fun j d hj hd hl=>?_,fun j d hj hd cr=>?_⟩⟩
  ·
   have:=(apR.1 h2) e he;simpa[hb]using this
  ·
   have:=apC.1 h3 j (aqi.2 hj);rw[hd]at this;simp only[anc,aqz,aqP,decide_eq_true_eq]at this;rcases this.1 with h4|h4
   ·
    exact absurd hl (by simpa using h4)
   obtain⟨⟨h5,h6⟩,h7⟩:=h4;obtain⟨e,he,hb⟩:=Array.any_eq_true'.1 h7;simp only[anc,beq_iff_eq]at hb;exact⟨h5,fun kg=>h6.elim (fun h=>by rw[h]at kg;cases kg) id,e,he,hb.1,hb.2⟩
  have:=apC.1 h3 j (aqi.2 hj);rw[hd]at this;simp only[anc,aqz,beq_iff_eq]at this;rcases this.2 with h4|h4
  ·
   exact absurd h4 cr
  simpa using h4
def ta(P:Program)(o:Oper)(a:Act)(C:World->Prop)(v:Value):Prop:= ∀w,C w->o.quietAt P a (Mem w []) w v
def GJ(P:Program)(l:List Oper)(fs:List Nat)(C:World->Prop)(v:Nat->Value)(a0:Act)(k:Nat):Prop:=
 ∀o,l[k]? =some o->(Region.wanted o (yielded l.toArray (fr l fs v a0 k).tmps)=true->ta P o (fr l fs v a0 k) C (v k))/\
  (Region.wanted o (yielded l.toArray (fr l fs v a0 k).tmps)=false->v k=undef)
def mi(P:Program)(ops:Array Oper)(fs:List Nat)(C:World->Prop)(F:Act->Prop):Nat->List Oper->Act->Prop
 |_,[],a=>F a
 |k,o::rest,a=>if fs.contains k=true then mi P ops fs C F (k+1) rest a
  else if Region.wanted o (yielded ops a.tmps)=true then∃v,ta P o a C v/\mi P ops fs C F (k+1) rest (a.put o.dst v)else mi P ops fs C F (k+1) rest (a.put o.dst undef)
theorem GK{F:Act->Prop}: ∀(m k:Nat) (a0:Act) (v0:Nat->Value),k+m<=l.length->mi P l.toArray fs C F k ((l.drop k).take m) (fr l fs v0 a0 k)->
  ∃v,(∀j,j<k->v j=v0 j)/\(∀j,k<=j->j<k+m->fs.contains j=false->GJ P l fs C v a0 j)/\F (fr l fs v a0 (k+m))
 |0,k,a0,v0,_,h=>⟨v0,fun _ _=>rfl,fun j h1 h2=>by omega,by simpa[mi]using h⟩
 |m+1,k,a0,v0,hle,h=>by
  have hk:k<l.length:=by omega
  have ed:l.drop k=l[k]::l.drop (k+1):=aqE hk;rw[ed,aqg]at h;have Lo:l[k]? =some l[k]:=apF hk;have agree: ∀v v':Nat->Value,∀j,(∀i,i<j->v i=v' i)->fr l fs v a0 j=fr l fs v' a0 j:=by
   intro v v' j
   induction j with
   |zero=>intro _;rfl
   |succ j ih=>
    intro hh;have e:=ih fun i hi=>hh i (by omega)
    cases hf:fs.contains j with
    |true=>rw[yK hf,yK hf,e]
    |false=>
     cases ho:l[j]?with
     |none=>rw[A1 ho,A1 ho,e]
     |some o=>rw[wM hf ho,wM hf ho,e,hh j (by omega)]
  unfold mi at h
  cases wO:fs.contains k with
  |true=>
   rw[if_pos wO]at h;obtain⟨v,g1,g2,g3⟩:=GK m (k+1) a0 v0 (by omega) (by rw[yK wO];exact h);refine⟨v,fun j hj=>g1 j (by omega),fun j h3 h4 h5=>?_,by rw[show k+(m+1)=k+1+m by omega];exact g3⟩
   by_cases hj:j=k
   ·
    subst hj;rw[wO]at h5;cases h5
   ·
    exact g2 j (by omega) (by omega) h5
  |false=>
   rw[if_neg (by rw[wO];exact aqn)]at h;have step: ∀u:Value,mi P l.toArray fs C F (k+1) ((l.drop (k+1)).take m) ((fr l fs v0 a0 k).put l[k].dst u)->
     ((Region.wanted l[k] (yielded l.toArray (fr l fs v0 a0 k).tmps)=true->ta P l[k] (fr l fs v0 a0 k) C u)/\(Region.wanted l[k] (yielded l.toArray (fr l fs v0 a0 k).tmps)=false->u=undef))->
     ∃v,(∀j,j<k->v j=v0 j)/\(∀j,k<=j->j<k+(m+1)->fs.contains j=false->GJ P l fs C v a0 j)/\F (fr l fs v a0 (k+(m+1))):=by
    intro u h2 hu
    let v1:Nat->Value:=fun j=>if j=k then u else v0 j
    have e1:fr l fs v1 a0 k=fr l fs v0 a0 k:=agree _ _ k fun i hi=>by simp[v1,show i≠k by omega]
    have e2:fr l fs v1 a0 (k+1)=(fr l fs v0 a0 k).put l[k].dst u:=by
     rw[wM wO Lo,e1];simp[v1]
    obtain⟨v,g1,g2,g3⟩:=GK m (k+1) a0 v1 (by omega) (by rw[e2];exact h2);have e3:fr l fs v a0 k=fr l fs v0 a0 k:=agree _ _ k fun i hi=>by rw[g1 i (by omega)];simp[v1,show i≠k by omega]
    have e4:v k=u:=by rw[g1 k (by omega)];simp[v1]
    refine⟨v,fun j hj=>by rw[g1 j (by omega)];simp[v1,show j≠k by omega],fun j h3 h4 h5=>?_,by rw[show k+(m+1)=k+1+m by omega];exact g3⟩
    by_cases hj:j=k
    ·
     subst hj;intro o ho;rw[Lo]at ho;cases ho;rw[e3,e4];exact hu
    ·
     exact g2 j (by omega) (by omega) h5
   split at h
   ·
    rename_i hw;obtain⟨u,h1,h2⟩:=h;exact step u h2 ⟨fun _=>h1,fun hf=>by rw[hw]at hf;cases hf⟩
   ·
    rename_i hw;exact step undef h ⟨fun ht=>absurd ht hw,fun _=>rfl⟩
def Lp(P:Program)(w:World)(R:Value->World->List aj->Prop):Result Next->Prop
 | .ok (.value v) w'=> ∃E,R v w' E
 | .ok (.enter f args) w'=>w'=w/\Calls P f args w fun e oD=> ∃v E,e= .returned v/\R v oD E
 |_=>False
def tc(P:Program)(l:List Oper)(n:Nat)(Q:Exit->Act->World->Prop)(w0:World)(Lq:List aj):List Nat->Act->List aj->Prop
 |[],af,L=> ∀w,Mem w0 L w->wpList P l.toArray Q (l.drop n) af w
 |j::js,af,L=> ∃o,l[j]? =some o/\o.guard=none/\ ∀w,Mem w0 L w->Lp P w (fun v w' L'=>Mem w0 L' w'/\(∀w,Mem w0 L' w->Mem w0 Lq w)/\tc P l n Q w0 Lq js (af.put o.dst v) L') ((execOp af.eval o).run P w)
def rA(l:List Oper):List Nat->Bool
 |j::k::r=>(match l[k]?with|some o=>o.after.any fun e=>Region.binds .any e&&e.on==j|none=>false)&&rA l (k::r)
 |_=>true
theorem Lr: ∀(rs:List Nat) (j0:Nat),rA l (j0::rs)=true-> ∀i∈rs,∃p∈j0::rs,∃o,l[i]? =some o/\ ∃e∈o.after,Region.binds .any e=true/\e.on=p
 |[],_,_,i,hi=>by cases hi
 |k::r,j0,h,i,hi=>by
  simp only[rA,anc]at h;rcases apn.1 hi with rfl|hi
  ·
   cases ho:l[i]?with
   |none=>rw[ho]at h;simp at h
   |some o=>
    rw[ho]at h;obtain⟨e,he,hb⟩:=Array.any_eq_true'.1 h.1;simp only[anc,beq_iff_eq]at hb;exact⟨j0,by simp,o,rfl,e,he,hb.1,hb.2⟩
  obtain⟨p,hp,o,ho,e,he,hb⟩:=Lr r k h.2 i hi;exact⟨p,apL _ hp,o,ho,e,he,hb⟩
structure uT(P:Program)(l:List Oper)(fs:List Nat)(Q:Exit->Act->World->Prop)(w0:World)(L0:List aj)(n:Nat)(v:Nat->Value)(a0:Act)(rs:List Nat)(af:Act)(listed:Array Bool)(a:Act)(w:World):Prop where
 inv:HeadInv .any l.toArray n listed
 mem: ∃L,Mem w0 L w/\(∀w,Mem w0 L w->Mem w0 L0 w)/\tc P l n Q w0 L0 rs af L
 size:a.tmps.size=a0.tmps.size
 pD:af.tmps.size=a0.tmps.size
 defers:a.defers=a0.defers
 rB:af.defers=a0.defers
 gC: ∃ds,fs=ds++rs
 todo: ∀j,j<n->fs.contains j=true->(listed.getD j true=false↔j∈rs)
 done: ∀j d,j<n->listed.getD j true=true->dt l j=some d->a.tmps[d]? =af.tmps[d]?
 rest: ∀d,(∀j,j<n->listed.getD j true=true->dt l j≠some d)->a.tmps[d]? =a0.tmps[d]?
 full: ∀d,(∀j,j<n->fs.contains j=true->listed.getD j true=true->dt l j≠some d)->af.tmps[d]? =(fr l fs v a0 n).tmps[d]?
variable {w0:World} {L0:List aj}
theorem GL{listed:Array Bool}{i:Nat}(h:listed.getD i true=false):i<listed.size:=by
 rcases apo i listed.size with h'|h'
 ·
  exact h'
 simp[aqH h']at h
theorem Ls{v:Nat->Value}{a0 a af:Act}{rs:List Nat}{listed:Array Bool}{w:World}(H:uT P l fs Q w0 L0 n v a0 rs af listed a w){k:Nat}{o:Oper}(ho:A4 l fs n k o)
  (pE: ∀e∈o.after,Region.binds .any e=true->listed.getD e.on false=true) (t:Nat) (ht:t∈o.looksAt l.toArray):a.tmps[t]? =af.tmps[t]? :=by
 by_cases hw: ∃j,j<n/\dt l j=some t
 ·
  obtain⟨j,hj,hd⟩:=hw;obtain⟨_,_,e,he,hb,kE⟩:=ho.reads j t hj hd ht;have hl:=pE e he hb;rw[kE]at hl;have TA:listed.getD j true=true:=by
   have A5:j<listed.size:=by
    rcases apo j listed.size with h|h
    ·
     exact h
    ·
     simp[aqH h]at hl
   simp[A5]at hl⊢;exact hl
  exact H.done j t hj TA hd
 ·
  have h1: ∀j,j<n->dt l j≠some t:=fun j hj hd=>hw ⟨j,hj,hd⟩;rw[H.rest t fun j hj _=>h1 j hj,H.full t fun j hj _ _=>h1 j hj];exact(wN v a0 t 0 n (by omega) fun j _ h2 _=>h1 j h2).symm
theorem TB{v:Nat->Value}{a0 a af:Act}{rs:List Nat}{listed:Array Bool}{w:World}(H:uT P l fs Q w0 L0 n v a0 rs af listed a w){k:Nat}{o:Oper}(hk:k<n)(wO:fs.contains k=false)(ho:A4 l fs n k o)(hB:A3 l fs n=true)
  (pE: ∀e∈o.after,Region.binds .any e=true->listed.getD e.on false=true) (t:Nat) (ht:t∈o.looksAt l.toArray):a.tmps[t]? =(fr l fs v a0 k).tmps[t]? :=by
 rw[Ls H ho pE t ht]
 by_cases hw: ∃j,j<n/\dt l j=some t
 ·
  obtain⟨j,hj,hd⟩:=hw;obtain⟨hjk,TC,_⟩:=ho.reads j t hj hd ht;have uniq: ∀i,i<n->i≠j->dt l i≠some t:=fun i hi jr he=>by
   obtain⟨oi,uU,nZ⟩:=Di hB i hi;exact nZ.one j t hj hd (Ne.symm jr) (by simpa[dt,uU]using he)
  rw[H.full t fun i hi hf _ he=>?_]
  ·
   exact wN v a0 t k n (by omega) fun i h1 h2 _=>uniq i h2 (by omega)
  ·
   by_cases jr:i=j
   ·
    subst jr;have:=TC hf;rw[wO]at this;cases this
   ·
    exact uniq i hi jr he
 ·
  have h1: ∀j,j<n->dt l j≠some t:=fun j hj hd=>hw ⟨j,hj,hd⟩;rw[H.full t fun j hj _ _=>h1 j hj,wN v a0 t 0 n (by omega) fun j _ h2 _=>h1 j h2];exact(wN v a0 t 0 k (by omega) fun j _ h2 _=>h1 j (by omega)).symm
theorem GM{a b:Act}{o:Oper}{ops:Array Oper}(h: ∀t∈o.looksAt ops,a.tmps[t]? =b.tmps[t]?): ∀x∈o.op.operands,a.eval x=b.eval x:=by
 intro x hx
 cases x with
 |tmp t=>
  have:t∈o.looksAt ops:=by
   unfold Oper.looksAt;refine aqc _ (List.mem_filterMap.2 ⟨.tmp t,by simpa using hx,rfl⟩)
  simp[Act.eval,h t this]
 |_=>rfl
theorem Lt{a b:Act}{o:Oper}{ops:Array Oper}(h: ∀t∈o.looksAt ops,a.tmps[t]? =b.tmps[t]?):Region.wanted o (yielded ops a.tmps)=Region.wanted o (yielded ops b.tmps):=by
 unfold Region.wanted
 cases hg:o.guard with
 |none=>rfl
 |some p=>
  obtain⟨j,b'⟩:=p;have:yielded ops a.tmps j=yielded ops b.tmps j:=by
   unfold yielded
   cases hd:(ops[j]?).bind (·.dst)with
   |none=>rfl
   |some d=>
    have hm:d∈o.looksAt ops:=by unfold Oper.looksAt;rw[hg];simp[hd]
    simp[h d hm]
  simp[this]
def yL(size n:Nat):Array Bool:=((List.range size).map fun i=>decide (i<n)).toArray
theorem TD{v:Nat->Value}{a0 a af:Act}{rs:List Nat}{listed:Array Bool}{w w':World}(H:uT P l fs Q w0 L0 n v a0 rs af listed a w){i:Nat}{o:Oper}(hi:i<n)(jb:fs.contains i=false)(wP:l[i]? =some o)(ho:A4 l fs n i o)(hB:A3 l fs n=true)
  (hr:i∈Region.ready .any l.toArray listed) (fM:Mem w [] w'):uT P l fs Q w0 L0 n v a0 rs af (listed.setIfInBounds i true) (a.put o.dst (v i)) w':=by
 have gV:=(mem_ready.1 hr).1;have kh:dt l i=o.dst:=by simp[dt,wP]
 have bc:=GL gV;have gD: ∀j,j≠i->(listed.setIfInBounds i true).getD j true=listed.getD j true:=fun j cg=>getD_set_ne true (Ne.symm cg);have oE:(listed.setIfInBounds i true).getD i true=true:=by simp[bc]
 obtain⟨L,hL,mW,hF⟩:=H.mem;have uniq: ∀d,dt l i=some d-> ∀j,j<n->j≠i->dt l j≠some d:=fun d hd j hj cg he=>by
  obtain⟨oj,TE,kg⟩:=Di hB j hj;exact kg.one i d hi hd (Ne.symm cg) (by simpa[dt,TE]using he)
 refine⟨H.inv.set hr hi,⟨L,by simpa using hL.call fM,mW,hF⟩,by rw[ry];exact H.size,H.pD,by rw[rz];exact H.defers,H.rB,H.gC,fun j hj hf=>?_,fun j d hj hl hd=>?_,fun d hd=>?_,fun d hd=>?_⟩
 ·
  rw[gD j (fun e=>by subst e;rw[jb]at hf;cases hf)];exact H.todo j hj hf
 ·
  by_cases cg:j=i
  ·
   subst cg;have rC:=hd;rw[kh]at hd;rw[hd,H.full d fun j' kg qw _=>uniq d rC j' kg (fun e=>by subst e;rw[jb]at qw;cases qw)];have e1:(fr l fs v a0 n).tmps[d]? =(fr l fs v a0 (j+1)).tmps[d]? :=wN v a0 d (j+1) n (by omega) fun i' h1 h2 _=>uniq d rC i' h2 (by omega);rw[e1,wM jb wP,hd];exact Lm _ _ _ _ (by rw[H.size,A2])
  ·
   rw[gD j cg]at hl;rw[ja _ _ _ _ (ho.one j d hj hd cg)];exact H.done j d hj hl hd
 ·
  have h1:o.dst≠some d:=by
   have:=hd i hi oE;rwa [kh]at this
  rw[ja _ _ _ _ h1];refine H.rest d fun j hj hl=>?_
  by_cases cg:j=i
  ·
   subst cg;rw[kh];exact h1
  ·
   exact hd j hj (by rw[gD j cg];exact hl)
 ·
  refine H.full d fun j hj hf hl=>?_;exact hd j hj hf (by rw[gD j (fun e=>by subst e;rw[jb]at hf;cases hf)];exact hl)
theorem TF{v:Nat->Value}{a0 a af:Act}{i:Nat}{rs:List Nat}{listed:Array Bool}{w w':World}(H:uT P l fs Q w0 L0 n v a0 (i::rs) af listed a w){o:Oper}(hi:i<n)(jb:fs.contains i=true)(cl:fs.Nodup)(wP:l[i]? =some o)(ho:A4 l fs n i o)
  (hr:i∈Region.ready .any l.toArray listed) {u:Value} {L':List aj} (fM:Mem w0 L' w') (mW: ∀w,Mem w0 L' w->Mem w0 L0 w) (hF:tc P l n Q w0 L0 rs (af.put o.dst u) L'):
  uT P l fs Q w0 L0 n v a0 rs (af.put o.dst u) (listed.setIfInBounds i true) (a.put o.dst u) w':=by
 have gV:=(mem_ready.1 hr).1;have kh:dt l i=o.dst:=by simp[dt,wP]
 have bc:=GL gV;have gD: ∀j,j≠i->(listed.setIfInBounds i true).getD j true=listed.getD j true:=fun j cg=>getD_set_ne true (Ne.symm cg);have oE:(listed.setIfInBounds i true).getD i true=true:=by simp[bc]
 obtain⟨ds,wQ⟩:=H.gC;have Dj:i∉rs:=fun h=>by
  rw[wQ]at cl;have:=(aqQ.1 cl).2.1;exact(arj.1 this).1 h
 refine⟨H.inv.set hr hi,⟨L',fM,mW,hF⟩,by rw[ry];exact H.size,by rw[ry];exact H.pD,by rw[rz];exact H.defers,by rw[rz];exact H.rB,⟨ds++[i],by rw[wQ];simp⟩,fun j hj hf=>?_,fun j d hj hl hd=>?_,fun d hd=>?_,fun d hd=>?_⟩
 ·
  by_cases cg:j=i
  ·
   subst cg;rw[oE];simp[Dj]
  ·
   rw[gD j cg,H.todo j hj hf];simp[cg]
 ·
  by_cases cg:j=i
  ·
   subst cg;rw[kh]at hd;rw[hd];exact Lm _ _ _ _ (by rw[H.size,H.pD])
  ·
   rw[gD j cg]at hl;rw[ja _ _ _ _ (ho.one j d hj hd cg),ja _ _ _ _ (ho.one j d hj hd cg)];exact H.done j d hj hl hd
 ·
  have h1:o.dst≠some d:=by
   have:=hd i hi oE;rwa [kh]at this
  rw[ja _ _ _ _ h1];refine H.rest d fun j hj hl=>?_
  by_cases cg:j=i
  ·
   subst cg;rw[kh];exact h1
  ·
   exact hd j hj (by rw[gD j cg];exact hl)
 ·
  have h1:o.dst≠some d:=by
   have:=hd i hi jb oE;rwa [kh]at this
  rw[ja _ _ _ _ h1];refine H.full d fun j hj hf hl=>?_
  by_cases cg:j=i
  ·
   subst cg;rw[kh];exact h1
  ·
   exact hd j hj hf (by rw[gD j cg];exact hl)
theorem TG{v:Nat->Value}{a0 a af:Act}{rs:List Nat}{listed:Array Bool}{w:World}(H:uT P l fs Q w0 L0 n v a0 rs af listed a w)(kF: ∀j,j<n->listed.getD j true=true):a=af:=by
 have:a.tmps=af.tmps:=by
  apply aqI;intro d
  by_cases hw: ∃j,j<n/\dt l j=some d
  ·
   obtain⟨j,hj,hd⟩:=hw;exact H.done j d hj (kF j hj) hd
  have h1: ∀j,j<n->dt l j≠some d:=fun j hj hd=>hw ⟨j,hj,hd⟩;rw[H.rest d fun j hj _=>h1 j hj,H.full d fun j hj _ _=>h1 j hj];exact(wN v a0 d 0 n (by omega) fun j _ h2 _=>h1 j h2).symm
 have h2:a.defers=af.defers:=by rw[H.defers,H.rB]
 cases a;cases af
 simp_all
def left(n:Nat)(listed:Array Bool):Nat:=((List.range n).filter fun i=> !listed.getD i true).length
theorem Lu{listed:Array Bool}{i:Nat}(hi:i<n)(gV:listed.getD i true=false):left n listed=left n (listed.setIfInBounds i true)+1:=by
 have bc:=GL gV;have key: ∀m,i<m->((List.range m).filter fun j=> !listed.getD j true).length=((List.range m).filter fun j=> !(listed.setIfInBounds i true).getD j true).length+1:=by
  intro m
  induction m with
  |zero=>intro h;omega
  |succ m ih=>
   intro h;rw[aq9,apN,apN,af0,af0]
   by_cases e:i=m
   ·
    subst e;have h1:((List.range i).filter fun j=> !listed.getD j true)=((List.range i).filter fun j=> !(listed.setIfInBounds i true).getD j true):=by
     apply List.filter_congr;intro j hj;rw[getD_set_ne true (by have:=aqi.1 hj;omega)]
    rw[h1];simp only[apS,gV,Bool.not_false,if_true,arQ,apj,apl];simp[bc]
   have:=ih (by omega);have h2:(listed.setIfInBounds i true).getD m true=listed.getD m true:=getD_set_ne true e;simp only[apS,h2,arQ];omega
 exact key n hi
theorem GN{v:Nat->Value}{a0:Act}(hB:A3 l fs n=true)(hn:n<l.length)(hs:Region.sinkB .any l.toArray n=true)(hc:Region.chainB .any l.toArray n=true)
  (GO:Region.seqB .any l.toArray (l.length -n) n (yL l.length n)=true) (cl:fs.Nodup) (bc: ∀j∈fs,j<n) (A6:rA l fs=true) (hq: ∀k,k<n->fs.contains k=false->GJ P l fs (Mem w0 L0) v a0 k):
  ∀(m:Nat) (rs:List Nat) (af:Act) (listed:Array Bool) (a:Act) (w:World),left n listed=m->uT P l fs Q w0 L0 n v a0 rs af listed a w->wpAny P .any l.toArray Q (m+(l.length -n)) listed a w
 |0,rs,af,listed,a,w,hm,H=>by
  have kF: ∀j,j<n->listed.getD j true=true:=fun j hj=>by
   cases h:listed.getD j true with
   |true=>rfl
   |false=>
    have:j∈(List.range n).filter fun i=> !listed.getD i true:=apD.2 ⟨List.mem_range.2 hj,by rw[h];rfl⟩;rw[apB.1 hm]at this
    cases this
  have e1:=TG H kF;have e2:listed=yL l.length n:=by
   apply aqI;intro j;have dO:listed.size=l.length:=by simpa using H.inv.size
   by_cases hj:j<l.length
   ·
    have A5:j<listed.size:=by omega
    simp only[yL,aqA,apG,ark hj,aqh,Array.getElem?_eq_getElem A5]
    by_cases uV:j<n
    ·
     have:=kF j uV;simp[A5]at this;simp[this,uV]
    ·
     have:=H.inv.tail j (by omega) (by simpa using hj);simp[A5]at this;simp[this,uV]
   ·
    simp[yL,show ¬j<l.length from hj];omega
  have e3:rs=[]:=by
   cases rs with
   |nil=>rfl
   |cons r wR=>
    obtain⟨ds,wQ⟩:=H.gC;have hr:r∈fs:=by rw[wQ];simp
    have:=(H.todo r (bc r hr) (by simpa using hr)).2 (by simp);rw[kF r (bc r hr)]at this;cases this
  subst e1 e2 e3;obtain⟨L,hL,_,hF⟩:=H.mem;have:=wpAny_of_seq (P:=P) (md:= .any) (Q':=Q) (l.drop n) n (yL l.length n) a w (fun j=>by simp[apU]) (by rw[apr];exact GO) (hF w hL);rw[apr]at this;rw[apP];exact this
 |m+1,rs,af,listed,a,w,hm,H=>by
  rw[show m+1+(l.length -n)=(m+(l.length -n))+1 by omega];obtain⟨i0,A7,Dk,A8⟩: ∃i,i<n/\listed.getD i true=false/\ ∀j,j<i->listed.getD j true=true:=by
   have cr: ∃i,i<n/\listed.getD i true=false:=by
    cases hf:(List.range n).filter fun i=> !listed.getD i true with
    |nil=>rw[left,hf]at hm;cases hm
    |cons i r=>
     have:i∈(List.range n).filter fun i=> !listed.getD i true:=by rw[hf];simp
     obtain⟨h1,h2⟩:=apD.1 this;exact⟨i,aqi.1 h1,by simpa using h2⟩
   obtain⟨i,h1,h2⟩:=cr
   induction i using Nat.strongRecOn with
   |_ i ih=>
    by_cases h: ∃j,j<i/\listed.getD j true=false
    ·
     obtain⟨j,hj,fb⟩:=h;exact ih j hj (by omega) fb
    ·
     refine⟨i,h1,h2,fun j hj=>?_⟩
     cases hh:listed.getD j true with
     |true=>rfl
     |false=>exact absurd ⟨j,hj,hh⟩ h
  have dO:listed.size=l.length:=by simpa using H.inv.size
  have A9:i0∈Region.ready .any l.toArray listed:=by
   obtain⟨o,ho,bI⟩:=Di hB i0 A7;refine mem_ready.2 ⟨Dk,o,by simpa using ho,fun e he hb=>?_⟩;have h1:=bI.back e he hb;have h2:=A8 e.on h1;have h3:e.on<listed.size:=by omega
   simp[h3]at h2⊢;exact h2
  refine⟨fun h=>(by rw[h]at A9;cases A9),fun i hi=>?_⟩;have jc:i<n:=by
   rcases apo i n with h|h
   ·
    exact h
   ·
    exact absurd hi (tail_waits hs hc (by simpa using hn) H.inv _ i0 rfl A7 Dk i h)
  obtain⟨o,ho,bI⟩:=Di hB i jc;obtain⟨gV,o',n0,pE⟩:=mem_ready.1 hi;have:o'=o:=by simpa[ho]using n0.symm
  subst this;have rD:left n (listed.setIfInBounds i true)=m:=by have:=Lu jc gV;omega
  obtain⟨L,hL,mW,hF⟩:=H.mem
  cases jb:fs.contains i with
  |false=>
   have Dm:=TB H jc jb bI hB pE;have ew:=Lt (ops:=l.toArray) Dm;have ee:execOp a.eval o'=execOp (fr l fs v a0 i).eval o':=execOp_congr o' bI.uS (GM Dm);obtain⟨GP,Dn⟩:=hq i jc jb o' ho;have next: ∀w',Mem w [] w'->wpAny P .any l.toArray Q (m+(l.length -n)) (listed.setIfInBounds i true) (a.put o'.dst (v i)) w':=fun w' fM=>
    GN hB hn hs hc GO cl bc A6 hq m rs af _ _ w' rD (TD H jc jb ho bI hB hi fM)
   unfold wpOp;simp only[n0];rw[ew];split
   ·
    rename_i pF;have h1:=GP pF w (mW w hL);refine .inl ?_;unfold Oper.wp;rw[ee];unfold Oper.quietAt at h1;generalize(execOp (fr l fs v a0 i).eval o').run P w=r at h1;unfold Oper.quietUpon at h1;split at h1
    ·
     obtain⟨rfl,rfl⟩:=h1;exact next _ (Mem.init _)
    ·
     obtain⟨rfl,e⟩:=h1;rw[e]at next;exact next _ (Mem.init _)
    ·
     obtain⟨rfl,td⟩:=h1;exact td.mono fun e oD ⟨he,hm⟩=>by subst he;exact next _ hm
    ·
     exact h1.elim
   ·
    rename_i pF;have:=Dn (by simpa using pF);rw[this]at next;exact next w (Mem.init _)
  |true=>
   have Dj:i∈rs:=(H.todo i jc jb).1 gV
   cases rs with
   |nil=>cases Dj
   |cons r wR=>
    have Ba:i=r:=by
     rcases apn.1 Dj with h|h
     ·
      exact h
     ·
      exfalso;obtain⟨ds,wQ⟩:=H.gC;have TH:rA l (r::wR)=true:=by
       rw[wQ]at A6;have key: ∀ds:List Nat,rA l (ds++r::wR)=true->rA l (r::wR)=true:=by
        intro ds
        induction ds with
        |nil=>exact id
        |cons d ds ih=>
         intro hh
         cases ds with
         |nil=>simp only[aqs,apV,rA,anc]at hh;exact hh.2
         |cons d' ds'=>simp only[aqs,rA,anc]at hh;exact ih hh.2
       exact key ds A6
      obtain⟨p,hp,op,bN,e,he,hb,kE⟩:=Lr wR r TH i h;have:op=o':=by rw[ho]at bN;exact(api bN).symm
      subst this;have hl:=pE e he hb;rw[kE]at hl;have Lv:p∈fs:=by rw[wQ];exact List.mem_append_right _ hp
      have h1:=(H.todo p (bc p Lv) (by simpa using Lv)).2 hp;rw[getD_both h1]at hl
      cases hl
    subst Ba;obtain⟨of,pG,hg,fN⟩:=hF;have:of=o':=by rw[ho]at pG;exact(api pG).symm
    subst this;have Dm:=Ls H bI pE;have ee:execOp a.eval of=execOp af.eval of:=execOp_congr of bI.uS (GM Dm);have h1:=fN w hL;have next: ∀u w' E,(Mem w0 E w'/\(∀w,Mem w0 E w->Mem w0 L0 w)/\tc P l n Q w0 L0 wR (af.put of.dst u) E)->wpAny P .any l.toArray Q (m+(l.length -n)) (listed.setIfInBounds i true) (a.put of.dst u) w':=fun u w' E ⟨fM,yM,TI⟩=>
     GN hB hn hs hc GO cl bc A6 hq m wR (af.put of.dst u) _ _ w' rD (TF H jc jb cl ho bI hi fM yM TI)
    unfold wpOp;simp only[n0];rw[if_pos (by simp[Region.wanted,hg])];refine .inl ?_;unfold Oper.wp;rw[ee];generalize(execOp af.eval of).run P w=r at h1;unfold Lp at h1;split at h1
    ·
     obtain⟨E,hR⟩:=h1;exact next _ _ E hR
    ·
     obtain⟨rfl,td⟩:=h1;exact td.mono fun e oD ⟨u,E,he,hR⟩=>by subst he;exact next u _ E hR
    ·
     exact h1.elim
def Dp(l:List Oper)(fs:List Nat)(n:Nat):Bool:=
 A3 l fs n&&decide (n<l.length)&&Region.sinkB .any l.toArray n&&Region.chainB .any l.toArray n&&Region.seqB .any l.toArray (l.length -n) n (yL l.length n)&&
  decide fs.Nodup&&(fs.all fun j=>decide (j<n))&&rA l fs
theorem TJ{id:Nat}{ro:Option Nat}[jM Q]{a:Act}{w:World}(n:Nat)(cl:oC l=true)(hm:P.follows .mixedOrders=true)(hB:Dp l fs n=true){L:List aj}(hC:Mem w0 L {w with drawn:=w.drawn+1})(mW: ∀w,Mem w0 L w->Mem w0 L0 w)
  (h:mi P l.toArray fs (Mem w0 L0) (fun a'=>tc P l n Q w0 L0 fs a' L) 0 (l.take n) a):(Code.region id l.toArray true).wpIn (k8 ro) 0 P Q a w:=by
 simp only[Dp,anc,decide_eq_true_eq]at hB;obtain⟨⟨⟨⟨⟨⟨⟨h1,h2⟩,h3⟩,h4⟩,h5⟩,h6⟩,h7⟩,h8⟩:=hB;have TK: ∀j∈fs,j<n:=fun j hj=>by have:=apC.1 h7 j hj;simpa using this
 obtain⟨v,_,g2,g3⟩:=GK (P:=P) (C:=Mem w0 L0) (l:=l) (fs:=fs) n 0 a (fun _=>undef) (by omega) (by simpa[fr]using h);refine GI cl hm ?_;have GQ:HeadInv .any l.toArray n (Array.replicate l.toArray.size false):=
  ⟨by simp,fun j oj _ hl=>(by rw[getD_replicate_false]at hl;cases hl),fun t _ ht=>getD_in (by simpa using ht) (getD_replicate_false _ _)⟩
 have rD:left n (Array.replicate l.toArray.size false)=n:=by
  unfold left;rw[arz.2 (fun j hj=>?_),List.length_range];have kg:=aqi.1 hj;simp[show j<l.length by omega]
 rw[apP]at g3;have:=GN (P:=P) (Q:=Q) (w0:=w0) (L0:=L0) (v:=v) (a0:=a) h1 h2 h3 h4 h5 h6 TK h8 (fun k hk hf=>g2 k (by omega) (by omega) hf) n fs (fr l fs v a n) (Array.replicate l.toArray.size false) a _ rD
  ⟨GQ,⟨L,hC,mW,g3⟩,rfl,A2 v a n,rfl,Dh v a n,⟨[],rfl⟩,fun j hj hf=>?_,fun j d hj hl=>?_,fun _ _=>rfl,fun _ _=>rfl⟩
 ·
  rw[show n+(l.length -n)=l.toArray.size by simp;omega]at this;exact this
 ·
  have:j∈fs:=by simpa using hf
  simp[show j<l.length by omega,this]
 ·
  simp[show j<l.length by omega]at hl
end
abbrev Env:=List (Nat×Value)
theorem GR{a b:Nat}(h: ¬a=b):Nat.beq a b=false:=by
 cases hb:Nat.beq a b with
 |false=>rfl
 |true=>exact absurd (Nat.eq_of_beq_eq_true hb) h
def look:Env->Nat->Option Value
 |[],_=>none
 |(k,v)::r,d=>match Nat.beq k d with
  |true=>some v
  |false=>look r d
structure cc where
 n:Nat
 ds:List Nat
 ro:Option Nat
structure cS(N:cc)(env:Env)(a:Act):Prop where
 size:a.tmps.size=N.n
 get: ∀d v,look env d=some v->a.tmps[d]? =some v
 defers:a.defers=N.ds.map mark
def ev(env:Env):Operand->Option Value
 | .tmp t=>look env t
 | .const v=>some v
 | .global g=>some (.pointer (some ⟨g,0,none⟩))
 | .func f=>some (.func (.func f) #[] #[])
theorem cS.ev{N:cc}{env:Env}{a:Act}(h:cS N env a){x:Operand}{v:Value}(e:ev env x=some v):a.eval x=v:=by
 match x,e with
 | .tmp t,e=>
  have:=h.get t v e;simp[Act.eval,this]
 | .const u,e=>simpa[ay.ev,Act.eval]using e
 | .global g,e=>simpa[ay.ev,Act.eval]using e
 | .func f,e=>simpa[ay.ev,Act.eval]using e
def eJ(env:Env):List Operand->Option (List Value)
 |[]=>some []
 |x::r=>match ev env x,eJ env r with
  |some v,some vs=>some (v::vs)
  |_,_=>none
theorem cS.eJ{N:cc}{env:Env}{a:Act}(h:cS N env a): ∀{xs:List Operand} {vs:List Value},eJ env xs=some vs->xs.map a.eval=vs
 |[],vs,e=>by simp[ay.eJ]at e;simp[e]
 |x::r,vs,e=>by
  unfold ay.eJ at e;split at e
  ·
   rename_i v TL hv yN;simp only[aqR]at e;subst e;simp[h.ev hv,h.eJ yN]
  simp at e
theorem fu{env:Env}:eJ env []=some []:=rfl
theorem cZ{env:Env}{x:Operand}{r:List Operand}{v:Value}{vs:List Value}(h:ev env x=some v)(h':eJ env r=some vs):eJ env (x::r)=some (v::vs):=by
 simp[eJ,h,h']
def ca(env:Env):Option Tmp->Value->Env
 |some d,v=>(d,v)::env
 |none,_=>env
def cM(N:cc):Option Tmp->Bool
 |some d=>Nat.ble (d+1) N.n
 |none=>true
theorem cS.put{N:cc}{env:Env}{a:Act}(h:cS N env a){dst:Option Tmp}(hd:cM N dst=true)(v:Value):cS N (ca env dst v) (a.put dst v):=by
 cases dst with
 |none=>exact h
 |some d=>
  have bc:d<N.n:=Nat.le_of_ble_eq_true hd;refine⟨by simp[Act.put,h.size],fun d' v' hv=>?_,h.defers⟩;simp only[ca,look]at hv;simp only[Act.put,aqa]
  by_cases he:d=d'
  ·
   subst he;simp at hv;simp[hv,h.size,bc]
  have:Nat.beq d d'=false:=GR he;rw[this]at hv;rw[if_neg he];exact h.get d' v' hv
def Sub(Dq env:Env):Prop:= ∀d v,look Dq d=some v->look env d=some v
theorem Sub.refl(env:Env):Sub env env:=fun _ _ h=>h
theorem Sub.nil(env:Env):Sub [] env:=fun _ _ h=>by simp[look]at h
theorem Sub.cons{r env:Env}{d:Nat}{v:Value}(hv:look env d=some v)(h:Sub r env):Sub ((d,v)::r) env:=fun d' v' h'=>by
 simp only[look]at h'
 by_cases he:d=d'
 ·
  subst he;simp at h';rw[←h'];exact hv
 have:Nat.beq d d'=false:=GR he;rw[this]at h';exact h d' v' h'
theorem cS.sub{N:cc}{env Dq:Env}{a:Act}(h:cS N env a)(s:Sub Dq env):cS N Dq a:=⟨h.size,fun d v e=>h.get d v (s d v e),h.defers⟩
theorem cS.enter(args:List Value)(N:Nat)(h:args.length<=N):cS ⟨N,[],none⟩ (args.zipIdx.map fun p=>(p.2,p.1)) {tmps:=args.toArray++Array.replicate (N -args.toArray.size) undef,defers:=[]}:=by
 refine⟨by simp;omega,fun d v e=>?_,rfl⟩;have key: ∀(l:List Value) (k:Nat),look ((l.zipIdx k).map fun p=>(p.2,p.1)) d=some v->k<=d/\l[d -k]? =some v:=by
  intro l
  induction l with
  |nil=>intro k h;simp[look]at h
  |cons x r ih=>
   intro k h;simp only[List.zipIdx_cons,apY,look]at h
   by_cases he:k=d
   ·
    subst he;simp at h;simp[h]
   have:Nat.beq k d=false:=GR he;rw[this]at h;obtain⟨h1,h2⟩:=ih (k+1) h;refine⟨by omega,?_⟩;rw[show d -k=(d -(k+1))+1 by omega,arM];exact h2
 have hh:=(key args 0 e).2;rw[Nat.sub_zero]at hh;have bc:d<args.length:=by
  rcases apo d args.length with h'|h'
  ·
   exact h'
  simp[apt h']at hh
 rw[aro (by simpa using bc)];simpa using hh
section
variable {P:Program} {N:cc} {w0:World} {env:Env} {L:List aj} {d:Option Tmp} {ty:TypeId} {ps:String} {af:Array Edge} {gd:Option (Nat×Bool)}
def Ry(P:Program)(N:cc)(w0:World)(env:Env)(L:List aj)(o:Oper)(v:Value):Prop:=
 ∀a w,cS N env a->Mem w0 L w->(execOp a.eval o).run P w= .ok (.value v) w
def Yl(P:Program)(N:cc)(w0:World)(env:Env)(L:List aj)(o:Oper)(v:Value):Prop:=
 ∀a,cS N env a->ta P o a (Mem w0 L) v
theorem Ry.yl{o:Oper}{v:Value}(h:Ry P N w0 env L o v):Yl P N w0 env L o v:=fun a ha w hw=>by
 unfold Oper.quietAt;rw[h a w ha hw];exact⟨rfl,rfl⟩
theorem bf{x:Operand}{v:Value}(hx:ev env x=some v):Ry P N w0 env L ⟨d, .move x,ty,ps,af,gd⟩ v:=fun a w ha _=>by
 simp only[execOp,ha.ev hx,Sem.run_pure]
theorem gN{x:Operand}{v:Value}(hx:ev env x=some v):Ry P N w0 env L ⟨d, .assign x,ty,ps,af,gd⟩ v:=fun a w ha _=>by
 simp only[execOp,ha.ev hx,Sem.run_pure]
theorem GS{c x y:Operand}{g:Bool}{vx vy:Value}(hc:ev env c=some (.bool g))(hx:ev env x=some vx)(hy:ev env y=some vy):
  Ry P N w0 env L ⟨d, .pick c x y,ty,ps,af,gd⟩ (if g=true then vx else vy):=fun a w ha _=>by
 simp only[execOp,ha.ev hx,ha.ev hc,ha.ev hy,Sem.run_bind,Sem.run_pure,asBool,Result.andThen]
theorem wS{c x y:Operand}{g b:Bool}(hc:ev env c=some (.bool g))(hx:ev env x=some (if g=true then .bool b else undef))(hy:ev env y=some (.bool false)):
  Ry P N w0 env L ⟨d, .pick c x y,ty,ps,af,gd⟩ (.bool (g&&b)):=by
 have h:=GS (P:=P) (N:=N) (w0:=w0) (L:=L) (d:=d) (ty:=ty) (ps:=ps) (af:=af) (gd:=gd) hc hx hy
 cases g<;>simpa using h
theorem wT{c x y:Operand}{g b:Bool}(hc:ev env c=some (.bool g))(hx:ev env x=some (.bool true))(hy:ev env y=some (if(!g)=true then .bool b else undef)):
  Ry P N w0 env L ⟨d, .pick c x y,ty,ps,af,gd⟩ (.bool (g||b)):=by
 have h:=GS (P:=P) (N:=N) (w0:=w0) (L:=L) (d:=d) (ty:=ty) (ps:=ps) (af:=af) (gd:=gd) hc hx hy
 cases g<;>simpa using h
theorem iz{x:Operand}{g:Bool}{t:TypeId}(hx:ev env x=some (.bool g)):Ry P N w0 env L ⟨d, .unOp .not t x,ty,ps,af,gd⟩ (.bool (!g)):=fun a w ha _=>by
 simp only[execOp,ha.ev hx,Op.unary,Sem.run_bind,Sem.run_pure,Result.andThen]
theorem aI{x:Operand}{vs:Array Value}{i:Nat}{v:Value}(hx:ev env x=some (.tuple vs))(hv:vs[i]? =some v):Ry P N w0 env L ⟨d, .extract x i,ty,ps,af,gd⟩ v:=fun a w ha _=>by
 simp only[execOp,ha.ev hx,Instr.extract,hv,Sem.run_bind,Sem.run_pure,Result.andThen]
def kG(op:BinOp)(k:IntKind)(a b:Int):Option Value:=
 match op with
 | .add=>some (.int k (k.wrap (a+b)))
 | .sub=>some (.int k (k.wrap (a -b)))
 | .mul=>some (.int k (k.wrap (a*b)))
 | .quo=>if b=0 then none else some (.int k (k.wrap (a.tdiv b)))
 | .rem=>if b=0 then none else some (.int k (a.tmod b))
 | .and=>some (.int k (k.wrap (BitVec.ofInt k.bits a&&&BitVec.ofInt k.bits b).toNat))
 | .or=>some (.int k (k.wrap (BitVec.ofInt k.bits a|||BitVec.ofInt k.bits b).toNat))
 | .xor=>some (.int k (k.wrap (BitVec.ofInt k.bits a^^^BitVec.ofInt k.bits b).toNat))
 | .andNot=>some (.int k (k.wrap (BitVec.ofInt k.bits a&&& ~~~BitVec.ofInt k.bits b).toNat))
 | .eql=>some (.bool (decide (a=b)))
 | .neq=>some (.bool (!decide (a=b)))
 | .lss=>some (.bool (decide (a<b)))
 | .leq=>some (.bool (decide (a<=b)))
 | .gtr=>some (.bool (decide (b<a)))
 | .geq=>some (.bool (decide (b<=a)))
 |_=>none
theorem GU(op:BinOp)(t:TypeId)(x y:Operand)(k k':IntKind)(a b:Int)(w:World):(eqGuard op t x y (.int k a) (.int k' b)).run P w= .ok () w:=by
 cases op<;>rfl
theorem TM{op:BinOp}{k:IntKind}{a b:Int}{v:Value}(t:TypeId)(h:kG op k a b=some v)(w:World):(binOp op t (.int k a) (.int k b)).run P w= .ok v w:=by
 cases op<;>simp only[kG,aqR,reduceCtorEq]at h<;>(try split at h)<;>(try simp only[aqR,reduceCtorEq]at h)<;>(try subst h)<;>
  simp_all[binOp,Op.intArith,Op.intDiv,Op.intBits,Op.intCmp]<;>rfl
theorem du{op:BinOp}{k:IntKind}{x y:Operand}{a b:Int}{v:Value}{t u:TypeId}(hx:ev env x=some (.int k a))(hy:ev env y=some (.int k b))(h:kG op k a b=some v):
  Ry P N w0 env L ⟨d, .binOp op t x y u,ty,ps,af,gd⟩ v:=fun a w ha _=>by
 simp only[execOp,ha.ev hx,ha.ev hy,Sem.run_bind,GU,TM t h,Sem.run_pure,Result.andThen]
end
def uW:TypeDesc->Bool
 | .struct _| .array _ _=>true
 |_=>false
class dX(P:Program)(t:TypeId)(n:outParam Nat):Prop where
 row: ∃d,P.underlying t=some d/\uW d=true
 size:(P.info? t).map (·.size)=some n
class fc(P:Program)(t:TypeId):Prop where
 one: ∃d,P.underlying t=some d/\uW d=false
 size:(P.info? t).map (·.size)=some 1
class cT(P:Program)(s:TypeId)(i:Nat)(off:outParam Nat):Prop where
 TN: ∃fs f m,P.underlying s=some (.struct fs)/\fs[i]? =some f/\f.offset=off/\(P.info? f.type).map (·.size)=some (m+1)
class te(P:Program)(t:TypeId)(n m:outParam Nat):Prop where
 arr: ∃e,P.underlying t=some (.array n e)/\(P.info? e).map (·.size)=some m
class dY(P:Program)(t:TypeId)(e:outParam TypeId)(m:outParam Nat):Prop where
 dZ:P.underlying t=some (.slice e)
 size:(P.info? e).map (·.size)=some m
class mj(P:Program)(t:TypeId)(k:outParam IntKind):Prop where
 dZ:P.underlying t=some (.int k)
class dz(P:Program)(t:TypeId)(v:outParam Value):Prop where
 zero:(P.info? t).map (·.zero)=some (some v)
class aE(P:Program)(f:FuncId):Prop where
 fn: ∃fn,P.funcs[f]? =some fn∧fn.body.isNone=false∧(fn.name== "runtime.NumGoroutine")=false
class Has(L:List aj)(b:Nat)(cs:outParam (Array Value))(T:outParam TypeId)(i:outParam Nat):Prop where
 h:L[i]? =some (an b cs T)
instance (priority:=high) Has.here {L:List aj}{b:Nat}{cs:Array Value}{T:TypeId}:Has (an b cs T::L) b cs T 0:=⟨rfl⟩
instance Has.there{L:List aj}{e:aj}{b:Nat}{cs:Array Value}{T:TypeId}{i:Nat}[q:Has L b cs T i]:Has (e::L) b cs T (i+1):=⟨by simpa using q.h⟩
class eK(L:List aj)(i:Nat)(e:aj)(L':outParam (List aj)):Prop where
 h:L.set i e=L'
instance eK.here{L:List aj}{x e:aj}:eK (x::L) 0 e (e::L):=⟨rfl⟩
instance eK.there{L L':List aj}{x e:aj}{i:Nat}[q:eK L i e L']:eK (x::L) (i+1) e (x::L'):=⟨by simp[q.h]⟩
class bK(cs:Array Value)(o:Nat)(v:outParam Value):Prop where
 h:cs[o]? =some v
class mn(cs:Array Value)(o n:Nat)(sub:outParam (Array Value)):Prop where
 size:sub.size=n
 h: ∀j,j<n->cs[o+j]? =sub[j]?
class eU(cs:Array Value)(n:outParam Nat):Prop where
 h:cs.size=n
 one:cs.all (·.oneCell')=true
class n5(P:Program)(f:FuncId)(vs:List Value)(v:outParam Value):Prop where
 h: ∀w,Calls P f vs.toArray w fun e w'=>e= .returned v/\Mem w [] w'
class wU(P:Program)(t:TypeId)(x y:Value)(r:outParam Bool):Prop where
 h: ∀w,(Op.equalIn 10000 t x y).run P w= .ok r w
 plain:P.eqGuardType P.depth t=false
 agg: ∃xs ys,x= .agg xs/\y= .agg ys
section
variable {P:Program} (w:World)
theorem Lw{t:TypeId}{i:TypeInfo}(h:P.info? t=some i):(typeInfo t).run P w= .ok i w:=by
 simp[typeInfo,h]
theorem kH{t:TypeId}{n:Nat}(h:(P.info? t).map (·.size)=some n):(sizeOf t).run P w= .ok n w:=by
 cases hi:P.info? t with
 |none=>simp[hi]at h
 |some i=>simp[hi]at h;simp[sizeOf,Lw w hi,h]
theorem Dr{t:TypeId}{v:Value}(h:dz P t v):(zeroValue t).run P w= .ok v w:=by
 have h:=h.zero
 cases hi:P.info? t with
 |none=>simp[hi]at h
 |some i=>simp[hi]at h;simp[zeroValue,Lw w hi,h]
theorem Ds{t:TypeId}{d:TypeDesc}(h:P.underlying t=some d):(isAgg t).run P w= .ok (uW d) w:=by
 cases d<;>simp[isAgg,run_underlying h,uW]
theorem TO{t:TypeId}(h:fc P t){a:Addr}{v:Value}(hc:w.cell? a=some v):(loadVar t a).run P w= .ok v w:=by
 obtain⟨d,hu,hd⟩:=h.one;simp[loadVar,Ds w hu,hd,hc]
theorem GV{t:TypeId}{n:Nat}(h:dX P t n){a:Addr}{cs:Array Value}(hn:cs.size=n)(hc: ∀j,j<n->w.cell? (a.add j)=cs[j]?):(loadVar t a).run P w= .ok (.agg cs) w:=by
 obtain⟨d,hu,hd⟩:=h.row;have hl:(loadCells a n).run P w= .ok cs w:=by
  have:=run_loadCells_list (P:=P) w a cs.toList (fun j v hv=>by
   have hj:j<n:=by
    have:=(ad2.1 hv).1;simpa[hn]using this
   rw[hc j hj];simpa using hv)
  simpa[hn]using this
 simp[loadVar,Ds w hu,hd,kH w h.size,hl]
end
section
variable {P:Program} {N:cc} {w0:World} {env:Env} {L:List aj} {d:Option Tmp} {ty:TypeId} {ps:String} {af:Array Edge} {gd:Option (Nat×Bool)}
theorem Addr.gg(b o j:Nat):(⟨b,o,none⟩:Addr).add j=⟨b,o+j,none⟩:=by
 unfold Addr.add;split<;>simp_all
theorem yO{t:TypeId}{x:Operand}{p:Addr}{v:Value}(ht:fc P t)(hx:ev env x=some (.pointer (some p)))(hc: ∀w,Mem w0 L w->w.cell? p=some v):
  Ry P N w0 env L ⟨d, .load t x,ty,ps,af,gd⟩ v:=fun a w ha hw=>by
 simp only[execOp,ha.ev hx,Instr.loadAt,Instr.sureAddr,Sem.run_bind,Sem.run_pure,Result.andThen,TO w ht (hc w hw)]
theorem Bb{t:TypeId}{x:Operand}{p:Addr}{n:Nat}{cs:Array Value}(ht:dX P t n)(hx:ev env x=some (.pointer (some p)))(hn:cs.size=n)(hc: ∀w,Mem w0 L w-> ∀j,j<n->w.cell? (p.add j)=cs[j]?):
  Ry P N w0 env L ⟨d, .load t x,ty,ps,af,gd⟩ (.agg cs):=fun a w ha hw=>by
 simp only[execOp,ha.ev hx,Instr.loadAt,Instr.sureAddr,Sem.run_bind,Sem.run_pure,Result.andThen,GV w ht hn (hc w hw)]
theorem yP{t:TypeId}{x:Operand}{i b o:Nat}{cs:Array Value}{T:TypeId}{v:Value}(hx:ev env x=some (.pointer (some ⟨b,o,none⟩)))[ht:fc P t][hi:Has L b cs T i](hc:cs[o]? =some v):
  Ry P N w0 env L ⟨d, .load t x,ty,ps,af,gd⟩ v:=yO ht hx fun w hw=>by rw[hw.cell hi.h];exact hc
theorem bQ{t:TypeId}{x:Operand}{i b o:Nat}{cs:Array Value}{T:TypeId}{v:Value}(hx:ev env x=some (.pointer (some ⟨b,o,none⟩)))[ht:fc P t][hi:Has L b cs T i][hc:bK cs o v]:
  Ry P N w0 env L ⟨d, .load t x,ty,ps,af,gd⟩ v:=yP hx hc.h
theorem fW{t:TypeId}{x:Operand}{i b n:Nat}{cs:Array Value}{T:TypeId}(hx:ev env x=some (.pointer (some ⟨b,0,none⟩)))[ht:dX P t n][hi:Has L b cs T i][hn:eU cs n]:
  Ry P N w0 env L ⟨d, .load t x,ty,ps,af,gd⟩ (.agg cs):=Bb ht hx hn.h fun w hw j _=>by rw[Addr.gg,hw.cell hi.h,apP]
theorem gE{t:TypeId}{x:Operand}{i b o n:Nat}{cs sub:Array Value}{T:TypeId}(hx:ev env x=some (.pointer (some ⟨b,o,none⟩)))[ht:dX P t n][hi:Has L b cs T i][hs:mn cs o n sub]:
  Ry P N w0 env L ⟨d, .load t x,ty,ps,af,gd⟩ (.agg sub):=Bb ht hx hs.size fun w hw j hj=>by rw[Addr.gg,hw.cell hi.h];exact hs.h j hj
theorem aK{s:TypeId}{x:Operand}{fi off b o o':Nat}[hf:cT P s fi off](hx:ev env x=some (.pointer (some ⟨b,o,none⟩)))(ho:Nat.add o off=o'):
  Ry P N w0 env L ⟨d, .fieldAddr s x fi,ty,ps,af,gd⟩ (.pointer (some ⟨b,o',none⟩)):=fun a w ha _=>by
 obtain⟨fs,f,m,hu,jb,pG,dO⟩:=hf.TN;subst ho pG;simp only[execOp,ha.ev hx,Instr.fieldAt,Sem.run_bind,run_underlying hu,Result.andThen,jb,Instr.sureAddr,Sem.run_pure,fieldPlace,kH w dO,Nat.succ_ne_zero,if_false,Addr.gg,arH]
theorem uX{t:TypeId}{x ix:Operand}{n m b o:Nat}{k:IntKind}{j:Int}[ht:te P t n m](hx:ev env x=some (.pointer (some ⟨b,o,none⟩)))(hj:ev env ix=some (.int k j))(h0:0<=j)(h1:j<n):
  Ry P N w0 env L ⟨d, .indexAddr t x ix,ty,ps,af,gd⟩ (.pointer (some ⟨b,o+j.toNat*m,none⟩)):=fun a w ha _=>by
 obtain⟨e,hu,dO⟩:=ht.arr;simp only[execOp,ha.ev hx,ha.ev hj,Instr.indexAt,asIntOf,Sem.run_bind,run_underlying hu,Result.andThen,Instr.sureAddr,Sem.run_pure,kH w dO,h0,h1,and_self,if_true,Addr.gg]
theorem oG{t:TypeId}{x ix:Operand}{n b:Nat}{k:IntKind}{j:Int}[ht:te P t n 1](hx:ev env x=some (.pointer (some ⟨b,0,none⟩)))(hj:ev env ix=some (.int k j))(h0:0<=j)(h1:j<n):
  Ry P N w0 env L ⟨d, .indexAddr t x ix,ty,ps,af,gd⟩ (.pointer (some ⟨b,j.toNat,none⟩)):=by
 have:=uX (P:=P) (t:=t) (N:=N) (w0:=w0) (L:=L) (d:=d) (ty:=ty) (ps:=ps) (af:=af) (gd:=gd) hx hj h0 h1;simpa using this
theorem Ly{t e:TypeId}{x ix:Operand}{m b o len cap:Nat}{k:IntKind}{j:Int}[ht:dY P t e m](hx:ev env x=some (.slice (some ⟨b,o,none⟩) len cap))(hj:ev env ix=some (.int k j))(h0:0<=j)(h1:j<len):
  Ry P N w0 env L ⟨d, .indexAddr t x ix,ty,ps,af,gd⟩ (.pointer (some ⟨b,o+j.toNat*m,none⟩)):=fun a w ha _=>by
 simp only[execOp,ha.ev hx,ha.ev hj,Instr.indexAt,asIntOf,Sem.run_bind,run_underlying ht.dZ,Result.andThen,Sem.run_pure,kH w ht.size,h0,h1,and_self,if_true,Addr.gg]
theorem tg{s t:TypeId}{x:Operand}{k k':IntKind}{n m:Int}[hs:mj P s k'][ht:mj P t k](hx:ev env x=some (.int k' n))(hm:k.wrap n=m):
  Ry P N w0 env L ⟨d, .convert s t x,ty,ps,af,gd⟩ (.int k m):=fun a w ha _=>by
 subst hm;simp only[execOp,ha.ev hx,convert,Sem.run_bind,run_underlying hs.dZ,run_underlying ht.dZ,Result.andThen,Conv.intToInt,Sem.run_pure]
theorem th{t e:TypeId}{x:Operand}{m len cap:Nat}{p:Option Addr}[ht:dY P t e m](hx:ev env x=some (.slice p len cap)):
  Ry P N w0 env L ⟨d, .call {callee:= .builtin .len,args:= #[x],argTypes:= #[t]},ty,ps,af,gd⟩ (.int .i64 len):=fun a w ha _=>by
 simp[execOp,ha.ev hx,resolve,invoke,builtin,Builtin.len_,run_underlying ht.dZ,goInt,Result.andThen]
theorem Dt{f:FuncId}(hf:aE P f){ρ:Operand->Value}{xs:List Operand}{ts:Array TypeId}(w:World)(GW:ρ (.func f)= .func (.func f) #[] #[]):
  (execOp ρ ⟨d, .call {callee:= .value (.func f),args:=xs.toArray,argTypes:=ts},ty,ps,af,gd⟩).run P w= .ok (.enter f (xs.map ρ).toArray) w:=by
 obtain⟨fn,h1,h2,h3⟩:=hf.fn;have Bc: ¬fn.body=none:=fun e=>by simp[e]at h2
 have uY: ¬fn.name= "runtime.NumGoroutine" :=by simpa using h3
 simp[execOp,resolve,GW,Deferred.ofValue,invoke,callFunc,h1,Bc,uY,Result.andThen]
theorem Du{f:FuncId}{xs:List Operand}{ts:Array TypeId}{vs:List Value}{v:Value}[hf:aE P f](hx:eJ env xs=some vs)
  (hc: ∀w,Mem w0 L w->Calls P f vs.toArray w fun e w'=>e= .returned v/\Mem w [] w'):
  Yl P N w0 env L ⟨d, .call {callee:= .value (.func f),args:=xs.toArray,argTypes:=ts},ty,ps,af,gd⟩ v:=fun a ha w hw=>by
 unfold Oper.quietAt;rw[Dt hf w rfl,ha.eJ hx];exact⟨rfl,hc w hw⟩
theorem yQ{f:FuncId}{xs:List Operand}{ts:Array TypeId}{vs:List Value}{v:Value}[hf:aE P f](hx:eJ env xs=some vs)[hc:n5 P f vs v]:
  Yl P N w0 env L ⟨d, .call {callee:= .value (.func f),args:=xs.toArray,argTypes:=ts},ty,ps,af,gd⟩ v:=Du hx fun w _=>hc.h w
theorem Lz{op:BinOp}{t:TypeId}(hm:P.eqGuardType P.depth t=false)(x y:Operand)(xs ys:Array Value)(w:World):(eqGuard op t x y (.agg xs) (.agg ys)).run P w= .ok () w:=run_eqGuard_agg w op t x y xs ys hm
theorem Dv{x y:Operand}{t u:TypeId}{vx vy:Value}{r:Bool}(hx:ev env x=some vx)(hy:ev env y=some vy)[h:wU P t vx vy r]:
  Ry P N w0 env L ⟨d, .binOp .eql t x y u,ty,ps,af,gd⟩ (.bool r):=fun a w ha _=>by
 obtain⟨xs,ys,e1,e2⟩:=h.agg;subst e1 e2;simp only[execOp,ha.ev hx,ha.ev hy,Sem.run_bind,Lz h.plain,Result.andThen,run_eql_struct,h.h,Sem.run_pure]
theorem yR{x y:Operand}{t u:TypeId}{vx vy:Value}{r:Bool}(hx:ev env x=some vx)(hy:ev env y=some vy)[h:wU P t vx vy r]:
  Ry P N w0 env L ⟨d, .binOp .neq t x y u,ty,ps,af,gd⟩ (.bool (!r)):=fun a w ha _=>by
 obtain⟨xs,ys,e1,e2⟩:=h.agg;subst e1 e2;simp only[execOp,ha.ev hx,ha.ev hy,Sem.run_bind,Lz h.plain,Result.andThen,run_neq_struct,h.h,Sem.run_pure]
theorem TP{x y:Operand}{t u:TypeId}{a b:Bool}(hx:ev env x=some (.bool a))(hy:ev env y=some (.bool b))(ht:P.underlying t=some .bool):
  Ry P N w0 env L ⟨d, .binOp .eql t x y u,ty,ps,af,gd⟩ (.bool (a==b)):=fun aa w ha _=>by
 have h1:(Op.equal t (.bool a) (.bool b)).run P w= .ok (a==b) w:=run_equalIn_bool' w 9999 t a b ht;have h2:(eqGuard BinOp.eql t x y (.bool a) (.bool b)).run P w= .ok () w:=rfl;simp only[execOp,ha.ev hx,ha.ev hy,Sem.run_bind,h2,Result.andThen_ok,binOp,h1,Sem.run_pure]
theorem wrap64_in{n:Int}(h: -9223372036854775808<=n/\n<=9223372036854775807):IntKind.i64.wrap n=n:=IntWalk.i64_in n h
theorem uZ{x y:Operand}{a b:Int}{t u:TypeId}(hx:ev env x=some (.int .i64 a))(hy:ev env y=some (.int .i64 b))(h: -9223372036854775808<=a+b/\a+b<=9223372036854775807):
  Ry P N w0 env L ⟨d, .binOp .add t x y u,ty,ps,af,gd⟩ (.int .i64 (a+b)):=du hx hy (by rw[kG,wrap64_in h])
theorem kI{x y:Operand}{a b:Int}{t u:TypeId}(hx:ev env x=some (.int .i64 a))(hy:ev env y=some (.int .i64 b))(h: -9223372036854775808<=a -b/\a -b<=9223372036854775807):
  Ry P N w0 env L ⟨d, .binOp .sub t x y u,ty,ps,af,gd⟩ (.int .i64 (a -b)):=du hx hy (by rw[kG,wrap64_in h])
theorem mX{x y:Operand}{a b:Int}{t u:TypeId}(hx:ev env x=some (.int .i64 a))(hy:ev env y=some (.int .i64 b))(h: -9223372036854775808<=a*b/\a*b<=9223372036854775807):
  Ry P N w0 env L ⟨d, .binOp .mul t x y u,ty,ps,af,gd⟩ (.int .i64 (a*b)):=du hx hy (by rw[kG,wrap64_in h])
theorem lf{x y:Operand}{a b:Int}{t u:TypeId}(hx:ev env x=some (.int .i64 a))(hy:ev env y=some (.int .i64 b))(h:0<=a/\a<=9223372036854775807)(hb:0<b):
  Ry P N w0 env L ⟨d, .binOp .quo t x y u,ty,ps,af,gd⟩ (.int .i64 (a/b)):=du hx hy (by
 have h2:a/b<=a:=Int.ediv_le_self _ h.1;have h3:0<=a/b:=arR h.1 (by omega);rw[kG,if_neg (by omega),Int.tdiv_eq_ediv_of_nonneg h.1,wrap64_in (by omega)])
theorem yS{x y:Operand}{a b:Int}{k:IntKind}{t u:TypeId}(hx:ev env x=some (.int k a))(hy:ev env y=some (.int k b))(h:0<=a)(hb:0<b):
  Ry P N w0 env L ⟨d, .binOp .rem t x y u,ty,ps,af,gd⟩ (.int k (a%b)):=du hx hy (by
 rw[kG,if_neg (by omega),Int.tmod_eq_emod_of_nonneg h])
def kJ(env:Env):List (Nat×Operand)->Option (List (Nat×Value))
 |[]=>some []
 |(i,x)::r=>match ev env x,kJ env r with
  |some v,some vs=>some ((i,v)::vs)
  |_,_=>none
theorem LA:kJ env []=some []:=rfl
theorem Bd{i:Nat}{x:Operand}{r:List (Nat×Operand)}{v:Value}{vs:List (Nat×Value)}(h:ev env x=some v)(h':kJ env r=some vs):kJ env ((i,x)::r)=some ((i,v)::vs):=by
 simp[kJ,h,h']
theorem cS.kJ{a:Act}(h:cS N env a): ∀{xs:List (Nat×Operand)} {vs:List (Nat×Value)},kJ env xs=some vs->(xs.map fun p=>(p.1,a.eval p.2))=vs
 |[],vs,e=>by simp[ay.kJ]at e;simp[e]
 |(i,x)::r,vs,e=>by
  unfold ay.kJ at e;split at e
  ·
   rename_i v TL hv yN;simp only[aqR]at e;subst e;simp[h.ev hv,h.kJ yN]
  simp at e
class lJ(P:Program)(t:TypeId)(vs:List (Nat×Value))(v:outParam Value):Prop where
 h: ∀w,(Instr.build t vs.toArray).run P w= .ok v w
theorem cN{t:TypeId}{xs:List (Nat×Operand)}{vs:List (Nat×Value)}{v:Value}(hx:kJ env xs=some vs)(hb: ∀w,(Instr.build t vs.toArray).run P w= .ok v w):
  Ry P N w0 env L ⟨d, .build t xs.toArray,ty,ps,af,gd⟩ v:=fun a w ha _=>by
 have e:(xs.toArray.map fun(p:Nat×Operand)=>match p with|(i,x)=>(i,a.eval x))=vs.toArray:=by
  rw[←ha.kJ hx];simp
 simp only[execOp,e,Sem.run_bind,hb w,Result.andThen,Sem.run_pure]
theorem fv{t:TypeId}{xs:List (Nat×Operand)}{vs:List (Nat×Value)}{v:Value}(hx:kJ env xs=some vs)[hb:lJ P t vs v]:
  Ry P N w0 env L ⟨d, .build t xs.toArray,ty,ps,af,gd⟩ v:=cN hx hb.h
theorem LB{k:IntKind}{i:Int}{y:Nat}(h0:0<=i)(h1:i<=y)(c:BoundsCode)(w:World):(Instr.sliceBound (.int k i) y c).run P w= .ok i.toNat w:=by
 simp[Instr.sliceBound,asIntOf,h0,h1]
theorem LC{t:TypeId}{x hi:Operand}{n m b o:Nat}{k:IntKind}{h:Int}[ht:te P t n m](hx:ev env x=some (.pointer (some ⟨b,o,none⟩)))(hh:ev env hi=some (.int k h))(h0:0<=h)(h1:h<=n):
  Ry P N w0 env L ⟨d, .slice t x none (some hi) none,ty,ps,af,gd⟩ (.slice (some ⟨b,o,none⟩) h.toNat n):=fun a w ha _=>by
 obtain⟨e,hu,dO⟩:=ht.arr;have e0:(⟨b,o,none⟩:Addr).add 0=⟨b,o,none⟩:=rfl;simp[execOp,ha.ev hx,ha.ev hh,Instr.sliceAt,run_underlying hu,Instr.sureAddr,Instr.sliceBounds,LB h0 h1,kH w dO,Result.andThen,e0]
theorem wV{t:TypeId}{x:Operand}{n m b o:Nat}[ht:te P t n m](hx:ev env x=some (.pointer (some ⟨b,o,none⟩))):
  Ry P N w0 env L ⟨d, .slice t x none none none,ty,ps,af,gd⟩ (.slice (some ⟨b,o,none⟩) n n):=fun a w ha _=>by
 obtain⟨e,hu,dO⟩:=ht.arr;have e0:(⟨b,o,none⟩:Addr).add 0=⟨b,o,none⟩:=rfl;simp[execOp,ha.ev hx,Instr.sliceAt,run_underlying hu,Instr.sureAddr,Instr.sliceBounds,kH w dO,Result.andThen,e0]
theorem LD{t:TypeId}{x lo:Operand}{n m b o:Nat}{k:IntKind}{l:Int}[ht:te P t n m](hx:ev env x=some (.pointer (some ⟨b,o,none⟩)))(hl:ev env lo=some (.int k l))(h0:0<=l)(h1:l<n):
  Ry P N w0 env L ⟨d, .slice t x (some lo) none none,ty,ps,af,gd⟩ (.slice (some ⟨b,o+l.toNat*m,none⟩) (n -l.toNat) (n -l.toNat)):=fun a w ha _=>by
 obtain⟨e,hu,dO⟩:=ht.arr;have e0:(if n=l.toNat then(⟨b,o,none⟩:Addr)else(⟨b,o,none⟩:Addr).add (l.toNat*m))=⟨b,o+l.toNat*m,none⟩:=by rw[if_neg (by omega),Addr.gg]
 simp[execOp,ha.ev hx,ha.ev hl,Instr.sliceAt,run_underlying hu,Instr.sureAddr,Instr.sliceBounds,LB h0 (Int.le_of_lt h1),kH w dO,Result.andThen,e0]
def nb:IntKind->Nat
 | .i8=>7| .i16=>15| .i32=>31| .i64=>63| .u8=>8| .u16=>16| .u32=>32| .u64=>64
theorem TQ(k:IntKind):nb k<=k.bits:=by cases k<;>decide
theorem oH{k:IntKind}{n:Nat}(h:n<2^nb k):k.wrap (n:Int)=n:=by
 cases k<;>simp[IntKind.wrap,IntKind.bits,IntKind.signed,nb]at* <;>omega
theorem yT(b n:Nat):BitVec.ofInt b (n:Int)=BitVec.ofNat b n:=by
 apply arB;simp
theorem pH{k:IntKind}{n:Nat}(h:n<2^nb k):n<2^k.bits:=ap0 h (aqo (by decide) (TQ k))
variable {x y:Operand} {k k':IntKind} {p q:Nat} {t u:TypeId}
theorem LG{a b:Int}(hx:ev env x=some (.int k a))(hy:ev env y=some (.int k b))(ea:a=p)(eb:b=q)(hp:p<2^nb k)(hq:q<2^nb k):
  Ry P N w0 env L ⟨d, .binOp .and t x y u,ty,ps,af,gd⟩ (.int k ((p&&&q:Nat):Int)):=du hx hy (by
 subst ea eb;simp only[kG,yT,BitVec.toNat_and,aqV,ap3 (pH hp),ap3 (pH hq)];rw[oH (Nat.and_lt_two_pow _ hq)])
theorem Be{a b:Int}(hx:ev env x=some (.int k a))(hy:ev env y=some (.int k b))(ea:a=p)(eb:b=q)(hp:p<2^nb k)(hq:q<2^nb k):
  Ry P N w0 env L ⟨d, .binOp .or t x y u,ty,ps,af,gd⟩ (.int k ((p|||q:Nat):Int)):=du hx hy (by
 subst ea eb;simp only[kG,yT,BitVec.toNat_or,aqV,ap3 (pH hp),ap3 (pH hq)];rw[oH (Nat.or_lt_two_pow hp hq)])
theorem LH{a b:Int}(hx:ev env x=some (.int k a))(hy:ev env y=some (.int k b))(ea:a=p)(eb:b=q)(hp:p<2^nb k)(hq:q<2^nb k):
  Ry P N w0 env L ⟨d, .binOp .xor t x y u,ty,ps,af,gd⟩ (.int k ((p^^^q:Nat):Int)):=du hx hy (by
 subst ea eb;simp only[kG,yT,BitVec.toNat_xor,aqV,ap3 (pH hp),ap3 (pH hq)];rw[oH (arS hp hq)])
theorem TR(hp:p<2^nb k)(hq:q<2^nb k):kG .andNot k p q=some (.int k ((p&&&(2^k.bits -1 -q):Nat):Int)):=by
 simp only[kG,yT,BitVec.toNat_and,BitVec.toNat_not,aqV,ap3 (pH hp),ap3 (pH hq)];rw[oH (arq Nat.and_le_left hp)]
theorem TS{a b:Int}(h:0<=b)(w:World):(binOp .shr t (.int k a) (.int k' b)).run P w= .ok (.int k (a.fdiv (2^min b.toNat k.bits))) w:=by
 simp[binOp,Op.shift,show ¬b<0 by omega]
theorem TT{a b:Int}(h:0<=b)(w:World):(binOp .shl t (.int k a) (.int k' b)).run P w= .ok (.int k (k.wrap (a*2^min b.toNat k.bits))) w:=by
 simp[binOp,Op.shift,show ¬b<0 by omega]
theorem Bf{a b:Int}(hx:ev env x=some (.int k a))(hy:ev env y=some (.int k b))(ea:a=p)(eb:b=q)(h:p+q<2^nb k):
  Ry P N w0 env L ⟨d, .binOp .add t x y u,ty,ps,af,gd⟩ (.int k ((p+q:Nat):Int)):=du hx hy (by
 subst ea eb;rw[kG,←Int.natCast_add,oH h])
theorem GX{a b:Int}{ts:Array TypeId}(hx:ev env x=some (.int k a))(hy:ev env y=some (.int k b)):
  Ry P N w0 env L ⟨d, .call {callee:= .builtin .min,args:= #[x,y],argTypes:=ts},ty,ps,af,gd⟩ (.int k (min a b)):=fun aa w ha _=>by
 have e:(if b<a then b else a)=min a b:=by rw[Int.min_def];split<;>split<;>omega
 simp[execOp,ha.ev hx,ha.ev hy,resolve,invoke,builtin,Builtin.min_,Builtin.min2,e]
theorem u4{a b:Int}{ts:Array TypeId}(hx:ev env x=some (.int k a))(hy:ev env y=some (.int k b)):
  Ry P N w0 env L ⟨d, .call {callee:= .builtin .max,args:= #[x,y],argTypes:=ts},ty,ps,af,gd⟩ (.int k (max a b)):=fun aa w ha _=>by
 have e:(if a<b then b else a)=max a b:=by rw[Int.max_def];split<;>split<;>omega
 simp[execOp,ha.ev hx,ha.ev hy,resolve,invoke,builtin,Builtin.max_,Builtin.max2,e]
theorem TU{ix:Operand}{s:ByteArray}{j:Int}{v:Nat}(hu:P.underlying t=some .string)(hx:ev env x=some (.string s))(hj:ev env ix=some (.int k j))(h0:0<=j)(hv:(s[j.toNat]?).map (·.toNat)=some v):
  Ry P N w0 env L ⟨d, .index t x ix,ty,ps,af,gd⟩ (.int .u8 v):=fun a w ha _=>by
 cases hs:s[j.toNat]?with
 |none=>simp[hs]at hv
 |some b=>
  simp[hs]at hv;simp[execOp,ha.ev hx,ha.ev hj,Instr.index,asIntOf,run_underlying hu,h0,hs,hv,Result.andThen]
theorem iA{s:TypeId}{n:Nat}[hs:mj P s k'][ht:mj P t k](hx:ev env x=some (.int k' n))(hn:n<2^nb k):
  Ry P N w0 env L ⟨d, .convert s t x,ty,ps,af,gd⟩ (.int k n):=tg hx (oH hn)
theorem GY{s:TypeId}{n:Int}[hs:mj P s k'][ht:mj P t k](hx:ev env x=some (.int k' n))(h0:0<=n)(hn:n.toNat<2^nb k):
  Ry P N w0 env L ⟨d, .convert s t x,ty,ps,af,gd⟩ (.int k n):=tg hx (by
 have:=oH hn;rwa [Int.toNat_of_nonneg h0]at this)
theorem oI{b:Int}(hx:ev env x=some (.int k p))(hy:ev env y=some (.int k' b))(hp:p<2^nb k)(hb:0<=b):
  Ry P N w0 env L ⟨d, .binOp .shr t x y u,ty,ps,af,gd⟩ (.int k ((p/2^b.toNat:Nat):Int)):=fun a w ha _=>by
 have e:((p:Int).fdiv (2^min b.toNat k.bits))=((p/2^b.toNat:Nat):Int):=by
  rw[Int.fdiv_eq_ediv_of_nonneg _ (Int.pow_nonneg (by decide)),show((2:Int)^min b.toNat k.bits)=((2^min b.toNat k.bits:Nat):Int) by simp,←Int.natCast_ediv];congr 1
  by_cases h:b.toNat<=k.bits
  ·
   rw[arC h]
  ·
   rw[Nat.min_eq_right (by omega),Nat.div_eq_of_lt (pH hp),Nat.div_eq_of_lt (ap0 (pH hp) (aqo (by decide) (by omega)))]
 simp only[execOp,ha.ev hx,ha.ev hy,Sem.run_bind,GU,TS hb,e,Sem.run_pure,Result.andThen]
theorem Dw{a b:Int}(hx:ev env x=some (.int k a))(hy:ev env y=some (.int k' b))(hb:0<=b):
  Ry P N w0 env L ⟨d, .binOp .shl t x y u,ty,ps,af,gd⟩ (.int k (k.wrap (a*2^min b.toNat k.bits))):=fun aa w ha _=>by
 simp only[execOp,ha.ev hx,ha.ev hy,Sem.run_bind,GU,TT hb,Sem.run_pure,Result.andThen]
end
section
variable {P:Program} {N:cc} {w0:World} {env:Env} {L:List aj} {l:List Oper} {Q:Exit->Act->World->Prop} {F:Act->Prop} {fs:List Nat} {k:Nat} {rest:List Oper}
def Ex(N:cc)(w0:World)(Q:Exit->Act->World->Prop)(e:Exit)(env:Env)(L:List aj):Prop:= ∀a w,cS N env a->Mem w0 L w->Q e a w
def Sq(P:Program)(N:cc)(w0:World)(l:List Oper)(Q:Exit->Act->World->Prop)(rest:List Oper)(env:Env)(L:List aj):Prop:=
 ∀a w,cS N env a->Mem w0 L w->wpList P l.toArray Q rest a w
def Qt(P:Program)(N:cc)(w0:World)(l:List Oper)(fs:List Nat)(F:Act->Prop)(k:Nat)(rest:List Oper)(env:Env)(L:List aj):Prop:=
 ∀a,cS N env a->mi P l.toArray fs (Mem w0 L) F k rest a
theorem Dx(h:Ex N w0 Q .normal env L):Sq P N w0 l Q [] env L:=h
theorem LK(h:Ex N w0 Q .normal env L):Qt P N w0 l fs (fun a'=> ∀w',Mem w0 L w'->Q .normal a' w') k [] env L:=fun a ha w' fM=>h a w' ha fM
def Fr(P:Program)(N:cc)(w0:World)(Lq:List aj)(l:List Oper)(n:Nat)(Q:Exit->Act->World->Prop)(fs:List Nat)(env:Env)(L:List aj):Prop:=
 (∀w,Mem w0 L w->Mem w0 Lq w)-> ∀a,cS N env a->tc P l n Q w0 Lq fs a L
theorem u5{n:Nat}{gs:List Nat}{L':List aj}(h:Fr P N w0 L l n Q gs env L')(hq: ∀w,Mem w0 L' w->Mem w0 L w:=by exact fun _ h=>h):Qt P N w0 l fs (fun a'=>tc P l n Q w0 L gs a' L') k [] env L:=fun a ha=>h hq a ha
theorem u6{n:Nat}{Lq:List aj}(h:Sq P N w0 l Q (l.drop n) env L):Fr P N w0 Lq l n Q [] env L:=fun _ a ha w hw=>h a w ha hw
theorem TV{o:Oper}(hk:Qt P N w0 l fs F (k+1) rest env L)(hf:fs.contains k=true:=by rfl):Qt P N w0 l fs F k (o::rest) env L:=fun a ha=>by
 unfold mi;rw[if_pos hf];exact hk a ha
theorem qx{o:Oper}{y:Nat->Option Bool}(h:o.guard=none):Region.wanted o y=true:=by simp[Region.wanted,h]
theorem wW{o:Oper}{a:Act}{j t:Nat}{b g:Bool}(ha:cS N env a)(h:o.guard=some (j,b))(hj:(l[j]?).bind (·.dst)=some t)(hv:look env t=some (.bool g)):
  Region.wanted o (yielded l.toArray a.tmps)=(g==b):=by
 have:=ha.get _ _ hv;simp[Region.wanted,h,yielded,hj,this]
theorem GZ{o:Oper}{a:Act}{j t:Nat}{b c g:Bool}(ha:cS N env a)(h:o.guard=some (j,b))(hj:(l[j]?).bind (·.dst)=some t)(hv:look env t=some (if c=true then .bool g else undef)):
  Region.wanted o (yielded l.toArray a.tmps)=(c&&(g==b)):=by
 have:=ha.get _ _ hv
 cases c
 ·
  simp only[aqp,if_false]at this;simp[Region.wanted,h,yielded,hj,this,undef]
 ·
  simp only[if_true]at this;simp[Region.wanted,h,yielded,hj,this]
theorem yU{o:Oper}{a:Act}{w:World}{v:Value}{K:Act->World->Prop}(ha:cS N env a)(hw:Mem w0 L w)(h:Yl P N w0 env L o v)(hk: ∀w',Mem w0 L w'->K (a.put o.dst v) w'):o.wp P a w K Q:=by
 have h1:=h a ha w hw;unfold Oper.quietAt at h1;unfold Oper.wp;generalize(execOp a.eval o).run P w=r at h1;unfold Oper.quietUpon at h1;split at h1
 ·
  obtain⟨rfl,rfl⟩:=h1;exact hk _ hw
 ·
  obtain⟨rfl,rfl⟩:=h1;exact hk _ hw
 ·
  obtain⟨rfl,hc⟩:=h1;exact hc.mono fun e oD ⟨he,hm⟩=>by subst he;exact hk _ (by simpa using hw.call hm)
 exact h1.elim
theorem dv{o:Oper}{v:Value}(h:Yl P N w0 env L o v)(hk:Sq P N w0 l Q rest (ca env o.dst v) L)(hg:o.guard=none:=by rfl)(hd:cM N o.dst=true:=by rfl):Sq P N w0 l Q (o::rest) env L:=fun a w ha hw=>by
 unfold wpList;rw[if_pos (qx hg)];exact .inl (yU ha hw h fun w' fM=>hk _ _ (ha.put hd v) fM)
theorem ag{o:Oper}{v:Value}(h:Ry P N w0 env L o v)(hk:Sq P N w0 l Q rest (ca env o.dst v) L)(hg:o.guard=none:=by rfl)(hd:cM N o.dst=true:=by rfl):Sq P N w0 l Q (o::rest) env L:=dv h.yl hk hg hd
theorem pI{o:Oper}{v:Value}(h:Yl P N w0 env L o v)(hk:Qt P N w0 l fs F (k+1) rest (ca env o.dst v) L)(hg:o.guard=none:=by rfl)(hd:cM N o.dst=true:=by rfl)(hf:fs.contains k=false:=by rfl):Qt P N w0 l fs F k (o::rest) env L:=fun a ha=>by
 unfold mi;rw[if_neg (by rw[hf];exact aqn)];rw[if_pos (qx hg)];exact⟨v,h a ha,hk _ (ha.put hd v)⟩
theorem bx{o:Oper}{v:Value}(h:Ry P N w0 env L o v)(hk:Qt P N w0 l fs F (k+1) rest (ca env o.dst v) L)(hg:o.guard=none:=by rfl)(hd:cM N o.dst=true:=by rfl)(hf:fs.contains k=false:=by rfl):Qt P N w0 l fs F k (o::rest) env L:=pI h.yl hk hg hd hf
theorem look_eq{t:Nat}{u v:Value}(h:look env t=some u)(e:u=v):look env t=some v:=by rw[h,e]
theorem gh{o:Oper}{v:Value}{j t:Nat}{g:Bool}(hg:o.guard=some (j,true))(hj:(l[j]?).bind (·.dst)=some t)(hv:look env t=some (.bool g))(h:g=true->Yl P N w0 env L o v)
  (hk:Sq P N w0 l Q rest (ca env o.dst (if g=true then v else undef)) L) (hd:cM N o.dst=true:=by rfl):Sq P N w0 l Q (o::rest) env L:=fun a w ha hw=>by
 unfold wpList;rw[wW ha hg hj hv]
 cases g
 ·
  exact hk _ _ (ha.put hd undef) hw
 ·
  exact .inl (yU ha hw (h rfl) fun w' fM=>hk _ _ (ha.put hd v) fM)
theorem dE{o:Oper}{v:Value}{j t:Nat}{g:Bool}(hg:o.guard=some (j,true))(hj:(l[j]?).bind (·.dst)=some t)(hv:look env t=some (.bool g))(h:g=true->Yl P N w0 env L o v)
  (hk:Qt P N w0 l fs F (k+1) rest (ca env o.dst (if g=true then v else undef)) L) (hd:cM N o.dst=true:=by rfl) (hf:fs.contains k=false:=by rfl):Qt P N w0 l fs F k (o::rest) env L:=fun a ha=>by
 unfold mi;rw[if_neg (by rw[hf];exact aqn)];rw[wW ha hg hj hv]
 cases g
 ·
  exact hk _ (ha.put hd undef)
 ·
  exact⟨v,h rfl a ha,hk _ (ha.put hd v)⟩
theorem bo{o:Oper}{v:Value}{j t:Nat}{g:Bool}(hg:o.guard=some (j,false))(hj:(l[j]?).bind (·.dst)=some t)(hv:look env t=some (.bool g))(h:(!g)=true->Yl P N w0 env L o v)
  (hk:Sq P N w0 l Q rest (ca env o.dst (if(!g)=true then v else undef)) L) (hd:cM N o.dst=true:=by rfl):Sq P N w0 l Q (o::rest) env L:=fun a w ha hw=>by
 unfold wpList;rw[wW ha hg hj hv]
 cases g
 ·
  exact .inl (yU ha hw (h rfl) fun w' fM=>hk _ _ (ha.put hd v) fM)
 ·
  exact hk _ _ (ha.put hd undef) hw
theorem eV{o:Oper}{v:Value}{j t:Nat}{g:Bool}(hg:o.guard=some (j,false))(hj:(l[j]?).bind (·.dst)=some t)(hv:look env t=some (.bool g))(h:(!g)=true->Yl P N w0 env L o v)
  (hk:Qt P N w0 l fs F (k+1) rest (ca env o.dst (if(!g)=true then v else undef)) L) (hd:cM N o.dst=true:=by rfl) (hf:fs.contains k=false:=by rfl):Qt P N w0 l fs F k (o::rest) env L:=fun a ha=>by
 unfold mi;rw[if_neg (by rw[hf];exact aqn)];rw[wW ha hg hj hv]
 cases g
 ·
  exact⟨v,h rfl a ha,hk _ (ha.put hd v)⟩
 ·
  exact hk _ (ha.put hd undef)
theorem kK{o:Oper}{v:Value}{j t:Nat}{c g:Bool}(hg:o.guard=some (j,true))(hj:(l[j]?).bind (·.dst)=some t)(hv:look env t=some (if c=true then .bool g else undef))(h:(c&&g)=true->Yl P N w0 env L o v)
  (hk:Sq P N w0 l Q rest (ca env o.dst (if(c&&g)=true then v else undef)) L) (hd:cM N o.dst=true:=by rfl):Sq P N w0 l Q (o::rest) env L:=fun a w ha hw=>by
 unfold wpList;rw[GZ ha hg hj hv]
 cases c<;>cases g
 ·
  exact hk _ _ (ha.put hd undef) hw
 ·
  exact hk _ _ (ha.put hd undef) hw
 ·
  exact hk _ _ (ha.put hd undef) hw
 ·
  exact .inl (yU ha hw (h rfl) fun w' fM=>hk _ _ (ha.put hd v) fM)
theorem lK{o:Oper}{v:Value}{j t:Nat}{c g:Bool}(hg:o.guard=some (j,false))(hj:(l[j]?).bind (·.dst)=some t)(hv:look env t=some (if c=true then .bool g else undef))(h:(c&& !g)=true->Yl P N w0 env L o v)
  (hk:Sq P N w0 l Q rest (ca env o.dst (if(c&& !g)=true then v else undef)) L) (hd:cM N o.dst=true:=by rfl):Sq P N w0 l Q (o::rest) env L:=fun a w ha hw=>by
 unfold wpList;rw[GZ ha hg hj hv]
 cases c<;>cases g
 ·
  exact hk _ _ (ha.put hd undef) hw
 ·
  exact hk _ _ (ha.put hd undef) hw
 ·
  exact .inl (yU ha hw (h rfl) fun w' fM=>hk _ _ (ha.put hd v) fM)
 ·
  exact hk _ _ (ha.put hd undef) hw
theorem G0{o:Oper}{v:Value}{j t:Nat}{c g:Bool}(hg:o.guard=some (j,false))(hj:(l[j]?).bind (·.dst)=some t)(hv:look env t=some (if c=true then .bool g else undef))(h:(c&& !g)=true->Yl P N w0 env L o v)
  (hk:Qt P N w0 l fs F (k+1) rest (ca env o.dst (if(c&& !g)=true then v else undef)) L) (hd:cM N o.dst=true:=by rfl) (hf:fs.contains k=false:=by rfl):Qt P N w0 l fs F k (o::rest) env L:=fun a ha=>by
 unfold mi;rw[if_neg (by rw[hf];exact aqn)];rw[GZ ha hg hj hv]
 cases c<;>cases g
 ·
  exact hk _ (ha.put hd undef)
 ·
  exact hk _ (ha.put hd undef)
 ·
  exact⟨v,h rfl a ha,hk _ (ha.put hd v)⟩
 ·
  exact hk _ (ha.put hd undef)
theorem ti{x:Operand}{c g:Bool}{v u:Value}(hc:c=true)(h:ev env x=some (if(c&&g)=true then v else u)):ev env x=some (if g=true then v else u):=by subst hc;simpa using h
theorem aw{x:Operand}{g:Bool}{v u:Value}(hg:g=true)(h:ev env x=some (if g=true then v else u)):ev env x=some v:=by rw[h,if_pos hg]
variable {d:Option Tmp} {ty:TypeId} {ps:String} {af:Array Edge}
theorem lL{o:Oper}(hg:o.guard=none)(hd:cM N o.dst=true)
  (h: ∀a w,cS N env a->Mem w0 L w-> ∃v w' L',(execOp a.eval o).run P w= .ok (.value v) w'/\Mem w0 L' w'/\Sq P N w0 l Q rest (ca env o.dst v) L'):Sq P N w0 l Q (o::rest) env L:=fun a w ha hw=>by
 unfold wpList;rw[if_pos (qx hg)];obtain⟨v,w',L',h1,h2,h3⟩:=h a w ha hw;refine .inl ?_;unfold Oper.wp;rw[h1];exact h3 _ _ (ha.put hd v) h2
theorem Dy{o:Oper}(hg:o.guard=none)(hd:o.dst=none)
  (h: ∀a w,cS N env a->Mem w0 L w-> ∃w' L',(execOp a.eval o).run P w= .ok .skip w'/\Mem w0 L' w'/\Sq P N w0 l Q rest env L'):Sq P N w0 l Q (o::rest) env L:=fun a w ha hw=>by
 unfold wpList;rw[if_pos (qx hg)];obtain⟨w',L',h1,h2,h3⟩:=h a w ha hw;refine .inl ?_;unfold Oper.wp;rw[h1];show wpList P l.toArray Q rest (a.put o.dst undef) w';rw[hd];exact h3 _ _ ha h2
theorem G1{t:TypeId}{x:Operand}{v:Value}(hx:ev env x=some v)(hk: ∀b,Sq P N w0 l Q rest (ca env d (.pointer (some ⟨b,0,none⟩))) (an b v.cells t::L))(hd:cM N d=true:=by rfl):
  Sq P N w0 l Q (⟨d, .box t x,ty,ps,af,none⟩::rest) env L:=
 lL rfl hd fun a w ha hw=>⟨_,_,_,by simp only[execOp,ha.ev hx,Instr.box,newVar,newRow,Sem.run_bind,newObj,Sem.run,Result.andThen,Sem.run_pure];rfl,hw.alloc v.cells t,hk _⟩
theorem LL{t:TypeId}{z:Value}[hz:dz P t z](hk: ∀b,Sq P N w0 l Q rest (ca env d (.pointer (some ⟨b,0,none⟩))) (an b z.cells t::L))(hd:cM N d=true:=by rfl):
  Sq P N w0 l Q (⟨d, .alloc t,ty,ps,af,none⟩::rest) env L:=
 lL rfl hd fun a w ha hw=>⟨_,_,_,by simp only[execOp,Instr.alloc,newVar,newRow,Sem.run_bind,Dr w hz,newObj,Sem.run,Result.andThen,Sem.run_pure];rfl,hw.alloc z.cells t,hk _⟩
theorem bH{t:TypeId}{x:Operand}{cs:Array Value}(hx:ev env x=some (.agg cs))(hk: ∀b,Sq P N w0 l Q rest (ca env d (.pointer (some ⟨b,0,none⟩))) (an b cs t::L))(hd:cM N d=true:=by rfl):
  Sq P N w0 l Q (⟨d, .box t x,ty,ps,af,none⟩::rest) env L:=G1 hx hk hd
theorem bn{t:TypeId}{cs:Array Value}[hz:dz P t (.agg cs)](hk: ∀b,Sq P N w0 l Q rest (ca env d (.pointer (some ⟨b,0,none⟩))) (an b cs t::L))(hd:cM N d=true:=by rfl):
  Sq P N w0 l Q (⟨d, .alloc t,ty,ps,af,none⟩::rest) env L:=LL (z:= .agg cs) hk hd
theorem TW{cs:Array Value}(h:cs.all (·.oneCell')=true)(a b:Nat):(cs.extract a b).all (·.oneCell')=true:=by
 rw[apR]at h⊢;intro v hv;have:v∈(cs.extract a b).toList:=Array.mem_toList_iff.2 hv;rw[Array.toList_extract]at this;simp only[List.extract]at this;exact h v (by simpa using List.mem_of_mem_drop (art this))
theorem dR{t:TypeId}{x y:Operand}{i b o:Nat}{cs:Array Value}{T:TypeId}{v:Value}(hx:ev env x=some (.pointer (some ⟨b,o,none⟩)))(hy:ev env y=some v)[ht:fc P t][hh:Has L b cs T i](ho:o<cs.size)(hv:v.oneCell'=true){cs':Array Value}{L':List aj}(gF:cs.setIfInBounds o v=cs')[hu:eK L i (an b cs' T) L'](hk:Sq P N w0 l Q rest env L'):
  Sq P N w0 l Q (⟨none, .store t x y,ty,ps,af,none⟩::rest) env L:=
 Dy rfl rfl fun a w ha hw=>by
  have hi:=hh.h;have hb:=hw.block hi;have hc:w.cell? ⟨b,o,none⟩=some cs[o]:=by rw[hw.cell hi];simp[ho]
  have hf:w.frozen? ⟨b,o,none⟩=false:=frozen_of_row w b o cs T hb;subst gF;refine⟨w.setCell ⟨b,o,none⟩ v,_,?_,?_,hk⟩
  ·
   have h1:(storeCells ⟨b,o,none⟩ [v]).run P w= .ok () (w.setCell ⟨b,o,none⟩ v):=by
    have:=run_storeCells_at (P:=P) b o T [v] 0 cs w hb (by simp;omega) (by simpa using hv);rw[this,setCell_eq_setRow w b o cs T (0,0) v hb];congr 2;apply arh;simp[List.set_eq_take_append_cons_drop,ho]
   have gF:v.cells= #[v]:=by cases v<;>simp_all[Value.oneCell',Value.cells]
   simp only[execOp,ha.ev hx,ha.ev hy,Instr.storeAt,Instr.sureAddr,storeVar,Sem.run_bind,Sem.run_pure,Result.andThen,kH w ht.size,gF];simp[h1]
  ·
   rw[setCell_eq_setRow w b o cs T (0,0) v hb];rw[←hu.h];exact hw.setRow hi _
def over(cs:Array Value)(o:Nat)(vs:Array Value):Array Value:=(cs.toList.take o++vs.toList++cs.toList.drop (o+vs.size)).toArray
theorem Bg{t:TypeId}{x y:Operand}{i b o n:Nat}{cs vs:Array Value}{T:TypeId}(hx:ev env x=some (.pointer (some ⟨b,o,none⟩)))(hy:ev env y=some (.agg vs))[ht:dX P t n][hh:Has L b cs T i][hs:eU vs n](ho:o+n<=cs.size){cs':Array Value}{L':List aj}(gF:over cs o vs=cs')[hu:eK L i (an b cs' T) L'](hk:Sq P N w0 l Q rest env L'):
  Sq P N w0 l Q (⟨none, .store t x y,ty,ps,af,none⟩::rest) env L:=
 Dy rfl rfl fun a w ha hw=>by
  have hi:=hh.h;have hn:=hs.h;have hv:=hs.one;have hb:=hw.block hi;subst gF;refine⟨_,_,?_,by rw[←hu.h];exact hw.setRow hi _,hk⟩;have h1:=run_storeCells_at (P:=P) b o T vs.toList 0 cs w hb (by simp;omega) (fun v jN=>(apR.1 hv) v (by simpa using jN));simp only[execOp,ha.ev hx,ha.ev hy,Instr.storeAt,Instr.sureAddr,storeVar,Value.cells,Sem.run_bind,Sem.run_pure,Result.andThen,kH w ht.size,hn];simp[h1,over]
theorem TX{t:TypeId}{x y:Operand}{i b n:Nat}{cs vs:Array Value}{T:TypeId}(hx:ev env x=some (.pointer (some ⟨b,0,none⟩)))(hy:ev env y=some (.agg vs))[ht:dX P t n][hh:Has L b cs T i][hs:eU vs n][hc:eU cs n]{L':List aj}[hu:eK L i (an b vs T) L'](hk:Sq P N w0 l Q rest env L'):
  Sq P N w0 l Q (⟨none, .store t x y,ty,ps,af,none⟩::rest) env L:=by
 have hn:=hs.h;have TY:=hc.h;refine Bg hx hy (by omega) (?_:over cs 0 vs=vs) hk;apply arh;simp[over];omega
theorem G2{x y:Operand}{tx fO e:TypeId}{i b o dl dc sl sc:Nat}{a:Addr}{cs vs:Array Value}{T:TypeId}(hx:ev env x=some (.slice (some ⟨b,o,none⟩) dl dc))(hy:ev env y=some (.slice (some a) sl sc))
  [ht:dY P tx e 1] [hh:Has L b cs T i] (hn:vs.size=Nat.min sl dl) (qy: ∀w,Mem w0 L w-> ∀j,j<vs.size->w.cell? (a.add j)=vs[j]?) (hv:vs.all (·.oneCell')=true) (ho:o+vs.size<=cs.size)
  {cs':Array Value} {L':List aj} (gF:over cs o vs=cs') [hu:eK L i (an b cs' T) L'] (hk:Sq P N w0 l Q rest (ca env d (.int .i64 vs.size)) L') (hd:cM N d=true:=by rfl):
  Sq P N w0 l Q (⟨d, .call {callee:= .builtin .copy,args:= #[x,y],argTypes:= #[tx,fO]},ty,ps,af,none⟩::rest) env L:=
 lL rfl hd fun aa w ha hw=>by
  have hi:=hh.h;have hb:=hw.block hi;subst gF;have fN:=run_copy_row (P:=P) w tx fO ty e b o dl dc a sl sc cs T vs.toList ht.dZ ht.size hb (by simpa using hn)
   (fun j v jN=>by
    have hj:j<vs.size:=by simpa using(ad2.1 jN).1
    rw[qy w hw j hj];simpa using jN) (by simpa using ho) (fun v jN=>(apR.1 hv) v (by simpa using jN))
  refine⟨_,w.setRow b (over cs o vs),_,?_,by rw[←hu.h];exact hw.setRow hi _,hk⟩;simp[execOp,ha.ev hx,ha.ev hy,resolve,invoke,builtin,fN,Result.andThen,goInt,over]
end
section
variable {P:Program} {N:cc} {w0:World} {env:Env} {L Lq:List aj} {l:List Oper} {n j:Nat} {js:List Nat} {Q:Exit->Act->World->Prop} {d:Option Tmp} {ty:TypeId} {ps:String} {af:Array Edge}
theorem TZ{X:Type}{val:X->Value}{L':X->List aj}{pr:X->Prop}{f:FuncId}{xs:List Operand}{ts:Array TypeId}{vs:List Value}(hj:l[j]? =some ⟨d, .call {callee:= .value (.func f),args:=xs.toArray,argTypes:=ts},ty,ps,af,none⟩)[hf:aE P f](hx:eJ env xs=some vs)
  (hc: ∀w,Mem w0 L w->Calls P f vs.toArray w fun e w'=> ∃x,e= .returned (val x)/\pr x/\Mem w0 (L' x) w') (hL: ∀x w,Mem w0 (L' x) w->Mem w0 Lq w) (hk: ∀x,pr x->Fr P N w0 Lq l n Q js (ca env d (val x)) (L' x)) (hd:cM N d=true:=by rfl):
  Fr P N w0 Lq l n Q (j::js) env L:=fun _ a ha=>
 ⟨_,hj,rfl,fun w hw=>by
  rw[Dt hf w rfl,ha.eJ hx];exact⟨rfl,(hc w hw).mono fun e w' ⟨x,he,hp,hm⟩=>⟨val x,L' x,he,hm,hL x,hk x hp (hL x) _ (ha.put hd _)⟩⟩⟩
end
section
variable {P:Program} {N:cc} {w0:World} {env:Env} {L:List aj} {Q:Exit->Act->World->Prop}
def Cw(P:Program)(N:cc)(w0:World)(Q:Exit->Act->World->Prop)(c:Code)(env:Env)(L:List aj):Prop:= ∀a w,cS N env a->Mem w0 L w->c.wpIn (k8 N.ro) 0 P Q a w
theorem Dz{x y:Code}(h:Cw P N w0 (Exit.then (y.wpIn (k8 N.ro) 0 P Q) Q) x env L):Cw P N w0 Q (.seq x y) env L:=fun a w ha hw=>wpIn_seq (h a w ha hw)
theorem DA{id:Nat}{l:List Oper}[jM Q](h:Sq P N w0 l Q l env L)(cl:oC l=true:=by kernel_rfl):Cw P N w0 Q (.region id l.toArray false) env L:=fun a w ha hw=>Ty cl (h a w ha hw)
theorem G3{ops:Array Oper}{C:World->Prop}{F:Act->Prop}(hC: ∀w w',C w->Mem w [] w'->C w'): ∀(rest:List Oper) (k:Nat) (a:Act),mi P ops [] C F k rest a->wpQuiet P ops C F rest a
 |[],_,_,h=>h
 |o::rest,k,a,h=>by
  unfold mi at h;rw[if_neg (by simp)]at h;unfold wpQuiet;split
  ·
   rename_i hw;rw[if_pos hw]at h;obtain⟨v,h1,h2⟩:=h;refine⟨v,fun w DB=>?_,G3 hC rest (k+1) _ h2⟩;have h3:=h1 w DB;unfold Oper.quietAt at h3⊢;generalize(execOp a.eval o).run P w=r at h3;unfold Oper.quietUpon at h3⊢;split at h3
   ·
    exact h3
   ·
    exact h3
   ·
    exact⟨h3.1,by obtain⟨rfl,td⟩:=h3;exact td.mono fun e oD ⟨he,hm⟩=>⟨he,hC _ _ DB hm⟩⟩
   exact h3.elim
  rename_i hw;rw[if_neg hw]at h;exact G3 hC rest (k+1) _ h
theorem fA{id:Nat}{l:List Oper}[jM Q](hm:P.follows .mixedOrders=true)(hB:Region.lexB .any l.toArray=true)(h:Qt P N w0 l [] (fun a'=> ∀w',Mem w0 L w'->Q .normal a' w') 0 l env L)(cl:oC l=true:=by kernel_rfl):Cw P N w0 Q (.region id l.toArray true) env L:=fun a _ ha hw=>
 Tz cl (C:=Mem w0 L) hm hB hw.De (by simpa using G3 (fun w w' DB fM=>by simpa using DB.call fM) l 0 a (h a ha))
theorem LM{id:Nat}{l:List Oper}[jM Q](n:Nat)(fs:List Nat)(Lq:List aj)(hq: ∀w,Mem w0 L w->Mem w0 Lq w)(hm:P.follows .mixedOrders=true)(hB:Dp l fs n=true)(h:Qt P N w0 l fs (fun a'=>tc P l n Q w0 Lq fs a' L) 0 (l.take n) env Lq)(cl:oC l=true:=by kernel_rfl):Cw P N w0 Q (.region id l.toArray true) env L:=fun a _ ha hw=>
 TJ n cl hm hB hw.De hq (h a ha)
theorem wX{id:Nat}{l:List Oper}[jM Q](n:Nat)(fs:List Nat)(hm:P.follows .mixedOrders=true)(hB:Dp l fs n=true)(h:Qt P N w0 l fs (fun a'=>tc P l n Q w0 L fs a' L) 0 (l.take n) env L)(cl:oC l=true:=by kernel_rfl):Cw P N w0 Q (.region id l.toArray true) env L:=
 LM n fs L (fun _ h=>h) hm hB h cl
theorem gW{c:Operand}{x y:Code}{g:Bool}(hc:ev env c=some (.bool g))(hx:g=true->Cw P N w0 Q x env L)(hy:g=false->Cw P N w0 Q y env L):Cw P N w0 Q (.cond c x y) env L:=fun a w ha hw=>
 wpIn_cond_split (ha.ev hc) (fun h=>hx h a w ha hw) (fun h=>hy h a w ha hw)
theorem LN{id:Nat}{c:Code}(h:Cw P N w0 (Exit.inBlock id Q) c env L):Cw P N w0 Q (.block id c) env L:=fun a w ha hw=>wpIn_block (h a w ha hw)
theorem LO(h:Ex N w0 Q .normal env L):Cw P N w0 Q .skip env L:=fun a w ha hw=>wpIn_skip (h a w ha hw)
theorem LP{id:Nat}(h:Ex N w0 Q (.exit id) env L):Cw P N w0 Q (.exit id) env L:=fun a w ha hw=>wpIn_exit (h a w ha hw)
theorem G4(h:Ex N w0 Q .ret env L):Cw P N w0 Q .ret env L:=fun a w ha hw=>wpIn_ret (h a w ha hw)
theorem bA{c:Code}{X:Type}(wY:X->Env)(LI:X->List aj)(inv:X->Prop)(m:X->Nat)(x0:X)(h0:inv x0)(hs:Sub (wY x0) env)(hL: ∀w,Mem w0 L w->Mem w0 (LI x0) w)
  (round: ∀x,inv x->Cw P N w0 (Exit.then (fun a w=> ∃x',inv x'/\m x'<m x/\cS N (wY x') a/\Mem w0 (LI x') w) Q) c (wY x) (LI x)):Cw P N w0 Q (.loop c) env L:=by
 intro a0 w1 Bh qz b k cs G5 hb hr;have key: ∀n x,m x=n->inv x-> ∀a w,cS N (wY x) a->Mem w0 (LI x) w->
   ∃e a' w',Q e a' w'/\ArrivesIn (Machine.fenced P (k8 N.ro)) P (lone (b.atR a (.code c:: .inLoop c::k)) cs w) b k cs e a' w':=by
  intro n
  induction n using Nat.strongRecOn with
  |_ n ih=>
   intro x hm hI a w ha hw;obtain⟨e,yV,yW,hq,u7⟩:=round x hI a w ha hw b (.inLoop c::k) cs G5 hb hr
   cases e with
   |normal=>
    obtain⟨x',T0,bc,wZ,fM⟩:=hq;obtain⟨T1,T2,T3,T4,T5⟩:=ih (m x') (hm▸bc) x' rfl T0 yV yW wZ fM;exact⟨T1,T2,T3,T4, .of_steps (StepsIn.trans u7 (.one (fenced_calm hb hr rfl) stepR_inLoop)) T5⟩
   |exit id=>exact⟨_,yV,yW,hq, .pass (x:= .inLoop c) rfl (fun _ _=> .inl (by simp)) u7⟩
   |goto l=>exact⟨_,yV,yW,hq, .pass (x:= .inLoop c) rfl (fun _ _=> .inl (by simp)) u7⟩
   |ret=>exact⟨_,yV,yW,hq, .pass (x:= .inLoop c) rfl (fun _ _=> .inl (by simp)) u7⟩
   |panic ch=>exact⟨_,yV,yW,hq, .pass (x:= .inLoop c) rfl (fun _ _=> .inl (by simp)) u7⟩
   |outgrown=>exact⟨_,yV,yW,hq, .pass (x:= .inLoop c) rfl (fun _ _=> .inl (by simp)) u7⟩
 obtain⟨e,a',w',hq,u7⟩:=key _ x0 rfl h0 a0 w1 (Bh.sub hs) (hL w1 qz);exact⟨e,a',w',hq, .of_steps (.one (fenced_calm hb hr rfl) stepR_loop) u7⟩
theorem qA{x y:Code}{X:Type}(Bi:X->Env)(LJ:X->List aj)(J:X->Prop)
  (h:Cw P N w0 (Exit.then (fun a w=> ∃s,J s/\cS N (Bi s) a/\Mem w0 (LJ s) w) Q) x env L) (hy: ∀s,J s->Cw P N w0 Q y (Bi s) (LJ s)):Cw P N w0 Q (.seq x y) env L:=fun a w ha hw=>
 wpIn_seq (wpIn_mono (h a w ha hw) fun e a' w' hq=>by
  cases e with
  |normal=>obtain⟨s,hs,hr,hm⟩:=hq;exact hy s hs a' w' hr hm
  |exit id=>exact hq
  |goto l=>exact hq
  |ret=>exact hq
  |panic ch=>exact hq
  |outgrown=>exact hq)
theorem DC{y:Code}{Q':Exit->Act->World->Prop}(h:Cw P N w0 Q y env L):Ex N w0 (Exit.then (y.wpIn (k8 N.ro) 0 P Q) Q') .normal env L:=h
theorem iB{X:Type}{Bi:X->Env}{LJ:X->List aj}{J:X->Prop}(s:X)(hJ:J s)(hs:Sub (Bi s) env)(hL: ∀w,Mem w0 L w->Mem w0 (LJ s) w):
  Ex N w0 (Exit.then (fun a w=> ∃s,J s/\cS N (Bi s) a/\Mem w0 (LJ s) w) Q) .normal env L:=fun _ w ha hw=>⟨s,hJ,ha.sub hs,hL w hw⟩
theorem aW{X:Type}{wY:X->Env}{LI:X->List aj}{inv:X->Prop}{m:X->Nat}{x:X}(x':X)(hI:inv x')(hm:m x'<m x)(hs:Sub (wY x') env)(hL: ∀w,Mem w0 L w->Mem w0 (LI x') w):
  Ex N w0 (Exit.then (fun a w=> ∃x',inv x'/\m x'<m x/\cS N (wY x') a/\Mem w0 (LI x') w) Q) .normal env L:=fun _ w ha hw=>⟨x',hI,hm,ha.sub hs,hL w hw⟩
theorem LQ{K:Act->World->Prop}{id:Nat}(h:Ex N w0 Q (.exit id) env L):Ex N w0 (Exit.then K Q) (.exit id) env L:=h
theorem LR{K:Act->World->Prop}(h:Ex N w0 Q .ret env L):Ex N w0 (Exit.then K Q) .ret env L:=h
theorem LS{id:Nat}(h:Ex N w0 Q .normal env L):Ex N w0 (Exit.inBlock id Q) .normal env L:=h
theorem LU{id:Nat}(h:Ex N w0 Q .normal env L):Ex N w0 (Exit.inBlock id Q) (.exit id) env L:=fun a w ha hw=>by
 simp only[Exit.inBlock,if_true];exact h a w ha hw
theorem LV{id DD:Nat}(cr:Nat.beq DD id=false)(h:Ex N w0 Q (.exit DD) env L):Ex N w0 (Exit.inBlock id Q) (.exit DD) env L:=fun a w ha hw=>by
 have: ¬DD=id:=fun e=>by subst e;simp at cr
 simp only[Exit.inBlock,this,if_false];exact h a w ha hw
theorem LW{id:Nat}(h:Ex N w0 Q .ret env L):Ex N w0 (Exit.inBlock id Q) .ret env L:=h
variable {fn:Func} {R:Ending->World->Prop}
theorem eM{n:Nat}{e:Exit}(he:e= .ret\/e= .normal){v:Value}(hr: ∀a w,cS ⟨n,[],none⟩ env a->Mem w0 L w->(results fn a.tmps).run P w= .ok v w)(h: ∀w,Mem w0 L w->R (.returned v) w):Ex ⟨n,[],none⟩ w0 (pC P fn R) e env L:=fun a w ha hw=>by
 have key:LeavesInM (k8 none) 0 P fn a.tmps R a.defers .returning w:=by
  rw[ha.defers];exact⟨v,hr a w ha hw,h w hw⟩
 rcases he with rfl|rfl
 ·
  exact⟨.inr rfl,key⟩
 exact⟨.inl rfl,key⟩
theorem jt{t:Nat}{v:Value}(hf:fn.results= #[.tmp t])(hv:look env t=some v): ∀a w,cS N env a->Mem w0 L w->(results fn a.tmps).run P w= .ok v w:=fun a w ha _=>by
 have:=ha.get _ _ hv;simp[results,hf,this]
theorem DE{t:Nat}{T T':TypeId}{b i n:Nat}{cs:Array Value}(hf:fn.results= #[.cell t T])(hv:look env t=some (.pointer (some ⟨b,0,none⟩)))[ht:dX P T n][hi:Has L b cs T' i][hn:eU cs n]:
  ∀a w,cS N env a->Mem w0 L w->(results fn a.tmps).run P w= .ok (.agg cs) w:=fun a w ha hw=>by
 have h1:=ha.get _ _ hv;have h2:(loadVar T ⟨b,0,none⟩).run P w= .ok (.agg cs) w:=GV w ht hn.h fun j _=>by rw[Addr.gg,hw.cell hi.h,apP]
 simp[results,hf,h1,asAddr,h2]
theorem w3{N:Nat}{f:FuncId}{c:Code}{args:List Value}{w:World}(hf:P.funcs[f]? =some fn)(hb:fn.body=some c)(hN:fn.ntmps=N)(hle:Nat.ble args.length N=true)
  (h:Cw P ⟨N,[],none⟩ w (pC P fn R) c (args.zipIdx.map fun p=>(p.2,p.1)) []):Calls P f args.toArray w R:=
 Ll hf hb (h _ _ (by rw[hN];exact cS.enter args N (Nat.le_of_ble_eq_true hle)) (Mem.init w))
end
theorem Z0(a b:Bool):((a&&b)=true)=(a=true/\b=true):=anc a b
theorem Z1(a b:Bool):((a||b)=true)=(a=true\/b=true):=aqz a b
theorem Z2{x y:Bool}:(x&&y)=false↔x=false\/y=false:=Bool.and_eq_false_iff
theorem Z3{x y:Bool}:(x||y)=false↔x=false/\y=false:=Bool.or_eq_false_iff
theorem Z4(b:Bool):((!b)=true)=(b=false):=aqP b
theorem Z5(b:Bool):((!b)=false)=(b=true):=Bool.not_eq_false' b
theorem Z6{p:Prop}[inst:Decidable p]:(decide p=true)=p:=decide_eq_true_eq
theorem Z7{p:Prop}{x:Decidable p}:decide p=false↔ ¬p:=decide_eq_false_iff_not
theorem Z8(b:Bool):(¬b=true)=(b=false):=Bool.not_eq_true b
theorem Z9(b:Bool):(¬b=false)=(b=true):=Bool.not_eq_false b
structure Sv where
  nil:Bool
  b:Nat
  o:Nat
  len:Nat
  cap:Nat
  sp:Option Nat
def Sv.val(s:Sv):Value:=match s.nil with
  |true=> .slice none 0 0
  |false=> .slice (some ⟨s.b,s.o,s.sp⟩) s.len s.cap
structure Sv.Ok(s:Sv):Prop where
  nil:s.nil=true->s.len=0/\s.cap=0
  le:s.len<=s.cap
  bd:s.len<=140737488355328
  sp:0<s.cap->s.sp=none
theorem Sv.Ok.some{s:Sv}(h:s.Ok)(hl:0<s.len):s.nil=false:=by
  cases hn:s.nil with
  |false=>rfl
  |true=>have:=h.nil hn;omega
theorem Sv.gk{s:Sv}(h:s.nil=false):s.val= .slice (some ⟨s.b,s.o,s.sp⟩) s.len s.cap:=by simp[Sv.val,h]
theorem Sv.pJ{s:Sv}(h:s.nil=true):s.val= .slice none 0 0:=by simp[Sv.val,h]
def Sv.none:Sv:=⟨true,0,0,0,0, .none⟩
theorem Sv.yX:Sv.none.Ok:=⟨fun _=>⟨rfl,rfl⟩,apm _,apE _,fun _=>rfl⟩
theorem Sv.one(s:Sv):s.val.oneCell'=true:=by unfold Sv.val;split<;>rfl
def mY(h:Nat->Option Obj)(b o:Nat):Option Value:=match h b with
  |some (.cells cs _ _)=>cs[o]?
  |_=>none
abbrev hp(w:World):Nat->Option Obj:=fun k=>w.heap[k]?
theorem qB(w:World)(b o:Nat):w.cell? ⟨b,o,none⟩=mY (hp w) b o:=by
  unfold World.cell? mY;split<;>simp_all
class bk{α:Type}(enc:α->Array Value)(c:outParam Nat):Prop where
  size: ∀x,(enc x).size=c
  one: ∀x,(enc x).all (·.oneCell')=true
structure dh{α:Type}(enc:α->Array Value)(c:Nat)(h:Nat->Option Obj)(s:Sv)(xs:List α):Prop where
  ok:s.Ok
  len:s.len=xs.length
  row: ∀i x,xs[i]? =some x-> ∀j,j<c->mY h s.b (s.o+i*c+j)=(enc x)[j]?
theorem dh.some{α:Type}{enc:α->Array Value}{c:Nat}{h:Nat->Option Obj}{s:Sv}{xs:List α}(r:dh enc c h s xs){i:Nat}(hi:i<xs.length):s.nil=false:=r.ok.some (by rw[r.len];omega)
theorem dh.nil{α:Type}(enc:α->Array Value)(c:Nat)(h:Nat->Option Obj):dh enc c h Sv.none ([]:List α):=⟨Sv.yX,rfl,by simp⟩
theorem dh.bd{α:Type}{enc:α->Array Value}{c:Nat}{h:Nat->Option Obj}{s:Sv}{xs:List α}(r:dh enc c h s xs):xs.length<=140737488355328:=by have:=r.ok.bd;have:=r.len;omega
theorem dh.mono{α:Type}{enc:α->Array Value}{c:Nat}[he:bk enc c]{w w':World}{s:Sv}{xs:List α}(r:dh enc c (hp w) s xs)(hb:Below w.heap.size w w'):dh enc c (hp w') s xs:=
  ⟨r.ok,r.len,fun i x hi j hj=>by
    have h:=r.row i x hi j hj;rw[←h];have LX:((enc x)[j]?).isSome:=by rw[Array.getElem?_eq_getElem (by rw[he.size];exact hj)];rfl
    rw[←h]at LX;have bc:s.b<w.heap.size:=by
      rcases apo s.b w.heap.size with h'|h'
      ·exact h'
      ·simp[mY,hp,aqH h']at LX
    have e:(hp w') s.b=(hp w) s.b:=hb.block s.b bc;unfold mY;rw[e]⟩
def G6(n:Nat)(fz:Nat×Nat):Prop:= ∀j,j<n-> ¬(fz.1<=j/\j<fz.2)
theorem G7(n:Nat):G6 n (0,0):=fun j _ h=>by have:=h.2;simp at this
def own{α:Type}(enc:α->Array Value)(c:Nat)(s:Sv)(xs:List α):aj:=
  ⟨fun k=>s.nil=false/\k=s.b,fun h=>dh enc c h s xs/\(s.nil=false->s.sp= .none/\ ∃cs T fz,h s.b=some (.cells cs T fz)/\s.o+s.cap*c<=cs.size/\G6 cs.size fz/\(1<c->fz=(0,0))),
   fun h h' e st=>by
    cases hn:s.nil with
    |true=>
     refine⟨⟨st.1.ok,st.1.len,fun i x hi=>?_⟩,fun h=>by cases h⟩;have:=st.1.some (ad2.1 hi).1;rw[hn]at this;cases this
    |false=>
     have e1:=e s.b ⟨hn,rfl⟩;refine⟨⟨st.1.ok,st.1.len,fun i x hi j hj=>?_⟩,fun _=>?_⟩
     ·rw[←st.1.row i x hi j hj];unfold mY;rw[e1]
     ·rw[e1];exact st.2 hn⟩
section
variable {P:Program} {N:cc} {w0:World} {env:Env} {L:List aj} {d:Option Tmp} {ty:TypeId} {ps:String} {af:Array Edge} {gd:Option (Nat×Bool)}
variable {α:Type} {enc:α->Array Value} {c:Nat} {s:Sv} {xs:List α}
def Holds(w0:World)(L:List aj){α:Type}(enc:α->Array Value)(c:Nat)(s:Sv)(xs:List α):Prop:= ∀w,Mem w0 L w->dh enc c (hp w) s xs
theorem Bj[bk enc c](r:dh enc c (hp w0) s xs):Holds w0 L enc c s xs:=fun _ hw=>r.mono hw.below
class At(L:List aj)(e:aj)(i:outParam Nat):Prop where
  h:L[i]? =some e
instance (priority:=high) At.here {L:List aj}{e:aj}:At (e::L) e 0:=⟨rfl⟩
instance At.there{L:List aj}{e x:aj}{i:Nat}[q:At L e i]:At (x::L) e (i+1):=⟨by simpa using q.h⟩
theorem rE{t e:TypeId}{x:Operand}{m n:Nat}[ht:dY P t e m](hx:ev env x=some s.val)(hs:s.Ok)(hn:s.len=n):
    Ry P N w0 env L ⟨d, .call {callee:= .builtin .len,args:= #[x],argTypes:= #[t]},ty,ps,af,gd⟩ (.int .i64 n):=by
  subst hn
  cases h:s.nil with
  |false=>rw[Sv.gk h]at hx;exact th hx
  |true=>
   rw[Sv.pJ h]at hx;rw[(hs.nil h).1];exact th hx
theorem lg{t e:TypeId}{x ix:Operand}{m i:Nat}{k:IntKind}{j:Int}[ht:dY P t e m](hx:ev env x=some s.val)(hj:ev env ix=some (.int k j))(ej:j=(i:Int))(hs:s.Ok)(h1:i<s.len):
    Ry P N w0 env L ⟨d, .indexAddr t x ix,ty,ps,af,gd⟩ (.pointer (some ⟨s.b,s.o+i*m,none⟩)):=by
  subst ej;rw[Sv.gk (hs.some (by omega)),hs.sp (by have:=hs.le;omega)]at hx;have:=Ly (P:=P) (N:=N) (w0:=w0) (L:=L) (d:=d) (ty:=ty) (ps:=ps) (af:=af) (gd:=gd) (t:=t) hx hj (by omega) (by omega);simpa using this
theorem DF{t:TypeId}{x:Operand}{i p:Nat}{a:α}[ht:dX P t c][he:bk enc c](hx:ev env x=some (.pointer (some ⟨s.b,p,none⟩)))(hR:Holds w0 L enc c s xs)(hi:xs[i]? =some a)(fj:p=s.o+i*c):
    Ry P N w0 env L ⟨d, .load t x,ty,ps,af,gd⟩ (.agg (enc a)):=Bb ht hx (he.size a) fun w hw j hj=>by
  rw[Addr.gg,qB,fj,(hR w hw).row i a hi j hj]
theorem G8{t:TypeId}{x:Operand}{i p j:Nat}{a:α}{v:Value}[ht:fc P t](hx:ev env x=some (.pointer (some ⟨s.b,p,none⟩)))(hR:Holds w0 L enc c s xs)(hi:xs[i]? =some a)(fj:p=s.o+i*c+j)(hj:j<c)(hv:(enc a)[j]? =some v):
    Ry P N w0 env L ⟨d, .load t x,ty,ps,af,gd⟩ v:=yO ht hx fun w hw=>by
  rw[qB,fj,(hR w hw).row i a hi j hj,hv]
theorem G9{t:TypeId}{x:Operand}{i p j n:Nat}{a:α}{sub:Array Value}[ht:dX P t n](hx:ev env x=some (.pointer (some ⟨s.b,p,none⟩)))(hR:Holds w0 L enc c s xs)(hi:xs[i]? =some a)(fj:p=s.o+i*c+j)(hj:j+n≤c)[hs:mn (enc a) j n sub]:
    Ry P N w0 env L ⟨d, .load t x,ty,ps,af,gd⟩ (.agg sub):=Bb ht hx hs.size fun w hw k hk=>by
  rw[Addr.gg,qB,fj,aqK,(hR w hw).row i a hi (j+k) (by omega)];exact hs.h k hk
def Sv.sub(s:Sv)(c lo hi:Nat):Sv:=⟨s.nil,s.b,if s.cap=lo then s.o else s.o+lo*c,hi -lo,s.cap -lo,s.sp⟩
theorem Sv.Ok.sub{lo hi:Nat}(h:s.Ok)(h2:hi<=s.cap)(h3:hi<=s.len):(s.sub c lo hi).Ok:=
  ⟨fun hn=>by have:=h.nil hn;simp only[Sv.sub];omega,by simp only[Sv.sub];omega,by have:=h.bd;simp only[Sv.sub];omega,fun hc=>h.sp (by simp only[Sv.sub]at hc;omega)⟩
theorem dh.sub{h:Nat->Option Obj}(r:dh enc c h s xs){lo hi:Nat}(h1:lo<=hi)(h2:hi<=xs.length):dh enc c h (s.sub c lo hi) ((xs.drop lo).take (hi -lo)):=by
  have hl:=r.len;have hc:=r.ok.le;refine⟨r.ok.sub (by omega) (by omega),by simp[Sv.sub];omega,fun i x nZ j hj=>?_⟩;have bc:i<hi -lo:=by
    have:=(ad2.1 nZ).1;simp at this;omega
  rw[aqy,if_pos bc,apU]at nZ;have:=r.row (lo+i) x nZ j hj;rw[←this];have e:(s.sub c lo hi).o=s.o+lo*c:=by
    simp only[Sv.sub];rw[if_neg (by omega)]
  rw[e,show(s.sub c lo hi).b=s.b from rfl];congr 1;rw[apM];omega
theorem Holds.sub(r:Holds w0 L enc c s xs){lo hi:Nat}(h1:lo<=hi)(h2:hi<=xs.length):Holds w0 L enc c (s.sub c lo hi) ((xs.drop lo).take (hi -lo)):=fun w hw=>(r w hw).sub h1 h2
theorem yY{t e:TypeId}(hu:P.underlying t=some (.slice e)):P.elem t=e:=by simp[Program.elem,hu]
theorem Ha{lo hi:Nat}(hs:s.Ok)(h2:lo<=hi)(h:hi<=s.cap): ∀a len cap,s.val= .slice a len cap->len=s.len/\cap=s.cap/\sliced a lo hi cap c=(s.sub c lo hi).val:=by
  intro a len cap e
  cases hn:s.nil with
  |true=>
   rw[Sv.pJ hn]at e;obtain⟨rfl,rfl,rfl⟩:=by simpa using e
   have:=hs.nil hn;have e2:(s.sub c lo hi).nil=true:=hn;rw[Sv.pJ e2];have:lo=0:=by omega
   have:hi=0:=by omega
   subst lo hi;exact⟨by omega,by omega,by simp[sliced]⟩
  |false=>
   rw[Sv.gk hn]at e;obtain⟨rfl,rfl,rfl⟩:=by simpa using e
   have e2:(s.sub c lo hi).nil=false:=hn;rw[Sv.gk e2];refine⟨rfl,rfl,?_⟩;simp only[sliced,Sv.sub]
   by_cases hc:s.cap=lo
   ·simp[hc]
   ·have fw:=hs.sp (by omega)
    simp[hc,fw,Addr.gg]
theorem Sv.ex(s:Sv): ∃ad len cap,s.val= .slice ad len cap:=by unfold Sv.val;split<;>exact⟨_,_,_,rfl⟩
theorem DG{t e:TypeId}{x lo hi:Operand}{m l h:Nat}{k k':IntKind}{il ih:Int}[ht:dY P t e m](hx:ev env x=some s.val)(hl:ev env lo=some (.int k il))(hh:ev env hi=some (.int k' ih))(el:il=(l:Int))(eh:ih=(h:Int))(hs:s.Ok)(h1:l≤h)(h2:h≤s.cap):
    Ry P N w0 env L ⟨d, .slice t x (some lo) (some hi) none,ty,ps,af,gd⟩ (s.sub m l h).val:=fun a w ha _=>by
  subst el eh;have ee:=yY ht.dZ;have hu:P.underlying t=some (.slice (P.elem t)):=by rw[ee];exact ht.dZ
  obtain⟨ad,len,cap,mZ⟩:=s.ex;obtain⟨e1,e2,e3⟩:=Ha (c:=m) hs h1 h2 ad len cap mZ;have hr:=run_slice_lh (P:=P) (w:=w) t ad len cap hu k k' (l:Int) (h:Int) (by omega) (by omega) (by omega);rw[ee,kH w ht.size]at hr;simp only[Result.andThen,aqm,e3]at hr;simp only[execOp,ha.ev hx,ha.ev hl,ha.ev hh,mZ,aqh,Option.map_none,run_sliceAt_slice (h:=hu),hr,Sem.run_bind,Result.andThen,Sem.run_pure]
theorem qC{t e:TypeId}{x hi:Operand}{m h:Nat}{k':IntKind}{ih:Int}[ht:dY P t e m](hx:ev env x=some s.val)(hh:ev env hi=some (.int k' ih))(eh:ih=(h:Int))(hs:s.Ok)(h2:h≤s.cap):
    Ry P N w0 env L ⟨d, .slice t x none (some hi) none,ty,ps,af,gd⟩ (s.sub m 0 h).val:=fun a w ha _=>by
  subst eh;have ee:=yY ht.dZ;have hu:P.underlying t=some (.slice (P.elem t)):=by rw[ee];exact ht.dZ
  obtain⟨ad,len,cap,mZ⟩:=s.ex;obtain⟨e1,e2,e3⟩:=Ha (c:=m) hs (apE h) h2 ad len cap mZ;have hr:=run_slice_h (P:=P) (w:=w) t ad len cap hu k' (h:Int) (by omega) (by omega);rw[ee,kH w ht.size]at hr;simp only[Result.andThen,aqm,e3]at hr;simp only[execOp,ha.ev hx,ha.ev hh,mZ,aqh,Option.map_none,run_sliceAt_slice (h:=hu),hr,Sem.run_bind,Result.andThen,Sem.run_pure]
theorem qD{t e:TypeId}{x lo:Operand}{m l n:Nat}{k:IntKind}{il:Int}[ht:dY P t e m](hx:ev env x=some s.val)(hl:ev env lo=some (.int k il))(el:il=(l:Int))(hs:s.Ok)(hn:s.len=n)(h1:l≤n):
    Ry P N w0 env L ⟨d, .slice t x (some lo) none none,ty,ps,af,gd⟩ (s.sub m l n).val:=fun a w ha _=>by
  subst el hn;have ee:=yY ht.dZ;have hu:P.underlying t=some (.slice (P.elem t)):=by rw[ee];exact ht.dZ
  obtain⟨ad,len,cap,mZ⟩:=s.ex;obtain⟨e1,e2,e3⟩:=Ha (c:=m) hs h1 hs.le ad len cap mZ;have hle:=hs.le;have hr:=run_slice_l (P:=P) (w:=w) t ad len cap hu k (l:Int) (by omega) (by omega);rw[ee,kH w ht.size]at hr;simp only[Result.andThen,aqm,e1]at hr;rw[e1]at mZ;rw[e3]at hr;simp only[execOp,ha.ev hx,ha.ev hl,mZ,aqh,Option.map_none,run_sliceAt_slice (h:=hu),hr,Sem.run_bind,Result.andThen,Sem.run_pure]
end
theorem set_perm(x:aj): ∀(L:List aj) (i:Nat),i<L.length->(x::L.eraseIdx i).Perm (L.set i x)
  |[],_,h=>by simp at h
  |_::_,0,_=>by simp
  |a::L,i+1,h=>by
   simp only[arN,List.set_cons_succ];exact(List.Perm.swap a x _).trans ((set_perm x L i (by simpa using h)).cons a)
theorem Mem.swap{w w':World}{E:aj}(h:Mem w0 L w){i:Nat}(hi:i<L.length)(h':Mem w [E] w'):Mem w0 (L.set i E) w':=
  ((h.call h').sub (L':=E::L.eraseIdx i) ((List.eraseIdx_sublist L i).cons_cons E)).perm (set_perm E L i hi)
theorem At.lt{L:List aj}{e:aj}{i:Nat}(h:L[i]? =some e):i<L.length:=(ad2.1 h).1
class eB(P:Program)(t:TypeId)(e:outParam TypeId)(c:outParam Nat)(cF:outParam Nat):Prop where
  dZ:P.underlying t=some (.slice e)
  row:(P.info? e).map (fun i=>(i.zero.map (·.cells.size),i.size,i.bytes))=some (some c,c,cF)
theorem eB.info{P:Program}{t e:TypeId}{c cF:Nat}(h:eB P t e c cF): ∃i z,P.info? e=some i/\i.zero=some z/\i.size=c/\i.bytes=cF/\z.cells.size=c:=by
  have h:=h.row
  cases hi:P.info? e with
  |none=>simp[hi]at h
  |some i=>
   cases hz:i.zero with
   |none=>simp[hi,hz]at h
   |some z=>simp[hi,hz]at h;exact⟨i,z,rfl,hz,h.2.1,h.2.2,h.1⟩
theorem tj{cs vs:Array Value}{o j:Nat}(ho:o+vs.size<=cs.size):(over cs o vs)[j]? =if o<=j/\j<o+vs.size then vs[j -o]?else cs[j]? :=by
  unfold over;simp only[aqA];rw[apq,aqF];have e1:(List.take o cs.toList).length=o:=by simp;omega
  rw[e1]
  by_cases h1:j<o
  ·rw[if_pos h1,if_neg (by omega),aqy,if_pos h1];simp
  ·rw[if_neg h1,aqF]
   by_cases h2:j -o<vs.toList.length
   ·rw[if_pos h2,if_pos (by simp at h2;omega)];simp
   ·rw[if_neg h2,if_neg (by simp at h2;omega),apU]
    simp at h2⊢;congr 1;omega
theorem nf{cs vs:Array Value}{o:Nat}(ho:o+vs.size<=cs.size):(over cs o vs).size=cs.size:=by
  simp[over];omega
theorem Bm{P:Program}(g o:Nat)(t:TypeId)(fz:Nat×Nat): ∀(vs:List Value) (i:Nat) (cur:Array Value) (w:World),w.heap[g]? =some (.cells cur t fz)→G6 cur.size fz→o+i+vs.length≤cur.size→(∀v∈vs,v.oneCell'=true)→
    (storeCells ⟨g,o,none⟩ vs i).run P w= .ok () (w.setRow g (cur.toList.take (o+i)++vs++cur.toList.drop (o+i+vs.length)).toArray)
  |[],i,cur,w,hg,_,_,_=>by
   simp only[storeCells,apZ,apl,aqk,apH,Array.toArray_toList];rw[setRow_self w g cur t fz hg];rfl
  |v::rest,i,cur,w,hg,hf,hl,h1=>by
   have hi:o+i<cur.size:=by simp at hl;omega
   have T6:(⟨g,o,none⟩:Addr).add i=⟨g,o+i,none⟩:=by unfold Addr.add;split<;>simp_all
   have T7:w.cell? ⟨g,o+i,none⟩=some cur[o+i]:=by simp[World.cell?,hg,hi]
   have T8:w.frozen? ⟨g,o+i,none⟩=false:=by
      have:=hf (o+i) hi;obtain⟨a,b⟩:=fz;simp only[World.frozen?,hg];simp only[Bool.and_eq_false_iff,decide_eq_false_iff_not];omega
   have bu:(store ((⟨g,o,none⟩:Addr).add i) v).run P w= .ok () (w.setRow g (cur.setIfInBounds (o+i) v)):=by
      rw[T6,run_store P w _ v _ (h1 v (by simp)),T7];simp[T8,setCell_eq_setRow w g (o+i) cur t fz v hg]
   have ih:=Bm (P:=P) g o t fz rest (i+1) (cur.setIfInBounds (o+i) v) (w.setRow g (cur.setIfInBounds (o+i) v)) (setRow_heap w g cur _ t _ hg) (by simpa using hf) (by simp at hl⊢;omega) (fun x hx=>h1 x (by simp[hx]));simp only[storeCells,Sem.run_bind,bu,Result.andThen_ok,ih,setRow_setRow];congr 3;have e:=list_seg_step cur.toList (o+i) v rest (by simp at hl⊢;omega);simpa[Array.toList_setIfInBounds,aqK]using e
section
variable {α:Type} {enc:α->Array Value} {c:Nat}
def aF(enc:α->Array Value)(xs:List α):List Value:=xs.flatMap fun x=>(enc x).toList
theorem fX[he:bk enc c]: ∀xs:List α,(aF enc xs).length=xs.length*c
  |[]=>by simp[aF]
  |x::xs=>by
   have:=fX xs;simp only[aF,arZ,af0]at this⊢;rw[this,aqO,he.size,apj,apM];omega
theorem ng[he:bk enc c]: ∀(xs:List α) (i:Nat) (x:α),xs[i]? =some x-> ∀j,j<c->(aF enc xs)[i*c+j]? =(enc x)[j]?
  |[],i,x,h,_,_=>by simp at h
  |y::xs,0,x,h,j,hj=>by
   obtain rfl:y=x:=by simpa using h
   simp only[aF,arZ,Nat.zero_mul,apP];rw[apw (by rw[aqO,he.size];exact hj)];simp
  |y::xs,i+1,x,h,j,hj=>by
   have:=ng xs i x (by simpa using h) j hj;simp only[aF,arZ]at this⊢;rw[apx (by rw[aqO,he.size,apM];omega),aqO,he.size];rw[←this];congr 1;rw[apM];omega
theorem DH(hc:0<c)[he:bk enc c]{xs:List α}{k:Nat}{v:Value}(h:(aF enc xs)[k]? =some v): ∃x,xs[k/c]? =some x/\(enc x)[k%c]? =some v:=by
  have hk:k<xs.length*c:=by
    have:=(ad2.1 h).1;rwa [fX]at this
  have hd:k/c<xs.length:=arI (by rwa [aqt]);refine⟨xs[k/c],by simp[hd],?_⟩;rw[←ng xs (k/c) xs[k/c] (by simp[hd]) (k%c) (ara _ hc),←h];congr 1;rw[aqt];exact arb k c
theorem u9[he:bk enc c](xs:List α): ∀u∈aF enc xs,u.oneCell'=true:=fun u hu=>by
  obtain⟨x,_,hx⟩:=List.mem_flatMap.1 hu;exact(apR.1 (he.one x)) u (by simpa using hx)
theorem va{h:Nat→Option Obj}{s:Sv}{xs:List α}{cs:Array Value}{T:TypeId}{fz:Nat×Nat}(ok:s.Ok)(hl:s.len=xs.length)(hb:h s.b=some (.cells cs T fz))
    (hc: ∀i x,xs[i]? =some x-> ∀j,j<c->cs[s.o+i*c+j]? =(enc x)[j]?):dh enc c h s xs:=
  ⟨ok,hl,fun i x hi j hj=>by unfold mY;rw[hb];exact hc i x hi j hj⟩
theorem ib{P:Program}{tx e':TypeId}(hk:P.underlying tx=some (.slice e'))(hc:0<c)[he:bk enc c]{w:World}{s:Sv}{xs:List α}(r:dh enc c (hp w) s xs):Src P c tx s.val xs.length (aF enc xs) w:=by
  cases hn:s.nil with
  |true=>
   have:xs=[]:=by have:=(r.ok.nil hn).1;rw[r.len]at this;exact apB.1 this
   subst this;rw[Sv.pJ hn];exact Src.ofNil w hk 0
  |false=>
   rw[Sv.gk hn,r.len];refine Src.ofSlice w hk _ _ _ _ (fX xs) (fun j u hu=>?_) (u9 xs);obtain⟨x,hx,Hb⟩:=DH hc hu;have fw:=r.ok.sp (by have h1:=arq (apE _) (ad2.1 hx).1;have:=r.len;have:=r.ok.le;omega);rw[fw,Addr.gg,qB,←Hb,←r.row _ x hx (j%c) (ara _ hc)];congr 1;have:=arb j c;rw[aqt]at this;omega
theorem Hc{P:Program}{t tx ty e:TypeId}{cF:Nat}(ht:eB P t e c cF)(hc:0<c)[he:bk enc c]{w0 w:World}{L:List aj}{i:Nat}{s:Sv}{xs ys:List α}{x:Value}
    (hw:Mem w0 L w) (hi:L[i]? =some (own enc c s xs)) (hs:Src P c tx x ys.length (aF enc ys) w) (hb:(xs.length+ys.length)*cF<=140737488355328) (iL:xs.length+ys.length<=140737488355328):
    ∃s' w',(Builtin.append_ #[t,tx] ty #[s.val,x]).run P w= .ok (Sv.val s') w'/\s'.Ok/\s'.len=(xs++ys).length/\Mem w0 (L.set i (own enc c s' (xs++ys))) w':=by
  obtain⟨r,lM⟩:=hw.get hi;obtain⟨i',z,aQ,az,aX,bX,mo⟩:=ht.info;subst aX bX;have hlen:=r.len;have hle:=r.ok.le
  have grow:s.cap<s.len+ys.length→ ∀(base:Option Addr),s.val= .slice base s.len s.cap→(Builtin.firstCells i'.size s.len (.slice base s.len s.cap)).run P w.drew= .ok (aF enc xs).toArray w.drew→
      ∃s' w',(Builtin.append_ #[t,tx] ty #[s.val,x]).run P w= .ok (Sv.val s') w'/\s'.Ok/\s'.len=(xs++ys).length/\Mem w0 (L.set i (own enc i'.size s' (xs++ys))) w':=by
    intro hg base hv hold;have vb:=nextslicecap_le hg;have iC:Builtin.nextslicecap (s.len+ys.length) s.cap*i'.bytes<=281474976710656:=by
      have h2:Builtin.nextslicecap (s.len+ys.length) s.cap*i'.bytes<=2*(s.len+ys.length)*i'.bytes:=apz _ vb;rw[Nat.mul_assoc,hlen]at h2;rw[hlen];omega
    have hr:=run_append_grow_src w t tx ty e i' z ht.dZ aQ az base s.len s.cap (aF enc xs) hold x ys.length (aF enc ys) hs hg (by omega) iC;have rF:=grownCap_ge w (s.len+ys.length) s.cap e;generalize grownCap w (s.len+ys.length) s.cap e=C at hr rF;refine⟨⟨false,w.heap.size,0,s.len+ys.length,C,none⟩,_,by rw[hv,hr];rfl,⟨(fun h=>by cases h),rF,by simp only;omega,fun _=>rfl⟩,by simp[hlen],hw.swap (At.lt hi) ?_⟩;have hm:=(Mem.init w).drew.alloc ((aF enc xs++aF enc ys).toArray++Builtin.zeroCells z.cells (C -(s.len+ys.length))) e;refine⟨hm.below,fun q hq=>?_,fun q hq k hk=>?_,by simp⟩
    ·obtain rfl:=apW.1 hq
     have fB:hp (w.drew.alloc (.cells ((aF enc xs++aF enc ys).toArray++Builtin.zeroCells z.cells (C -(s.len+ys.length))) e)) w.heap.size=some (.cells ((aF enc xs++aF enc ys).toArray++Builtin.zeroCells z.cells (C -(s.len+ys.length))) e (0,0)):=Below.Df w.drew _;have dw:aF enc xs++aF enc ys=aF enc (xs++ys):=by simp[aF]
     rw[dw]at fB;rw[dw];have dO:(aF enc (xs++ys)).length=(xs.length+ys.length)*i'.size:=by rw[fX];simp
     refine⟨va (enc:=enc) (c:=i'.size) (xs:=xs++ys) ⟨(fun h=>by cases h),rF,by simp only;omega,fun _=>rfl⟩ (by simp[hlen]) fB fun k y hy j hj=>?_,fun _=>⟨rfl,_,_,_,fB,?_,G7 _,fun _=>rfl⟩⟩
     ·have w4:=ng (enc:=enc) (xs++ys) k y hy j hj
      have bc:k*i'.size+j<(aF enc (xs++ys)).length:=by
          rw[dO];have h1:=(ad2.1 hy).1;rw[af0]at h1
          calc k*i'.size+j<k*i'.size+i'.size:=by omega
            _=(k+1)*i'.size:=by rw[apM];omega
            _<=_:=apz _ h1
      simp only[apP];rw[←w4,aro (by simpa using bc)];simp
     ·have h3:=size_zeroCells z.cells (C -(s.len+ys.length))
      rw[mo]at h3;simp only[arG,ap1,h3,dO,apP];rw[←apM,hlen];refine apz _ ?_;omega
    ·obtain rfl:=apW.1 hq
     obtain rfl:k=w.heap.size:=hk.2;simp
  cases hn:s.nil with
  |true=>
   have h0:=r.ok.nil hn;have dI:xs=[]:=by rw[hlen]at h0;exact apB.1 h0.1
   subst dI
   by_cases hy:ys.length=0
   ·have tl:ys=[]:=apB.1 hy
    subst tl;refine⟨s,w,?_,r.ok,by simpa using hlen,?_⟩
    ·rw[Sv.pJ hn]
     have qE:=hs.cells;simp only[apl]at qE;rcases hs.kind with⟨e',hk⟩|hk<;>simp[Builtin.append_,run_underlying ht.dZ,run_underlying hk,sizeOf,typeInfo,aQ,hs.len,qE]
    ·have:L.set i (own enc i'.size s ([]++[]))=L:=by
          rw[apZ];refine ap2 fun k=>?_;rw[aqe]
          by_cases hk:i=k
          ·subst hk;rw[if_pos rfl,hi,if_pos (At.lt hi)]
          ·rw[if_neg hk]
     rw[this];exact hw
   ·refine grow (by omega) .none (by rw[Sv.pJ hn,h0.1,h0.2]) ?_
    rw[h0.1,h0.2];exact run_firstCells_none w.drew _ _ _ _
  |false=>
   obtain⟨fw,cs,T,fz,fB,dO,lN,lO⟩:=lM hn
   by_cases nh:s.len+ys.length<=s.cap
   ·have hmul:(s.len+ys.length)*i'.size<=s.cap*i'.size:=apz _ nh
    have dw:(aF enc ys).length=ys.length*i'.size:=fX ys
    have iC:s.o+s.len*i'.size+(aF enc ys).toArray.size≤cs.size:=by
        rw[ap1,dw];rw[apM]at hmul;omega
    have bu:=Bm (P:=P) s.b (s.o+s.len*i'.size) T fz (aF enc ys) 0 cs w fB lN (by simpa using iC) hs.one
    have w5:(storeCells ⟨s.b,s.o+s.len*i'.size,none⟩ (aF enc ys)).run P w= .ok () (w.setRow s.b (over cs (s.o+s.len*i'.size) (aF enc ys).toArray)):=by
        simpa[over]using bu
    refine⟨{s with len:=s.len+ys.length},w.setRow s.b (over cs (s.o+s.len*i'.size) (aF enc ys).toArray),?_,⟨(fun h=>by rw[hn]at h;cases h),nh,by simp only;omega,r.ok.sp⟩,by simp[hlen],?_⟩
    ·have jN:({s with len:=s.len+ys.length}:Sv).val= .slice (some ⟨s.b,s.o,s.sp⟩) (s.len+ys.length) s.cap:=Sv.gk (s:={s with len:=s.len+ys.length}) hn
     rw[Sv.gk hn,jN,fw];rcases hs.kind with⟨e',hk⟩|hk<;>simp[Builtin.append_,run_underlying ht.dZ,run_underlying hk,sizeOf,typeInfo,aQ,hs.len,nh,hs.cells,Addr.gg,w5]
    ·have cD:hp (w.setRow s.b (over cs (s.o+s.len*i'.size) (aF enc ys).toArray)) s.b=some (.cells (over cs (s.o+s.len*i'.size) (aF enc ys).toArray) T fz):=setRow_heap w s.b cs _ T fz fB
     refine hw.change hi (fun k hk=>hk) (fun k hk=>?_) (by simp[World.setRow]) ⟨rfl,rfl,rfl⟩ ⟨va ⟨(fun h=>by rw[hn]at h;cases h),nh,by simp only;omega,r.ok.sp⟩ (by simp[hlen]) cD fun k y hy j hj=>?_,fun _=>⟨fw,_,_,_,cD,?_,by rw[nf iC];exact lN,lO⟩⟩
     ·exact setRow_other w s.b k _ (fun e=>hk ⟨hn,e⟩)
     ·rw[tj iC]
      by_cases hk:k<xs.length
      ·rw[if_neg,←r.row k y (by rw[apw hk]at hy;exact hy) j hj]
       ·unfold mY;rw[fB]
       ·have:(k+1)*i'.size<=s.len*i'.size:=apz _ (by omega)
        rw[apM]at this;intro h;have:=h.1;simp only at this;omega
      ·rw[apx (by omega)]at hy
       have w4:=ng (enc:=enc) ys (k -xs.length) y hy j hj;have ni:s.len*i'.size+(k -xs.length)*i'.size=k*i'.size:=by rw[←apM];congr 1;omega
       have bc:(k -xs.length+1)*i'.size<=ys.length*i'.size:=apz _ (by have:=(ad2.1 hy).1;omega);rw[apM]at bc;rw[if_pos ⟨by simp only;omega,by rw[ap1,dw];simp only;omega⟩,←w4];simp only[aqA];congr 1;omega
     ·rw[nf iC];exact dO
   ·refine grow (by omega) _ (by rw[Sv.gk hn,fw]) ?_
    refine run_firstCells_some w.drew _ _ _ _ _ _ (by rw[fX,hlen]) fun j u hu=>?_;obtain⟨y,hy,Hb⟩:=DH hc hu;have:=r.row _ y hy (j%i'.size) (ara _ hc);rw[Hb]at this;rw[Addr.gg];show w.cell? _=_;rw[qB,←this];congr 1;have h9:=arb j i'.size;rw[aqt]at h9;omega
theorem LY(off:Nat): ∀(vs:List Value) (k:Nat) (cs:Array Value),off+k+vs.length≤cs.size→
    (vs.zipIdx k).foldl (fun cs (p:Value×Nat)=>cs.setIfInBounds (off+p.2) p.1) cs=(cs.toList.take (off+k)++vs++cs.toList.drop (off+k+vs.length)).toArray
  |[],k,cs,_=>by simp
  |v::vs,k,cs,h=>by
   simp only[List.zipIdx_cons,arT,apj]at h⊢;rw[LY off vs (k+1) _ (by simp;omega)];apply arh;have e1:(cs.setIfInBounds (off+k) v).toList=cs.toList.set (off+k) v:=by simp
   rw[e1];have bc:off+k<cs.toList.length:=by simp;omega
   have e2:(cs.toList.set (off+k) v).take (off+(k+1))=cs.toList.take (off+k)++[v]:=by
      rw[←aqK,aps,arl (apm _),apJ bc];rfl
   have e3:(cs.toList.set (off+k) v).drop (off+(k+1)+vs.length)=cs.toList.drop (off+k+(vs.length+1)):=by
      rw[List.drop_set_of_lt (by omega)];congr 1;omega
   rw[e2,e3];simp
def idx(vals:List Value)(i:Nat):List (Nat×Value):=(vals.zipIdx i).map fun p=>(p.2,p.1)
theorem LZ[he:bk enc c]: ∀(xs:List α) (vals:List Value) (i:Nat) (cs:Array Value),vals.map Value.cells=xs.map enc→i*c+xs.length*c≤cs.size→
    Instr.fill (fun i=>some (i*c,c)) cs (idx vals i)=some (cs.toList.take (i*c)++aF enc xs++cs.toList.drop (i*c+xs.length*c)).toArray
  |[],[],i,cs,_,_=>by simp[idx,Instr.fill,aF]
  |[],_::_,_,_,h,_=>by simp at h
  |_::_,[],_,_,h,_=>by simp at h
  |x::xs,v::vals,i,cs,h,hs=>by
   simp only[apY,arD]at h;obtain⟨h1,h2⟩:=h;have dO:v.cells.size=c:=by rw[h1];exact he.size x
   rw[apj,apM,Nat.one_mul]at hs;simp only[idx,List.zipIdx_cons,apY,Instr.fill,dO];rw[if_neg (by simp;omega)]
   have ef:v.cells.zipIdx.foldl (fun cs (p:Value×Nat)=>cs.setIfInBounds (i*c+p.2) p.1) cs=(cs.toList.take (i*c)++v.cells.toList++cs.toList.drop (i*c+c)).toArray:=by
      have:=LY (i*c) v.cells.toList 0 cs (by simp;omega);simp only[aqk]at this;rw[←Array.foldl_toList,Array.toList_zipIdx,this];simp[dO]
   have T9:(v.cells.zipIdx.foldl (fun cs (x:Value×Nat)=>match x with|(c',j)=>cs.setIfInBounds (i*c+j) c') cs)=(cs.toList.take (i*c)++v.cells.toList++cs.toList.drop (i*c+c)).toArray:=ef
   rw[T9];have rG:(cs.toList.take (i*c)++v.cells.toList).length=(i+1)*c:=by simp[dO,apM];omega
   have:=LZ xs vals (i+1) (cs.toList.take (i*c)++v.cells.toList++cs.toList.drop (i*c+c)).toArray h2 (by simp[dO,apM];omega);unfold idx at this;rw[this];congr 1;apply arh;rw[List.take_left' rG,←aq5 (j:=(i+1)*c) (i:=xs.length*c),List.drop_left' rG];simp only[aF,arZ,h1,apq,List.append_cancel_left_eq];rw[aq5,apj,show i*c+c+xs.length*c=i*c+(xs.length+1)*c by rw[apM];omega]
end
section
variable {P:Program} {N:cc} {w0:World} {env:Env} {L:List aj} {l:List Oper} {Q:Exit->Act->World->Prop} {rest:List Oper} {d:Option Tmp} {ty:TypeId} {ps:String} {af:Array Edge}
variable {α:Type} {enc:α->Array Value} {c:Nat} {s:Sv} {xs ys:List α}
class di(L:List aj)(s:Sv){α:outParam Type}(enc:outParam (α->Array Value))(c:outParam Nat)(xs:outParam (List α))(i:outParam Nat):Prop where
  h:L[i]? =some (own enc c s xs)
instance (priority:=high) di.here {L:List aj}:di (own enc c s xs::L) s enc c xs 0:=⟨rfl⟩
instance di.there{L:List aj}{e:aj}{i:Nat}[q:di L s enc c xs i]:di (e::L) s enc c xs (i+1):=⟨by simpa using q.h⟩
theorem di.holds{i:Nat}(q:di L s enc c xs i):Holds w0 L enc c s xs:=fun _ hw=>(hw.get q.h).1
theorem Mem.cO{w:World}(enc:α->Array Value)(c:Nat)(h:Mem w0 L w):Mem w0 (own enc c Sv.none []::L) w:=
  h.call (E:=[own enc c Sv.none []]) ⟨Below.refl _ _,fun e he=>by
    obtain rfl:=apW.1 he;exact⟨dh.nil enc c _,(fun h=>by cases h)⟩,fun e he k hk=>by
    obtain rfl:=apW.1 he;exact absurd hk.1 (by simp[Sv.none]),by simp⟩
theorem jd{t tx e:TypeId}{x y:Operand}{yv:Value}{cF i:Nat}[ht:eB P t e c cF][he:bk enc c](hx:ev env x=some s.val)(hy:ev env y=some yv)[q:di L s enc c xs i](hc:0<c)
    (hs: ∀w,Mem w0 L w->Src P c tx yv ys.length (aF enc ys) w) (hb:(xs.length+ys.length)*cF<=140737488355328) (iL:xs.length+ys.length<=140737488355328) {L':Sv->List aj} [hu: ∀s',eK L i (own enc c s' (xs++ys)) (L' s')]
    (hk: ∀s':Sv,s'.Ok->s'.len=(xs++ys).length->Sq P N w0 l Q rest (ca env d s'.val) (L' s')) (hd:cM N d=true:=by rfl):
    Sq P N w0 l Q (⟨d, .call {callee:= .builtin .append,args:= #[x,y],argTypes:= #[t,tx]},ty,ps,af,none⟩::rest) env L:=
  lL rfl hd fun a w ha hw=>by
    obtain⟨s',w',h1,h2,h3,h4⟩:=Hc (ty:=ty) ht hc hw q.h (hs w hw) hb iL;refine⟨s'.val,w',L' s',?_,by rw[←(hu s').h];exact h4,hk s' h2 h3⟩;simp[execOp,ha.ev hx,ha.ev hy,resolve,invoke,builtin,h1,Result.andThen]
theorem w6{w:World}{b:Nat}{cs:Array Value}{e:TypeId}(hb:b=w.heap.size)(n cap:Nat)(hn:n=xs.length)(hle:n≤cap)(iL:n≤140737488355328)(dO:cap*c≤cs.size)(hc: ∀i x,xs[i]? =some x→ ∀j,j<c→cs[i*c+j]? =(enc x)[j]?):
    Mem w [own enc c ⟨false,b,0,n,cap,none⟩ xs] (w.alloc (.cells cs e)):=by
  subst hb;have hm:=(Mem.init w).alloc cs e;have fB:hp (w.alloc (.cells cs e)) w.heap.size=some (.cells cs e (0,0)):=Below.Df w _;refine⟨hm.below,fun q hq=>?_,fun q hq k hk=>?_,by simp⟩
  ·obtain rfl:=apW.1 hq
   exact⟨va ⟨(fun h=>by cases h),hle,iL,fun _=>rfl⟩ hn fB (by simpa using hc),fun _=>⟨rfl,_,_,_,fB,by simpa using dO,G7 _,fun _=>rfl⟩⟩
  ·obtain rfl:=apW.1 hq
   obtain rfl:k=w.heap.size:=hk.2;simp
theorem He{n c:Nat}(h0:0<n*c)(h:n*c<=16777216):n<=140737488355328:=by
  have:n*1≤n*c:=Nat.mul_le_mul_left _ (by rcases aqq c with rfl|h';·simp at h0
                                          ·exact h')
  omega
theorem Hf{t e:TypeId}{cF:Nat}(ht:eB P t e c cF)[he:bk enc c]{vals:List Value}(hv:vals.map Value.cells=xs.map enc)(hc:0<xs.length*c)(tm:xs.length*c≤16777216)(w:World):
    (Instr.buildSlice t xs.length (idx vals 0).toArray).run P w= .ok (.slice (some ⟨w.heap.size,0,none⟩) xs.length xs.length) (w.alloc (.cells (aF enc xs).toArray e)):=by
  obtain⟨i',z,aQ,az,aX,bX,mo⟩:=ht.info;subst aX;have hf:=LZ (enc:=enc) (c:=i'.size) xs vals 0 ((Array.range (xs.length*i'.size)).map (z.cells[· %z.cells.size]!)) hv (by simp);have Ua:((Array.range (xs.length*i'.size)).map (z.cells[· %z.cells.size]!)).toList.drop (0*i'.size+xs.length*i'.size)=[]:=by simp
  rw[Ua]at hf;simp only[Nat.zero_mul,apK,apV,apZ]at hf;have n1: ¬xs.length*i'.size>2^24:=by omega
  have n2: ¬xs.length*i'.size=0:=by omega
  simp[Instr.buildSlice,run_underlying ht.dZ,sizeOf,typeInfo,zeroValue,aQ,az,n1,n2,hf,newRow,newObj,Sem.run,Result.andThen]
theorem jO{t e:TypeId}{cF n:Nat}[ht:eB P t e c cF][he:bk enc c]{ops:List (Nat×Operand)}{vals:List Value}(xs:List α)(hx:kJ env ops=some (idx vals 0))(hv:vals.map Value.cells=xs.map enc)(hn:xs.length=n)(hc:0<n*c)(tm:n*c≤16777216)
    (hk: ∀b,Sq P N w0 l Q rest (ca env d (Sv.val ⟨false,b,0,n,n,none⟩)) (own enc c ⟨false,b,0,n,n,none⟩ xs::L)) (hd:cM N d=true:=by rfl):
    Sq P N w0 l Q (⟨d, .buildSlice t n ops.toArray,ty,ps,af,none⟩::rest) env L:=
  lL rfl hd fun a w ha hw=>by
    subst hn;have e1:(ops.toArray.map fun(p:Nat×Operand)=>match p with|(i,x)=>(i,a.eval x))=(idx vals 0).toArray:=by
      rw[←ha.kJ hx];simp
    refine⟨_,_,_,?_,hw.call (w6 (enc:=enc) (c:=c) (xs:=xs) (cs:=(aF enc xs).toArray) (e:=e) rfl xs.length xs.length rfl (apm _) (He hc tm) (by simp[fX]) fun i x hx j hj=>by rw[←ng (enc:=enc) xs i x hx j hj];simp),hk _⟩;simp only[execOp,e1,Sem.run_bind,Hf ht hv hc tm w,Result.andThen,Sem.run_pure];rfl
theorem Ub{zc:Array Value}(m n:Nat)(h:zc.size=c)(i j:Nat)(hi:i<n)(hj:j<c)(hm:n*c<=m):(madeCells zc m)[i*c+j]? =zc[j]? :=by
  have bc:i*c+j<m:=by
    have:(i+1)*c<=n*c:=apz _ hi;rw[apM]at this;omega
  have e1:(i*c+j)%zc.size=j:=by rw[h,aqt,Nat.mul_add_mod];exact ap3 hj
  have hz:j<zc.size:=by omega
  simp[madeCells,bc,e1,hz]
theorem Hg{t e:TypeId}{cF n cap:Nat}{z:Value}(ht:eB P t e c cF)(hz:dz P e z){k k':IntKind}(x0:α)(h0:enc x0=z.cells)(hle:n≤cap)(hb:cF*cap≤281474976710656)(iL:cap≤140737488355328)(w:World):
    ∃w',(Instr.makeSlice t (.int k n) (.int k' cap)).run P w= .ok (Sv.val ⟨false,w.heap.size,0,n,cap,none⟩) w'/\Mem w [own enc c ⟨false,w.heap.size,0,n,cap,none⟩ (List.replicate n x0)] w':=by
  obtain⟨i',z',aQ,az,aX,bX,mo⟩:=ht.info;obtain rfl:z'=z:=by
    have:=hz.zero;rw[aQ,aqh,az]at this;exact api (api this)
  subst aX bX;have cD:(i'.bytes:Int)*(cap:Int)<=281474976710656:=by
    have h:((i'.bytes*cap:Nat):Int)<=281474976710656:=by omega
    rwa [Int.natCast_mul]at h
  have hr:=run_make (P:=P) w t e i' _ ht.dZ aQ az k k' n cap (by omega) (by omega) cD (by omega);simp only[aqm]at hr;refine⟨_,hr,w6 rfl n cap (by simp) hle (by omega) (by simp[size_madeCells]) fun i x hx j hj=>?_⟩;have hi:i<n:=by
    have:=(ad2.1 hx).1;simpa using this
  obtain rfl:x0=x:=by rw[ary,if_pos hi]at hx;exact api hx
  rw[h0];exact Ub _ n mo i j hi hj (apz _ hle)
theorem rH{t e:TypeId}{cF n cap:Nat}{z:Value}{x y:Operand}{k k':IntKind}{ix iy:Int}[ht:eB P t e c cF][hz:dz P e z](x0:α)(h0:enc x0=z.cells)(hx:ev env x=some (.int k ix))(hy:ev env y=some (.int k' iy))(ex:ix=(n:Int))(ey:iy=(cap:Int))(hle:n≤cap)(hb:cF*cap≤281474976710656)(iL:cap≤140737488355328)
    (hk: ∀b,Sq P N w0 l Q rest (ca env d (Sv.val ⟨false,b,0,n,cap,none⟩)) (own enc c ⟨false,b,0,n,cap,none⟩ (List.replicate n x0)::L)) (hd:cM N d=true:=by rfl):
    Sq P N w0 l Q (⟨d, .makeSlice t x y,ty,ps,af,none⟩::rest) env L:=
  lL rfl hd fun a w ha hw=>by
    subst ex ey;obtain⟨w',h1,h2⟩:=Hg ht hz (k:=k) (k':=k') (n:=n) x0 h0 hle hb iL w;exact⟨_,w',_,by simp only[execOp,ha.ev hx,ha.ev hy,Sem.run_bind,h1,Result.andThen,Sem.run_pure],hw.call h2,hk _⟩
theorem DI{w:World}{L':List aj}{i k j:Nat}{a a':α}{vs:Array Value}[he:bk enc c](hw:Mem w0 L w)(q:di L s enc c xs i)(ha:xs[k]? =some a)(hv:vs.all (·.oneCell')=true)(hj:j+vs.size≤c)(oJ:over (enc a) j vs=enc a')(hu:eK L i (own enc c s (xs.set k a')) L'):
    ∃w',(storeCells ⟨s.b,s.o+k*c+j,none⟩ vs.toList).run P w= .ok () w'/\Mem w0 L' w':=by
  obtain⟨r,lM⟩:=hw.get q.h;have hk:k<xs.length:=(ad2.1 ha).1;have hn:=r.some hk;have hle:=r.ok.le;have hlen:=r.len;obtain⟨fw,cs,T,fz,fB,dO,lN,lO⟩:=lM hn;have hmul:(k+1)*c<=s.cap*c:=apz _ (by omega);have afX:=hmul;rw[apM]at hmul;have iC:s.o+k*c+j+vs.size<=cs.size:=by omega
  have bu:=Bm (P:=P) s.b (s.o+k*c+j) T fz vs.toList 0 cs w fB lN (by simpa using iC) (fun v jN=>(apR.1 hv) v (by simpa using jN));refine⟨w.setRow s.b (over cs (s.o+k*c+j) vs),by simpa[over]using bu,?_⟩;have cD:hp (w.setRow s.b (over cs (s.o+k*c+j) vs)) s.b=some (.cells (over cs (s.o+k*c+j) vs) T fz):=setRow_heap w s.b cs _ T fz fB;rw[←hu.h];refine hw.change q.h (fun k hk=>hk) (fun x hx=>setRow_other w s.b x _ (fun e=>hx ⟨hn,e⟩)) (by simp[World.setRow]) ⟨rfl,rfl,rfl⟩ ⟨va r.ok (by simpa using hlen) cD fun x y hy p fj=>?_,fun _=>⟨fw,_,_,_,cD,by rw[nf iC];exact dO,by rw[nf iC];exact lN,lO⟩⟩;rw[tj iC]
  by_cases L3:x=k
  ·subst L3
   obtain rfl:a'=y:=by rw[apJ hk]at hy;exact api hy
   rw[←oJ,tj (by rw[he.size];exact hj)]
   by_cases h1:j<=p/\p<j+vs.size
   ·rw[if_pos h1,if_pos (by omega)];congr 1;omega
   ·rw[if_neg h1,if_neg (by omega),←r.row x a ha p fj]
    unfold mY;rw[fB]
  ·rw[aqG (by omega)]at hy
   rw[if_neg,←r.row x y hy p fj]
   ·unfold mY;rw[fB]
   ·intro h
    rcases arP L3 with h'|h'
    ·have:(x+1)*c<=k*c:=apz _ h'
     rw[apM]at this;omega
    ·have:(k+1)*c<=x*c:=apz _ h'
     rw[apM]at this;omega
theorem ju{t:TypeId}{x y:Operand}{i k j n p:Nat}{a a':α}{v:Value}(sz:(P.info? t).map (·.size)=some n)[he:bk enc c](hx:ev env x=some (.pointer (some ⟨s.b,p,none⟩)))(hy:ev env y=some v)[q:di L s enc c xs i](fj:p=s.o+k*c+j)
    (ha:xs[k]? =some a) (hv:v.cells.all (·.oneCell')=true) (hn:v.cells.size=n) (hj:j+n<=c) (oJ:over (enc a) j v.cells=enc a') {L':List aj} [hu:eK L i (own enc c s (xs.set k a')) L'] (hk:Sq P N w0 l Q rest env L'):
    Sq P N w0 l Q (⟨none, .store t x y,ty,ps,af,none⟩::rest) env L:=
  Dy rfl rfl fun aa w Bn hw=>by
    subst fj hn;obtain⟨w',h1,h2⟩:=DI (P:=P) hw q ha hv hj oJ hu;refine⟨w',_,?_,h2,hk⟩;simp only[execOp,Bn.ev hx,Bn.ev hy,Instr.storeAt,Instr.sureAddr,storeVar,Sem.run_bind,Sem.run_pure,Result.andThen,kH w sz];simp[h1]
theorem Uc{X:Type}{val:X→Value}{L':X→List aj}{pr:X→Prop}{f:FuncId}{xs:List Operand}{ts:Array TypeId}{vs:List Value}[hf:aE P f](hx:eJ env xs=some vs)
    (hc: ∀w,Mem w0 L w->Calls P f vs.toArray w fun e w'=> ∃x,e= .returned (val x)/\pr x/\Mem w0 (L' x) w') (hk: ∀x,pr x->Sq P N w0 l Q rest (ca env d (val x)) (L' x)) (hd:cM N d=true:=by rfl):
    Sq P N w0 l Q (⟨d, .call {callee:= .value (.func f),args:=xs.toArray,argTypes:=ts},ty,ps,af,none⟩::rest) env L:=fun a w ha hw=>by
  unfold wpList;rw[if_pos (qx rfl)];refine .inl ?_;unfold Oper.wp;rw[Dt hf w rfl,ha.eJ hx];exact(hc w hw).mono fun e w' ⟨x,he,hp,hm⟩=>by subst he;exact hk x hp _ _ (ha.put hd _) hm
theorem gG{N:Nat}{fn:Func}{R:Ending→World→Prop}{f:FuncId}{c:Code}{args:List Value}{w:World}(hf:P.funcs[f]? =some fn)(hb:fn.body=some c)(hN:fn.ntmps=N)(hle:Nat.ble args.length N=true)(hw:Mem w0 L w)
    (h:Cw P ⟨N,[],none⟩ w0 (pC P fn R) c (args.zipIdx.map fun p=>(p.2,p.1)) L):Calls P f args.toArray w R:=
  Ll hf hb (h _ _ (by rw[hN];exact cS.enter args N (Nat.le_of_ble_eq_true hle)) hw)
theorem DJ{b n i:Nat}{cs:Array Value}{T:TypeId}[hi:Has L b cs T i][he:bk enc c](gF:cs=(aF enc xs).toArray)(hn:xs.length=n)(iL:n<=140737488355328:=by decide):Holds w0 L enc c ⟨false,b,0,n,n,none⟩ xs:=fun w hw=>by
  have hb:=hw.block hi.h;exact va ⟨(fun h=>by cases h),apm _,iL,fun _=>rfl⟩ hn.symm hb fun k x hx j hj=>by
    rw[←ng (enc:=enc) xs k x hx j hj,gF];simp
def yZ(tmps:Array Value)(r:ResultVar):Sem Value:=match r with
  | .tmp t=>pure (tmps.getD t undef)
  | .cell c t=>do loadVar t (←asAddr (tmps.getD c undef))
theorem Hh(fn:Func)(tmps:Array Value):results fn tmps=(do let vs←fn.results.mapM (yZ tmps);pure (if h:vs.size=1 then vs[0]else .tuple vs)):=by
  have:(fun r=>yZ tmps r)=(fun| .tmp t=>pure (tmps.getD t undef)| .cell a t=>do loadVar t (←asAddr (tmps.getD a undef)):ResultVar->Sem Value):=by
    funext r;cases r<;>rfl
  show _=(do let vs←fn.results.mapM (fun r=>yZ tmps r);pure (if h:vs.size=1 then vs[0]else .tuple vs));rw[this];rfl
def RV(P:Program)(N:cc)(w0:World)(env:Env)(L:List aj)(r:ResultVar)(v:Value):Prop:= ∀a w,cS N env a->Mem w0 L w->(yZ a.tmps r).run P w= .ok v w
theorem y0{t:Nat}{v:Value}(hv:look env t=some v):RV P N w0 env L (.tmp t) v:=fun a w ha _=>by
  have:=ha.get _ _ hv;simp[yZ,this]
theorem y2{t b i n:Nat}{T T':TypeId}{cs:Array Value}(hv:look env t=some (.pointer (some ⟨b,0,none⟩)))[ht:dX P T n][hi:Has L b cs T' i][hn:eU cs n]:RV P N w0 env L (.cell t T) (.agg cs):=fun a w ha hw=>by
  have h1:=ha.get _ _ hv;have h2:(loadVar T ⟨b,0,none⟩).run P w= .ok (.agg cs) w:=GV w ht hn.h fun j _=>by rw[Addr.gg,hw.cell hi.h,apP]
  simp[yZ,h1,asAddr,h2]
variable {fn:Func} {r1 r2 r3:ResultVar} {v1 v2 v3:Value}
theorem Ud{A B:Type}(f:A->Sem B)(x y:A):(#[x,y]:Array A).mapM f=(do let a←f x;let b←f y;pure #[a,b]):=by simp
theorem Ue{A B:Type}(f:A->Sem B)(x y z:A):(#[x,y,z]:Array A).mapM f=(do let a←f x;let b←f y;let c←f z;pure #[a,b,c]):=by simp
theorem L4(hf:fn.results= #[r1])(h1:RV P N w0 env L r1 v1): ∀a w,cS N env a->Mem w0 L w->(results fn a.tmps).run P w= .ok v1 w:=fun a w ha hw=>by
  have e1:=h1 a w ha hw;rw[Hh,hf];simp[e1]
theorem Uf(hf:fn.results= #[r1,r2])(h1:RV P N w0 env L r1 v1)(h2:RV P N w0 env L r2 v2): ∀a w,cS N env a->Mem w0 L w->(results fn a.tmps).run P w= .ok (.tuple #[v1,v2]) w:=fun a w ha hw=>by
  have e1:=h1 a w ha hw;have e2:=h2 a w ha hw;rw[Hh,hf,Ud];simp[e1,e2]
theorem Ug(hf:fn.results= #[r1,r2,r3])(h1:RV P N w0 env L r1 v1)(h2:RV P N w0 env L r2 v2)(h3:RV P N w0 env L r3 v3): ∀a w,cS N env a->Mem w0 L w->(results fn a.tmps).run P w= .ok (.tuple #[v1,v2,v3]) w:=fun a w ha hw=>by
  have e1:=h1 a w ha hw;have e2:=h2 a w ha hw;have e3:=h3 a w ha hw;rw[Hh,hf,Ue];simp[e1,e2,e3]
end
def aP(b:UInt8):Array Value:= #[.int .u8 b.toNat]
instance:bk aP 1:=⟨fun _=>rfl,fun _=>by simp[aP,Value.oneCell']⟩
instance (b:UInt8):bK (aP b) 0 (.int .u8 b.toNat):=⟨rfl⟩
def rI(s:Sv):Array Value:= #[s.val]
instance:bk rI 1:=⟨fun _=>rfl,fun s=>by simp[rI,Sv.one]⟩
def b8(n:Nat):UInt8:=UInt8.ofNat n
theorem Hi(n:Nat):(b8 n).toNat=n%256:=by simp[b8]
theorem Uh(n:Nat):IntKind.u8.wrap (n:Int)=((b8 n).toNat:Int):=by
 rw[Hi];simp[IntKind.wrap,IntKind.bits,IntKind.signed]
def be(n:Nat):Nat->List UInt8
 |0=>[]
 |k+1=>b8 (n/256^k)::be n k
theorem nj(n:Nat): ∀k,(be n k).length=k
 |0=>rfl
 |k+1=>by simp[be,nj n k]
def de(l:List UInt8):Nat:=l.foldl (fun a b=>a*256+b.toNat) 0
theorem L5{xs:List UInt8}{i:Nat}{b:UInt8}(h:xs[i]? =some b):de (xs.take (i+1))=de (xs.take i)*256+b.toNat:=by
 rw[aps,h];simp[de]
theorem Hj(xs:List UInt8): ∀i,i<=xs.length->de (xs.take i)<256^i
 |0,_=>by simp[de]
 |i+1,h=>by
  have:=Hj xs i (by omega);rw[L5 (b:=xs[i]) (by simp),Nat.pow_succ];have:=xs[i].toNat_lt;omega
section
variable {P:Program} {N:cc} {w0:World} {env:Env} {L:List aj} {d:Option Tmp} {ty:TypeId} {ps:String} {af:Array Edge} {gd:Option (Nat×Bool)}
variable {x y:Operand} {k k':IntKind} {p q:Nat} {t u s:TypeId}
theorem L6{a b:Int}(hx:ev env x=some (.int k a))(hy:ev env y=some (.int k b))(ea:a=p)(eb:b=q)(hq:0<q):
  Ry P N w0 env L ⟨d, .binOp .rem t x y u,ty,ps,af,gd⟩ (.int k ((p%q:Nat):Int)):=du hx hy (by
 subst ea eb;rw[kG,if_neg (by omega),←Int.ofNat_tmod])
theorem Ui{a b:Int}(hx:ev env x=some (.int k a))(hy:ev env y=some (.int k b))(ea:a=p)(eb:b=q)(h:p*q<2^nb k):
  Ry P N w0 env L ⟨d, .binOp .mul t x y u,ty,ps,af,gd⟩ (.int k ((p*q:Nat):Int)):=du hx hy (by
 subst ea eb;rw[kG,←Int.natCast_mul,oH h])
theorem Bp{n:Nat}{a:Int}[hs:mj P s k'][ht:mj P t .u8](hx:ev env x=some (.int k' a))(ea:a=n):
  Ry P N w0 env L ⟨d, .convert s t x,ty,ps,af,gd⟩ (.int .u8 (b8 n).toNat):=tg hx (by subst ea;exact Uh n)
theorem Uj{e:TypeId}{sv:Sv}{xs:List UInt8}(hs:P.underlying s=some (.slice e))(he:P.underlying e=some (.int .u8))(hd:P.underlying t=some .string)(hx:ev env x=some sv.val)(hR:Holds w0 L aP 1 sv xs):
  Ry P N w0 env L ⟨d, .convert s t x,ty,ps,af,gd⟩ (.string ⟨xs.toArray⟩):=fun a w ha hw=>by
 have r:=hR w hw;have hr:(convert s t sv.val).run P w= .ok (.string ⟨xs.toArray⟩) w:=by
  cases hn:sv.nil with
  |true=>
   have:xs=[]:=by have:=(r.ok.nil hn).1;rw[r.len]at this;exact apB.1 this
   subst this;rw[Sv.pJ hn,run_convert_bytes_string w s t e none 0 0 hs he hd];rfl
  |false=>
   rw[Sv.gk hn,r.len];refine run_convert_bytes_back w s t e _ _ xs hs he hd fun j hj=>?_;rw[r.ok.sp (by have:=r.len;have:=r.ok.le;omega)];rw[Addr.gg,qB];have:=r.row j xs[j] (by simp) 0 (by decide);simp only[aqS,aqk]at this;rw[this];rfl
 simp only[execOp,ha.ev hx,Sem.run_bind,hr,Result.andThen,Sem.run_pure]
theorem Uk{a b:ByteArray}(hx:ev env x=some (.string a))(hy:ev env y=some (.string b)):
  Ry P N w0 env L ⟨d, .binOp .eql t x y u,ty,ps,af,gd⟩ (.bool (a.toList==b.toList)):=fun aa w ha _=>by
 have h2:(eqGuard BinOp.eql t x y (.string a) (.string b)).run P w= .ok () w:=rfl;simp only[execOp,ha.ev hx,ha.ev hy,Sem.run_bind,h2,Result.andThen_ok,binOp_string_eql,Sem.run_pure]
end
section
variable {P:Program} {N:cc} {w0:World} {env:Env} {L:List aj} {l:List Oper} {Q:Exit->Act->World->Prop} {rest:List Oper} {d:Option Tmp} {ty:TypeId} {ps:String} {af:Array Edge}
end
def w7(b c:UInt8):UInt16:=UInt16.ofNat (b.toNat*256+c.toNat)
theorem Ul(b c:UInt8):(w7 b c).toNat=b.toNat*256+c.toNat:=by
 have:=b.toNat_lt;have:=c.toNat_lt;simp[w7];omega
theorem L7(p q:Nat)(h:q<256):(p*256)|||q=p*256+q:=by
 have:=Nat.two_pow_add_eq_or_of_lt (i:=8) (b:=q) (by simpa using h) p;rw[show(2^8*p)=p*256 by rw[aqt]]at this;exact this.symm
section
variable {P:Program} {N:cc} {w0:World} {env:Env} {L:List aj} {d:Option Tmp} {ty:TypeId} {ps:String} {af:Array Edge} {gd:Option (Nat×Bool)} {x y:Operand} {k:IntKind} {t u:TypeId}
theorem L8{b:UInt8}{k':IntKind}(hx:ev env x=some (.int k b.toNat))(hy:ev env y=some (.int k' 8))(hk:k= .u16\/k= .i64:=by decide):
  Ry P N w0 env L ⟨d, .binOp .shl t x y u,ty,ps,af,gd⟩ (.int k ((b.toNat*256:Nat):Int)):=by
 have h:=Dw (P:=P) (N:=N) (w0:=w0) (L:=L) (d:=d) (ty:=ty) (ps:=ps) (af:=af) (gd:=gd) (t:=t) (u:=u) hx hy (by decide);have hb:=b.toNat_lt;have e:k.wrap ((b.toNat:Int)*2^min (Int.toNat 8) k.bits)=((b.toNat*256:Nat):Int):=by
  rcases hk with rfl|rfl<;>simp[IntKind.wrap,IntKind.bits,IntKind.signed]<;>omega
 rw[e]at h;exact h
theorem L9{b c:UInt8}(hx:ev env x=some (.int k ((b.toNat*256:Nat):Int)))(hy:ev env y=some (.int k c.toNat))(hk:k= .u16\/k= .i64:=by decide):
  Ry P N w0 env L ⟨d, .binOp .or t x y u,ty,ps,af,gd⟩ (.int k ((w7 b c).toNat:Nat)):=by
 have hb:=b.toNat_lt;have hc:=c.toNat_lt;rw[Ul,←L7 _ _ hc];rcases hk with rfl|rfl
 ·
  exact Be hx hy rfl rfl (by simp only[nb];omega) (by simp only[nb];omega)
 ·
  exact Be hx hy rfl rfl (by simp only[nb];omega) (by simp only[nb];omega)
end
def aj.emp:aj:=⟨fun _=>False,fun _=>True,fun _ _ _ s=>s⟩
def aj.two(a b:aj):aj:=⟨fun k=>a.fp k\/b.fp k,fun h=>a.sat h/\b.sat h/\ ∀k,a.fp k-> ¬b.fp k,
  fun h h' e s=>⟨a.loc h h' (fun k hk=>e k (.inl hk)) s.1,b.loc h h' (fun k hk=>e k (.inr hk)) s.2.1,s.2.2⟩⟩
def aj.all:List aj->aj
  |[]=> .emp
  |e::r=> .two e (.all r)
theorem Mem.Bq{w0 w:World}{L:List aj}:Mem w0 (.emp::L) w↔Mem w0 L w:=
  ⟨fun h=>h.sub (apX _ _),fun h=>⟨h.below,fun e he=>by
    rcases apn.1 he with rfl|he
    ·exact trivial
    ·exact h.sat e he,fun e he k hk=>by
    rcases apn.1 he with rfl|he
    ·exact hk.elim
    ·exact h.iZ e he k hk,apA.2 ⟨fun _ _ _ hk=>hk.elim,h.nY⟩⟩⟩
theorem Mem.w8{w0 w:World}{a b:aj}{L:List aj}:Mem w0 (.two a b::L) w↔Mem w0 (a::b::L) w:=by
  constructor
  ·intro h
   have hs:(a.sat fun k=>w.heap[k]?)/\(b.sat fun k=>w.heap[k]?)/\ ∀k,a.fp k-> ¬b.fp k:=h.sat (.two a b) (by simp);have hd:=apA.1 h.nY;refine⟨h.below,fun e he=>?_,fun e he k hk=>?_,?_⟩
   ·rcases apn.1 he with rfl|he
    ·exact hs.1
    ·rcases apn.1 he with rfl|he
     ·exact hs.2.1
     ·exact h.sat e (by simp[he])
   ·rcases apn.1 he with rfl|he
    ·exact h.iZ (.two e b) (by simp) k (.inl hk)
    ·rcases apn.1 he with rfl|he
     ·exact h.iZ (.two a e) (by simp) k (.inr hk)
     ·exact h.iZ e (by simp[he]) k hk
   ·refine apA.2 ⟨fun x hx k hk=>?_,apA.2 ⟨fun x hx k hk=>hd.1 x hx k (.inr hk),hd.2⟩⟩
    rcases apn.1 hx with rfl|hx
    ·exact hs.2.2 k hk
    ·exact hd.1 x hx k (.inl hk)
  ·intro h
   have hd:=apA.1 h.nY;have Br:=apA.1 hd.2;refine⟨h.below,fun e he=>?_,fun e he k hk=>?_,apA.2 ⟨fun x hx k hk=>?_,Br.2⟩⟩
   ·rcases apn.1 he with rfl|he
    ·exact⟨h.sat a (by simp),h.sat b (by simp),fun k hk=>hd.1 b (by simp) k hk⟩
    ·exact h.sat e (by simp[he])
   ·rcases apn.1 he with rfl|he
    ·rcases hk with hk|hk
     ·exact h.iZ a (by simp) k hk
     ·exact h.iZ b (by simp) k hk
    ·exact h.iZ e (by simp[he]) k hk
   ·rcases hk with hk|hk
    ·exact hd.1 x (by simp[hx]) k hk
    ·exact Br.1 x hx k hk
theorem Mem.Bs{w0 w:World}: ∀(es:List aj) {L:List aj},Mem w0 (.all es::L) w↔Mem w0 (es++L) w
  |[],_=>Mem.Bq
  |e::r,L=>by
   show Mem w0 (.two e (.all r)::L) w↔_;rw[Mem.w8];have sw: ∀(a b:aj) (K:List aj),Mem w0 (a::b::K) w↔Mem w0 (b::a::K) w:=fun a b K=>⟨fun h=>h.perm (List.Perm.swap _ _ _),fun h=>h.perm (List.Perm.swap _ _ _)⟩;rw[sw,Mem.Bs r];exact⟨fun h=>h.perm (are),fun h=>h.perm (are).symm⟩
class Deep(τ:Type) where
  c:Nat
  cells:τ->Array Value
  size: ∀x,(cells x).size=c
  one: ∀x,(cells x).all (·.oneCell')=true
  dJ:(Nat->Option Obj)->τ->Prop
  cd:τ->aj
  je: ∀h x,(cd x).sat h->dJ h x
  mono: ∀(w w':World) x,dJ (hp w) x->Below w.heap.size w w'->dJ (hp w') x
instance Deep.enc{τ:Type}[Deep τ]:bk (Deep.cells (τ:=τ)) (Deep.c τ):=⟨Deep.size,Deep.one⟩
@[reducible] def Deep.flat {τ:Type}(enc:τ->Array Value)(c:Nat)[he:bk enc c]:Deep τ:=⟨c,enc,he.size,he.one,fun _ _=>True,fun _=> .emp,fun _ _ _=>trivial,fun _ _ _ _ _=>trivial⟩
structure Sl(τ:Type) where
  sv:Sv
  xs:List τ
theorem aj.Bt{h:Nat->Option Obj}: ∀{es:List aj},(aj.all es).sat h-> ∀e∈es,e.sat h
  |[],_,_,he=>by cases he
  |_::_,hs,e,he=>by
   rcases apn.1 he with rfl|he
   ·exact hs.1
   ·exact aj.Bt hs.2.1 e he
instance Deep.slice{τ:Type}[d:Deep τ]:Deep (Sl τ) where
  c:=1
  cells a:=rI a.sv
  size _:=rfl
  one a:=bk.one (enc:=rI) (c:=1) a.sv
  dJ h a:=dh (Deep.cells (τ:=τ)) (Deep.c τ) h a.sv a.xs/\ ∀x∈a.xs,d.dJ h x
  cd a:= .two (own (Deep.cells (τ:=τ)) (Deep.c τ) a.sv a.xs) (.all (a.xs.map d.cd))
  je h _ hs:=⟨hs.1.1,fun x hx=>d.je h x (aj.Bt hs.2.1 _ (aqb hx))⟩
  mono w w' _ hg hb:=⟨hg.1.mono hb,fun x hx=>d.mono w w' x (hg.2 x hx) hb⟩
theorem Mem.y5{τ:Type}[d:Deep τ]{w0 w:World}{L:List aj}{a:Sl τ}:Mem w0 (Deep.cd a::L) w↔Mem w0 (own (Deep.cells (τ:=τ)) (Deep.c τ) a.sv a.xs::a.xs.map d.cd++L) w:=by
  show Mem w0 (.two _ (.all _)::L) w↔_;rw[Mem.w8];have sw: ∀(a b:aj) (K:List aj),Mem w0 (a::b::K) w↔Mem w0 (b::a::K) w:=fun a b K=>⟨fun h=>h.perm (List.Perm.swap _ _ _),fun h=>h.perm (List.Perm.swap _ _ _)⟩;rw[sw,Mem.Bs];exact⟨fun h=>h.perm (are),fun h=>h.perm (are).symm⟩
section
variable {w0:World} {L:List aj} {τ:Type}
class Hd(w0:World)(L:List aj)(s:Sv){α:outParam Type}(enc:outParam (α->Array Value))(c:outParam Nat)(xs:outParam (List α)):Prop where
  h:Holds w0 L enc c s xs
class Gv(w0:World)(s:Sv){α:outParam Type}(enc:outParam (α->Array Value))(c:outParam Nat)(xs:outParam (List α)):Prop where
  h:dh enc c (hp w0) s xs
instance (priority:=high) Hd.owned {s:Sv}{α:Type}{enc:α->Array Value}{c:Nat}{xs:List α}{i:Nat}[q:di L s enc c xs i]:Hd w0 L s enc c xs:=⟨q.holds⟩
instance Hd.given{s:Sv}{α:Type}{enc:α->Array Value}{c:Nat}{xs:List α}[q:Gv w0 s enc c xs][bk enc c]:Hd w0 L s enc c xs:=⟨Bj q.h⟩
class Rg(lo hi n:Nat):Prop where
  h:lo<=hi/\hi<=n
instance Hd.sub{s:Sv}{α:Type}{enc:α->Array Value}{c:Nat}{xs:List α}{lo hi:Nat}[q:Hd w0 L s enc c xs][r:Rg lo hi xs.length]:Hd w0 L (s.sub c lo hi) enc c ((xs.drop lo).take (hi -lo)):=⟨q.h.sub r.h.1 r.h.2⟩
class ct(w0:World)(L:List aj){α:Type}(enc:α->Array Value)(c:Nat)(s:Sv)(xs:outParam (List α)):Prop where
  h:Holds w0 L enc c s xs
instance (priority:=high) ct.of {s:Sv}{α:Type}{enc:α->Array Value}{c:Nat}{xs:List α}[q:Hd w0 L s enc c xs]:ct w0 L enc c s xs:=⟨q.h⟩
instance ct.none{α:Type}{enc:α->Array Value}{c:Nat}:ct w0 L enc c Sv.none []:=⟨fun _ _=>dh.nil enc c _⟩
class aV(w0:World)(L:List aj){τ:Type}[Deep τ](a:τ):Prop where
  h: ∀w,Mem w0 L w->Deep.dJ (hp w) a
class cy(w0:World){τ:Type}[Deep τ](a:τ):Prop where
  h:Deep.dJ (hp w0) a
class Mb{τ:Type}(x:τ)(a:outParam (Sl τ)):Prop where
  h:x∈a.xs
instance aV.given[Deep τ]{a:τ}[q:cy w0 a]:aV w0 L a:=⟨fun _ hw=>Deep.mono w0 _ a q.h hw.below⟩
instance (priority:=high) aV.owned [Deep τ]{a:τ}{i:Nat}[q:At L (Deep.cd a) i]:aV w0 L a:=⟨fun _ hw=>Deep.je _ a (hw.get q.h)⟩
instance (priority:=low) aV.elem [Deep τ]{a:Sl τ}{x:τ}[q:aV w0 L a][m:Mb x a]:aV w0 L x:=⟨fun w hw=>(q.h w hw).2 x m.h⟩
class fG(τ:Type)[Deep τ](enc:outParam (τ->Array Value))(c:outParam Nat):Prop where
  hc:Deep.c τ=c
  h: ∀x:τ,Deep.cells x=enc x
instance (priority:=low) Hd.deep [d:Deep τ]{enc:τ->Array Value}{c:Nat}[f:fG τ enc c]{a:Sl τ}[q:aV w0 L a]:Hd w0 L a.sv enc c a.xs:=⟨fun w hw=>by
  have h:=(q.h w hw).1;have e:Deep.cells (τ:=τ)=enc:=funext f.h;rw[←e,←f.hc];exact h⟩
end
section
variable {P:Program} {N:cc} {w0:World} {env:Env} {L:List aj} {d:Option Tmp} {ty:TypeId} {ps:String} {af:Array Edge} {gd:Option (Nat×Bool)}
variable {α:Type} {enc:α->Array Value} {c:Nat} {s:Sv} {xs:List α}
theorem tn{t e:TypeId}{x:Operand}{m:Nat}[ht:dY P t e m](hx:ev env x=some s.val)[q:Hd w0 L s enc c xs]:
    Ry P N w0 env L ⟨d, .call {callee:= .builtin .len,args:= #[x],argTypes:= #[t]},ty,ps,af,gd⟩ (.int .i64 (xs.length:Nat)):=fun a w ha hw=>
  rE (P:=P) (N:=N) (w0:=w0) (L:=L) (d:=d) (ty:=ty) (ps:=ps) (af:=af) (gd:=gd) hx (q.h w hw).ok (q.h w hw).len a w ha hw
theorem aR{t e:TypeId}{x ix:Operand}{m:Nat}{k:IntKind}{j:Int}[ht:dY P t e m](hx:ev env x=some s.val)(hj:ev env ix=some (.int k j))[q:Hd w0 L s enc c xs](i:Nat)(ej:j=(i:Int))(h1:i<xs.length):
    Ry P N w0 env L ⟨d, .indexAddr t x ix,ty,ps,af,gd⟩ (.pointer (some ⟨s.b,s.o+i*m,none⟩)):=fun a w ha hw=>
  lg (P:=P) (N:=N) (w0:=w0) (L:=L) (d:=d) (ty:=ty) (ps:=ps) (af:=af) (gd:=gd) hx hj ej (q.h w hw).ok (by rw[(q.h w hw).len];exact h1) a w ha hw
theorem fC{t:TypeId}{x:Operand}{p:Nat}{a:α}[ht:dX P t c][he:bk enc c][q:Hd w0 L s enc c xs](hx:ev env x=some (.pointer (some ⟨s.b,p,none⟩)))(i:Nat)(hi:xs[i]? =some a)(fj:p=s.o+i*c):
    Ry P N w0 env L ⟨d, .load t x,ty,ps,af,gd⟩ (.agg (enc a)):=DF hx q.h hi fj
theorem bC{t:TypeId}{x:Operand}{p j:Nat}{a:α}{v:Value}[ht:fc P t][q:Hd w0 L s enc c xs](hx:ev env x=some (.pointer (some ⟨s.b,p,none⟩)))(i:Nat)(hi:xs[i]? =some a)(fj:p=s.o+i*c+j)(hj:j<c)[hv:bK (enc a) j v]:
    Ry P N w0 env L ⟨d, .load t x,ty,ps,af,gd⟩ v:=G8 hx q.h hi fj hj hv.h
theorem rJ{t:TypeId}{x:Operand}{p j n:Nat}{a:α}{sub:Array Value}[ht:dX P t n][q:Hd w0 L s enc c xs](hx:ev env x=some (.pointer (some ⟨s.b,p,none⟩)))(i:Nat)(hi:xs[i]? =some a)(fj:p=s.o+i*c+j)(hj:j+n≤c)[hs:mn (enc a) j n sub]:
    Ry P N w0 env L ⟨d, .load t x,ty,ps,af,gd⟩ (.agg sub):=G9 hx q.h hi fj hj
theorem DK{t e:TypeId}{x lo hi:Operand}{k k':IntKind}{il ih:Int}[ht:dY P t e c](hx:ev env x=some s.val)(hl:ev env lo=some (.int k il))(hh:ev env hi=some (.int k' ih))[q:Hd w0 L s enc c xs](l h:Nat)(el:il=(l:Int))(eh:ih=(h:Int))(h1:l≤h)(h2:h≤xs.length):
    Ry P N w0 env L ⟨d, .slice t x (some lo) (some hi) none,ty,ps,af,gd⟩ (s.sub c l h).val:=fun a w ha hw=>
  DG (P:=P) (N:=N) (w0:=w0) (L:=L) (d:=d) (ty:=ty) (ps:=ps) (af:=af) (gd:=gd) hx hl hh el eh (q.h w hw).ok h1 (by have:=(q.h w hw).len;have:=(q.h w hw).ok.le;omega) a w ha hw
theorem Ma{t e:TypeId}{x hi:Operand}{k':IntKind}{ih:Int}[ht:dY P t e c](hx:ev env x=some s.val)(hh:ev env hi=some (.int k' ih))[q:Hd w0 L s enc c xs](h:Nat)(eh:ih=(h:Int))(h2:h≤xs.length):
    Ry P N w0 env L ⟨d, .slice t x none (some hi) none,ty,ps,af,gd⟩ (s.sub c 0 h).val:=fun a w ha hw=>
  qC (P:=P) (N:=N) (w0:=w0) (L:=L) (d:=d) (ty:=ty) (ps:=ps) (af:=af) (gd:=gd) hx hh eh (q.h w hw).ok (by have:=(q.h w hw).len;have:=(q.h w hw).ok.le;omega) a w ha hw
theorem w9{t e:TypeId}{x lo:Operand}{k:IntKind}{il:Int}[ht:dY P t e c](hx:ev env x=some s.val)(hl:ev env lo=some (.int k il))[q:Hd w0 L s enc c xs](l:Nat)(el:il=(l:Int))(h1:l≤xs.length):
    Ry P N w0 env L ⟨d, .slice t x (some lo) none none,ty,ps,af,gd⟩ (s.sub c l xs.length).val:=fun a w ha hw=>
  qD (P:=P) (N:=N) (w0:=w0) (L:=L) (d:=d) (ty:=ty) (ps:=ps) (af:=af) (gd:=gd) hx hl el (q.h w hw).ok (q.h w hw).len h1 a w ha hw
theorem Mc{t e tb:TypeId}{x:Operand}{xs:List UInt8}(hs:P.underlying tb=some (.slice e))(he:P.underlying e=some (.int .u8))(hd:P.underlying t=some .string)(hx:ev env x=some s.val)[q:Hd w0 L s aP 1 xs]:
    Ry P N w0 env L ⟨d, .convert tb t x,ty,ps,af,gd⟩ (.string ⟨xs.toArray⟩):=Uj hs he hd hx q.h
theorem xd{s t:TypeId}{x:Operand}{k:IntKind}{b:UInt8}[hs:mj P s .u8][ht:mj P t k](hx:ev env x=some (.int .u8 b.toNat))(hk:8≤nb k:=by decide):
    Ry P N w0 env L ⟨d, .convert s t x,ty,ps,af,gd⟩ (.int k b.toNat):=iA hx (ap0 b.toNat_lt (aqo (by decide) hk))
end
section
variable {P:Program} {N:cc} {w0:World} {env:Env} {L:List aj} {l:List Oper} {Q:Exit->Act->World->Prop} {rest:List Oper} {d:Option Tmp} {ty:TypeId} {ps:String} {af:Array Edge} {gd:Option (Nat×Bool)}
class bY(P:Program)(f:FuncId)(w0:World)(L:List aj)(vs:List Value)(v:outParam Value)(pre:outParam Prop):Prop where
  h:pre-> ∀w,Mem w0 L w->Calls P f vs.toArray w fun e w'=>e= .returned v/\Mem w [] w'
class bE(P:Program)(f:FuncId)(w0:World)(L:List aj)(vs:List Value)(X:outParam Type)(val:outParam (X->Value))(L':outParam (X->List aj))(pr:outParam (X->Prop))(pre:outParam Prop):Prop where
  h:pre-> ∀w,Mem w0 L w->Calls P f vs.toArray w fun e w'=> ∃x,e= .returned (val x)/\pr x/\Mem w0 (L' x) w'
instance (priority:=high) bY.pure {f:FuncId}{vs:List Value}{v:Value}[h:n5 P f vs v]:bY P f w0 L vs v True:=⟨fun _ w _=>h.h w⟩
theorem bP{f:FuncId}{xs:List Operand}{ts:Array TypeId}{vs:List Value}{v:Value}{pre:Prop}[hf:aE P f](hx:eJ env xs=some vs)[hc:bY P f w0 L vs v pre](hp:pre):
    Yl P N w0 env L ⟨d, .call {callee:= .value (.func f),args:=xs.toArray,argTypes:=ts},ty,ps,af,gd⟩ v:=Du hx fun w hw=>hc.h hp w hw
theorem aY{X:Type}{val:X→Value}{L':X→List aj}{pr:X→Prop}{pre:Prop}{f:FuncId}{xs:List Operand}{ts:Array TypeId}{vs:List Value}[hf:aE P f](hx:eJ env xs=some vs)
    [hc:bE P f w0 L vs X val L' pr pre] (hp:pre) (hk: ∀x,pr x->Sq P N w0 l Q rest (ca env d (val x)) (L' x)) (hd:cM N d=true:=by rfl):
    Sq P N w0 l Q (⟨d, .call {callee:= .value (.func f),args:=xs.toArray,argTypes:=ts},ty,ps,af,none⟩::rest) env L:=Uc hx (fun w hw=>hc.h hp w hw) hk hd
theorem Um{Lq:List aj}{n j:Nat}{js:List Nat}{X:Type}{val:X→Value}{L':X→List aj}{pr:X→Prop}{pre:Prop}{f:FuncId}{xs:List Operand}{ts:Array TypeId}{vs:List Value}(hj:l[j]? =some ⟨d, .call {callee:= .value (.func f),args:=xs.toArray,argTypes:=ts},ty,ps,af,none⟩)[hf:aE P f](hx:eJ env xs=some vs)
    [hc:bE P f w0 L vs X val L' pr pre] (hp:pre) (hL: ∀x w,Mem w0 (L' x) w->Mem w0 Lq w) (hk: ∀x,pr x->Fr P N w0 Lq l n Q js (ca env d (val x)) (L' x)) (hd:cM N d=true:=by rfl):
    Fr P N w0 Lq l n Q (j::js) env L:=TZ hj hx (fun w hw=>hc.h hp w hw) hL hk hd
end
class cm(L:List aj)(i:Nat)(R:outParam (List aj)):Prop where
  h:L.eraseIdx i=R
instance cm.here{e:aj}{L:List aj}:cm (e::L) 0 L:=⟨rfl⟩
instance cm.there{e:aj}{L R:List aj}{i:Nat}[q:cm L i R]:cm (e::L) (i+1) (e::R):=⟨by simp[q.h]⟩
class ai(L L':List aj):Prop where
  h: ∃R,L.Perm (L'++R)
instance (priority:=high) ai.nil {L:List aj}:ai L []:=⟨⟨L, .refl _⟩⟩
instance (priority:=high) ai.same {L:List aj}:ai L L:=⟨⟨[],by simp⟩⟩
theorem nk{e:aj}: ∀{L:List aj} {i:Nat},L[i]? =some e->L.Perm (e::L.eraseIdx i)
  |[],i,h=>by simp at h
  |x::L,0,h=>by obtain rfl:x=e:=by simpa using h
                simp
  |x::L,i+1,h=>by
   have:=nk (L:=L) (i:=i) (by simpa using h);rw[arN];exact(this.cons x).trans (.swap _ _ _)
instance ai.cons{L L' R:List aj}{e:aj}{i:Nat}[a:At L e i][b:cm L i R][k:ai R L']:ai L (e::L'):=⟨by
  obtain⟨S,hS⟩:=k.h;exact⟨S,(nk a.h).trans (by rw[b.h];exact hS.cons e)⟩⟩
theorem ai.mem{L L':List aj}[k:ai L L']{w0 w:World}(h:Mem w0 L w):Mem w0 L' w:=by
  obtain⟨R,hR⟩:=k.h;exact(h.perm hR).sub (List.sublist_append_left _ _)
theorem rK{P:Program}{N:cc}{w0:World}{env:Env}{L:List aj}{Q:Exit->Act->World->Prop}{c:Code}(L':List aj)(h: ∀w,Mem w0 L w->Mem w0 L' w)(hk:Cw P N w0 Q c env L'):Cw P N w0 Q c env L:=fun a w ha hw=>hk a w ha (h w hw)
theorem Hk{P:Program}{N:cc}{w0:World}{env:Env}{L:List aj}{Q:Exit->Act->World->Prop}{c:Code}(s:Sv){α:Type}{enc:α->Array Value}{n:Nat}{xs:List α}[q:Hd w0 L s enc n xs](hk:xs.length<=140737488355328->Cw P N w0 Q c env L):Cw P N w0 Q c env L:=
  fun a w ha hw=>hk (q.h w hw).bd a w ha hw
theorem kL{α:Type}{xs:List α}{i:Nat}{d:α}(h:i<xs.length):xs[i]? =some (xs.getD i d):=by
  simp[List.getD,h]
section
variable {P:Program} {N:cc} {w0:World} {env:Env} {L:List aj} {l:List Oper} {Q:Exit->Act->World->Prop} {rest:List Oper} {d:Option Tmp} {ty:TypeId} {ps:String} {af:Array Edge} {gd:Option (Nat×Bool)}
variable {α:Type} {enc:α->Array Value} {c:Nat} {s:Sv} {xs:List α}
theorem Md{x y:Operand}{t u:TypeId}{a b:List UInt8}(hx:ev env x=some (.string ⟨a.toArray⟩))(hy:ev env y=some (.string ⟨b.toArray⟩)):
    Ry P N w0 env L ⟨d, .binOp .eql t x y u,ty,ps,af,gd⟩ (.bool (decide (a=b))):=by
  have e:((⟨a.toArray⟩:ByteArray).toList==(⟨b.toArray⟩:ByteArray).toList)=decide (a=b):=by
    rw[ByteArray.toList_mk,ByteArray.toList_mk,Bool.eq_iff_iff];simp
  rw[←e];exact Uk hx hy
theorem tp{t e:TypeId}{x:Operand}{u:TypeId}(ht:P.underlying t=some (.slice e))(hx:ev env x=some s.val):
    Ry P N w0 env L ⟨d, .binOp .eql t x (.const (.slice none 0 0)) u,ty,ps,af,gd⟩ (.bool s.nil):=fun a w ha _=>by
  have h1:(eqGuard BinOp.eql t x (.const (.slice none 0 0)) s.val (.slice none 0 0)).run P w= .ok () w:=by
    unfold Sv.val;split<;>rfl
  have h3:(Op.equal t s.val (.slice none 0 0)).run P w= .ok s.nil w:=by
    unfold Sv.val;split<;>rename_i hn<;>rw[run_equal_slice_nil w t e _ _ _ ht,hn]<;>rfl
  have h2:(binOp .eql t s.val (.slice none 0 0)).run P w= .ok (.bool s.nil) w:=by
    have:binOp .eql t s.val (.slice none 0 0)=(do pure (.bool (←Op.equal t s.val (.slice none 0 0)))):=by unfold Sv.val;split<;>rfl
    rw[this,Sem.run_bind,h3];rfl
  simp only[execOp,ha.ev hx,show a.eval (.const (.slice none 0 0))= .slice none 0 0 from rfl,Sem.run_bind,h1,Result.andThen_ok,h2,Sem.run_pure]
theorem Un{t e:TypeId}{x:Operand}{u:TypeId}(ht:P.underlying t=some (.slice e))(hx:ev env x=some s.val):
    Ry P N w0 env L ⟨d, .binOp .neq t x (.const (.slice none 0 0)) u,ty,ps,af,gd⟩ (.bool (!s.nil)):=fun a w ha _=>by
  have h1:(eqGuard BinOp.neq t x (.const (.slice none 0 0)) s.val (.slice none 0 0)).run P w= .ok () w:=by
    unfold Sv.val;split<;>rfl
  have h3:(Op.equal t s.val (.slice none 0 0)).run P w= .ok s.nil w:=by
    unfold Sv.val;split<;>rename_i hn<;>rw[run_equal_slice_nil w t e _ _ _ ht,hn]<;>rfl
  have h2:(binOp .neq t s.val (.slice none 0 0)).run P w= .ok (.bool (!s.nil)) w:=by
    have:binOp .neq t s.val (.slice none 0 0)=(do pure (.bool (!(←Op.equal t s.val (.slice none 0 0))))):=by unfold Sv.val;split<;>rfl
    rw[this,Sem.run_bind,h3];rfl
  simp only[execOp,ha.ev hx,show a.eval (.const (.slice none 0 0))= .slice none 0 0 from rfl,Sem.run_bind,h1,Result.andThen_ok,h2,Sem.run_pure]
theorem Uo{t e:TypeId}{cF:Nat}(ht:eB P t e c cF)(w:World):(Instr.buildSlice t 0 #[]).run P w= .ok (.slice (some ⟨w.heap.size,0,none⟩) 0 0) (w.alloc (.cells #[] e)):=by
  obtain⟨i',z,aQ,az,aX,bX,mo⟩:=ht.info;have:(Array.range 0:Array Nat)= #[]:=by simp
  simp[Instr.buildSlice,run_underlying ht.dZ,sizeOf,typeInfo,aQ,Instr.fill,newRow,newObj,Sem.run,Result.andThen,this]
theorem vc{t e:TypeId}{cF:Nat}(enc:α→Array Value)[ht:eB P t e c cF][he:bk enc c](hk: ∀b,Sq P N w0 l Q rest (ca env d (Sv.val ⟨false,b,0,0,0,none⟩)) (own enc c ⟨false,b,0,0,0,none⟩ []::L))(hd:cM N d=true:=by rfl):
    Sq P N w0 l Q (⟨d, .buildSlice t 0 #[],ty,ps,af,none⟩::rest) env L:=
  lL rfl hd fun a w _ hw=>by
    refine⟨_,_,_,?_,hw.call (w6 (enc:=enc) (c:=c) (xs:=[]) (cs:= #[]) (e:=e) rfl 0 0 rfl (apm _) (apE _) (by simp) (by simp)),hk _⟩;simp only[execOp,Sem.run_bind,List.map_toArray,aqu,Uo ht w,Result.andThen,Sem.run_pure];rfl
end
instance:Deep UInt8:=Deep.flat aP 1
instance:fG UInt8 aP 1:=⟨rfl,fun _=>rfl⟩
def bU{τ:Type}(a:Sl τ):Array Value:= #[a.sv.val]
instance {τ:Type}:bk (bU (τ:=τ)) 1:=⟨fun _=>rfl,fun a=>bk.one (enc:=rI) (c:=1) a.sv⟩
instance {τ:Type}[Deep τ]:fG (Sl τ) bU 1:=⟨rfl,fun _=>rfl⟩
instance {τ:Type}(a:Sl τ):bK (bU a) 0 a.sv.val:=⟨rfl⟩
def lx{τ:Type}(a:Sl (Sl τ)):List (List τ):=a.xs.map (·.xs)
theorem xe{τ:Type}(a:Sl (Sl τ)):(lx a).length=a.xs.length:=by simp[lx]
section
variable {L L' L1 L2 R R1 R2:List aj} {τ:Type}
def Tr(L L':List aj):Prop:= ∀(K:List aj) (w0 w:World),Mem w0 (L++K) w->Mem w0 (L'++K) w
theorem Tr.mem(h:Tr L L'){w0 w:World}(hw:Mem w0 L w):Mem w0 L' w:=by
  have:=h [] w0 w (by simpa using hw);simpa using this
theorem Tr.refl:Tr L L:=fun _ _ _ h=>h
theorem Tr.trans(h:Tr L L1)(h':Tr L1 L2):Tr L L2:=fun K w0 w hw=>h' K w0 w (h K w0 w hw)
theorem Tr.perm(h:L.Perm L'):Tr L L':=fun K _ _ hw=>Mem.perm hw (h.append_right K)
theorem Tr.left(h:Tr L L')(X:List aj):Tr (X++L) (X++L'):=fun K w0 w hw=>by
  have p: ∀Y:List aj,(X++Y++K).Perm (Y++(X++K)):=fun Y=>by
    rw[apq,←apq Y];refine(List.perm_append_comm_assoc X Y K).trans ?_;rw[apq]
  exact(h (X++K) w0 w (hw.perm (p L))).perm (p L').symm
theorem Tr.right(h:Tr L L')(X:List aj):Tr (L++X) (L'++X):=fun K w0 w hw=>by
  rw[apq]at hw⊢;exact h (X++K) w0 w hw
theorem Tr.cons(h:Tr L L')(x:aj):Tr (x::L) (x::L'):=h.left [x]
theorem Tr.sub(h:L'.Sublist L):Tr L L':=fun K _ _ hw=>Mem.sub hw (h.append (.refl K))
theorem Tr.front{e:aj}{i:Nat}(hi:L[i]? =some e):Tr L (e::L.eraseIdx i):= .perm (nk hi)
theorem Tr.back{e:aj}{i:Nat}(hi:L[i]? =some e):Tr (e::L.eraseIdx i) L:= .perm (nk hi).symm
theorem Tr.emp:Tr (.emp::L) L:=fun _ _ _ hw=>Mem.Bq.1 hw
theorem Tr.Me:Tr L (.emp::L):=fun _ _ _ hw=>Mem.Bq.2 hw
theorem Tr.two{a b:aj}:Tr (.two a b::L) (a::b::L):=fun _ _ _ hw=>Mem.w8.1 hw
theorem Tr.y5[d:Deep τ]{a:Sl τ}:Tr (Deep.cd a::L) (own (Deep.cells (τ:=τ)) (Deep.c τ) a.sv a.xs::a.xs.map d.cd++L):=fun K w0 w hw=>by
  have:=Mem.y5.1 hw;simpa using this
theorem Tr.Up[d:Deep τ]{a:Sl τ}:Tr (own (Deep.cells (τ:=τ)) (Deep.c τ) a.sv a.xs::a.xs.map d.cd++L) (Deep.cd a::L):=fun K w0 w hw=>by
  refine Mem.y5.2 ?_;simpa using hw
class Plain(τ:Type)[Deep τ]:Prop where
  h: ∀x:τ,Deep.cd x= .emp
theorem Tr.plain[Deep τ][p:Plain τ]: ∀{xs:List τ},Tr (xs.map Deep.cd++L) L
  |[]=> .refl
  |x::xs=>by
   rw[apY,p.h];exact Tr.emp.trans Tr.plain
theorem Tr.Mf[Deep τ][p:Plain τ]: ∀{xs:List τ},Tr L (xs.map Deep.cd++L)
  |[]=> .refl
  |x::xs=>by
   rw[apY,p.h];exact(Tr.Mf (xs:=xs)).trans Tr.Me
theorem Mg[Deep τ]{enc:τ->Array Value}{c:Nat}[f:fG τ enc c](s:Sv)(xs:List τ):own (Deep.cells (τ:=τ)) (Deep.c τ) s xs=own enc c s xs:=by
  have e:Deep.cells (τ:=τ)=enc:=funext f.h;rw[e,f.hc]
theorem Tr.Hl[d:Deep τ]{enc:τ->Array Value}{c:Nat}[f:fG τ enc c]{a:Sl τ}:Tr (Deep.cd a::L) (own enc c a.sv a.xs::(a.xs.map d.cd++L)):=by
  rw[←Mg];exact Tr.y5
theorem Tr.Bu[d:Deep τ]{enc:τ->Array Value}{c:Nat}[f:fG τ enc c]{a:Sl τ}:Tr (own enc c a.sv a.xs::(a.xs.map d.cd++L)) (Deep.cd a::L):=by
  rw[←Mg];exact Tr.Up
theorem Tr.Uq[d:Deep τ]{enc:τ->Array Value}{c:Nat}[f:fG τ enc c][Plain τ]{a:Sl τ}:Tr (Deep.cd a::L) (own enc c a.sv a.xs::L):=Tr.Hl.trans (Tr.plain.cons _)
theorem Tr.DL[d:Deep τ]{enc:τ->Array Value}{c:Nat}[f:fG τ enc c][Plain τ]{a:Sl τ}:Tr (own enc c a.sv a.xs::L) (Deep.cd a::L):=(Tr.Mf.cons _).trans Tr.Bu
theorem Mh{α β:Type}(f:α->β){xs:List α}{i:Nat}{x:α}(hx:xs[i]? =some x):(xs.map f).Perm (f x::(xs.eraseIdx i).map f):=by
  have h1:=(Mi hx).map f;exact h1
where Mi {α:Type}: ∀{L:List α} {i:Nat} {e:α},L[i]? =some e->L.Perm (e::L.eraseIdx i)
  |[],i,e,h=>by simp at h
  |x::L,0,e,h=>by obtain rfl:x=e:=by simpa using h
                  simp
  |x::L,i+1,e,h=>by
   have:=Mi (L:=L) (i:=i) (e:=e) (by simpa using h);rw[arN];exact(this.cons x).trans (.swap _ _ _)
theorem Tr.pick[d:Deep τ]{enc:τ→Array Value}{c:Nat}[f:fG τ enc c]{a:Sl τ}{i:Nat}{x:τ}(hx:a.xs[i]? =some x):
    Tr (Deep.cd a::L) (own enc c a.sv a.xs::Deep.cd x::((a.xs.eraseIdx i).map d.cd++L)):=
  Tr.Hl.trans (Tr.cons (Tr.right (Tr.perm (Mh d.cd hx)) L) _)
theorem Mj{α:Type}: ∀(xs:List α) (i:Nat) (y:α),(xs.set i y).eraseIdx i=xs.eraseIdx i
  |[],_,_=>by simp
  |_::_,0,_=>by simp
  |_::xs,i+1,y=>by simp[Mj xs i y]
theorem Tr.lay[d:Deep τ]{enc:τ→Array Value}{c:Nat}[f:fG τ enc c]{s:Sv}{xs:List τ}{i:Nat}{y:τ}(hi:i<xs.length):
    Tr (own enc c s (xs.set i y)::Deep.cd y::((xs.eraseIdx i).map d.cd++L)) (Deep.cd (⟨s,xs.set i y⟩:Sl τ)::L):=by
  have hy:(xs.set i y)[i]? =some y:=by simp[hi]
  have:=(Mh d.cd hy).symm;rw[Mj]at this;exact(Tr.cons (Tr.right (Tr.perm this) L) _).trans (Tr.Bu (a:=⟨s,xs.set i y⟩))
class Take(L:List aj){τ:Type}[Deep τ](x:τ)(R:outParam (List aj)):Prop where
  h:Tr L (Deep.cd x::R)
class y7(L:List aj){τ:Type}[Deep τ](xs:List τ)(R:outParam (List aj)):Prop where
  h:Tr L (xs.map Deep.cd++R)
instance (priority:=high) Take.at [Deep τ]{x:τ}{i:Nat}[a:At L (Deep.cd x) i][d:cm L i R]:Take L x R:=⟨by
  have:=Tr.front a.h;rwa [d.h]at this⟩
instance (priority:=low) Take.plain [Deep τ][p:Plain τ]{x:τ}:Take L x L:=⟨by rw[p.h];exact Tr.Me⟩
instance Take.own[Deep τ][p:Plain τ]{enc:τ->Array Value}{c:Nat}[f:fG τ enc c]{s:Sv}{xs:List τ}{i:Nat}[a:At L (own enc c s xs) i][d:cm L i R]:Take L (⟨s,xs⟩:Sl τ) R:=⟨by
  have:=Tr.front a.h;rw[d.h]at this;exact this.trans (Tr.DL (a:=⟨s,xs⟩))⟩
instance y7.nil[Deep τ]:y7 L ([]:List τ) L:=⟨.refl⟩
instance y7.cons[Deep τ]{x:τ}{xs:List τ}[a:Take L x R1][b:y7 R1 xs R2]:y7 L (x::xs) R2:=⟨a.h.trans (b.h.cons _)⟩
instance:Plain UInt8:=⟨fun _=>rfl⟩
end
section
variable {P:Program} {N:cc} {w0:World} {env:Env} {L R R1 R2:List aj} {l:List Oper} {Q:Exit->Act->World->Prop} {rest:List Oper} {d:Option Tmp} {ty:TypeId} {ps:String} {af:Array Edge}
variable {τ:Type} [dp:Deep τ] {enc:τ->Array Value} {c:Nat}
theorem Ur{α:Type}{enc:α→Array Value}{c:Nat}{s:Sv}{xs ys:List α}{t tx e:TypeId}{x y:Operand}{yv:Value}{cF:Nat}[ht:eB P t e c cF][he:bk enc c](R:List aj)(hx:ev env x=some s.val)(hy:ev env y=some yv)
    (ho: ∀w,Mem w0 L w->Mem w0 (own enc c s xs::R) w) (hc:0<c) (hs: ∀w,Mem w0 L w->Src P c tx yv ys.length (aF enc ys) w) (hb:(xs.length+ys.length)*cF<=140737488355328) (iL:xs.length+ys.length<=140737488355328)
    (hk: ∀s':Sv,Sq P N w0 l Q rest (ca env d s'.val) (own enc c s' (xs++ys)::R)) (hd:cM N d=true:=by rfl):
    Sq P N w0 l Q (⟨d, .call {callee:= .builtin .append,args:= #[x,y],argTypes:= #[t,tx]},ty,ps,af,none⟩::rest) env L:=
  lL rfl hd fun a w ha hw=>by
    obtain⟨s',w',h1,h2,h3,h4⟩:=Hc (i:=0) (ty:=ty) ht hc (ho w hw) rfl (hs w hw) hb iL;refine⟨s'.val,w',_,?_,by simpa using h4,hk s'⟩;simp[execOp,ha.ev hx,ha.ev hy,resolve,invoke,builtin,h1,Result.andThen]
theorem Us{s:Sv}{t tx e e':TypeId}{x y:Operand}{cF m:Nat}[f:fG τ enc c][ht:eB P t e c cF][Ut:dY P tx e' m][he:bk enc c](a:Sl τ)(ys:List τ)(hx:ev env x=some a.sv.val)(hy:ev env y=some s.val)[q:Hd w0 L s enc c ys]
    [k1:Take L a R1] [k2:y7 R1 ys R2] (hc:0<c) (hb:(a.xs.length+ys.length)*cF<=140737488355328) (iL:a.xs.length+ys.length<=140737488355328)
    (hk: ∀a':Sl τ,a'.xs=a.xs++ys->Sq P N w0 l Q rest (ca env d a'.sv.val) (Deep.cd a'::R2)) (hd:cM N d=true:=by rfl):
    Sq P N w0 l Q (⟨d, .call {callee:= .builtin .append,args:= #[x,y],argTypes:= #[t,tx]},ty,ps,af,none⟩::rest) env L:=
  Ur (enc:=enc) (c:=c) (xs:=a.xs) (ys:=ys) (a.xs.map dp.cd++(ys.map dp.cd++R2)) hx hy (fun w hw=>((k1.h.trans (k2.h.cons _)).trans Tr.Hl).mem hw) hc (fun w hw=>ib Ut.dZ hc (q.h w hw)) hb iL
    (fun s' aa w ha hw=>hk ⟨s',a.xs++ys⟩ rfl aa w ha (by
      have t1:Tr (own enc c s' (a.xs++ys)::(a.xs.map dp.cd++(ys.map dp.cd++R2))) (Deep.cd (⟨s',a.xs++ys⟩:Sl τ)::R2):=by
        have:=Tr.Bu (enc:=enc) (c:=c) (a:=(⟨s',a.xs++ys⟩:Sl τ)) (L:=R2);simpa using this
      exact t1.mem hw)) hd
theorem Mem.y8{w:World}[f:fG τ enc c](h:Mem w0 L w):Mem w0 (Deep.cd (⟨Sv.none,[]⟩:Sl τ)::L) w:=
  (Tr.Bu (enc:=enc) (c:=c) (a:=(⟨Sv.none,[]⟩:Sl τ)) (L:=L)).mem (by simpa using h.cO enc c)
def rL{τ:Type}(s:Sl (Sl τ))(i:Nat):Sl τ:=s.xs.getD i ⟨Sv.none,[]⟩
theorem DM{τ:Type}{s:Sl (Sl τ)}{i:Nat}{x:Sl τ}(h:s.xs[i]? =some x):rL s i=x:=by simp[rL,h]
theorem DN{τ:Type}{s:Sl (Sl τ)}{i:Nat}(h:s.xs.length<=i):rL s i=⟨Sv.none,[]⟩:=by simp[rL,h]
theorem Bv{τ:Type}(s:Sl (Sl τ))(i:Nat):(rL s i).xs=(lx s).getD i []:=by
  rcases apo i s.xs.length with h|h
  ·have:s.xs[i]? =some s.xs[i]:=by simp[h]
   simp[DM this,lx,h]
  ·rw[DN h];simp[lx,h]
theorem vd{h:Nat->Option Obj}:Deep.dJ h (⟨Sv.none,[]⟩:Sl τ):=⟨dh.nil _ _ _,fun _ hx=>by cases hx⟩
def Sl.nil{τ:Type}:Sl τ:=⟨Sv.none,[]⟩
instance aV.none:aV w0 L (Sl.nil:Sl τ):=⟨fun _ _=>vd⟩
instance aV.rL{s:Sl (Sl τ)}{i:Nat}[q:aV w0 L s]:aV w0 L (rL s i):=⟨fun w hw=>by
  rcases apo i s.xs.length with h|h
  ·have hx:s.xs[i]? =some s.xs[i]:=by simp[h]
   rw[DM hx];exact(q.h w hw).2 _ (alM hx)
  ·rw[DN h];exact vd⟩
theorem Tr.Mk{L:List aj}[f:fG τ enc c]: ∀n,Tr L ((List.replicate n (⟨Sv.none,[]⟩:Sl τ)).map Deep.cd++L)
  |0=> .refl
  |n+1=>by
   rw[arL,apY];exact(Tr.Mk n).trans fun K w0 w hw=>Mem.y8 (enc:=enc) (c:=c) hw
theorem Uu{t e:TypeId}{cF n cap:Nat}{x y:Operand}{k k':IntKind}{ix iy:Int}[f:fG τ enc c][ht:eB P t e 1 cF][hz:dz P e (.slice none 0 0)](hx:ev env x=some (.int k ix))(hy:ev env y=some (.int k' iy))(ex:ix=(n:Int))(ey:iy=(cap:Int))(hle:n≤cap)(hb:cF*cap≤281474976710656)(iL:cap≤140737488355328)
    (hk: ∀a:Sl (Sl τ),a.xs=List.replicate n ⟨Sv.none,[]⟩->Sq P N w0 l Q rest (ca env d a.sv.val) (Deep.cd a::L)) (hd:cM N d=true:=by rfl):
    Sq P N w0 l Q (⟨d, .makeSlice t x y,ty,ps,af,none⟩::rest) env L:=
  rH (enc:=bU (τ:=τ)) (n:=n) (cap:=cap) (⟨Sv.none,[]⟩:Sl τ) rfl hx hy ex ey hle hb iL (fun b a w ha hw=>hk ⟨⟨false,b,0,n,cap,none⟩,List.replicate n ⟨Sv.none,[]⟩⟩ rfl a w ha
    (((Tr.Mk (enc:=enc) (c:=c) n).cons _|>.trans (Tr.Bu (enc:=bU) (c:=1) (a:=(⟨⟨false,b,0,n,cap,none⟩,List.replicate n ⟨Sv.none,[]⟩⟩:Sl (Sl τ))))).mem hw)) hd
end
section
variable {P:Program} {N:cc} {w0:World} {env:Env} {L:List aj} {l:List Oper} {Q:Exit->Act->World->Prop} {rest:List Oper} {d:Option Tmp} {ty:TypeId} {ps:String} {af:Array Edge}
end
theorem Sv.iD(s:Sv):s.val.cells= #[s.val]:=by unfold Sv.val;split<;>rfl
theorem Tr.Uv{τ:Type}[Deep τ][Plain τ]{enc:τ→Array Value}{c:Nat}[fG τ enc c]{a:Sl (Sl τ)}{x:Sl τ}{i:Nat}{B:List aj}(hx:a.xs[i]? =some x):
    Tr (B++[Deep.cd a]) (own bU 1 a.sv a.xs::own enc c x.sv x.xs::(B++(a.xs.eraseIdx i).map Deep.cd)):=by
  refine(Tr.perm (List.perm_append_comm (l₁:=B) (l₂:=[Deep.cd a]))).trans ?_;refine(Tr.pick (L:=B) hx).trans (Tr.cons (Tr.Uq.trans (Tr.cons (Tr.perm List.perm_append_comm) _)) _)
theorem Tr.Uw{τ:Type}[Deep τ][Plain τ]{enc:τ→Array Value}{c:Nat}[fG τ enc c]{s y:Sv}{xs:List (Sl τ)}{ys:List τ}{i:Nat}{B:List aj}(hi:i<xs.length):
    Tr (own bU 1 s (xs.set i ⟨y,ys⟩)::own enc c y ys::(B++(xs.eraseIdx i).map Deep.cd)) (Deep.cd (⟨s,xs.set i ⟨y,ys⟩⟩:Sl (Sl τ))::B):=by
  refine Tr.trans ?_ (Tr.lay (L:=B) hi);exact Tr.cons ((Tr.DL (a:=(⟨y,ys⟩:Sl τ))).trans (Tr.cons (Tr.perm List.perm_append_comm) _)) _
theorem DO{P:Program}{N:cc}{w0:World}{env:Env}{L:List aj}{l:List Oper}{Q:Exit→Act→World→Prop}{rest:List Oper}{ty:TypeId}{ps:String}{af:Array Edge}{τ:Type}{t:TypeId}{x y:Operand}{i k p:Nat}{s:Sv}{xs:List (Sl τ)}{a:Sl τ}(a':Sl τ)
    (sz:(P.info? t).map (·.size)=some 1) (hx:ev env x=some (.pointer (some ⟨s.b,p,none⟩))) (hy:ev env y=some a'.sv.val) [q:di L s (bU (τ:=τ)) 1 xs i] (fj:p=s.o+k*1) (ha:xs[k]? =some a) {L':List aj} [hu:eK L i (own bU 1 s (xs.set k a')) L'] (hk:Sq P N w0 l Q rest env L'):
    Sq P N w0 l Q (⟨none, .store t x y,ty,ps,af,none⟩::rest) env L:=
  ju (j:=0) (a':=a') sz hx hy (q:=q) fj ha (by rw[Sv.iD];simp[Sv.one]) (by rw[Sv.iD];rfl) (by decide) (by rw[Sv.iD];rfl) hk
section
variable {P:Program} {N:cc} {w0:World} {env:Env} {L:List aj} {l:List Oper} {Q:Exit->Act->World->Prop} {rest:List Oper} {d:Option Tmp} {ty:TypeId} {ps:String} {af:Array Edge} {gd:Option (Nat×Bool)}
variable {fs:List Nat} {F:Act->Prop} {k:Nat}
theorem mq{o:Oper}{v:Value}{j t:Nat}{b g:Bool}(hg:o.guard=some (j,b))(hj:(l[j]?).bind (·.dst)=some t)(hv:look env t=some (.bool g))(ht:g=b)(h:Yl P N w0 env L o v)
    (hk:Sq P N w0 l Q rest (ca env o.dst v) L) (hd:cM N o.dst=true:=by rfl):Sq P N w0 l Q (o::rest) env L:=fun a w ha hw=>by
  unfold wpList;rw[wW ha hg hj hv,ht,beq_self_eq_true,if_pos rfl];exact .inl (yU ha hw h fun w' fM=>hk _ _ (ha.put hd v) fM)
end
theorem ve{P:Program}{N:cc}{w0:World}{env:Env}{L:List aj}{d:Option Tmp}{ty:TypeId}{ps:String}{af:Array Edge}{gd:Option (Nat×Bool)}{c x y:Operand}{g:Bool}{v:Value}(hc:ev env c=some (.bool g))(ht:g=true)(hx:ev env x=some v)(hy:ev env y=some (.bool false)):
    Ry P N w0 env L ⟨d, .pick c x y,ty,ps,af,gd⟩ v:=by
  subst ht;have h:=GS (P:=P) (N:=N) (w0:=w0) (L:=L) (d:=d) (ty:=ty) (ps:=ps) (af:=af) (gd:=gd) hc hx hy;simpa using h
abbrev bZ:=List UInt8
def dec(n:Nat):bZ:=Lib.decDigits n
variable {n top:Nat} {s t:bZ} {c:UInt8}
theorem vf(h:n<10):dec n=[UInt8.ofNat (48+n)]:=by rw[dec,Lib.decDigits,dif_pos h]
theorem y9(h:10<=n):dec n=dec (n/10)++[UInt8.ofNat (48+n%10)]:=by
 rw[dec,Lib.decDigits,dif_neg (by omega)];rfl
def kM(c:UInt8):Bool:=decide (48<=c.toNat/\c.toNat<=57)
def val(s:bZ):Nat:=s.foldl (fun a c=>10*a+(c.toNat -48)) 0
theorem DP:val (s++[c])=10*val s+(c.toNat -48):=by simp[val,aq6]
theorem Bw{d:Nat}(h:d<10):(UInt8.ofNat (48+d)).toNat=48+d:=by
 rw[UInt8.toNat_ofNat'];omega
theorem Hm: ∀n,(dec n).all kM=true:=by
 intro n
 induction n using Nat.strongRecOn with
 |_ n ih=>
  rcases apo n 10 with h|h
  ·
   rw[vf h];have:=Bw h;simp[kM,this];omega
  rw[y9 h,List.all_append,ih (n/10) (by omega)];have:=Bw (ara n (show 0<10 by decide));simp[kM,this];omega
theorem Hn: ∀n,val (dec n)=n:=by
 intro n
 induction n using Nat.strongRecOn with
 |_ n ih=>
  rcases apo n 10 with h|h
  ·
   rw[vf h];have:=Bw h;simp[val];omega
  rw[y9 h,DP,ih (n/10) (by omega),Bw (ara n (by decide))];omega
theorem Ml:dec n≠[]:=by
 rcases apo n 10 with h|h
 ·
  rw[vf h];simp
 rw[y9 h];simp
def DQ(s:bZ):Prop:=s≠[]/\(s.length<=1\/s.head?≠some 48)
theorem Ux: ∀n,0<n->(dec n).head?≠some 48:=by
 intro n
 induction n using Nat.strongRecOn with
 |_ n ih=>
  intro hn;rcases apo n 10 with h|h
  ·
   rw[vf h];intro e;simp only[List.head?_cons,aqR]at e;have h2:=congrArg UInt8.toNat e;rw[Bw h]at h2;have:(48:UInt8).toNat=48:=rfl;omega
  rw[y9 h,List.head?_append]
  cases hd:(dec (n/10)).head? with
  |none=>exact absurd (List.head?_eq_none_iff.1 hd) Ml
  |some x=>
   have:=ih (n/10) (by omega) (by omega);rw[hd]at this;simpa using this
theorem Ho(n:Nat):DQ (dec n):=by
 refine⟨Ml,?_⟩;rcases aqq n with rfl|h
 ·
  left;rw[vf (by decide)];simp
 exact .inr (Ux n h)
theorem Uy: ∀{s:bZ},DQ s->s.all kM=true->dec (val s)=s:=by
 intro s;have key: ∀k (s:bZ),s.length=k->DQ s->s.all kM=true->dec (val s)=s:=by
  intro k
  induction k with
  |zero=>intro s hl hp _;exact absurd (apB.1 hl) hp.1
  |succ k ih=>
   intro s hl hp hd;obtain⟨t,c,rfl⟩: ∃t c,s=t++[c]:=by
    rcases List.eq_nil_or_concat s with h|⟨t,c,h⟩
    ·
     exact absurd h hp.1
    exact⟨t,c,by simpa using h⟩
   rw[List.all_append,anc]at hd;have hc:48<=c.toNat/\c.toNat<=57:=by
    have:=hd.2;simpa[kM]using this
   have Mm:UInt8.ofNat (48+(c.toNat -48))=c:=by
    rw[show 48+(c.toNat -48)=c.toNat by omega];exact UInt8.ofNat_toNat
   rw[DP]
   by_cases ht:t=[]
   ·
    subst ht;rw[show val []=0 from rfl,Nat.mul_zero,apP,vf (by omega),Mm];rfl
   have bc:t.length=k:=by simpa using hl
   have Uz:DQ t:=by
    refine⟨ht,?_⟩;rcases hp.2 with h|h
    ·
     left;simp only[af0,apj,apl]at h;omega
    right;rw[List.head?_append]at h
    cases rC:t.head? with
    |none=>simp
    |some x=>rw[rC]at h;simpa using h
   have Hp:=ih t bc Uz hd.1;have hv:0<val t:=by
    rcases aqq (val t)with h0|h0
    ·
     exfalso;rw[h0,vf (by decide)]at Hp;rcases hp.2 with h|h
     ·
      simp only[af0,apj,apl]at h;have:=arn.2 ht;omega
     rw[←Hp]at h;exact h rfl
    exact h0
   rw[y9 (by omega),show(10*val t+(c.toNat -48))/10=val t by omega,Hp,show(10*val t+(c.toNat -48))%10=c.toNat -48 by omega,Mm]
 exact key s.length s rfl
def cJ(s:bZ)(top:Nat):Option Nat:=if(s≠[]/\(s.length<=1\/s.head?≠some 48)/\s.all kM=true/\val s<=top)then some (val s)else none
theorem kN:cJ s top=some n↔s=dec n/\n<=top:=by
 unfold cJ;constructor
 ·
  intro h;split at h
  ·
   rename_i h1;obtain⟨h2,h3,h4,h5⟩:=h1;obtain rfl:=api h;exact⟨(Uy ⟨h2,h3⟩ h4).symm,h5⟩
  cases h
 rintro⟨rfl,h⟩;obtain⟨h1,h2⟩:=Ho n;rw[if_pos ⟨h1,h2,Hm n,by rw[Hn];exact h⟩,Hn]
theorem Hq(h:n<=top):cJ (dec n) top=some n:=kN.2 ⟨rfl,h⟩
theorem UA: ∀k n,n<10^k->0<k->(dec n).length<=k:=by
 intro k
 induction k with
 |zero=>intro n _ h;omega
 |succ k ih=>
  intro n h _;rcases apo n 10 with h1|h1
  ·
   rw[vf h1];simp
  rw[y9 h1,af0];have hk:0<k:=by
   rcases aqq k with rfl|hk
   ·
    simp at h;omega
   exact hk
  have:=ih (n/10) (by rw[Nat.pow_succ]at h;omega) hk;simpa using this
theorem Mn(h:kM c=false):c∉dec n:=fun hc=>by
 have:=apC.1 (Hm n) c hc;rw[h]at this;cases this
def cG(c:UInt8):bZ->List bZ
 |[]=>[[]]
 |x::s=>if x=c then[]::cG c s else match cG c s with
  |[]=>[[x]]
  |p::r=>(x::p)::r
theorem Hr: ∀s,cG c s≠[]
 |[]=>by simp[cG]
 |x::s=>by
  rw[cG];split
  ·
   simp
  split<;>simp
theorem Hs(h:c∉s):cG c s=[s]:=by
 induction s with
 |nil=>rfl
 |cons x s ih=>
  rw[cG,if_neg (fun e=>h (by simp[e])),ih (fun hc=>h (apL _ hc))]
theorem DR(h:c∉s):cG c (s++c::t)=s::cG c t:=by
 induction s with
 |nil=>rw[apV,cG,if_pos rfl]
 |cons x s ih=>
  rw[aqs,cG,if_neg (fun e=>h (by simp[e])),ih (fun hc=>h (apL _ hc))]
theorem za: ∀(s:bZ),(c∉s/\cG c s=[s])\/ ∃a b,s=a++c::b/\c∉a/\cG c s=a::cG c b
 |[]=> .inl ⟨by simp,rfl⟩
 |x::s=>by
  by_cases hx:x=c
  ·
   subst hx;exact .inr ⟨[],s,rfl,by simp,by rw[cG,if_pos rfl]⟩
  rcases za s with⟨h1,h2⟩|⟨a,b,h1,h2,h3⟩
  ·
   left;have:c∉x::s:=fun h=>(apn.1 h).elim (fun e=>hx e.symm) h1;exact⟨this,Hs this⟩
  right;have:c∉x::a:=fun h=>(apn.1 h).elim (fun e=>hx e.symm) h2;exact⟨x::a,b,by rw[h1];rfl,this,by rw[h1,←aqs,DR this]⟩
theorem UB{a:bZ}(h:cG c s=[a]):s=a/\c∉s:=by
 rcases za (c:=c) s with⟨h1,h2⟩|⟨x,y,h1,h2,h3⟩
 ·
  rw[h2]at h;exact⟨(ar8 h).1,h1⟩
 rw[h3]at h;exact absurd (ar8 h).2 (Hr y)
theorem Ht{a b:bZ}{r:List bZ}(h:cG c s=a::b::r): ∃u,s=a++c::u/\c∉a/\cG c u=b::r:=by
 rcases za (c:=c) s with⟨h1,h2⟩|⟨x,y,h1,h2,h3⟩
 ·
  rw[h2]at h;cases(ar8 h).2
 rw[h3]at h;obtain⟨e1,e2⟩:=ar8 h;subst e1;exact⟨y,h1,h2,e2⟩
def Bx(s:bZ):Array Value:= #[.string ⟨s.toArray⟩]
instance (s:bZ):bK (Bx s) 0 (.string ⟨s.toArray⟩):=⟨rfl⟩
theorem zb(s:bZ):(⟨s.toArray⟩:ByteArray).size=s.length:=by simp[ByteArray.size]
theorem UC(s:bZ)(i:Nat):(⟨s.toArray⟩:ByteArray)[i]? =s[i]? :=by
 by_cases h:i<s.length
 ·
  rw[ByteArray.getElem?_lt' _ _ (by rw[zb];exact h),apF h];rfl
 rw[ByteArray.getElem?_ge' _ _ (by rw[zb];exact h),apt (by omega)]
theorem UD(s:ByteArray):s=⟨s.data.toList.toArray⟩:=by cases s;simp
theorem Mo(c:UInt8): ∀s:bZ,(cG c s).length<=s.length+1
 |[]=>by simp[cG]
 |x::s=>by
  have ih:=Mo c s;rw[cG];split
  ·
   simp;omega
  split
  ·
   simp
  rename_i p r h;rw[h]at ih;simp at ih⊢;omega
section
variable {P:Program} {N:cc} {w0:World} {env:Env} {L:List aj} {d:Option Tmp} {ty t u:TypeId} {ps:String} {af:Array Edge} {gd:Option (Nat×Bool)} {x y lo hi:Operand} {k k':IntKind} {a b s:bZ}
theorem qF(ht:P.underlying t=some .string)(hx:ev env x=some (.string ⟨s.toArray⟩)):
  Ry P N w0 env L ⟨d, .call {callee:= .builtin .len,args:= #[x],argTypes:= #[t]},ty,ps,af,gd⟩ (.int .i64 (s.length:Nat)):=fun aa w ha _=>by
 have h:(Builtin.len_ #[t] ty #[.string ⟨s.toArray⟩]).run P w= .ok (goInt s.length) w:=by
  rw[run_len_string w t ty _ ht,zb]
 simp[execOp,ha.ev hx,resolve,invoke,builtin,h,Result.andThen,goInt]
theorem tq{j:Int}(i:Nat)(hu:P.underlying t=some .string)(hx:ev env x=some (.string ⟨s.toArray⟩))(hj:ev env y=some (.int k j))(ej:j=(i:Int))(h:i<s.length):
  Ry P N w0 env L ⟨d, .index t x y,ty,ps,af,gd⟩ (.int .u8 ((s.getD i 0).toNat:Nat)):=TU hu hx hj (by omega) (by
 subst ej;rw[UC,aqm,apF h];simp[List.getD,h])
theorem Ry.as{o:Oper}{v v':Value}(h:Ry P N w0 env L o v)(e:v=v'):Ry P N w0 env L o v':=e▸h
theorem UE{p:Nat}{v1 v2:Int}(hx:ev env x=some (.int .u8 v1))(hy:ev env y=some (.int k' v2))(ea:v1=p)(hp:p<16)(eb:v2=4:=by rfl):
  Ry P N w0 env L ⟨d, .binOp .shl t x y u,ty,ps,af,gd⟩ (.int .u8 ((p*16:Nat):Int)):=by
 subst ea eb;refine Ry.as (Dw hx hy (by decide)) (congrArg (Value.int .u8) ?_);have e:((p:Int)*2^min (4:Int).toNat IntKind.u8.bits)=((p*16:Nat):Int):=by
  rw[show(2:Int)^min (4:Int).toNat IntKind.u8.bits=16 by decide];omega
 rw[e];exact oH (by simp only[nb];omega)
theorem DS{p q:Nat}{v1 v2:Int}(hx:ev env x=some (.int k v1))(hy:ev env y=some (.int k v2))(ea:v1=p)(eb:v2=q)(h:q<=p)(h2:p<2^nb k:=by first|(simp only[nb];omega)|exact(UInt8.toNat_lt _)):
  Ry P N w0 env L ⟨d, .binOp .sub t x y u,ty,ps,af,gd⟩ (.int k ((p -q:Nat):Int)):=du hx hy (by
 subst ea eb;rw[kG,show(p:Int) -(q:Int)=((p -q:Nat):Int) by omega,oH (by omega)])
end
variable {s a b:bZ} {c:UInt8}
theorem Mp(h:c∉s):Lib.index s [c]= -1:=by
 induction s with
 |nil=>rfl
 |cons x s ih=>
  have hx:x≠c:=fun e=>h (by simp[e]);have hp:([c]:bZ).isPrefixOf (x::s)=false:=by
   simp only[List.isPrefixOf,Bool.and_true];simpa using fun e=>hx e.symm
  rw[Lib.index,hp,ih (fun hc=>h (apL _ hc))];rfl
theorem Mq(h:c∉a):Lib.index (a++c::b) [c]=(a.length:Int):=by
 induction a with
 |nil=>
  rw[apV,Lib.index,if_pos (by simp[List.isPrefixOf])];rfl
 |cons x a ih=>
  have hx:x≠c:=fun e=>h (by simp[e]);have hp:([c]:bZ).isPrefixOf (x::(a++c::b))=false:=by
   simp only[List.isPrefixOf,Bool.and_true];simpa using fun e=>hx e.symm
  rw[aqs,Lib.index,hp,ih (fun hc=>h (apL _ hc)),if_neg (by simp),if_neg (by simp only[beq_iff_eq];omega)];simp
def dK(c:UInt8)(s:bZ):bZ×bZ×Bool:=Lib.cut s [c]
theorem UF(h:c∉s):dK c s=(s,[],false):=by
 rw[dK,Lib.cut,Mp h,if_neg (by decide)]
theorem UG(h:c∉a):dK c (a++c::b)=(a,b,true):=by
 rw[dK,Lib.cut,Mq h,if_pos (by omega)];simp
theorem Mr(c:UInt8): ∀(n:Nat) (s:ByteArray),s.size<=n->(Lib.splitB ⟨#[c]⟩ 0 (Lib.countB s ⟨#[c]⟩) s).map (·.data.toList)=cG c s.data.toList:=by
 intro n
 induction n with
 |zero=>
  intro s hs;have hz:s.data.toList=[]:=by
   apply apB.1;have:=Lib.size_eq s;omega
  have hi:Lib.indexB s ⟨#[c]⟩= -1:=by
   show Lib.index s.data.toList [c]= -1;rw[hz];rfl
  rw[Lib.splitB_miss _ _ _ _ hi,hz];simp[hz,cG]
 |succ n ih=>
  intro s hs;rcases za (c:=c) s.data.toList with⟨h1,h2⟩|⟨a,b,h1,h2,h3⟩
  ·
   have hi:Lib.indexB s ⟨#[c]⟩= -1:=Mp h1;rw[Lib.splitB_miss _ _ _ _ hi,h2];rfl
  have hi:Lib.indexB s ⟨#[c]⟩=(a.length:Int):=by
   show Lib.index s.data.toList [c]=_;rw[h1];exact Mq h2
  have dO:(⟨#[c]⟩:ByteArray).size=1:=rfl;have hlen:s.size=a.length+(b.length+1):=by rw[Lib.size_eq,h1];simp
  rw[Lib.countB_hit s _ a.length (by rw[dO];decide) hi,Nat.add_comm 1,Lib.splitB,if_neg (by rw[hi];simp only[beq_iff_eq];omega),hi,h3];have e1:((a.length:Int)).toNat=a.length:=by omega
  rw[e1,apY];have ed: ∀x y:Nat,(s.extract x y).data.toList=(s.data.toList.drop x).take (y -x):=fun x y=>Lib.extract_data s x y;have e2:(s.extract 0 (a.length+0)).data.toList=a:=by rw[ed,h1];simp
  have e3:(s.extract (a.length+(⟨#[c]⟩:ByteArray).size) s.size).data.toList=b:=by
   rw[ed,h1,dO,hlen];simp;exact apy (by omega)
  rw[e2,ih _ (by have:=Lib.size_eq (s.extract (a.length+(⟨#[c]⟩:ByteArray).size) s.size);rw[e3]at this;omega),e3]
theorem UH(c:UInt8)(s:ByteArray):Lib.countB s ⟨#[c]⟩+1=(cG c s.data.toList).length:=by
 rw[←Mr c s.size s (apm _),apQ,Lib.splitB_all _ (apm _) 0 _ s rfl]
end Go.ay
namespace Go.Kb
abbrev Key:=BitVec 128
def bm(k:Key)(i:Nat):Nat:=k.toNat/2^(8*(15 -i))%2^8
theorem jv(k:Key)(i:Nat):bm k i<256:=ara _ (by decide)
theorem UI(k:Key)(i j:Nat)(hj:j<8):(bm k i).testBit j=k.toNat.testBit (8*(15 -i)+j):=by
 unfold bm;rw[Nat.testBit_mod_two_pow,ari];simp[hj,Nat.add_comm]
theorem UJ(k:Key)(n:Nat)(h:n<128):k.getMsbD n=k.toNat.testBit (127 -n):=by
 simp only[BitVec.getMsbD,BitVec.getLsbD,h,decide_true,aqw]
theorem tr(k:Key)(n:Nat)(h:n<128):k.getMsbD n=(bm k (n/8)).testBit (7 -n%8):=by
 rw[UJ k n h,UI k (n/8) (7 -n%8) (by omega)];congr 1;omega
theorem Hu(k:Key)(n:Nat)(h:128<=n):k.getMsbD n=false:=by
 simp only[BitVec.getMsbD];simp;omega
theorem vg{a b:Key}(h: ∀n,n<128->a.getMsbD n=b.getMsbD n):a=b:=BitVec.eq_of_getMsbD_eq fun i hi=>h i hi
theorem UK{x y:Nat}(hx:x<256)(hy:y<256)(h: ∀j,j<8->x.testBit j=y.testBit j):x=y:=by
 refine aru fun j=>?_;rcases apo j 8 with hj|hj
 ·
  exact h j hj
 have hp:2^8<=2^j:=aqo (by decide) hj;rw[aqX (ap0 hx hp),aqX (ap0 hy hp)]
theorem tt{a b:Key}(h: ∀i,i<16->bm a i=bm b i):a=b:=
 vg fun n hn=>by rw[tr a n hn,tr b n hn,h (n/8) (by omega)]
theorem UL{k:Key}{i x:Nat}(hi:i<16)(hx:x<256)(h: ∀m,m<8->k.getMsbD (8*i+m)=x.testBit (7 -m)):bm k i=x:=
 UK (jv k i) hx fun j hj=>by
  have:=h (7 -j) (by omega);rw[tr k _ (by omega),show(8*i+(7 -j))/8=i by omega,show 7 -(8*i+(7 -j))%8=j by omega,show 7 -(7 -j)=j by omega]at this;exact this
def n7(f:Nat->Nat):Key:=BitVec.ofNat 128 ((List.range 16).foldl (fun a i=>a*2^8+f i%2^8) 0)
theorem DT(f:Nat->Nat): ∀n,(List.range n).foldl (fun a i=>a*2^8+f i%2^8) 0<2^(8*n)
 |0=>by simp
 |n+1=>by
  rw[aq9,aq6];have:=DT f n;have h2:f n%2^8<2^8:=ara _ (by decide);simp only[arT,List.foldl_nil];rw[Nat.mul_add,aqS,Nat.pow_add];omega
theorem Ms(f:Nat->Nat): ∀n i,i<n->(List.range n).foldl (fun a i=>a*2^8+f i%2^8) 0/2^(8*(n -1 -i))%2^8=f i%2^8
 |0,i,h=>by omega
 |n+1,i,h=>by
  rw[aq9,aq6];simp only[arT,List.foldl_nil];generalize hF:(List.range n).foldl (fun a i=>a*2^8+f i%2^8) 0=F
  by_cases hi:i=n
  ·
   subst hi;rw[show i+1 -1 -i=0 by omega];simp
  have ih:=Ms f n i (by omega);rw[hF]at ih;rw[show 8*(n+1 -1 -i)=8+8*(n -1 -i) by omega,Nat.pow_add,←Nat.div_div_eq_div_mul];have:(F*2^8+f n%2^8)/2^8=F:=by
   have h2:f n%2^8<2^8:=ara _ (by decide);omega
  rw[this];exact ih
theorem tu(f:Nat->Nat)(i:Nat)(h:i<16):bm (n7 f) i=f i%2^8:=by
 unfold bm n7;have e:((List.range 16).foldl (fun a i=>a*2^8+f i%2^8) 0)%2^128=(List.range 16).foldl (fun a i=>a*2^8+f i%2^8) 0:=ap3 (DT f 16);rw[aqV,e];exact Ms f 16 i h
def zd(k:Key)(i x:Nat):Key:=n7 fun j=>if j=i then x else bm k j
theorem Hv(k:Key)(i x j:Nat)(hj:j<16)(hx:x<256):bm (zd k i x) j=if j=i then x else bm k j:=by
 unfold zd;rw[tu _ j hj];split
 ·
  omega
 have:=jv k j;omega
def bR(k:Key):Array Value:=((List.range 16).map fun i=>Value.int .u8 (bm k i)).toArray
theorem fD(k:Key):(bR k).size=16:=by unfold bR;simp
theorem ki(k:Key)(i:Nat)(h:i<16):(bR k)[i]? =some (.int .u8 (bm k i)):=by unfold bR;simp[h]
theorem Mt(k:Key)(i:Nat)(h:16<=i):(bR k)[i]? =none:=by unfold bR;simp;omega
theorem Hw{A:Array Value}{k:Key}(hs:A.size=16)(h: ∀i,i<16->A[i]? =some (.int .u8 (bm k i))):A=bR k:=by
 apply aqI;intro i;rcases apo i 16 with hi|hi
 ·
  rw[h i hi,ki k i hi]
 rw[Mt k i hi];simp;omega
theorem UM(k:Key)(i x:Nat)(hi:i<16)(hx:x<256):(bR k).setIfInBounds i (.int .u8 x)=bR (zd k i x):=by
 refine Hw (by simp[fD]) fun j hj=>?_;rw[aqa,Hv k i x j hj hx]
 by_cases h:i=j
 ·
  subst h;simp[fD,hi]
 rw[if_neg h,if_neg (fun e=>h e.symm),ki k j hj]
theorem Mu{a b:Key}(h:bR a=bR b):a=b:=tt fun i hi=>by
 have h1:=ki a i hi;rw[h,ki b i hi]at h1;simp at h1;omega
def cV(k:Key)(n:Int):Key:=if n<1 then 0#128 else(k>>>(128 -n.toNat))<<<(128 -n.toNat)
theorem rM(k:Key)(n:Int)(i:Nat):(cV k n).getMsbD i=(decide ((i:Int)<n)&&k.getMsbD i):=by
 unfold cV;split
 ·
  have: ¬((i:Int)<n):=by omega
  simp[this]
 rcases apo i 128 with hi|hi
 ·
  rw[BitVec.getMsbD_shiftLeft,BitVec.getMsbD_ushiftRight]
  by_cases hn:(i:Int)<n
  ·
   have h1:i+(128 -n.toNat)<128:=by omega
   have h2:i+(128 -n.toNat) -(128 -n.toNat)=i:=by omega
   simp[hn,h1,h2]
  have h1: ¬i+(128 -n.toNat)<128:=by omega
  simp[hn,h1]
 rw[Hu _ _ hi,Hu _ _ hi];simp
theorem Mv(k:Key)(n:Int)(h:128<=n):cV k n=k:=vg fun i hi=>by
 rw[rM];have:(i:Int)<n:=by omega
 simp[this]
theorem DU(k:Key)(n:Int)(h:n<1):cV k n=0#128:=by unfold cV;rw[if_pos h]
theorem Mw(k:Key)(n m:Int):cV (cV k n) m=cV k (min n m):=vg fun i _=>by
 rw[rM,rM,rM,←Bool.and_assoc];congr 1;rw[←Bool.decide_and,decide_eq_decide];omega
theorem DV(k:Key)(n:Int):cV k n=k↔ ∀i:Nat,i<128->n<=(i:Int)->k.getMsbD i=false:=by
 constructor
 ·
  intro h i hi hn;rw[←h,rM];have: ¬(i:Int)<n:=by omega
  simp[this]
 intro h;refine vg fun i hi=>?_;rw[rM]
 by_cases hn:(i:Int)<n
 ·
  simp[hn]
 rw[h i hi (by omega)];simp
theorem By(k:Key)(n:Nat)(i:Nat)(hi:i<16):bm (cV k n) i=if 8*i+8<=n then bm k i else if 8*i<=n then bm k i/2^(8 -(n -8*i))*2^(8 -(n -8*i))else 0:=by
 have hb:=jv k i;have bc:(if 8*i+8<=n then bm k i else if 8*i<=n then bm k i/2^(8 -(n -8*i))*2^(8 -(n -8*i))else 0)<256:=by
  split
  ·
   exact hb
  split
  ·
   exact arq (Nat.div_mul_le_self _ _) hb
  omega
 refine UL hi bc fun m hm=>?_;rw[rM,tr k _ (by omega),show(8*i+m)/8=i by omega,show 7 -(8*i+m)%8=7 -m by omega];split
 ·
  have:((8*i+m:Nat):Int)<(n:Int):=by omega
  simp only[this,decide_true,aqw]
 split
 ·
  generalize ht:8 -(n -8*i)=t;rw[Nat.testBit_mul_two_pow,ari]
  by_cases bc:((8*i+m:Nat):Int)<(n:Int)
  ·
   have h1:t<=7 -m:=by omega
   simp only[bc,h1,decide_true,aqw];rw[show 7 -m -t+t=7 -m by omega]
  have h1: ¬t<=7 -m:=by omega
  simp only[bc,h1,decide_false,arK]
 have: ¬((8*i+m:Nat):Int)<(n:Int):=by omega
 simp only[this,decide_false,arK,Nat.zero_testBit]
def pK(k:Key)(n:Int):Int:=if 0<=n/\n<128 then(if k.getMsbD n.toNat then 1 else 0)else 0
theorem UN(x j:Nat):((x/2^j%2:Nat):Int)=if x.testBit j then 1 else 0:=by
 rw[Nat.testBit_eq_decide_div_mod_eq]
 by_cases h:x/2^j%2=1
 ·
  simp[h]
 have:x/2^j%2=0:=by omega
 simp[this]
theorem UO(k:Key)(n:Int)(h0:0<=n)(h1:n<128):pK k n=((bm k (n/8).toNat/2^(7 -n%8).toNat%2:Nat):Int):=by
 unfold pK;rw[if_pos ⟨h0,h1⟩,UN,tr k n.toNat (by omega)];rw[show(n/8).toNat=n.toNat/8 by omega,show(7 -n%8).toNat=7 -n.toNat%8 by omega]
theorem vh(k:Key)(n:Int):0<=pK k n/\pK k n<=1:=by unfold pK;split<;>(try split)<;>omega
theorem DW(k:Key)(n:Nat):pK k n=if k.getMsbD n then 1 else 0:=by
 unfold pK;rcases apo n 128 with h|h
 ·
  rw[if_pos (by omega)];simp
 rw[if_neg (by omega),Hu k n h];simp
def ic(k:Key)(n:Int):Int:=if 0<=n/\n<32 then 8*pK k (4*n)+4*pK k (4*n+1)+2*pK k (4*n+2)+pK k (4*n+3)else 0
theorem UP(k:Key)(n:Int)(h:n<0\/32<=n):ic k n=0:=by unfold ic;rw[if_neg (by omega)]
theorem vi(k:Key)(i j:Nat)(hi:i<16)(hj:j<8):pK k ((8*i+j:Nat):Int)=((bm k i/2^(7 -j)%2:Nat):Int):=by
 rw[UO k _ (by omega) (by omega)];rw[show(((8*i+j:Nat):Int)/8).toNat=i by omega,show(7 -((8*i+j:Nat):Int)%8).toNat=7 -j by omega]
theorem UQ(b:Nat)(h:b<256):8*(b/2^7%2)+4*(b/2^6%2)+2*(b/2^5%2)+b/2^4%2=b/2^4:=by
 simp only[Nat.reducePow];omega
theorem UR(b:Nat):8*(b/2^3%2)+4*(b/2^2%2)+2*(b/2^1%2)+b/2^0%2=b%16:=by
 simp only[Nat.reducePow];omega
theorem US(k:Key)(n:Int)(h0:0<=n)(h1:n<32)(he:n%2=0):ic k n=((bm k (n/2).toNat/2^4:Nat):Int):=by
 unfold ic;rw[if_pos ⟨h0,h1⟩];generalize hi:(n/2).toNat=i;have e0:4*n=((8*i+0:Nat):Int):=by omega
 have e1:4*n+1=((8*i+1:Nat):Int):=by omega
 have e2:4*n+2=((8*i+2:Nat):Int):=by omega
 have e3:4*n+3=((8*i+3:Nat):Int):=by omega
 rw[e1,e2,e3,e0,vi k i 0 (by omega) (by omega),vi k i 1 (by omega) (by omega),vi k i 2 (by omega) (by omega),vi k i 3 (by omega) (by omega)];have:=UQ (bm k i) (jv k i);simp only[Nat.reduceSub]at*;omega
theorem UT(k:Key)(n:Int)(h0:0<=n)(h1:n<32)(he:n%2=1):ic k n=((bm k (n/2).toNat%16:Nat):Int):=by
 unfold ic;rw[if_pos ⟨h0,h1⟩];generalize hi:(n/2).toNat=i;have e0:4*n=((8*i+4:Nat):Int):=by omega
 have e1:4*n+1=((8*i+5:Nat):Int):=by omega
 have e2:4*n+2=((8*i+6:Nat):Int):=by omega
 have e3:4*n+3=((8*i+7:Nat):Int):=by omega
 rw[e1,e2,e3,e0,vi k i 4 (by omega) (by omega),vi k i 5 (by omega) (by omega),vi k i 6 (by omega) (by omega),vi k i 7 (by omega) (by omega)];have:=UR (bm k i);simp only[Nat.reduceSub]at*;omega
structure ba where
 bits:Int
 len:Int
 key:Key
 deriving DecidableEq
def aZ(p:ba):Bool:=decide (p.bits=32\/p.bits=128)&&decide (0<=p.len)&&decide (p.len<=p.bits)&&decide (cV p.key p.len=p.key)
theorem pM(p:ba):aZ p=true↔(p.bits=32\/p.bits=128)/\0<=p.len/\p.len<=p.bits/\cV p.key p.len=p.key:=by
 unfold aZ;simp[and_assoc]
def Hx(p:ba)(k:Key):Bool:=aZ p&&decide (cV k p.bits=k)&&decide (cV k p.len=p.key)
def UU(p q:ba):Bool:=aZ p&&aZ q&&decide (p.bits=q.bits)&&decide (p.len<=q.len)&&decide (cV q.key p.len=p.key)
def cC(p q:ba):Bool:=aZ p&&aZ q&&(if p.bits≠q.bits then decide (p.bits=32)else if p.key≠q.key then decide (p.key.toNat<q.key.toNat)else decide (p.len<q.len))
def bV(p:ba):Array Value:= #[.int .i64 p.bits, .int .i64 p.len]++bR p.key
theorem oL(p:ba):(bV p).size=18:=by unfold bV;rw[arG,fD];rfl
theorem xf(p:ba):(bV p)[0]? =some (.int .i64 p.bits):=by unfold bV;rw[Array.getElem?_append];rfl
theorem xi(p:ba):(bV p)[1]? =some (.int .i64 p.len):=by unfold bV;rw[Array.getElem?_append];rfl
theorem pN(p:ba)(j:Nat):(bV p)[2+j]? =(bR p.key)[j]? :=by
 unfold bV;rw[Array.getElem?_append,if_neg (by simp)];congr 1;simp
theorem Mx{a b:ba}(h:bV a=bV b):a=b:=by
 have h0:=xf a;rw[h,xf]at h0;have h1:=xi a;rw[h,xi]at h1;have h2:a.key=b.key:=Mu (aqI fun i=>by rw[←pN,←pN,h])
 cases a;cases b
 simp at h0 h1 h2⊢;exact⟨h0.symm,h1.symm,h2⟩
theorem My(k:Key):n7 (bm k)=k:=tt fun i hi=>by
 rw[tu _ i hi];have:=jv k i;omega
theorem Mz{a b:Key}{i:Nat}(hi:i<16)(hs: ∀j,j<i->bm a j=bm b j)(hd:bm a i<bm b i):a.toNat<b.toNat:=by
 have key: ∀n,n<=16->i<n->(List.range n).foldl (fun x j=>x*2^8+bm a j%2^8) 0<(List.range n).foldl (fun x j=>x*2^8+bm b j%2^8) 0:=by
  intro n
  induction n with
  |zero=>intro _ h;omega
  |succ n ih=>
   intro hn jc;rw[aq9,aq6,aq6];simp only[arT,List.foldl_nil];have ha:=jv a n;have hb:=jv b n
   by_cases h:i=n
   ·
    subst h;have e:(List.range i).foldl (fun x j=>x*2^8+bm a j%2^8) 0=(List.range i).foldl (fun x j=>x*2^8+bm b j%2^8) 0:=by
     have aux: ∀(l:List Nat) (z:Nat),(∀j∈l,bm a j=bm b j)->l.foldl (fun x j=>x*2^8+bm a j%2^8) z=l.foldl (fun x j=>x*2^8+bm b j%2^8) z:=by
      intro l
      induction l with
      |nil=>intro z _;rfl
      |cons x l ih=>intro z hl;simp only[arT];rw[hl x (by simp)];exact ih _ fun j hj=>hl j (by simp[hj])
     exact aux _ _ fun j hj=>hs j (aqi.1 hj)
    rw[e];omega
   have:=ih (by omega) (by omega);omega
 have MA:=key 16 (apm _) hi;have ea:a.toNat=(List.range 16).foldl (fun x j=>x*2^8+bm a j%2^8) 0:=by
  conv=>lhs;rw[←My a]
  unfold n7;rw[aqV];exact ap3 (DT (bm a) 16)
 have eb:b.toNat=(List.range 16).foldl (fun x j=>x*2^8+bm b j%2^8) 0:=by
  conv=>lhs;rw[←My b]
  unfold n7;rw[aqV];exact ap3 (DT (bm b) 16)
 rw[ea,eb];exact MA
def pO(a b:Key):Int:=if a.toNat<b.toNat then -1 else if b.toNat<a.toNat then 1 else 0
theorem MB(a b:Key):pO a b=0↔a=b:=by
 unfold pO;constructor
 ·
  intro h;split at h
  ·
   omega
  split at h
  ·
   omega
  exact arB (by omega)
 rintro rfl;simp
theorem UW(a b:Key):pO a b<0↔a.toNat<b.toNat:=by
 unfold pO;split
 ·
  simp[*]
 split<;>simp[*]
theorem Hy(p:ba)(k:Key):Hx p k=true↔aZ p=true/\cV k p.bits=k/\cV k p.len=p.key:=by
 unfold Hx;simp[and_assoc]
theorem DX(p:ba):aZ p=true↔(p.bits=32\/p.bits=128)/\0<=p.len/\p.len<=p.bits/\ ∀i:Nat,i<128->p.len<=(i:Int)->p.key.getMsbD i=false:=by
 rw[pM,DV]
theorem nm{p q:ba}(hp:aZ p=true)(hq:aZ q=true):cC p q=true↔p.bits<q.bits\/(p.bits=q.bits/\(p.key.toNat<q.key.toNat\/(p.key.toNat=q.key.toNat/\p.len<q.len))):=by
 obtain⟨p1,_⟩:=(pM p).1 hp;obtain⟨q1,_⟩:=(pM q).1 hq;have ek:p.key=q.key↔p.key.toNat=q.key.toNat:=⟨fun h=>by rw[h],arB⟩;unfold cC;rw[hp,hq,aqw,aqw]
 by_cases hb:p.bits=q.bits
 ·
  rw[if_neg (by simpa using hb)]
  by_cases hk:p.key=q.key
  ·
   rw[if_neg (by simpa using hk)];rw[ek]at hk;simp;omega
  rw[if_pos hk];rw[ek]at hk;simp;omega
 rw[if_pos hb];simp;omega
theorem UX{p q:ba}:p=q↔p.bits=q.bits/\p.key.toNat=q.key.toNat/\p.len=q.len:=by
 constructor
 ·
  rintro rfl;exact⟨rfl,rfl,rfl⟩
 rintro⟨h1,h2,h3⟩;have:=arB h2
 cases p;cases q;simp_all
structure Rt where
 p:ba
 bN:UInt16
 deriving DecidableEq
def cP:Rt:=⟨⟨0,0,0#128⟩,0⟩
def aq(r:Rt):Array Value:=bV r.p++ #[.int .u16 r.bN.toNat]
theorem jf(r:Rt):(aq r).size=19:=by unfold aq;rw[arG,oL];rfl
theorem n8(r:Rt)(j:Nat)(h:j<18):(aq r)[j]? =(bV r.p)[j]? :=by
 unfold aq;rw[aro (by rw[oL];exact h)]
theorem xj(r:Rt):(aq r)[18]? =some (.int .u16 r.bN.toNat):=by
 unfold aq;rw[Array.getElem?_append_right (by rw[oL];omega),oL];rfl
def qG(xs:List Rt)(i:Nat):Bool:=match xs[i]?with
 |none=>true
 |some r=>aZ r.p&&match i with
  |0=>true
  |j+1=>match xs[j]?with
   |none=>true
   |some q=>cC q.p r.p
def rN(xs:List Rt)(n:Nat):Bool:=(List.range n).all (qG xs)
def bl(xs:List Rt):Bool:=decide (xs.length<=256)&&rN xs xs.length
theorem UY(xs:List Rt):rN xs 0=true:=rfl
theorem MC(xs:List Rt)(n:Nat):rN xs (n+1)=(rN xs n&&qG xs n):=by
 simp[rN,aq9]
theorem MD{xs:List Rt}(h:256<xs.length):bl xs=false:=by
 simp[bl];omega
theorem DY{xs:List Rt}{i:Nat}(hi:i<xs.length)(h:qG xs i=false):bl xs=false:=by
 have:rN xs xs.length=false:=by
  rw[rN,List.all_eq_false];exact⟨i,aqi.2 hi,by simp[h]⟩
 simp[bl,this]
theorem ME{xs:List Rt}(h:xs.length<=256)(ho:rN xs xs.length=true):bl xs=true:=by simp[bl,h,ho]
theorem MF{xs:List Rt}{i:Nat}{r:Rt}(hi:xs[i]? =some r)(h:aZ r.p=false):qG xs i=false:=by simp[qG,hi,h]
theorem MG{xs:List Rt}{r:Rt}(hi:xs[0]? =some r):qG xs 0=aZ r.p:=by simp[qG,hi]
theorem Hz{xs:List Rt}{i:Nat}{q r:Rt}(hi:xs[i+1]? =some r)(hq:xs[i]? =some q):qG xs (i+1)=(aZ r.p&&cC q.p r.p):=by simp[qG,hi,hq]
theorem UZ{xs:List Rt}{i:Nat}{q r:Rt}(h0:0<i)(hi:xs[i]? =some r)(hq:xs[i -1]? =some q):qG xs i=(aZ r.p&&cC q.p r.p):=by
 obtain⟨j,rfl⟩: ∃j,i=j+1:=⟨i -1,by omega⟩;exact Hz hi (by simpa using hq)
theorem MH{xs:List Rt}{i:Nat}{q r:Rt}(hi:xs[i]? =some r)(hq:xs[i -1]? =some q):qG xs i=(aZ r.p&& !(decide (0<(i:Int))&& !cC q.p r.p)):=by
 rcases aqq i with h|h
 ·
  subst h;rw[MG hi];simp
 rw[UZ h hi hq];simp[h]
theorem get_some{α:Type}{xs:List α}{i:Nat}(h:i<xs.length): ∃r,xs[i]? =some r:=⟨xs[i],by simp[h]⟩
theorem U0{a b:Rt}(h:aq a=aq b):a=b:=by
 have hp:bV a.p=bV b.p:=aqI fun j=>by
  rcases apo j 18 with hj|hj
  ·
   rw[←n8 a j hj,←n8 b j hj,h]
  rw[aqH (by rw[oL];exact hj),aqH (by rw[oL];exact hj)]
 have hh:=xj a;rw[h,xj b]at hh;have e1:b.bN=a.bN:=by
  apply UInt16.toNat_inj.1;simp only[aqR,Value.int.injEq,true_and]at hh;omega
 obtain⟨p,q⟩:=a;obtain⟨p',q'⟩:=b;simp only at e1 hp;rw[Mx hp,e1]
theorem U3{α:Type}{xs ys:List α}{i:Nat}{a b:α}(ha:xs[i]? =some a)(hb:ys[i]? =some b)(h: ¬a=b): ¬xs=ys:=fun e=>by
 rw[e,hb]at ha;exact h (api ha).symm
theorem U4{α:Type}{xs ys:List α}(hl:xs.length=ys.length)(h: ∀j,j<xs.length->xs[j]? =ys[j]?):xs=ys:=ap2 fun j=>by
 rcases apo j xs.length with hj|hj
 ·
  exact h j hj
 rw[apt hj,apt (by omega)]
open Go.ay
variable {s:bZ} {c:UInt8} {k:Key}
def xk(n:Nat):UInt8:=if n<10 then UInt8.ofNat (48+n)else UInt8.ofNat (87+n)
def kj(c:UInt8):Option Nat:=if 48<=c.toNat/\c.toNat<=57 then some (c.toNat -48)else if 97<=c.toNat/\c.toNat<=102 then some (c.toNat -87)else none
theorem U5{n:Nat}(h:n<16):(xk n).toNat=if n<10 then 48+n else 87+n:=by
 unfold xk;split
 ·
  rw[UInt8.toNat_ofNat'];omega
 rw[UInt8.toNat_ofNat'];omega
theorem DZ{n:Nat}(h:n<16):kj c=some n↔c=xk n:=by
 have ht:=U5 h;constructor
 ·
  intro h1;apply arE.1;rw[ht];unfold kj at h1;split at h1
  ·
   have:=api h1;split<;>omega
  split at h1
  ·
   have:=api h1;split<;>omega
  cases h1
 rintro rfl;unfold kj;rw[ht];split
 ·
  rw[if_pos (by omega)];congr 1;omega
 rw[if_neg (by omega),if_pos (by omega)];congr 1;omega
theorem HA{n:Nat}(h:kj c=some n):n<16:=by
 unfold kj at h;split at h
 ·
  have:=api h;omega
 split at h
 ·
  have:=api h;omega
 cases h
theorem U6{n:Nat}(h:n<16){c:UInt8}(hc:kj c=none):xk n≠c:=fun e=>by
 have:=(DZ h).2 e.symm;rw[hc]at this;cases this
def ze(k:Key):bZ:=dec (bm k 0)++46::(dec (bm k 1)++46::(dec (bm k 2)++46::dec (bm k 3)))
def qH(k:Key)(i:Nat):Nat:=if i%2=0 then bm k (i/2)/16 else bm k (i/2)%16
theorem HB(k:Key)(i:Nat):qH k i<16:=by
 have:=jv k (i/2);unfold qH;split<;>omega
def qI(k:Key):bZ:=(List.range 32).map fun i=>xk (qH k i)
def Bz(k:Key)(bits:Int):bZ:=if bits=32 then ze k else qI k
def four(a b c d:Nat):Key:=n7 fun i=>if i=0 then a else if i=1 then b else if i=2 then c else if i=3 then d else 0
def jP(s:bZ):Option Key:=match cG 46 s with
 |[a,b,c,d]=>match cJ a 255,cJ b 255,cJ c 255,cJ d 255 with
  |some a,some b,some c,some d=>some (four a b c d)
  |_,_,_,_=>none
 |_=>none
def D0(s:bZ):Bool:=s.all fun c=>(kj c).isSome
def kl(s:bZ)(i:Nat):Nat:=(kj (s.getD i 0)).getD 0
def zf(s:bZ):Key:=n7 fun i=>16*kl s (2*i)+kl s (2*i+1)
def lP(s:bZ):Option Key:=if s.length=32/\D0 s=true then some (zf s)else none
def mr(s:bZ):Option (Key×Int):=match jP s with
 |some k=>some (k,32)
 |none=>(lP s).map fun k=>(k,128)
theorem xm{a b c d:Nat}(ha:a<=255)(hb:b<=255)(hc:c<=255)(hd:d<=255){i:Nat}(hi:i<16):bm (four a b c d) i=if i=0 then a else if i=1 then b else if i=2 then c else if i=3 then d else 0:=by
 rw[four,tu _ _ hi];split
 ·
  omega
 split
 ·
  omega
 split
 ·
  omega
 split<;>omega
theorem MI:cV k 32=k↔ ∀i,4<=i->i<16->bm k i=0:=by
 constructor
 ·
  intro h i h1 h2;have:=By k 32 i h2;rw[show cV k ((32:Nat):Int)=k from h]at this;rw[this,if_neg (by omega)];split
  ·
   have hb:=jv k i;obtain rfl:i=4:=by omega
   rw[show(8 -(32 -8*4))=8 by decide];omega
  rfl
 intro h;refine tt fun i hi=>?_;rw[show cV k 32=cV k ((32:Nat):Int)from rfl,By k 32 i hi];split
 ·
  rfl
 have:=h i (by omega) hi;rw[this];split<;>simp
theorem MJ:jP s=some k↔cV k 32=k/\s=ze k:=by
 constructor
 ·
  intro h;unfold jP at h;split at h
  ·
   rename_i a b c d hs;obtain⟨u1,e1,_,h1⟩:=Ht hs;obtain⟨u2,e2,_,h2⟩:=Ht h1;obtain⟨u3,e3,_,h3⟩:=Ht h2;obtain⟨e4,_⟩:=UB h3;split at h
   ·
    rename_i na nb nc nd ha hb hc hd;obtain⟨ea,la⟩:=kN.1 ha;obtain⟨eb,lb⟩:=kN.1 hb;obtain⟨ec,lc⟩:=kN.1 hc;obtain⟨ed,ld⟩:=kN.1 hd;obtain rfl:=api h;refine⟨MI.2 fun i h1 h2=>?_,?_⟩
    ·
     rw[xm la lb lc ld h2,if_neg (by omega),if_neg (by omega),if_neg (by omega),if_neg (by omega)]
    rw[ze,xm la lb lc ld (by decide),xm la lb lc ld (by decide),xm la lb lc ld (by decide),xm la lb lc ld (by decide)];simp only[if_true,Nat.one_ne_zero,if_false,(by decide:(2:Nat)≠0),(by decide:(2:Nat)≠1),(by decide:(3:Nat)≠0),(by decide:(3:Nat)≠1),(by decide:(3:Nat)≠2)];rw[e1,e2,e3,e4,ea,eb,ec,ed]
   cases h
  cases h
 rintro⟨h,rfl⟩;have hn: ∀n,(46:UInt8)∉dec n:=fun n=>Mn (by decide);have hs:cG 46 (ze k)=[dec (bm k 0),dec (bm k 1),dec (bm k 2),dec (bm k 3)]:=by
  rw[ze,DR (hn _),DR (hn _),DR (hn _),Hs (hn _)]
 have hl: ∀i,bm k i<=255:=fun i=>by have:=jv k i;omega
 have e:jP (ze k)=some (four (bm k 0) (bm k 1) (bm k 2) (bm k 3)):=by
  unfold jP;rw[hs];simp only[Hq (hl _)]
 rw[e];refine congrArg some (tt fun i hi=>?_);rw[xm (hl _) (hl _) (hl _) (hl _) hi];rcases apo i 4 with h4|h4
 ·
  have:i=0\/i=1\/i=2\/i=3:=by omega
  rcases this with rfl|rfl|rfl|rfl<;>simp
 rw[if_neg (by omega),if_neg (by omega),if_neg (by omega),if_neg (by omega),MI.1 h i h4 hi]
theorem MK(k:Key){i:Nat}(h:i<32):(qI k)[i]? =some (xk (qH k i)):=by simp[qI,h]
theorem ML(k:Key):(qI k).length=32:=by simp[qI]
theorem MM(k:Key){i:Nat}(h:i<32):kl (qI k) i=qH k i:=by
 unfold kl;rw[List.getD,MK k h,Option.getD_some,(DZ (HB k i)).2 rfl];rfl
theorem U7(k:Key):D0 (qI k)=true:=by
 unfold D0 qI;rw[List.all_map,apC];intro i _;simp only[Function.comp];rw[(DZ (HB k i)).2 rfl];rfl
theorem MN:lP s=some k↔s=qI k:=by
 constructor
 ·
  intro h;unfold lP at h;split at h
  ·
   rename_i h1;obtain⟨hl,ha⟩:=h1;obtain rfl:=api h;have hh: ∀i,i<32-> ∃n,n<16/\s[i]? =some (xk n)/\kl s i=n:=fun i hi=>by
    have dF:i<s.length:=by omega
    have hm:s[i]? =some (s.getD i 0):=by simp[List.getD,dF]
    have:=apC.1 ha _ (alM hm);obtain⟨n,hn⟩:=ap9.1 this;have bc:=HA hn;exact⟨n,bc,by rw[hm,(DZ bc).1 hn],by rw[kl,hn];rfl⟩
   have hb: ∀j,j<16->bm (zf s) j=16*kl s (2*j)+kl s (2*j+1):=fun j hj=>by
    obtain⟨n,h1,_,h2⟩:=hh (2*j) (by omega);obtain⟨m,h3,_,h4⟩:=hh (2*j+1) (by omega);rw[zf,tu _ _ hj];omega
   refine ap2 fun i=>?_;rcases apo i 32 with hi|hi
   ·
    obtain⟨n,h1,h2,h3⟩:=hh i hi;rw[h2,MK _ hi];have hn:qH (zf s) i=n:=by
     unfold qH;rw[hb (i/2) (by omega)];have tv:=fun j (hj:j<32)=>hh j hj;split
     ·
      rename_i he;obtain⟨m,h5,_,h6⟩:=hh (2*(i/2)+1) (by omega);rw[show 2*(i/2)=i by omega,h3,show i+1=2*(i/2)+1 by omega,h6];omega
     rename_i he;obtain⟨m,h5,_,h6⟩:=hh (2*(i/2)) (by omega);rw[show 2*(i/2)+1=i by omega,h3,h6];omega
    rw[hn]
   rw[apt (by omega),apt (by rw[ML];omega)]
  cases h
 rintro rfl;unfold lP;rw[if_pos ⟨ML k,U7 k⟩];congr 1;refine tt fun j hj=>?_;rw[zf,tu _ _ hj,MM k (by omega),MM k (by omega)];have hb:=jv k j;have e1:qH k (2*j)=bm k j/16:=by unfold qH;rw[if_pos (by omega),show 2*j/2=j by omega]
 have e2:qH k (2*j+1)=bm k j%16:=by unfold qH;rw[if_neg (by omega),show(2*j+1)/2=j by omega]
 rw[e1,e2];omega
theorem U8(k:Key){c:UInt8}(hc:kj c=none):c∉qI k:=fun h=>by
 obtain⟨i,_,hi⟩:=aqr.1 h;exact U6 (HB k i) hc hi
theorem U9(k:Key):jP (qI k)=none:=by
 unfold jP;rw[Hs (U8 k (by decide))]
theorem Va{b:Int}:mr s=some (k,b)↔aZ ⟨b,b,k⟩=true/\s=Bz k b:=by
 rw[pM];simp only;constructor
 ·
  intro h;unfold mr at h;split at h
  ·
   rename_i k' hk;obtain⟨rfl,rfl⟩:=Prod.mk.inj (api h);obtain⟨h1,h2⟩:=MJ.1 hk;exact⟨⟨.inl rfl,by decide,aqD _,h1⟩,by rw[Bz,if_pos rfl];exact h2⟩
  obtain⟨k',hk,he⟩:=aqf.1 h;obtain⟨rfl,rfl⟩:=Prod.mk.inj he;exact⟨⟨.inr rfl,by decide,aqD _,Mv _ _ (aqD _)⟩,by rw[Bz,if_neg (by decide)];exact MN.1 hk⟩
 rintro⟨⟨h1,_,_,h2⟩,rfl⟩;rcases h1 with rfl|rfl
 ·
  rw[Bz,if_pos rfl,mr,MJ.2 ⟨h2,rfl⟩]
 rw[Bz,if_neg (by decide),mr,U9,MN.2 rfl];rfl
def lQ(s:bZ):Option ba:=match cG 47 s with
 |[a,b]=>match mr a,cJ b 128 with
  |some (k,bits),some n=>if aZ ⟨bits,(n:Int),k⟩=true then some ⟨bits,(n:Int),k⟩else none
  |_,_=>none
 |_=>none
def rO(s:bZ):Option Rt:=match cG 32 s with
 |[a,b]=>match lQ a,cJ b 65535 with
  |some p,some n=>some ⟨p,UInt16.ofNat n⟩
  |_,_=>none
 |_=>none
variable {s:bZ} {i n top:Nat} {c:UInt8}
def qJ(c:UInt8):Int:=match kj c with
 |some n=>(n:Int)
 |none=> -1
def BA(s:bZ)(top:Nat):Int:=match cJ s top with
 |some n=>(n:Int)
 |none=> -1
theorem MO(h:i<s.length):s.take (i+1)=s.take i++[s.getD i 0]:=by
 rw[aqL h];simp[List.getD,h]
theorem D1(h:i<s.length):val (s.take (i+1))=10*val (s.take i)+((s.getD i 0).toNat -48):=by rw[MO h,DP]
theorem MP(h:i<s.length)(h1:(s.take i).all kM=true)(h2:48<=(s.getD i 0).toNat/\(s.getD i 0).toNat<=57):(s.take (i+1)).all kM=true:=by
 rw[MO h,List.all_append,h1];simp only[aq3,arf,kM];simpa using h2
theorem Vb: ∀k (s:bZ),s.length=k->s.all kM=true->val s<10^k:=by
 intro k
 induction k with
 |zero=>intro s hl _;rw[apB.1 hl];simp[val]
 |succ k ih=>
  intro s hl hd;obtain⟨t,c,rfl⟩: ∃t c,s=t++[c]:=by
   rcases List.eq_nil_or_concat s with h|⟨t,c,h⟩
   ·
    subst h;simp at hl
   exact⟨t,c,by simpa using h⟩
  rw[List.all_append,anc]at hd;have hc:48<=c.toNat/\c.toNat<=57:=by
   have:=hd.2;simpa[kM]using this
  have:=ih t (by simpa using hl) hd.1;rw[DP,Nat.pow_succ];omega
theorem Vc(h:i<=5)(hi:i<=s.length)(h1:(s.take i).all kM=true):val (s.take i)<100000:=by
 have:=Vb i (s.take i) (by simp;omega) h1;exact ap0 this (aqo (by decide) h)
theorem Vd(a b:bZ):val a<=val (a++b):=by
 have key: ∀(b:bZ) (m:Nat),m<=b.foldl (fun a c=>10*a+(c.toNat -48)) m:=by
  intro b
  induction b with
  |nil=>intro m;exact apm _
  |cons x b ih=>intro m;exact arv (show m<=10*m+(x.toNat -48) by omega) (ih _)
 unfold val;rw[aq6];exact key b _
theorem HC(h:0<s.length):s.head?=some (s.getD 0 0):=by
 cases s with
 |nil=>simp at h
 |cons x s=>rfl
theorem Ve(ht:top<=65535)(h:s.length=0\/5<s.length\/(1<s.length/\(s.getD 0 0).toNat=48)):cJ s top=none:=by
 cases e:cJ s top with
 |none=>rfl
 |some n=>
  obtain⟨rfl,hn⟩:=kN.1 e;have hl:=UA 5 n (by omega) (by decide);have hp:=Ho n;have h0:=arn.2 hp.1;rcases h with h|h|⟨h,h2⟩
  ·
   omega
  ·
   omega
  rcases hp.2 with h3|h3
  ·
   omega
  rw[HC h0]at h3;exact absurd (congrArg some (arE.1 h2:(dec n).getD 0 0=48)) h3
theorem Vf(h:s=[]\/(1<s.length/\(s.getD 0 0).toNat=48)):cJ s top=none:=by
 cases e:cJ s top with
 |none=>rfl
 |some n=>
  obtain⟨rfl,hn⟩:=kN.1 e;have hp:=Ho n;have h0:=arn.2 hp.1;rcases h with h|⟨h,h2⟩
  ·
   exact absurd h hp.1
  rcases hp.2 with h3|h3
  ·
   omega
  rw[HC h0]at h3;exact absurd (congrArg some (arE.1 h2:(dec n).getD 0 0=48)) h3
theorem MQ(h:i<s.length)(h2:(s.getD i 0).toNat<48\/57<(s.getD i 0).toNat):cJ s top=none:=by
 cases e:cJ s top with
 |none=>rfl
 |some n=>
  obtain⟨rfl,hn⟩:=kN.1 e;have:=apC.1 (Hm n) ((dec n).getD i 0) (by simp[List.getD,h]);simp only[kM,decide_eq_true_eq]at this;omega
theorem MR(h:top<val (s.take i)):cJ s top=none:=by
 cases e:cJ s top with
 |none=>rfl
 |some n=>
  obtain⟨rfl,hn⟩:=kN.1 e;have:=Vd ((dec n).take i) ((dec n).drop i);rw[apH,Hn]at this;omega
theorem MS(h:s≠[])(h1: ¬(1<s.length/\(s.getD 0 0).toNat=48))(h2:s.all kM=true)(h3:val s<=top):cJ s top=some (val s):=by
 unfold cJ;rw[if_pos];refine⟨h,?_,h2,h3⟩;have h0:=arn.2 h;rcases apo 1 s.length with h4|h4
 ·
  right;rw[HC h0];intro e;exact h1 ⟨h4,by rw[api e];rfl⟩
 exact .inl h4
variable {s:bZ} {i n st:Nat} {c:UInt8}
variable {ps:List bZ}
theorem Vg{x:bZ}: ∀(s:bZ),x∈cG c s->x.length<=s.length:=by
 intro s;have key: ∀n (s:bZ),s.length<=n->x∈cG c s->x.length<=s.length:=by
  intro n
  induction n with
  |zero=>
   intro s hs hx;obtain rfl:=apB.1 (Nat.le_zero.1 hs);simp[cG]at hx;simp[hx]
  |succ n ih=>
   intro s hs hx;rcases za (c:=c) s with⟨_,h2⟩|⟨a,b,h1,_,h3⟩
   ·
    rw[h2,apW]at hx;rw[hx];exact apm _
   rw[h3,apn]at hx;have hl:s.length=a.length+(b.length+1):=by rw[h1];simp
   rcases hx with rfl|hx
   ·
    omega
   have:=ih b (by omega) hx;omega
 exact key s.length s (apm _)
variable {k:Key} {i n:Nat} {s:bZ} {c:UInt8}
section
variable {P:Program} {N:cc} {w0:World} {env:Env} {L:List aj} {d:Option Tmp} {ty t u:TypeId} {ps:String} {af:Array Edge} {gd:Option (Nat×Bool)}
end
variable {k:Key} {i:Nat}
end Go.Kb

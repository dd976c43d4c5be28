/- The law TableOrder holds, and its card. -/
import Derived.Test.YtldkgicmfbofiaaGreatDoorC5
import Derived.Lib.ReflectliteSlice
import Derived.Test.YtldkgicmfbofiaaGreatDoorC3
import Derived.Test.YtldkgicmfbofiaaGreatDoorC1
import Derived.Test.YtldkgicmfbofiaaGreatDoorC2
import Derived.ProofKit
import Derived.Deep.Slices
import Derived.HandedShaped
import Derived.Handed
import Derived.Lay
import Derived.MakeChecks
import Derived.Stop.Joined
import Derived.LaidLaws
import Derived.Test.YtldkgicmfbofiaaGreatDoorRows
import Derived.Lib.LaidTab
import Derived.Lib.LaidU8
import Derived.Test.YtldkgicmfbofiaaGreatDoorTie
import Derived.Test.YtldkgicmfbofiaaGreatDoorCards

/- What sort.SliceStable asks of its argument. -/
set_option linter.unusedSimpArgs false
set_option linter.unusedVariables false
namespace Go.Eng
open Go.RowKit Go.Kb
section
variable {P : Program} {N : Fra} {w0 : World} {env : Env} {L : List Ent} {l : List Oper} {Q : Exit → Act → World → Prop} {rest : List Oper} {d : Option Tmp} {ty : TypeId} {ps : String} {af : Array Edge}
variable {α : Type} {enc : α → Array Value} {c : Nat} {s : Sv} {xs : List α} {t e : TypeId} {i ie : TypeInfo} {f : FuncId} {fn : Func} {as' : List Operand} {ts : Array TypeId}
section
variable {gd : Option (Nat × Bool)}
theorem ry_makeFn {fn : Fn} {c : List Operand} {vs : List Value} (hc : evl env c = some vs) : Ry P N w0 env L ⟨d, .makeFunc fn #[] c.toArray, ty, ps, af, gd⟩ (.func fn #[] vs.toArray) := fun a w ha _ => by
  simp only [execOp, Instr.makeFunc]
  rw [show c.toArray.map a.eval = vs.toArray by rw [List.map_toArray, ha.evl hc]]
  simp [Sem.run_pure, Result.andThen]
end
theorem Sv.val_is (s : Sv) : ∃ p n c, s.val = .slice p n c := by
  unfold Sv.val; split <;> exact ⟨_, _, _, rfl⟩
theorem sq_valueOf (hf : P.funcs[f]? = some fn) (hname : (fn.name == "runtime.NumGoroutine") = false) (hb : fn.body.isNone = true) (hn : Extern.findNext fn = none) (he : Extern.find fn = some (fun args => Extern.ReflectliteValue.unpack (args.getD 0 (.tuple #[]))))
    (hi : P.info? t = some i) (hd' : i.desc = .slice e) (hx : evl env as' = some [.iface t s.val])
    (hk : ∀ b, Sq P N w0 l Q rest (putE env d (.agg #[typeHandle P t, .pointer (some ⟨b, 0, none⟩), .int .u64 151])) (blk b #[s.val] t :: L)) (hd : dstOk N d = true := by rfl) :
    Sq P N w0 l Q (⟨d, .call { callee := .value (.func f), args := as'.toArray, argTypes := ts }, ty, ps, af, none⟩ :: rest) env L := by
  obtain ⟨p, n, c, e1⟩ := Sv.val_is s
  refine sq_native hf hname hb hn he hx (fun w hw => ⟨_, _, _, ?_, hw.alloc #[s.val] t, hk _⟩) hd
  have := Lib.run_valueOf_slice t e i hi hd' p n c w
  rw [e1]
  exact this
theorem sq_swapper (hf : P.funcs[f]? = some fn) (hname : (fn.name == "runtime.NumGoroutine") = false) (hb : fn.body.isNone = true) (hn : Extern.findNext fn = none) (he : Extern.find fn = some (Extern.ReflectliteSwapper.swapper "internal/reflectlite" (Extern.ReflectliteValue.valueError "Swapper")))
    (hi : P.info? t = some i) (hd' : i.desc = .slice e) (hie : P.info? e = some ie) {ke : Nat} (hke : ∀ w, (Extern.Rtype.kind e).run P w = .ok ke w) {f9 : Nat}
    (h0 : ∃ f, P.funcs.findIdx? (·.name == "internal/reflectlite" ++ ".Swapper$" ++ toString (Lib.swapperK 0 ie ke)) = some f) (h1 : ∃ f, P.funcs.findIdx? (·.name == "internal/reflectlite" ++ ".Swapper$" ++ toString (Lib.swapperK 1 ie ke)) = some f)
    (h9 : ∀ n, 2 ≤ n → Lib.swapperK n ie ke = 9) (hf9 : P.funcs.findIdx? (·.name == "internal/reflectlite" ++ ".Swapper$" ++ toString 9) = some f9) [q : Hd w0 L s enc c xs] (hx : evl env as' = some [.iface t s.val])
    (hk : ∀ (k : FuncId) (caps : Array Value), (2 ≤ xs.length → Value.func (.func k) #[] caps = .func (.func f9) #[] #[s.val, typeHandle P e]) → Sq P N w0 l Q rest (putE env d (.func (.func k) #[] caps)) L) (hd : dstOk N d = true := by rfl) :
    Sq P N w0 l Q (⟨d, .call { callee := .value (.func f), args := as'.toArray, argTypes := ts }, ty, ps, af, none⟩ :: rest) env L := by
  refine sq_native hf hname hb hn he hx (fun w hw => ?_) hd
  have hl := q.h w hw
  obtain ⟨p, n, c', e1⟩ := Sv.val_is s
  have hlen : n = xs.length := by
    rw [← hl.len]
    cases hs : s.nil with
    | true => rw [Sv.val_nil hs] at e1; injection e1 with _ h _; rw [← h, (hl.ok.nil hs).1]
    | false => rw [Sv.val_some hs] at e1; injection e1 with _ h _; exact h.symm
  have go : ∀ g, P.funcs.findIdx? (·.name == "internal/reflectlite" ++ ".Swapper$" ++ toString (Lib.swapperK n ie ke)) = some g → (2 ≤ n → g = f9 ∧ Lib.swapperK n ie ke = 9) → ∃ v w' L', (Extern.ReflectliteSwapper.swapper "internal/reflectlite" (Extern.ReflectliteValue.valueError "Swapper") [Value.iface t s.val].toArray).run P w = .ok v w' ∧ Mem w0 L' w' ∧ Sq P N w0 l Q rest (putE env d v) L' := fun g hg h2 => by
    have r := Lib.run_swapper_slice t e i ie hi hd' hie ke hke p n c' g hg w
    refine ⟨_, _, _, by rw [e1]; exact r, hw, hk _ _ fun h => ?_⟩
    obtain ⟨rfl, h3⟩ := h2 (by omega)
    rw [h3, e1]; rfl
  rcases Nat.lt_or_ge n 2 with h | h
  · rcases Nat.eq_zero_or_pos n with rfl | h2
    · obtain ⟨g, hg⟩ := h0
      exact go g hg fun h => by omega
    · obtain rfl : n = 1 := by omega
      obtain ⟨g, hg⟩ := h1
      exact go g hg fun h => by omega
  · exact go f9 (by rw [h9 n h]; exact hf9) fun _ => ⟨rfl, h9 n h⟩
theorem sq_valueLen (hf : P.funcs[f]? = some fn) (hname : (fn.name == "runtime.NumGoroutine") = false) (hb : fn.body.isNone = true) (hn : Extern.findNext fn = none) (he : Extern.find fn = some (Extern.ReflectliteValue.method (Extern.ReflectliteValue.valueError "reflectlite.Value.Len" 0) Extern.ReflectliteValue.len))
    (hi : P.info? t = some i) (hd' : i.desc = .slice e) (hpk : P.packed t = false) {b k : Nat} {T : TypeId} [hh : Has L b #[s.val] T k] [q : Hd w0 L s enc c xs] (hx : evl env as' = some [.agg #[typeHandle P t, .pointer (some ⟨b, 0, none⟩), .int .u64 151]])
    (hk : Sq P N w0 l Q rest (putE env d (.int .i64 (xs.length : Nat))) L) (hd : dstOk N d = true := by rfl) :
    Sq P N w0 l Q (⟨d, .call { callee := .value (.func f), args := as'.toArray, argTypes := ts }, ty, ps, af, none⟩ :: rest) env L := by
  refine sq_native hf hname hb hn he hx (fun w hw => ⟨_, _, _, ?_, hw, hk⟩) hd
  have hl := q.h w hw
  obtain ⟨p, n, c', e1⟩ := Sv.val_is s
  have hlen : n = xs.length := by
    rw [← hl.len]
    cases hs : s.nil with
    | true => rw [Sv.val_nil hs] at e1; injection e1 with _ h _; rw [← h, (hl.ok.nil hs).1]
    | false => rw [Sv.val_some hs] at e1; injection e1 with _ h _; exact h.symm
  rw [← hlen]
  exact Lib.run_valueLen_slice t e i hi hd' hpk ⟨b, 0, none⟩ p n c' w (by rw [hw.cell hh.h, ← e1]; rfl)
end
end Go.Eng

/- sort.SliceStable of routes: walked. -/
namespace Go.Proofs.YtldkgicmfbofiaaGreatDoor
open Go.Eng Go.Kb
noncomputable def natf38 : Func := Option.get (Tryz.prog.funcs[38]?) (by kernel_rfl)
theorem nat38_is : Tryz.prog.funcs[38]? = some natf38 := by kernel_rfl
theorem nat38_nm : (natf38.name == "runtime.NumGoroutine") = false := by kernel_rfl
theorem nat38_bd : natf38.body.isNone = true := by kernel_rfl
theorem nat38_nx : Extern.findNext natf38 = none := by kernel_rfl
theorem nat38_en : Extern.find natf38 = some (fun args => Extern.ReflectliteValue.unpack (args.getD 0 (.tuple #[]))) := by kernel_rfl
noncomputable def natf39 : Func := Option.get (Tryz.prog.funcs[39]?) (by kernel_rfl)
theorem nat39_is : Tryz.prog.funcs[39]? = some natf39 := by kernel_rfl
theorem nat39_nm : (natf39.name == "runtime.NumGoroutine") = false := by kernel_rfl
theorem nat39_bd : natf39.body.isNone = true := by kernel_rfl
theorem nat39_nx : Extern.findNext natf39 = none := by kernel_rfl
theorem nat39_en : Extern.find natf39 = some (Extern.ReflectliteSwapper.swapper "internal/reflectlite" (Extern.ReflectliteValue.valueError "Swapper")) := by kernel_rfl
noncomputable def natf41 : Func := Option.get (Tryz.prog.funcs[41]?) (by kernel_rfl)
theorem nat41_is : Tryz.prog.funcs[41]? = some natf41 := by kernel_rfl
theorem nat41_nm : (natf41.name == "runtime.NumGoroutine") = false := by kernel_rfl
theorem nat41_bd : natf41.body.isNone = true := by kernel_rfl
theorem nat41_nx : Extern.findNext natf41 = none := by kernel_rfl
theorem nat41_en : Extern.find natf41 = some (Extern.ReflectliteValue.method (Extern.ReflectliteValue.valueError "reflectlite.Value.Len" 0) Extern.ReflectliteValue.len) := by kernel_rfl
noncomputable def rsT : TypeInfo := (Tryz.prog.info? 22).get (by kernel_rfl)
noncomputable def rsE : TypeInfo := (Tryz.prog.info? 32).get (by kernel_rfl)
theorem rsK (n : Nat) (h2 : 2 ≤ n) : Lib.swapperK n rsE 25 = 9 := by
 have a : rsE.hasPointers = false := by kernel_rfl
 have b : rsE.bytes = 40 := by kernel_rfl
 have c : (n == 0) = false := by simp; omega
 have d : (n == 1) = false := by simp; omega
 simp [Lib.swapperK, a, b, c, d]
theorem rsT_is : Tryz.prog.info? 22 = some rsT := by kernel_rfl
theorem rsT_d : rsT.desc = .slice 32 := by kernel_rfl
theorem rsE_is : Tryz.prog.info? 32 = some rsE := by kernel_rfl
theorem rsE_k (w : World) : (Extern.Rtype.kind 32).run Tryz.prog w = .ok 25 w := by kernel_rfl
theorem rsK0 : ∃ f, Tryz.prog.funcs.findIdx? (·.name == "internal/reflectlite" ++ ".Swapper$" ++ toString (Lib.swapperK 0 rsE 25)) = some f := ⟨(Tryz.prog.funcs.findIdx? (·.name == "internal/reflectlite" ++ ".Swapper$" ++ toString (Lib.swapperK 0 rsE 25))).get (by kernel_rfl), by kernel_rfl⟩
theorem rsK1 : ∃ f, Tryz.prog.funcs.findIdx? (·.name == "internal/reflectlite" ++ ".Swapper$" ++ toString (Lib.swapperK 1 rsE 25)) = some f := ⟨(Tryz.prog.funcs.findIdx? (·.name == "internal/reflectlite" ++ ".Swapper$" ++ toString (Lib.swapperK 1 rsE 25))).get (by kernel_rfl), by kernel_rfl⟩
theorem rsK9 : Tryz.prog.funcs.findIdx? (·.name == "internal/reflectlite" ++ ".Swapper$" ++ toString 9) = some 64 := by kernel_rfl
theorem rsPk : Tryz.prog.packed 22 = false := by kernel_rfl
@[reducible] noncomputable def rvcells (b : Nat) : Array Value := #[typeHandle Tryz.prog 22, .pointer (some ⟨b, 0, none⟩), .int .u64 151]
def zrv : Array Value := #[.pointer none, .pointer none, .int .u64 0]
instance (b : Nat) : SizeIs (rvcells b) 3 := ⟨rfl, by simp [rvcells, typeHandle, Value.oneCell']⟩
instance : SizeIs zrv 3 := ⟨rfl, by simp [zrv, Value.oneCell']⟩
instance : ZeroT Tryz.prog 78 (.agg zrv) := ⟨by kernel_rfl⟩
instance (k : FuncId) (c : Array Value) (b : Nat) : BuildT Tryz.prog 84 [(0, LF b), (1, .func (.func k) #[] c)] (.agg #[LF b, .func (.func k) #[] c]) := ⟨fun w => by kernel_rfl⟩
set_option maxRecDepth 20000 in
theorem sstable_c (w0 w : World) (L : List Ent) (b : Nat) (s : Sv) (xs : List Rt) (T : TypeId)  (hw : Mem w0 (blk b #[s.val] T :: own rcells 19 s xs :: L) w) (hpre : xs.length ≤ 1000000 ∧ MayAll xs) : Calls Tryz.prog 24 #[.iface 22 s.val, LF b] w fun e w' => ∃ zz : List Rt, e = .returned (.tuple #[]) ∧ (Stb rkR xs zz) ∧ Mem w0 (blk b #[s.val] T :: own rcells 19 s zz :: L) w' := by
 obtain ⟨hp1, hp2⟩ := hpre
 refine calls_in (args := [_, _]) Tryz.func24 rfl Tryz.ntmps24 rfl hw ?_
 change Cw _ _ _ _ _ [(0, .iface 22 s.val), (1, LF b)] (blk b #[s.val] T :: own rcells 19 s xs :: L)
 refine cw_seq ?_
 refine cw_region ?_
 refine sq_r (ry_move rfl) ?_
 refine sq_valueOf (s := s) nat38_is nat38_nm nat38_bd nat38_nx nat38_en rsT_is rsT_d rfl fun b7 => ?_
 refine sq_allocA fun b4 => ?_
 refine sq_storeW rfl rfl ?_
 refine sq_nil ?_
 refine ex_then ?_
 refine cw_seq ?_
 refine cw_region ?_
 refine sq_r (ry_move rfl) ?_
 refine sq_swapper (s := s) nat39_is nat39_nm nat39_bd nat39_nx nat39_en rsT_is rsT_d rsE_is rsE_k rsK0 rsK1 rsK rsK9 rfl fun k9 c9 hsw => ?_
 refine sq_r (ry_assign rfl) ?_
 refine sq_nil ?_
 refine ex_then ?_
 refine cw_region ?_
 refine sq_r (ry_move rfl) ?_
 refine sq_r (ry_move rfl) ?_
 refine sq_r (Ry.to (v' := .agg (lscells (⟨b, s, k9, c9⟩ : Lsw))) (ry_buildc rfl) rfl) ?_
 refine sq_r (ry_whole rfl) ?_
 refine sq_valueLen (s := s) (b := b7) nat41_is nat41_nm nat41_bd nat41_nx nat41_en rsT_is rsT_d rsPk rfl ?_
 refine sq_callC rfl ⟨rfl, hp1, hp2, hsw⟩ fun x15 hp15 => ?_
 refine sq_nil ?_
 refine ex_ret (.inr rfl) (res_none rfl) (fun w1 hw => ?_)
 exact ⟨x15, rfl, upto_stb hp15, Keep.mem hw⟩
instance sstable_i {w0 : World} {L R1 L2 : List Ent} {i j : Nat} {b : Nat} {s : Sv} {xs : List Rt} {T : TypeId}  [h : Has L b #[s.val] T i] [d1 : DelI L i R1] [q : Owns R1 s rcells 19 xs j] [d2 : DelI R1 j L2] : FnC Tryz.prog 24 w0 L [.iface 22 s.val, LF b] (List Rt) (fun zz => .tuple #[]) (fun zz => blk b #[s.val] T :: own rcells 19 s zz :: L2) (fun zz => Stb rkR xs zz) (xs.length ≤ 1000000 ∧ MayAll xs) := ⟨fun hp w hw => sstable_c w0 w L2 b s xs T  (mem_two h.h d1.h q.h d2.h hw) hp⟩

end Go.Proofs.YtldkgicmfbofiaaGreatDoor

/- A table sorted: those that may, in order, the last of equals. No program in sight. -/
namespace Go.Eng
open Go.Kb
def keepF (xs : List Rt) : List Rt := xs.filter fun r => pmay r.p
def delI (xs : List Rt) : Int := match xs.findIdx? (fun r => !pmay r.p) with
  | some i => (i : Int)
  | none => -1
theorem delI_at {xs : List Rt} {i : Nat} {x : Rt} (hx : xs[i]? = some x) (h : pmay x.p = false) (hall : ∀ y ∈ xs.take i, pmay y.p = true) : delI xs = (i : Int) := by
  have : xs.findIdx? (fun r => !pmay r.p) = some i := by
    obtain ⟨hl, hv⟩ := List.getElem?_eq_some_iff.1 hx
    rw [List.findIdx?_eq_some_iff_getElem]
    refine ⟨hl, by rw [hv, h]; rfl, fun j hj => ?_⟩
    have := hall (xs[j]'(by omega)) (by rw [List.mem_take_iff_getElem]; exact ⟨j, by omega, rfl⟩)
    simp [this]
  rw [delI, this]
theorem delI_no {xs : List Rt} (hall : ∀ y ∈ xs, pmay y.p = true) : delI xs = -1 := by
  have : xs.findIdx? (fun r => !pmay r.p) = none := by
    rw [List.findIdx?_eq_none_iff]
    intro x hx
    simp [hall x hx]
  rw [delI, this]
theorem delI_yes {xs : List Rt} (h : delI xs ≠ -1) : ∃ i : Nat, delI xs = (i : Int) ∧ i < xs.length ∧ keepF (xs.take (i + 1)) = xs.take i := by
  unfold delI at h ⊢
  cases hf : xs.findIdx? (fun r => !pmay r.p) with
  | none => rw [hf] at h; exact absurd rfl h
  | some i =>
    obtain ⟨hl, hv, hj⟩ := List.findIdx?_eq_some_iff_getElem.1 hf
    refine ⟨i, rfl, hl, ?_⟩
    have hv' : pmay xs[i].p = false := by simpa using hv
    rw [keepF, List.take_add_one, List.getElem?_eq_getElem hl, List.filter_append]
    have e1 : (xs.take i).filter (fun r => pmay r.p) = xs.take i := by
      rw [List.filter_eq_self]
      intro y hy
      obtain ⟨j, hj1, rfl⟩ := List.mem_take_iff_getElem.1 hy
      have := hj j (by omega)
      simpa using this
    rw [e1]
    simp [hv']
theorem delI_same {xs : List Rt} (h : delI xs = -1) : keepF xs = xs := by
  unfold delI at h
  cases hf : xs.findIdx? (fun r => !pmay r.p) with
  | some i => rw [hf] at h; simp only at h; omega
  | none =>
    rw [List.findIdx?_eq_none_iff] at hf
    rw [keepF, List.filter_eq_self]
    intro x hx
    simpa using hf x hx
theorem keepF_may (xs : List Rt) : MayAll (keepF xs) := fun x hx => by
  have := (List.mem_filter.1 hx).2
  simpa using this
theorem keepF_length (xs : List Rt) : (keepF xs).length ≤ xs.length := List.length_filter_le _ _
structure Dl (xs cur : List Rt) (i j : Nat) : Prop where
  len : cur.length = xs.length
  lt : i < j
  le : j ≤ xs.length
  kept : cur.take i = keepF (xs.take j)
  left : cur.drop j = xs.drop j
theorem Dl.start {xs : List Rt} {i : Nat} (h : i < xs.length) (hk : keepF (xs.take (i + 1)) = xs.take i) : Dl xs xs i (i + 1) := ⟨rfl, Nat.lt_succ_self _, h, hk.symm, rfl⟩
theorem Dl.at {xs cur : List Rt} {i j : Nat} {x : Rt} (h : Dl xs cur i j) (hx : cur[j]? = some x) : xs[j]? = some x := by
  have := congrArg (·[0]?) h.left
  simpa [hx] using this.symm
theorem Dl.keep {xs cur : List Rt} {i j : Nat} {x : Rt} (h : Dl xs cur i j) (hx : cur[j]? = some x) (hm : pmay x.p = true) : Dl xs (cur.set i x) (i + 1) (j + 1) := by
  have hl := (List.getElem?_eq_some_iff.1 hx).1
  have hlen := h.len
  have hlt := h.lt
  refine ⟨by rw [List.length_set, hlen], Nat.succ_lt_succ hlt, by omega, ?_, ?_⟩
  · rw [List.take_add_one, List.getElem?_set_self (by omega), List.take_set_of_le (Nat.le_refl _), h.kept, List.take_add_one (l := xs), h.at hx]
    simp [keepF, List.filter_append, hm]
  · rw [List.drop_set_of_lt (by omega), ← List.drop_drop, h.left, List.drop_drop]
theorem Dl.drop {xs cur : List Rt} {i j : Nat} {x : Rt} (h : Dl xs cur i j) (hx : cur[j]? = some x) (hm : pmay x.p = false) : Dl xs cur i (j + 1) := by
  have hl := (List.getElem?_eq_some_iff.1 hx).1
  have hlen := h.len
  have hlt := h.lt
  refine ⟨hlen, by omega, by omega, ?_, ?_⟩
  · rw [h.kept, List.take_add_one, h.at hx]
    simp [keepF, List.filter_append, hm]
  · rw [← List.drop_drop, h.left, List.drop_drop]
theorem Dl.done {xs cur : List Rt} {i : Nat} (h : Dl xs cur i xs.length) : cur.take i = keepF xs := by rw [h.kept, List.take_length]
/-! The last of equals. -/
def sameN (ys : List Rt) (i : Nat) : Bool := match ys[i]?, ys[i + 1]? with
  | some x, some y => decide (y.p = x.p)
  | _, _ => false
def ddF (ys : List Rt) : Nat → List Rt
  | 0 => []
  | i + 1 => if sameN ys i = true then ddF ys i else ddF ys i ++ (ys[i]?).toList
theorem ddF_length (ys : List Rt) : ∀ i, (ddF ys i).length ≤ i
  | 0 => Nat.le_refl _
  | i + 1 => by
    have := ddF_length ys i
    unfold ddF
    split
    · omega
    · rw [List.length_append]
      have : (ys[i]?).toList.length ≤ 1 := by cases ys[i]? <;> simp
      omega
theorem ddF_yes {ys : List Rt} {i : Nat} {x y : Rt} (hx : ys[i]? = some x) (hy : ys[i + 1]? = some y) (h : y.p = x.p) : ddF ys (i + 1) = ddF ys i := by
  rw [ddF, if_pos (by unfold sameN; rw [hx, hy]; simp [h])]
theorem ddF_no {ys : List Rt} {i : Nat} {x : Rt} (hx : ys[i]? = some x) (h : ∀ y, ys[i + 1]? = some y → y.p ≠ x.p) : ddF ys (i + 1) = ddF ys i ++ [x] := by
  rw [ddF, if_neg (by
    unfold sameN
    rw [hx]
    cases hy : ys[i + 1]? with
    | none => simp
    | some y => simp [h y hy]), hx]; rfl
def tsortF (ts : List Rt) : List Rt := ddF (srt rkR (keepF ts)) (srt rkR (keepF ts)).length
theorem tsort_of {ts ys : List Rt} (h : Stb rkR (keepF ts) ys) : tsortF ts = ddF ys ys.length := by
  rw [tsortF, Stb.uniq (srt_stb (keepF ts)) h]
/-! Routes put one after another. -/
theorem putF_len (r : Rt) : ∀ (l : List Rt) (d : Bool), (putF r l d).length + (if d then 1 else 0) ≤ l.length + 1
  | [], d => by cases d <;> simp [putF]
  | x :: l, d => by
    have h1 := putF_len r l true
    have h2 := putF_len r l d
    have h3 : ((if x.p ≠ r.p then [x] else []) : List Rt).length ≤ 1 := by split <;> simp
    cases d with
    | true =>
      rw [putF_no (.inl rfl), List.length_append, List.length_cons]
      simp only [if_true] at *
      omega
    | false =>
      cases hx : pless x.p r.p with
      | true =>
        rw [putF_no (.inr hx), List.length_append, List.length_cons]
        simp only [Bool.false_eq_true, if_false, if_true] at *
        omega
      | false =>
        rw [putF_yes rfl hx, List.length_append, List.length_append, List.length_cons]
        simp only [Bool.false_eq_true, if_false, if_true, List.length_cons, List.length_nil] at *
        omega
def rsortF (ts : List Rt) : List Rt := ts.foldl (fun t r => if pmay r.p = true then putF r t false else t) []
theorem rsort_yes {ts : List Rt} {i : Nat} {x : Rt} (hx : ts[i]? = some x) (h : pmay x.p = true) : rsortF (ts.take (i + 1)) = putF x (rsortF (ts.take i)) false := by
  rw [rsortF, List.take_add_one, hx, List.foldl_append]
  simp [h, rsortF]
theorem rsort_no {ts : List Rt} {i : Nat} {x : Rt} (hx : ts[i]? = some x) (h : pmay x.p = false) : rsortF (ts.take (i + 1)) = rsortF (ts.take i) := by
  rw [rsortF, List.take_add_one, hx, List.foldl_append]
  simp [h, rsortF]
theorem putF_len1 (r : Rt) (l : List Rt) : (putF r l false).length ≤ l.length + 1 := by
  have := putF_len r l false
  simpa using this
end Go.Eng

/- slices.DeleteFunc of routes: walked. -/
namespace Go.Proofs.YtldkgicmfbofiaaGreatDoor
open Go.Eng Go.Kb
set_option maxRecDepth 20000 in
theorem sdel_c (w : World) (r : Rt)  : Calls Tryz.prog 23 #[.agg (rcells r)] w fun e w' => e = .returned (.bool (!pmay r.p)) ∧ Mem w [] w' := by
 refine calls_of (args := [_]) Tryz.func23 rfl Tryz.ntmps23 rfl ?_
 change Cw _ _ _ _ _ [(0, .agg (rcells r))] []
 refine cw_seq ?_
 refine cw_region ?_
 refine sq_boxA rfl fun b1 => ?_
 refine sq_r (ry_assign rfl) ?_
 refine sq_nil ?_
 refine ex_then ?_
 refine cw_seq ?_
 refine cw_region ?_
 refine sq_r (ry_field (o' := 0) rfl rfl) ?_
 refine sq_r (ry_part rfl) ?_
 refine sq_y (yl_callC rfl trivial) ?_
 refine sq_r (ry_not rfl) ?_
 refine sq_r (ry_assign rfl) ?_
 refine sq_nil ?_
 refine ex_then ?_
 refine cw_ret ?_
 refine ex_ret (.inl rfl) (res_1 rfl (rv_tmp rfl)) (fun w1 hw => ?_)
 exact ⟨congrArg (fun b => Ending.returned (Value.bool b)) (rfl), Keep.mem hw⟩
instance sdel_i {w0 : World} {L : List Ent} {r : Rt}  : FnQ Tryz.prog 23 w0 L [.agg (rcells r)] (.bool (!pmay r.p)) (True) := ⟨fun hp w hw => sdel_c w r ⟩
set_option maxRecDepth 20000 in
theorem sidx_c (w : World) (s : Sv) (ss : List Rt) (hs : Lies rcells 19 (hp w) s ss) : Calls Tryz.prog 37 #[s.val, .func (.func 23) #[] #[]] w fun e w' => e = .returned (.int .i64 (delI ss)) ∧ Mem w [] w' := by
 have ghs : Gv w s rcells 19 ss := ⟨hs⟩
 have hsb := hs.bd
 refine calls_of (args := [_, _]) Tryz.func37 rfl Tryz.ntmps37 rfl ?_
 change Cw _ _ _ _ _ [(0, s.val), (1, .func (.func 23) #[] #[])] []
 refine cw_seq ?_
 refine cw_region ?_
 refine sq_r (ry_assign rfl) ?_
 refine sq_nil ?_
 refine ex_then ?_
 refine cw_seq ?_
 refine cw_seq ?_
 refine cw_region ?_
 refine sq_r (ry_move rfl) ?_
 refine sq_r (ry_lenH rfl) ?_
 refine sq_r (ry_move rfl) ?_
 refine sq_nil ?_
 refine ex_then ?_
 refine cw_block ?_
 refine cw_loop (X := Nat) (fun zz => [(8, .int .i64 (zz : Nat)), (0, s.val), (1, .func (.func 23) #[] #[]), (7, .int .i64 (ss.length : Nat))]) (fun zz => []) (fun zz => zz ≤ ss.length ∧ ∀ y ∈ ss.take zz, pmay y.p = true) (fun zz => ss.length - zz) 0 ⟨Nat.zero_le _, by simp⟩ (Sub.cons rfl (Sub.cons rfl (Sub.cons rfl (Sub.cons rfl (Sub.nil _))))) (fun w hw => Keep.mem hw) ?_
 rintro i ⟨hi1, hi2⟩
 refine cw_seq ?_
 refine cw_region ?_
 refine sq_r (ry_int rfl rfl rfl) ?_
 refine sq_nil ?_
 refine ex_then ?_
 refine cw_seq ?_
 refine cw_cond rfl (fun h0 => ?_) (fun h0 => ?_)
 ·
  try simp only [bz0, bz1, bz2, bz3, bz4, bz5, bz6, bz7, bz8, bz9] at h0
  refine cw_skip ?_
  refine ex_then ?_
  refine cw_seq ?_
  refine cw_block ?_
  refine cw_seq ?_
  refine cw_region ?_
  refine sq_r (ry_move rfl) ?_
  refine sq_r (ry_assign rfl) ?_
  refine sq_nil ?_
  refine ex_then ?_
  refine cw_seq ?_
  refine cw_region ?_
  refine sq_r (ry_move rfl) ?_
  refine sq_r (ry_move rfl) ?_
  refine sq_r (ry_move rfl) ?_
  obtain ⟨x, hx⟩ := get_some (xs := ss) (i := i) (by omega)
  refine sq_r (ry_idxH rfl rfl i rfl (by omega)) ?_
  refine sq_r (ry_elemH rfl i hx rfl) ?_
  refine sq_y (yl_callV (vs := [.agg (rcells x)]) (vs2 := [.agg (rcells x)]) rfl rfl rfl trivial) ?_
  refine sq_nil ?_
  refine ex_then ?_
  refine cw_cond rfl (fun h1 => ?_) (fun h1 => ?_)
  ·
   try simp only [bz0, bz1, bz2, bz3, bz4, bz5, bz6, bz7, bz8, bz9] at h1
   refine cw_seq ?_
   refine cw_region ?_
   refine sq_r (ry_move rfl) ?_
   refine sq_r (ry_assign rfl) ?_
   refine sq_nil ?_
   refine ex_then ?_
   refine cw_ret ?_
   refine ex_block_ret ?_
   refine ex_pass_ret ?_
   refine ex_pass_ret ?_
   refine ex_block_ret ?_
   refine ex_pass_ret ?_
   refine ex_ret (.inl rfl) (res_1 rfl (rv_tmp rfl)) (fun w1 hw => ?_)
   exact ⟨congrArg (fun b => Ending.returned (Value.int .i64 b)) (by rw [delI_at hx (by simpa using h1) hi2]), Keep.mem hw⟩
  ·
   try simp only [bz0, bz1, bz2, bz3, bz4, bz5, bz6, bz7, bz8, bz9] at h1
   refine cw_skip ?_
   refine ex_block ?_
   refine ex_then ?_
   refine cw_region ?_
   refine sq_r (ry_add rfl rfl (by omega)) ?_
   refine sq_r (ry_move rfl) ?_
   refine sq_nil ?_
   exact ex_again (x := (i)) (i + 1) ⟨by first | omega | (simp only []; omega), fun y hy => by rw [List.take_add_one, hx, List.mem_append] at hy; rcases hy with h | h; (exact hi2 y h); (obtain rfl : y = x := by simpa using h); simpa using h1⟩ (by first | omega | (simp only []; omega)) (Sub.cons rfl (Sub.cons rfl (Sub.cons rfl (Sub.cons rfl (Sub.nil _))))) (fun w hw => Keep.mem hw)
 ·
  try simp only [bz0, bz1, bz2, bz3, bz4, bz5, bz6, bz7, bz8, bz9] at h0
  obtain rfl : i = ss.length := by omega
  refine cw_exit ?_
  refine ex_pass_exit ?_
  refine ex_pass_exit ?_
  refine ex_block_hit ?_
  refine ex_then ?_
  refine cw_seq ?_
  refine cw_region ?_
  refine sq_r (ry_assign rfl) ?_
  refine sq_nil ?_
  refine ex_then ?_
  refine cw_ret ?_
  refine ex_ret (.inl rfl) (res_1 rfl (rv_tmp rfl)) (fun w1 hw => ?_)
  exact ⟨congrArg (fun b => Ending.returned (Value.int .i64 b)) (by rw [delI_no (fun y hy => hi2 y (by rw [List.take_length]; exact hy))]), Keep.mem hw⟩
instance sidx_i {w0 : World} {L : List Ent} {s : Sv} {ss : List Rt} [hs : HdE w0 L rcells 19 s ss] : FnQ Tryz.prog 37 w0 L [s.val, .func (.func 23) #[] #[]] (.int .i64 (delI ss)) (True) := ⟨fun hp w hw => sidx_c w s ss (hs.h w hw)⟩
set_option maxRecDepth 20000 in
theorem sdelf_c (w0 w : World) (L : List Ent) (s : Sv) (ss : List Rt)  (hw : Mem w0 (own rcells 19 s ss :: L) w) (hpre : ss.length ≤ 1000000) : Calls Tryz.prog 21 #[s.val, .func (.func 23) #[] #[]] w fun e w' => ∃ zz : Sv, e = .returned (zz.val) ∧ (True) ∧ Mem w0 (own rcells 19 zz (keepF ss) :: L) w' := by
 refine calls_in (args := [_, _]) Tryz.func21 rfl Tryz.ntmps21 rfl hw ?_
 change Cw _ _ _ _ _ [(0, s.val), (1, .func (.func 23) #[] #[])] (own rcells 19 s ss :: L)
 refine cw_seq ?_
 refine cw_region ?_
 refine sq_r (ry_assign rfl) ?_
 refine sq_nil ?_
 refine ex_then ?_
 refine cw_seq ?_
 refine cw_region ?_
 refine sq_r (ry_move rfl) ?_
 refine sq_r (ry_move rfl) ?_
 refine sq_y (yl_callC rfl trivial) ?_
 refine sq_r (ry_assign rfl) ?_
 refine sq_nil ?_
 refine ex_then ?_
 refine cw_seq ?_
 refine cw_seq ?_
 refine cw_region ?_
 refine sq_r (ry_move rfl) ?_
 refine sq_r (ry_int rfl rfl rfl) ?_
 refine sq_nil ?_
 refine ex_then ?_
 refine cw_cond rfl (fun h0 => ?_) (fun h0 => ?_)
 ·
  try simp only [bz0, bz1, bz2, bz3, bz4, bz5, bz6, bz7, bz8, bz9] at h0
  have hk := delI_same h0
  refine cw_seq ?_
  refine cw_region ?_
  refine sq_r (ry_move rfl) ?_
  refine sq_r (ry_assign rfl) ?_
  refine sq_nil ?_
  refine ex_then ?_
  refine cw_ret ?_
  refine ex_pass_ret ?_
  refine ex_ret (.inl rfl) (res_1 rfl (rv_tmp rfl)) (fun w1 hw => ?_)
  exact ⟨s, rfl, trivial, by rw [hk]; exact hw⟩
 ·
  try simp only [bz0, bz1, bz2, bz3, bz4, bz5, bz6, bz7, bz8, bz9] at h0
  obtain ⟨i0, he, hlt, hk⟩ := delI_yes h0
  refine cw_skip ?_
  refine ex_then ?_
  refine cw_seq ?_
  refine cw_seq ?_
  refine cw_region ?_
  refine sq_r (ry_move rfl) ?_
  refine sq_r (ry_add rfl rfl (by omega)) ?_
  refine sq_r (ry_assign rfl) ?_
  refine sq_nil ?_
  refine ex_then ?_
  refine cw_block ?_
  refine cw_loop (X := Nat × Nat × List Rt) (fun zz => [(5, .int .i64 (zz.1 : Nat)), (6, .int .i64 (zz.2.1 : Nat)), (0, s.val), (1, .func (.func 23) #[] #[])]) (fun zz => own rcells 19 s zz.2.2 :: L) (fun zz => Dl ss zz.2.2 zz.1 zz.2.1) (fun zz => ss.length - zz.2.1) (i0, i0 + 1, ss) (Dl.start hlt hk) (Sub.cons (look_eq rfl (by rw [he])) (Sub.cons (look_eq rfl (by rw [he]; rfl)) (Sub.cons rfl (Sub.cons rfl (Sub.nil _))))) (fun w hw => Keep.mem hw) ?_
  rintro ⟨i, j, cur⟩ hd
  dsimp only
  have hlen := hd.len
  have hij := hd.lt
  have hjl := hd.le
  simp only at hlen hij hjl hd
  refine cw_seq ?_
  refine cw_seq ?_
  refine cw_region ?_
  refine sq_r (ry_move rfl) ?_
  refine sq_r (ry_move rfl) ?_
  refine sq_r (ry_lenH rfl) ?_
  refine sq_r (ry_int rfl rfl rfl) ?_
  refine sq_nil ?_
  refine ex_then ?_
  refine cw_cond rfl (fun h1 => ?_) (fun h1 => ?_)
  ·
   try simp only [bz0, bz1, bz2, bz3, bz4, bz5, bz6, bz7, bz8, bz9] at h1
   refine cw_skip ?_
   refine ex_then ?_
   refine cw_seq ?_
   refine cw_block ?_
   refine cw_seq ?_
   refine cw_region ?_
   refine sq_r (ry_move rfl) ?_
   refine sq_r (ry_move rfl) ?_
   obtain ⟨x, hx⟩ := get_some (xs := cur) (i := j) (by omega)
   refine sq_r (ry_idxH rfl rfl j rfl (by omega)) ?_
   refine sq_r (ry_elemH rfl j hx rfl) ?_
   refine sq_allocA fun b7 => ?_
   refine sq_storeW rfl rfl ?_
   refine sq_nil ?_
   refine ex_then ?_
   refine cw_seq ?_
   refine cw_region ?_
   refine sq_r (ry_move rfl) ?_
   refine sq_r (ry_whole rfl) ?_
   refine sq_y (yl_callV (vs := [.agg (rcells x)]) (vs2 := [.agg (rcells x)]) rfl rfl rfl trivial) ?_
   refine sq_r (ry_not rfl) ?_
   refine sq_nil ?_
   refine ex_then ?_
   refine cw_cond rfl (fun h2 => ?_) (fun h2 => ?_)
   ·
    try simp only [bz0, bz1, bz2, bz3, bz4, bz5, bz6, bz7, bz8, bz9] at h2
    refine cw_seq ?_
    refine cw_region ?_
    refine sq_r (ry_move rfl) ?_
    refine sq_r (ry_move rfl) ?_
    refine sq_r (ry_whole rfl) ?_
    obtain ⟨y, hy⟩ := get_some (xs := cur) (i := i) (by omega)
    refine sq_r (ry_idxH rfl rfl i rfl (by omega)) ?_
    refine sq_storeS (n := 19) (k := i) (j := 0) (a := y) (a' := x) (xs := cur) (enc := rcells) (c := 19) (v := .agg (rcells x)) (by kernel_rfl) rfl rfl rfl hy (Enc.one x) (rcells_size x) (by decide) (over_whole (by rw [rcells_size]; exact (rcells_size x).symm)) ?_
    refine sq_nil ?_
    refine ex_then ?_
    refine cw_region ?_
    refine sq_r (ry_move rfl) ?_
    refine sq_r (ry_add rfl rfl (by omega)) ?_
    refine sq_r (ry_assign rfl) ?_
    refine sq_nil ?_
    refine ex_block ?_
    refine ex_then ?_
    refine cw_region ?_
    refine sq_r (ry_move rfl) ?_
    refine sq_r (ry_add rfl rfl (by omega)) ?_
    refine sq_r (ry_assign rfl) ?_
    refine sq_nil ?_
    exact ex_again (x := (i, j, cur)) (i + 1, j + 1, cur.set i x) (hd.keep hx (by simpa using h2)) (by simp only; omega) (Sub.cons rfl (Sub.cons rfl (Sub.cons rfl (Sub.cons rfl (Sub.nil _))))) (fun w hw => Keep.mem hw)
   ·
    try simp only [bz0, bz1, bz2, bz3, bz4, bz5, bz6, bz7, bz8, bz9] at h2
    refine cw_skip ?_
    refine ex_block ?_
    refine ex_then ?_
    refine cw_region ?_
    refine sq_r (ry_move rfl) ?_
    refine sq_r (ry_add rfl rfl (by omega)) ?_
    refine sq_r (ry_assign rfl) ?_
    refine sq_nil ?_
    exact ex_again (x := (i, j, cur)) (i, j + 1, cur) (hd.drop hx (by simpa using h2)) (by simp only; omega) (Sub.cons rfl (Sub.cons rfl (Sub.cons rfl (Sub.cons rfl (Sub.nil _))))) (fun w hw => Keep.mem hw)
  ·
   try simp only [bz0, bz1, bz2, bz3, bz4, bz5, bz6, bz7, bz8, bz9] at h1
   obtain rfl : j = ss.length := by omega
   refine cw_exit ?_
   refine ex_pass_exit ?_
   refine ex_pass_exit ?_
   refine ex_block_hit ?_
   refine ex_then ?_
   refine cw_seq ?_
   refine cw_bd s fun hbd0 => ?_
   refine cw_open (s := s) inferInstance (by decide) (by omega) fun pre mid T hpl hcap hnil hsp hok hsl => ?_
   have hle := hok.le
   have hlu : (flatR rcells (cur.take i)).length = i * 19 := by rw [flatR_length, List.length_take]; congr 1; omega
   have hlv : (flatR rcells (cur.drop i)).length = (cur.length - i) * 19 := by rw [flatR_length, List.length_drop]
   have exs : flatR rcells cur = flatR rcells (cur.take i) ++ flatR rcells (cur.drop i) := by rw [← flatR_app, List.take_append_drop]
   have hlx : (flatR rcells cur).length = cur.length * 19 := flatR_length cur
   obtain ⟨r1, hr1⟩ : ∃ r : Sv, r = (⟨false, s.b, s.o, i, s.cap, none⟩ : Sv) := ⟨_, rfl⟩
   refine cw_region ?_
   refine sq_r (ry_move rfl) ?_
   refine sq_r (ry_move rfl) ?_
   refine sq_r (ry_subS_lo (l := i) (n := cur.length) rfl rfl rfl hok hsl (by omega)) ?_
   refine sq_clearB (D := s.sub 19 i cur.length) (b := s.b) (o := s.o + i * 19) (n := cur.length - i) (z := .agg (rcells zroute)) rfl hnil hsp rfl (by rw [Sv.sub_o (by omega)]) rfl (by omega) (show (rcells zroute).all (·.oneCell') = true from (inferInstance : Enc rcells 19).one zroute) (by simp only [List.size_toArray, List.length_append]; omega) fun Z hZ => ?_
   refine sq_nil ?_
   refine ex_then ?_
   refine cw_seq ?_
   refine cw_region ?_
   refine sq_r (ry_move rfl) ?_
   refine sq_r (ry_move rfl) ?_
   refine sq_r (Ry.to (v' := r1.val) (ry_subS_hi (h := i) rfl rfl rfl hok (by omega)) (by rw [hr1, Sv.sub_eq hnil hsp])) ?_
   refine sq_r (ry_assign rfl) ?_
   refine sq_nil ?_
   refine ex_then ?_
   refine cw_ret ?_
   refine ex_ret (.inl rfl) (res_1 rfl (rv_tmp rfl)) (fun w1 hw => ?_)
   refine ⟨r1, rfl, trivial, ?_⟩
   rw [exs, show pre ++ (flatR rcells (cur.take i) ++ flatR rcells (cur.drop i) ++ mid) = (pre ++ flatR rcells (cur.take i)) ++ (flatR rcells (cur.drop i) ++ mid) from by simp only [List.append_assoc], over_cat (A := pre ++ flatR rcells (cur.take i)) (by simp only [List.length_append]; omega), List.append_assoc pre] at hw
   have hw2 := own_shut (enc := rcells) (i := 0) (xs := cur.take i) (pre := pre) hw rfl r1 (by rw [hr1]; exact ⟨(fun h => by cases h), by simp only; omega, by simp only; omega, fun _ => rfl⟩) (by rw [hr1]) (by rw [hr1]) (by rw [hr1]) (by rw [hr1]; exact hpl.symm) (by rw [hr1]; simp only [List.length_take]; omega) (by rw [hr1]; simp only [List.length_append, List.length_take, List.length_drop]; omega)
   rw [hd.done] at hw2
   exact hw2
instance sdelf_i {w0 : World} {L R : List Ent} {i : Nat} {s : Sv} {ss : List Rt}  [q : Owns L s rcells 19 ss i] [d : DelI L i R] : FnC Tryz.prog 21 w0 L [s.val, .func (.func 23) #[] #[]] (Sv) (fun zz => zz.val) (fun zz => own rcells 19 zz (keepF ss) :: R) (fun zz => True) (ss.length ≤ 1000000) := ⟨fun hp w hw => sdelf_c w0 w R s ss  (mem_one q.h d.h hw) hp⟩

end Go.Proofs.YtldkgicmfbofiaaGreatDoor

/- table.Sort, and by the reference: walked. -/
namespace Go.Proofs.YtldkgicmfbofiaaGreatDoor
open Go.Eng Go.Kb
set_option maxRecDepth 20000 in
theorem tsort_c (w : World) (t : Sv) (ts : List Rt) (ht : Lies rcells 19 (hp w) t ts) (hpre : ts.length ≤ 1000000) : Calls Tryz.prog 8 #[t.val] w fun e w' => ∃ zz : Sv, e = .returned (zz.val) ∧ (True) ∧ Mem w [own rcells 19 zz (tsortF ts)] w' := by
 have ght : Gv w t rcells 19 ts := ⟨ht⟩
 have hkl := keepF_length ts
 refine calls_of (args := [_]) Tryz.func8 rfl Tryz.ntmps8 rfl ?_
 change Cw _ _ _ _ _ [(0, t.val)] []
 refine cw_seq ?_
 refine cw_region ?_
 refine sq_r (ry_assign rfl) ?_
 refine sq_nil ?_
 refine ex_then ?_
 refine cw_seq ?_
 refine cw_region ?_
 refine sq_r (ry_move rfl) ?_
 refine sq_callC rfl (by omega) fun x8 hp8 => ?_
 refine sq_callC rfl (by omega) fun x9 hp9 => ?_
 refine sq_alloc1 (z := Sv.none.val) rfl fun b3 => ?_
 refine sq_store1 (by first | rfl | exact Sv.one _) rfl rfl ?_
 refine sq_nil ?_
 refine ex_then ?_
 refine cw_seq ?_
 refine cw_region ?_
 refine sq_r (ry_cellc rfl) ?_
 refine sq_r (ry_iface ⟨_, Tryz.underlying22, trivial⟩ rfl) ?_
 refine sq_r (Ry.to (v' := LF b3) (ry_makeFn rfl) rfl) ?_
 refine sq_callC rfl ⟨by omega, keepF_may ts⟩ fun x13 hp13 => ?_
 have hxl : x13.length ≤ ts.length := by rw [hp13.length]; exact hkl
 have hts := tsort_of hp13
 refine sq_nil ?_
 refine ex_then ?_
 refine cw_seq ?_
 refine cw_region ?_
 refine sq_r (ry_assign rfl) ?_
 refine sq_nil ?_
 refine ex_then ?_
 refine cw_seq ?_
 refine cw_seq ?_
 refine cw_region ?_
 refine sq_r (ry_cellc rfl) ?_
 refine sq_r (ry_lenH rfl) ?_
 refine sq_r (ry_move rfl) ?_
 refine sq_nil ?_
 refine ex_then ?_
 refine cw_block ?_
 refine cw_loop (X := Nat × Sv × List Rt) (fun zz => [(16, .int .i64 (zz.1 : Nat)), (4, zz.2.1.val), (3, .pointer (some ⟨b3, 0, none⟩)), (14, x9.val), (15, .int .i64 (x13.length : Nat))]) (fun zz => [own rcells 19 zz.2.1 zz.2.2, blk b3 #[x9.val] 22, own rcells 19 x9 x13]) (fun zz => zz.1 ≤ x13.length ∧ zz.2.2 = ddF x13 zz.1) (fun zz => x13.length - zz.1) (0, Sv.none, []) ⟨Nat.zero_le _, rfl⟩ (Sub.cons rfl (Sub.cons rfl (Sub.cons rfl (Sub.cons rfl (Sub.cons rfl (Sub.nil _)))))) (fun w hw => Mem.nilOwn rcells 19 (Keep.mem hw)) ?_
 rintro ⟨i, o, q⟩ ⟨hi1, hi2⟩
 dsimp only
 simp only at hi1 hi2
 have hql := ddF_length x13 i
 rw [← hi2] at hql
 refine cw_seq ?_
 refine cw_region ?_
 refine sq_r (ry_int rfl rfl rfl) ?_
 refine sq_nil ?_
 refine ex_then ?_
 refine cw_seq ?_
 refine cw_cond rfl (fun h0 => ?_) (fun h0 => ?_)
 ·
  try simp only [bz0, bz1, bz2, bz3, bz4, bz5, bz6, bz7, bz8, bz9] at h0
  refine cw_skip ?_
  refine ex_then ?_
  refine cw_seq ?_
  refine cw_block ?_
  refine cw_seq ?_
  refine cw_region ?_
  refine sq_r (ry_move rfl) ?_
  obtain ⟨x, hx⟩ := get_some (xs := x13) (i := i) (by omega)
  refine sq_r (ry_idxH rfl rfl i rfl (by omega)) ?_
  refine sq_r (ry_elemH rfl i hx rfl) ?_
  refine sq_allocA fun b6 => ?_
  refine sq_r (ry_assign rfl) ?_
  refine sq_storeW rfl rfl ?_
  refine sq_nil ?_
  refine ex_then ?_
  refine cw_seq ?_
  refine cw_seq ?_
  refine cw_quiet (by kernel_rfl) (by kernel_rfl) ?_
  refine qt_r (ry_move rfl) ?_
  refine qt_r (ry_add rfl rfl (by omega)) ?_
  refine qt_r (ry_cellc rfl) ?_
  refine qt_r (ry_lenH rfl) ?_
  refine qt_r (ry_int rfl rfl rfl) ?_
  refine qt_r (ry_move rfl) ?_
  refine qt_gt rfl rfl rfl (fun hg => (Ry.yl (ry_cellc rfl))) ?_
  refine qt_gt rfl rfl rfl (fun hg => (Ry.yl (ry_move rfl))) ?_
  refine qt_gt rfl rfl rfl (fun hg => (Ry.yl (ry_add (ev_c hg rfl) rfl (by simp only [bz0, bz1, bz2, bz3, bz4, bz5, bz6, bz7, bz8, bz9] at hg; omega)))) ?_
  refine qt_gt rfl rfl rfl (fun hg => (Ry.yl (ry_idxH (ev_c hg rfl) (ev_c hg rfl) (i + 1) rfl (by simp only [bz0, bz1, bz2, bz3, bz4, bz5, bz6, bz7, bz8, bz9] at hg; omega)))) ?_
  refine qt_gt rfl rfl rfl (fun hg => (Ry.yl (ry_field (ev_c hg rfl) rfl))) ?_
  refine qt_gt rfl rfl rfl (fun hg => (Ry.yl (ry_elempH (j := 0) (ev_c hg rfl) (i + 1) (get_getD (xs := x13) (i := (i + 1)) (d := zroute) (by simp only [bz0, bz1, bz2, bz3, bz4, bz5, bz6, bz7, bz8, bz9] at hg; omega)) rfl (by decide)))) ?_
  refine qt_gt rfl rfl rfl (fun hg => (Ry.yl (ry_field (o' := 0) rfl rfl))) ?_
  refine qt_gt rfl rfl rfl (fun hg => (Ry.yl (ry_part (ev_c hg rfl)))) ?_
  refine qt_gt rfl rfl rfl (fun hg => (Ry.yl (ry_eq (ev_c hg rfl) (ev_c hg rfl)))) ?_
  refine qt_r (ry_and rfl rfl rfl) ?_
  refine qt_nil ?_
  refine ex_then ?_
  refine cw_cond rfl (fun h1 => ?_) (fun h1 => ?_)
  ·
   try simp only [bz0, bz1, bz2, bz3, bz4, bz5, bz6, bz7, bz8, bz9] at h1
   obtain ⟨y, hy⟩ := get_some (xs := x13) (i := i + 1) (by omega)
   have hyx : y.p = x.p := by have := h1.2; simpa [List.getD, hy] using this
   refine cw_exit ?_
   refine ex_pass_exit ?_
   refine ex_block_hit ?_
   refine ex_then ?_
   refine cw_region ?_
   refine sq_r (ry_add rfl rfl (by omega)) ?_
   refine sq_r (ry_move rfl) ?_
   refine sq_nil ?_
   exact ex_again (x := (i, o, q)) (i + 1, o, q) ⟨by first | omega | (simp only []; omega), by rw [ddF_yes hx hy hyx]; exact hi2⟩ (by simp only; omega) (Sub.cons rfl (Sub.cons rfl (Sub.cons rfl (Sub.cons rfl (Sub.cons rfl (Sub.nil _)))))) (fun w hw => Keep.mem hw)
  ·
   try simp only [bz0, bz1, bz2, bz3, bz4, bz5, bz6, bz7, bz8, bz9] at h1
   have hne : ∀ y, x13[i + 1]? = some y → y.p ≠ x.p := fun y hy e => by
    have hyl := (List.getElem?_eq_some_iff.1 hy).1
    rcases h1 with h | h
    ·
     omega
    ·
     exact h (by simpa [List.getD, hy] using e)
   refine cw_skip ?_
   refine ex_then ?_
   refine cw_region ?_
   refine sq_r (ry_move rfl) ?_
   refine sq_r (ry_whole rfl) ?_
   refine sq_buildSlice (enc := rcells) (vals := [_]) [x] rfl rfl rfl (by decide) (by decide) fun b39 => ?_
   refine sq_append (s := o) (ys := [x]) rfl rfl (by decide) (fun w hw => src_rows (s := ⟨false, b39, 0, 1, 1, none⟩) Tryz.underlying22 (by decide) ((inferInstance : Hd _ _ ⟨false, b39, 0, 1, 1, none⟩ rcells 19 [x]).h w hw)) (by simp only [List.length_append, List.length_cons, List.length_nil]; omega) (by simp only [List.length_append, List.length_cons, List.length_nil]; omega) fun s40 hs40 hl40 => ?_
   refine sq_r (ry_assign rfl) ?_
   refine sq_nil ?_
   refine ex_block ?_
   refine ex_then ?_
   refine cw_region ?_
   refine sq_r (ry_add rfl rfl (by omega)) ?_
   refine sq_r (ry_move rfl) ?_
   refine sq_nil ?_
   exact ex_again (x := (i, o, q)) (i + 1, s40, q ++ [x]) ⟨by first | omega | (simp only []; omega), by rw [ddF_no hx hne, ← hi2]⟩ (by simp only; omega) (Sub.cons rfl (Sub.cons rfl (Sub.cons rfl (Sub.cons rfl (Sub.cons rfl (Sub.nil _)))))) (fun w hw => Keep.mem hw)
 ·
  try simp only [bz0, bz1, bz2, bz3, bz4, bz5, bz6, bz7, bz8, bz9] at h0
  obtain rfl : i = x13.length := by omega
  refine cw_exit ?_
  refine ex_pass_exit ?_
  refine ex_pass_exit ?_
  refine ex_block_hit ?_
  refine ex_then ?_
  refine cw_seq ?_
  refine cw_region ?_
  refine sq_r (ry_move rfl) ?_
  refine sq_r (ry_assign rfl) ?_
  refine sq_nil ?_
  refine ex_then ?_
  refine cw_ret ?_
  refine ex_ret (.inl rfl) (res_1 rfl (rv_tmp rfl)) (fun w1 hw => ?_)
  exact ⟨o, rfl, trivial, by rw [hts, ← hi2]; exact Keep.mem hw⟩
instance tsort_i {w0 : World} {L : List Ent} {t : Sv} {ts : List Rt} [ht : HdE w0 L rcells 19 t ts] : FnC Tryz.prog 8 w0 L [t.val] (Sv) (fun zz => zz.val) (fun zz => own rcells 19 zz (tsortF ts) :: L) (fun zz => True) (ts.length ≤ 1000000) := ⟨fun hp w hw => (tsort_c w t ts (ht.h w hw) hp).mono fun e w' ⟨x, h1, h2, h3⟩ => ⟨x, h1, h2, hw.call h3⟩⟩

end Go.Proofs.YtldkgicmfbofiaaGreatDoor

/- What the laws of package table ask: the best by the reference, who lies under, the order. No program in sight. -/
namespace Go.Eng
open Go.Kb
variable {t ts : List Rt} {k : Key} {bits : Int} {p : Pfx}
def undF (ts : List Rt) (p : Pfx) : List Rt := ts.filter fun r => pcovers p r.p
def undT (ts : List Rt) (p : Pfx) : List Rt := if getOk ts p = true then undF ts p else []
def shortF (ts : List Rt) : List Rt := ts.filter fun r => decide (r.p.bits = 32)
theorem undF_bad (h : pmay p = false) : undF ts p = [] := by
  rw [undF, List.filter_eq_nil_iff]
  intro r _
  simp [pcovers, h]
theorem undT_right (h : tright ts = true) : undT ts p = undF ts p := by
  unfold undT
  split
  · rfl
  · rename_i h1
    rw [undF_bad]
    simpa [getOk, h] using h1
def nort : Rt := ⟨⟨0, -1, 0#128⟩, 0⟩
def BestTo (ts : List Rt) (k : Key) (bits : Int) (i : Nat) (r : Rt) : Prop :=
  (r = nort ∧ ∀ q ∈ ts.take i, onWay k bits q = false) ∨ (r ∈ ts ∧ onWay k bits r = true ∧ ∀ q ∈ ts.take i, onWay k bits q = true → q.p.len ≤ r.p.len)
theorem BestTo.zero : BestTo ts k bits 0 nort := .inl ⟨rfl, fun q hq => by simp at hq⟩
theorem on_may {r : Rt} (h : onWay k bits r = true) : pmay r.p = true := by
  simp only [onWay, pfits, Bool.and_eq_true] at h; exact h.2.1.1
theorem on_len {r : Rt} (h : onWay k bits r = true) : 0 ≤ r.p.len := ((pmay_iff _).1 (on_may h)).2.1
theorem BestTo.take {r e : Rt} {i : Nat} (h : BestTo ts k bits i r) (he : ts[i]? = some e) (ho : onWay k bits e = true) (hl : r.p.len < e.p.len) : BestTo ts k bits (i + 1) e := by
  refine .inr ⟨List.mem_of_getElem? he, ho, fun q hq hq2 => ?_⟩
  rw [List.take_add_one, he, List.mem_append] at hq
  rcases hq with hq | hq
  · rcases h with ⟨_, h2⟩ | ⟨_, _, h2⟩
    · rw [h2 q hq] at hq2; cases hq2
    · have := h2 q hq hq2; omega
  · obtain rfl : q = e := by simpa using hq
    exact Int.le_refl _
theorem BestTo.pass {r e : Rt} {i : Nat} (h : BestTo ts k bits i r) (he : ts[i]? = some e) (hn : onWay k bits e = true → e.p.len ≤ r.p.len) : BestTo ts k bits (i + 1) r := by
  rcases h with ⟨rfl, h2⟩ | ⟨h1, h3, h2⟩
  · refine .inl ⟨rfl, fun q hq => ?_⟩
    rw [List.take_add_one, he, List.mem_append] at hq
    rcases hq with hq | hq
    · exact h2 q hq
    · obtain rfl : q = e := by simpa using hq
      cases ho : onWay k bits q with
      | false => rfl
      | true => have h4 : q.p.len ≤ -1 := hn ho; have := on_len ho; omega
  · refine .inr ⟨h1, h3, fun q hq hq2 => ?_⟩
    rw [List.take_add_one, he, List.mem_append] at hq
    rcases hq with hq | hq
    · exact h2 q hq hq2
    · obtain rfl : q = e := by simpa using hq
      exact hn hq2
theorem BestTo.none {r : Rt} (hr : tright ts = true) (hk : pmay ⟨bits, bits, k⟩ = true) (h : BestTo ts k bits ts.length r) (hl : r.p.len < 0) : bestE ts k bits = 6 ∧ bestR ts k bits = zroute := by
  rcases h with ⟨_, h2⟩ | ⟨_, h3, _⟩
  · rw [List.take_length] at h2
    rcases best_cases (k := k) (bits := bits) hr with ⟨_, h4, h5, _⟩ | ⟨h4, h5, _⟩
    · rw [h2 _ h4] at h5; cases h5
    · rw [if_pos hk] at h4; exact ⟨h4, h5⟩
  · have := on_len h3; omega
theorem BestTo.some {r : Rt} (hr : tright ts = true) (h : BestTo ts k bits ts.length r) (hl : 0 ≤ r.p.len) : bestE ts k bits = 0 ∧ bestR ts k bits = r := by
  rcases h with ⟨rfl, _⟩ | ⟨h1, h3, h2⟩
  · exact absurd hl (by decide)
  · rw [List.take_length] at h2
    exact best_uniq hr h1 h3 h2
theorem best_bad (hr : tright ts = true) (hk : pmay ⟨bits, bits, k⟩ = false) : bestE ts k bits = 1 ∧ bestR ts k bits = zroute := by
  rcases best_cases (k := k) (bits := bits) hr with ⟨_, _, h5, _⟩ | ⟨h4, h5, _⟩
  · simp only [onWay, pfits, Bool.and_eq_true, decide_eq_true_eq] at h5
    obtain ⟨e1, ⟨e2, e3⟩, e4⟩ := h5
    obtain ⟨a1, a2, a3, a4⟩ := (pmay_iff _).1 e2
    have : pmay ⟨bits, bits, k⟩ = true := (pmay_iff _).2 ⟨by rw [← e1]; exact a1, by show 0 ≤ bits; omega, Int.le_refl _, by show kcut k bits = k; rw [← e1]; exact e3⟩
    rw [hk] at this; cases this
  · rw [if_neg (by rw [hk]; simp)] at h4; exact ⟨h4, h5⟩
/-! The last of a prefix. -/
def lastP (l : List Rt) (p : Pfx) : Option Rt := (l.filter fun r => decide (r.p = p)).getLast?
theorem lastP_app (l : List Rt) (r : Rt) (p : Pfx) : lastP (l ++ [r]) p = if r.p = p then some r else lastP l p := by
  unfold lastP
  rw [List.filter_append]
  by_cases h : r.p = p
  · rw [if_pos h]; simp [h]
  · rw [if_neg h]; simp [h]
theorem lastP_mem {l : List Rt} {p : Pfx} {x : Rt} (h : lastP l p = some x) : x ∈ l ∧ x.p = p := by
  have := List.mem_filter.1 (List.mem_of_getLast? h)
  exact ⟨this.1, by simpa using this.2⟩
theorem put_mem (hr : pmay p = true) {r x : Rt} (hp : r.p = p) (ho : Ord t) : x ∈ putF r t false ↔ x = r ∨ (x ∈ t ∧ x.p ≠ r.p) := by
  subst hp
  rw [putF_eq hr ho]
  simp only [List.mem_append, List.mem_cons, lessF, moreF, List.mem_filter]
  constructor
  · rintro (⟨h1, h2⟩ | h | ⟨h1, h2⟩)
    · exact .inr ⟨h1, less_ne (ho.may x h1) h2⟩
    · exact .inl h
    · exact .inr ⟨h1, fun e => less_ne hr h2 e.symm⟩
  · rintro (h | ⟨h1, h2⟩)
    · exact .inr (.inl h)
    · cases h3 : pless x.p r.p with
      | true => exact .inl ⟨h1, rfl⟩
      | false => exact .inr (.inr ⟨h1, less_tri (ho.may x h1) hr h3 h2⟩)
theorem put_ord {r : Rt} (hr : pmay r.p = true) (ho : Ord t) : Ord (putF r t false) := by
  rw [putF_eq hr ho]
  refine ⟨fun x hx => ?_, ?_⟩
  · simp only [List.mem_append, List.mem_cons, lessF, moreF, List.mem_filter] at hx
    rcases hx with h | rfl | h
    · exact ho.may x h.1
    · exact hr
    · exact ho.may x h.1
  · refine List.pairwise_append.2 ⟨ho.less.sublist List.filter_sublist, List.pairwise_cons.2 ⟨fun y hy => (List.mem_filter.1 hy).2, ho.less.sublist List.filter_sublist⟩, fun a ha b hb => ?_⟩
    have h1 := List.mem_filter.1 ha
    rcases List.mem_cons.1 hb with rfl | hb
    · exact h1.2
    · have h2 := List.mem_filter.1 hb
      exact less_trans' (ho.may a h1.1) hr (ho.may b h2.1) h1.2 h2.2
theorem keep_app (l : List Rt) (r : Rt) : keepF (l ++ [r]) = keepF l ++ (if pmay r.p = true then [r] else []) := by
  unfold keepF
  rw [List.filter_append]
  cases h : pmay r.p <;> simp [h]
theorem rsort_ok (l : List Rt) : Ord (rsortF l) ∧ ∀ x, x ∈ rsortF l ↔ lastP (keepF l) x.p = some x := by
  have key : ∀ n, n ≤ l.length → Ord (rsortF (l.take n)) ∧ ∀ x, x ∈ rsortF (l.take n) ↔ lastP (keepF (l.take n)) x.p = some x := by
    intro n
    induction n with
    | zero =>
      intro _
      simp only [List.take_zero]
      exact ⟨⟨fun _ h => (by simp [rsortF] at h), by simp [rsortF]⟩, fun x => by simp [rsortF, keepF, lastP]⟩
    | succ n ih =>
      intro hn
      obtain ⟨h1, h2⟩ := ih (by omega)
      obtain ⟨r, hr⟩ := get_some (xs := l) (i := n) (by omega)
      have e : l.take (n + 1) = l.take n ++ [r] := by rw [List.take_add_one, hr]; rfl
      cases hm : pmay r.p with
      | false =>
        rw [rsort_no hr hm, e, keep_app, hm]
        simpa using ⟨h1, h2⟩
      | true =>
        rw [rsort_yes hr hm]
        refine ⟨put_ord hm h1, fun x => ?_⟩
        rw [put_mem hm rfl h1, e, keep_app, hm, if_pos rfl, lastP_app, h2]
        by_cases hp : r.p = x.p
        · rw [if_pos hp]
          constructor
          · rintro (h | ⟨_, h⟩)
            · rw [h]
            · exact absurd hp.symm h
          · intro h; exact .inl (Option.some.inj h).symm
        · rw [if_neg hp]
          constructor
          · rintro (h | ⟨h, _⟩)
            · exact absurd (by rw [h]) hp
            · exact h
          · intro h; exact .inr ⟨h, fun h' => hp h'.symm⟩
  have := key l.length (Nat.le_refl _)
  rwa [List.take_length] at this
theorem ddF_mem {ys : List Rt} {x : Rt} : ∀ i, i ≤ ys.length → (x ∈ ddF ys i ↔ ∃ j, j < i ∧ ys[j]? = some x ∧ ∀ y, ys[j + 1]? = some y → y.p ≠ x.p)
  | 0, _ => by simp [ddF]
  | i + 1, hi => by
    obtain ⟨e, he⟩ := get_some (xs := ys) (i := i) (by omega)
    have ih := ddF_mem (ys := ys) (x := x) i (by omega)
    by_cases hs : ∀ y, ys[i + 1]? = some y → y.p ≠ e.p
    · rw [ddF_no he hs, List.mem_append, ih]
      constructor
      · rintro (⟨j, h1, h2, h3⟩ | h)
        · exact ⟨j, by omega, h2, h3⟩
        · obtain rfl : x = e := by simpa using h
          exact ⟨i, by omega, he, hs⟩
      · rintro ⟨j, h1, h2, h3⟩
        rcases Nat.eq_or_lt_of_le (Nat.le_of_lt_succ h1) with rfl | h4
        · right; rw [he] at h2; simp [(Option.some.inj h2).symm]
        · exact .inl ⟨j, h4, h2, h3⟩
    · obtain ⟨y, hy, hyp⟩ : ∃ y, ys[i + 1]? = some y ∧ y.p = e.p := by
        apply Classical.byContradiction
        intro hc
        exact hs fun y hy h => hc ⟨y, hy, h⟩
      rw [ddF_yes he hy hyp, ih]
      constructor
      · rintro ⟨j, h1, h2, h3⟩; exact ⟨j, by omega, h2, h3⟩
      · rintro ⟨j, h1, h2, h3⟩
        rcases Nat.eq_or_lt_of_le (Nat.le_of_lt_succ h1) with rfl | h4
        · rw [he] at h2
          obtain rfl := Option.some.inj h2
          exact absurd hyp (h3 y hy)
        · exact ⟨j, h4, h2, h3⟩
end Go.Eng

/- The rest of package table, walked. -/
namespace Go.Proofs.YtldkgicmfbofiaaGreatDoor
open Go.Eng Go.Kb
set_option maxRecDepth 20000 in
theorem tget_c (w : World) (t : Sv) (ts : List Rt) (p : Pfx) (ht : Lies rcells 19 (hp w) t ts) : Calls Tryz.prog 12 #[t.val, .agg (pcells p)] w fun e w' => e = .returned (.tuple #[.int .u16 ((getH ts p).toNat : Nat), .int .i64 (getE ts p)]) ∧ Mem w [] w' := by
 have ght : Gv w t rcells 19 ts := ⟨ht⟩
 refine calls_of (args := [_, _]) Tryz.func12 rfl Tryz.ntmps12 rfl ?_
 change Cw _ _ _ _ _ [(0, t.val), (1, .agg (pcells p))] []
 refine cw_seq ?_
 refine cw_region ?_
 refine sq_boxA rfl fun b3 => ?_
 refine sq_r (ry_assign rfl) ?_
 refine sq_r (ry_assign rfl) ?_
 refine sq_nil ?_
 refine ex_then ?_
 refine cw_seq ?_
 refine cw_seq ?_
 refine cw_region ?_
 refine sq_r (ry_move rfl) ?_
 refine sq_y (yl_callC rfl trivial) ?_
 refine sq_r (ry_not rfl) ?_
 refine sq_r (ry_move rfl) ?_
 refine sq_gf rfl rfl rfl (fun hg => (Ry.yl (ry_whole rfl))) ?_
 refine sq_gf rfl rfl rfl (fun hg => yl_callC (evl_cons (ev_c hg rfl) evl_nil) trivial) ?_
 refine sq_gf rfl rfl rfl (fun hg => (Ry.yl (ry_not (ev_c hg rfl)))) ?_
 refine sq_r (ry_or rfl rfl rfl) ?_
 refine sq_nil ?_
 refine ex_then ?_
 refine cw_cond rfl (fun h0 => ?_) (fun h0 => ?_)
 ·
  try simp only [bz0, bz1, bz2, bz3, bz4, bz5, bz6, bz7, bz8, bz9] at h0
  have hno : getOk ts p = false := by rw [getOk]; rcases h0 with h | h; (rw [h]; rfl); (rw [h]; simp)
  refine cw_seq ?_
  refine cw_region ?_
  refine sq_r (ry_assign rfl) ?_
  refine sq_r (ry_assign rfl) ?_
  refine sq_nil ?_
  refine ex_then ?_
  refine cw_ret ?_
  refine ex_pass_ret ?_
  refine ex_ret (.inl rfl) (res_2 rfl (rv_tmp rfl) (rv_tmp rfl)) (fun w1 hw => ?_)
  exact ⟨(by simp [getH, getE, hno]), Keep.mem hw⟩
 ·
  try simp only [bz0, bz1, bz2, bz3, bz4, bz5, bz6, bz7, bz8, bz9] at h0
  have hok : getOk ts p = true := by rw [getOk, Bool.and_eq_true]; exact h0
  have hlen := tr_len h0.1
  refine cw_skip ?_
  refine ex_then ?_
  refine cw_seq ?_
  refine cw_region ?_
  refine sq_r (ry_move rfl) ?_
  refine sq_r (ry_whole rfl) ?_
  refine sq_y (yl_callC rfl (by omega)) ?_
  refine sq_r (ry_move rfl) ?_
  refine sq_r (ry_extract (v := .int .i64 ((placeN ts p : Nat) : Int)) rfl rfl) ?_
  refine sq_r (ry_extract (v := .bool (placeB ts p)) rfl rfl) ?_
  refine sq_r (ry_assign rfl) ?_
  refine sq_r (ry_assign rfl) ?_
  refine sq_nil ?_
  refine ex_then ?_
  refine cw_seq ?_
  refine cw_seq ?_
  refine cw_region ?_
  refine sq_r (ry_move rfl) ?_
  refine sq_r (ry_not rfl) ?_
  refine sq_nil ?_
  refine ex_then ?_
  refine cw_cond rfl (fun h1 => ?_) (fun h1 => ?_)
  ·
   try simp only [bz0, bz1, bz2, bz3, bz4, bz5, bz6, bz7, bz8, bz9] at h1
   have hf : getF ts p = none := by rw [getF, if_neg (by rw [h1]; simp)]
   refine cw_seq ?_
   refine cw_region ?_
   refine sq_r (ry_assign rfl) ?_
   refine sq_r (ry_assign rfl) ?_
   refine sq_nil ?_
   refine ex_then ?_
   refine cw_ret ?_
   refine ex_pass_ret ?_
   refine ex_ret (.inl rfl) (res_2 rfl (rv_tmp rfl) (rv_tmp rfl)) (fun w1 hw => ?_)
   exact ⟨(by simp [getH, getE, hok, hf, zroute]), Keep.mem hw⟩
  ·
   try simp only [bz0, bz1, bz2, bz3, bz4, bz5, bz6, bz7, bz8, bz9] at h1
   have hba : ∃ r, ts[placeN ts p]? = some r ∧ getF ts p = some r := by obtain ⟨r, _, h8, _⟩ := place_in h1; exact ⟨r, h8, by rw [getF, if_pos h1, h8]⟩
   obtain ⟨r, hr1, hr2⟩ := hba
   refine cw_skip ?_
   refine ex_then ?_
   refine cw_seq ?_
   refine cw_region ?_
   refine sq_r (ry_move rfl) ?_
   refine sq_r (ry_move rfl) ?_
   refine sq_r (ry_idxH rfl rfl (placeN ts p) (by omega) (List.getElem?_eq_some_iff.1 hr1).1) ?_
   refine sq_r (ry_field rfl rfl) ?_
   refine sq_r (ry_elemcH (j := 18) rfl (placeN ts p) hr1 rfl (by decide)) ?_
   refine sq_r (ry_assign rfl) ?_
   refine sq_r (ry_assign rfl) ?_
   refine sq_nil ?_
   refine ex_then ?_
   refine cw_ret ?_
   refine ex_ret (.inl rfl) (res_2 rfl (rv_tmp rfl) (rv_tmp rfl)) (fun w1 hw => ?_)
   exact ⟨(by simp [getH, getE, hok, hr2]), Keep.mem hw⟩
instance tget_i {w0 : World} {L : List Ent} {t : Sv} {ts : List Rt} {p : Pfx} [ht : HdE w0 L rcells 19 t ts] : FnQ Tryz.prog 12 w0 L [t.val, .agg (pcells p)] (.tuple #[.int .u16 ((getH ts p).toNat : Nat), .int .i64 (getE ts p)]) (True) := ⟨fun hp w hw => tget_c w t ts p (ht.h w hw)⟩
set_option maxRecDepth 20000 in
theorem tunder_c (w : World) (t : Sv) (ts : List Rt) (p : Pfx) (ht : Lies rcells 19 (hp w) t ts) (hpre : ts.length ≤ 1000000) : Calls Tryz.prog 13 #[t.val, .agg (pcells p)] w fun e w' => ∃ zz : Sv, e = .returned (zz.val) ∧ (True) ∧ Mem w [own rcells 19 zz (undT ts p)] w' := by
 have ght : Gv w t rcells 19 ts := ⟨ht⟩
 refine calls_of (args := [_, _]) Tryz.func13 rfl Tryz.ntmps13 rfl ?_
 change Cw _ _ _ _ _ [(0, t.val), (1, .agg (pcells p))] []
 refine cw_seq ?_
 refine cw_region ?_
 refine sq_boxA rfl fun b3 => ?_
 refine sq_r (ry_assign rfl) ?_
 refine sq_nil ?_
 refine ex_then ?_
 refine cw_seq ?_
 refine cw_seq ?_
 refine cw_region ?_
 refine sq_r (ry_move rfl) ?_
 refine sq_y (yl_callC rfl trivial) ?_
 refine sq_r (ry_not rfl) ?_
 refine sq_r (ry_move rfl) ?_
 refine sq_gf rfl rfl rfl (fun hg => (Ry.yl (ry_whole rfl))) ?_
 refine sq_gf rfl rfl rfl (fun hg => yl_callC (evl_cons (ev_c hg rfl) evl_nil) trivial) ?_
 refine sq_gf rfl rfl rfl (fun hg => (Ry.yl (ry_not (ev_c hg rfl)))) ?_
 refine sq_r (ry_or rfl rfl rfl) ?_
 refine sq_nil ?_
 refine ex_then ?_
 refine cw_cond rfl (fun h0 => ?_) (fun h0 => ?_)
 ·
  try simp only [bz0, bz1, bz2, bz3, bz4, bz5, bz6, bz7, bz8, bz9] at h0
  have hno : getOk ts p = false := by rw [getOk]; rcases h0 with h | h; (rw [h]; rfl); (rw [h]; simp)
  refine cw_seq ?_
  refine cw_region ?_
  refine sq_r (ry_assign rfl) ?_
  refine sq_nil ?_
  refine ex_then ?_
  refine cw_ret ?_
  refine ex_pass_ret ?_
  refine ex_ret (.inl rfl) (res_1 rfl (rv_tmp rfl)) (fun w1 hw => ?_)
  exact ⟨Sv.none, rfl, trivial, by rw [undT, if_neg (by rw [hno]; simp)]; exact (Keep.mem hw : Mem w [] _).nilOwn rcells 19⟩
 ·
  try simp only [bz0, bz1, bz2, bz3, bz4, bz5, bz6, bz7, bz8, bz9] at h0
  have hok : getOk ts p = true := by rw [getOk, Bool.and_eq_true]; exact h0
  refine cw_skip ?_
  refine ex_then ?_
  refine cw_seq ?_
  refine cw_region ?_
  refine sq_r (ry_assign rfl) ?_
  refine sq_nil ?_
  refine ex_then ?_
  refine cw_seq ?_
  refine cw_seq ?_
  refine cw_region ?_
  refine sq_r (ry_move rfl) ?_
  refine sq_r (ry_lenH rfl) ?_
  refine sq_r (ry_move rfl) ?_
  refine sq_nil ?_
  refine ex_then ?_
  refine cw_block ?_
  refine cw_loop (X := Nat × Sv × List Rt) (fun zz => [(18, .int .i64 (zz.1 : Nat)), (5, zz.2.1.val), (3, .pointer (some ⟨b3, 0, none⟩)), (16, t.val), (17, .int .i64 (ts.length : Nat))]) (fun zz => [own rcells 19 zz.2.1 zz.2.2, blk b3 (pcells p) 29]) (fun zz => zz.1 ≤ ts.length ∧ zz.2.2 = (ts.take zz.1).filter (fun r => pcovers p r.p)) (fun zz => ts.length - zz.1) (0, Sv.none, []) ⟨Nat.zero_le _, rfl⟩ (Sub.cons rfl (Sub.cons rfl (Sub.cons rfl (Sub.cons rfl (Sub.cons rfl (Sub.nil _)))))) (fun w hw => Mem.nilOwn rcells 19 (Keep.mem hw)) ?_
  rintro ⟨i, o, q⟩ ⟨hi1, hi2⟩
  dsimp only
  simp only at hi1 hi2
  have hql : q.length ≤ i := by rw [hi2]; exact Nat.le_trans (List.length_filter_le _ _) (by rw [List.length_take]; omega)
  refine cw_seq ?_
  refine cw_region ?_
  refine sq_r (ry_int rfl rfl rfl) ?_
  refine sq_nil ?_
  refine ex_then ?_
  refine cw_seq ?_
  refine cw_cond rfl (fun h1 => ?_) (fun h1 => ?_)
  ·
   try simp only [bz0, bz1, bz2, bz3, bz4, bz5, bz6, bz7, bz8, bz9] at h1
   obtain ⟨e, he⟩ := get_some (xs := ts) (i := i) (by omega)
   refine cw_skip ?_
   refine ex_then ?_
   refine cw_seq ?_
   refine cw_block ?_
   refine cw_seq ?_
   refine cw_region ?_
   refine sq_r (ry_idxH rfl rfl i rfl (by omega)) ?_
   refine sq_r (ry_elemH rfl i he rfl) ?_
   refine sq_allocA fun b7 => ?_
   refine sq_storeW rfl rfl ?_
   refine sq_nil ?_
   refine ex_then ?_
   refine cw_seq ?_
   refine cw_region ?_
   refine sq_r (ry_whole rfl) ?_
   refine sq_r (ry_field (o' := 0) rfl rfl) ?_
   refine sq_r (ry_part rfl) ?_
   refine sq_y (yl_callC rfl trivial) ?_
   refine sq_nil ?_
   refine ex_then ?_
   refine cw_cond rfl (fun h2 => ?_) (fun h2 => ?_)
   ·
    try simp only [bz0, bz1, bz2, bz3, bz4, bz5, bz6, bz7, bz8, bz9] at h2
    refine cw_region ?_
    refine sq_r (ry_move rfl) ?_
    refine sq_r (ry_whole rfl) ?_
    refine sq_buildSlice (enc := rcells) (vals := [_]) [e] rfl rfl rfl (by decide) (by decide) fun b28 => ?_
    refine sq_append (s := o) (ys := [e]) rfl rfl (by decide) (fun w hw => src_rows (s := ⟨false, b28, 0, 1, 1, none⟩) Tryz.underlying22 (by decide) ((inferInstance : Hd _ _ ⟨false, b28, 0, 1, 1, none⟩ rcells 19 [e]).h w hw)) (by simp only [List.length_append, List.length_cons, List.length_nil]; omega) (by simp only [List.length_append, List.length_cons, List.length_nil]; omega) fun s29 hs29 hl29 => ?_
    refine sq_r (ry_assign rfl) ?_
    refine sq_nil ?_
    refine ex_block ?_
    refine ex_then ?_
    refine cw_region ?_
    refine sq_r (ry_add rfl rfl (by omega)) ?_
    refine sq_r (ry_move rfl) ?_
    refine sq_nil ?_
    exact ex_again (x := (i, o, q)) (i + 1, s29, q ++ [e]) ⟨by first | omega | (simp only []; omega), by rw [filter_take1 he, if_pos (by simpa using h2), ← hi2]⟩ (by simp only; omega) (Sub.cons rfl (Sub.cons rfl (Sub.cons rfl (Sub.cons rfl (Sub.cons rfl (Sub.nil _)))))) (fun w hw => Keep.mem hw)
   ·
    try simp only [bz0, bz1, bz2, bz3, bz4, bz5, bz6, bz7, bz8, bz9] at h2
    refine cw_skip ?_
    refine ex_block ?_
    refine ex_then ?_
    refine cw_region ?_
    refine sq_r (ry_add rfl rfl (by omega)) ?_
    refine sq_r (ry_move rfl) ?_
    refine sq_nil ?_
    exact ex_again (x := (i, o, q)) (i + 1, o, q) ⟨by first | omega | (simp only []; omega), by rw [filter_take1 he, if_neg (by simpa using h2), List.append_nil, ← hi2]⟩ (by simp only; omega) (Sub.cons rfl (Sub.cons rfl (Sub.cons rfl (Sub.cons rfl (Sub.cons rfl (Sub.nil _)))))) (fun w hw => Keep.mem hw)
  ·
   try simp only [bz0, bz1, bz2, bz3, bz4, bz5, bz6, bz7, bz8, bz9] at h1
   obtain rfl : i = ts.length := by omega
   refine cw_exit ?_
   refine ex_pass_exit ?_
   refine ex_pass_exit ?_
   refine ex_block_hit ?_
   refine ex_then ?_
   refine cw_seq ?_
   refine cw_region ?_
   refine sq_r (ry_move rfl) ?_
   refine sq_r (ry_assign rfl) ?_
   refine sq_nil ?_
   refine ex_then ?_
   refine cw_ret ?_
   refine ex_ret (.inl rfl) (res_1 rfl (rv_tmp rfl)) (fun w1 hw => ?_)
   exact ⟨o, rfl, trivial, by rw [hi2, List.take_length] at hw; rw [undT, if_pos hok, undF]; exact Keep.mem hw⟩
instance tunder_i {w0 : World} {L : List Ent} {t : Sv} {ts : List Rt} {p : Pfx} [ht : HdE w0 L rcells 19 t ts] : FnC Tryz.prog 13 w0 L [t.val, .agg (pcells p)] (Sv) (fun zz => zz.val) (fun zz => own rcells 19 zz (undT ts p) :: L) (fun zz => True) (ts.length ≤ 1000000) := ⟨fun hp w hw => (tunder_c w t ts p (ht.h w hw) hp).mono fun e w' ⟨x, h1, h2, h3⟩ => ⟨x, h1, h2, hw.call h3⟩⟩

end Go.Proofs.YtldkgicmfbofiaaGreatDoor

/- Both ways of sorting a table; both ways of asking it. No program in sight. -/
namespace Go.Eng
open Go.Kb
variable {t ts : List Rt} {k : Key} {bits : Int} {p : Pfx}
theorem filt_rk {l : List Rt} (hm : MayAll l) (hp : pmay p = true) : (l.filter fun r => decide (r.p = p)) = l.filter fun r => decide (rkR r = rkP p) := by
  refine List.filter_congr fun r hr => ?_
  rw [decide_eq_decide]
  exact ⟨fun e => by rw [rkR, e], fun e => rkP_inj (hm r hr) hp e⟩
theorem lastP_stb {l ys : List Rt} (h : Stb rkR l ys) (hm : MayAll l) (hp : pmay p = true) : lastP ys p = lastP l p := by
  unfold lastP
  rw [filt_rk (fun x hx => hm x (h.mem.1 hx)) hp, filt_rk hm hp, h.same]
theorem last_srt {ys : List Rt} (hs : Srt rkR ys) (hm : MayAll ys) {x : Rt} : (∃ j, j < ys.length ∧ ys[j]? = some x ∧ ∀ y, ys[j + 1]? = some y → y.p ≠ x.p) ↔ lastP ys x.p = some x := by
  constructor
  · rintro ⟨j, hj, hx, hn⟩
    obtain ⟨_, hv⟩ := List.getElem?_eq_some_iff.1 hx
    have e : ys = ys.take j ++ x :: ys.drop (j + 1) := by rw [← hv, List.getElem_cons_drop, List.take_append_drop]
    have hz : (ys.drop (j + 1)).filter (fun r => decide (r.p = x.p)) = [] := by
      rw [List.filter_eq_nil_iff]
      intro y hy
      obtain ⟨i, hi⟩ := List.mem_iff_getElem?.1 hy
      rw [List.getElem?_drop] at hi
      obtain ⟨z, hz⟩ := get_some (xs := ys) (i := j + 1) (by have := (List.getElem?_eq_some_iff.1 hi).1; omega)
      have hle : ∀ s t a b, s ≤ t → ys[s]? = some a → ys[t]? = some b → rkR a ≤ rkR b := fun s t a b hst ha hb => by
        obtain ⟨h1, rfl⟩ := List.getElem?_eq_some_iff.1 ha
        obtain ⟨h2, rfl⟩ := List.getElem?_eq_some_iff.1 hb
        rcases Nat.eq_or_lt_of_le hst with rfl | h3
        · exact Nat.le_refl _
        · exact (List.pairwise_iff_getElem.1 hs) s t h1 h2 h3
      have h1 := hle j (j + 1) x z (by omega) hx hz
      have h2 := hle (j + 1) (j + 1 + i) z y (by omega) hz hi
      have h3 := hn z hz
      simp only [decide_eq_true_eq]
      intro h4
      have h5 : rkR y = rkR x := by rw [rkR, h4]; rfl
      exact h3 (rkP_inj (hm z (List.mem_of_getElem? hz)) (hm x (List.mem_of_getElem? hx)) (by show rkR z = rkR x; omega))
    unfold lastP
    rw [e, List.filter_append, List.filter_cons, if_pos (by simp), hz]
    simp
  · intro h
    obtain ⟨A, hA⟩ := List.getLast?_eq_some_iff.1 h
    obtain ⟨l1, l2, e1, _, e2⟩ := List.filter_eq_append_iff.1 hA
    obtain ⟨m1, m2, e3, _, _, e4⟩ := List.filter_eq_cons_iff.1 e2
    subst e3
    have ey : ys = (l1 ++ m1) ++ x :: m2 := by rw [e1, List.append_assoc]
    refine ⟨(l1 ++ m1).length, by rw [ey]; simp, by rw [ey]; simp, fun y hy => ?_⟩
    rw [ey, List.getElem?_append_right (by omega)] at hy
    rw [show (l1 ++ m1).length + 1 - (l1 ++ m1).length = 0 + 1 by omega, List.getElem?_cons_succ] at hy
    have := List.filter_eq_nil_iff.1 e4 y (List.mem_of_getElem? hy)
    simpa using this
theorem tsort_ok (l : List Rt) : Ord (tsortF l) ∧ ∀ x, x ∈ tsortF l ↔ lastP (keepF l) x.p = some x := by
  have hst := srt_stb (f := rkR) (keepF l)
  have hmy : MayAll (srt rkR (keepF l)) := fun x hx => keepF_may l x (hst.mem.1 hx)
  have hmem : ∀ x, x ∈ tsortF l ↔ lastP (srt rkR (keepF l)) x.p = some x := fun x => by
    rw [tsortF, ddF_mem _ (Nat.le_refl _)]
    exact last_srt hst.srt hmy
  have hin : ∀ x, x ∈ tsortF l → x ∈ srt rkR (keepF l) := fun x hx => (lastP_mem ((hmem x).1 hx)).1
  have hpw : ∀ i, i ≤ (srt rkR (keepF l)).length → (ddF (srt rkR (keepF l)) i).Pairwise fun a b => pless a.p b.p = true := by
    generalize hys : srt rkR (keepF l) = ys at *
    have hle : ∀ s t a b, s ≤ t → ys[s]? = some a → ys[t]? = some b → rkR a ≤ rkR b := fun s t a b hst' ha hb => by
      obtain ⟨h1, rfl⟩ := List.getElem?_eq_some_iff.1 ha
      obtain ⟨h2, rfl⟩ := List.getElem?_eq_some_iff.1 hb
      rcases Nat.eq_or_lt_of_le hst' with rfl | h3
      · exact Nat.le_refl _
      · exact (List.pairwise_iff_getElem.1 hst.srt) s t h1 h2 h3
    intro i
    induction i with
    | zero => intro _; exact List.Pairwise.nil
    | succ i ih =>
      intro hi
      obtain ⟨e, he⟩ := get_some (xs := ys) (i := i) (by omega)
      rw [ddF]
      split
      · exact ih (by omega)
      · rw [he]
        refine List.pairwise_append.2 ⟨ih (by omega), by simp, fun a ha b hb => ?_⟩
        obtain rfl : b = e := by simpa using hb
        obtain ⟨j, h1, h2, h3⟩ := (ddF_mem i (by omega)).1 ha
        obtain ⟨z, hz⟩ := get_some (xs := ys) (i := j + 1) (by omega)
        have g1 := hle j (j + 1) a z (by omega) h2 hz
        have g2 := hle (j + 1) i z b (by omega) hz he
        have ma := hmy a (List.mem_of_getElem? h2)
        have mz := hmy z (List.mem_of_getElem? hz)
        have g3 : rkR a ≠ rkR z := fun e => h3 z hz (rkP_inj mz ma e.symm)
        rw [pless_rk ma (hmy b (List.mem_of_getElem? he)), decide_eq_true_eq]
        show rkR a < rkR b
        omega
  refine ⟨⟨fun x hx => hmy x (hin x hx), hpw _ (Nat.le_refl _)⟩, fun x => ?_⟩
  rw [hmem]
  cases hx : pmay x.p with
  | true => rw [lastP_stb hst (keepF_may l) hx]
  | false =>
    constructor
    · intro h
      have := hmy x (lastP_mem h).1
      rw [hx] at this; cases this
    · intro h
      have := keepF_may l x (lastP_mem h).1
      rw [hx] at this; cases this
theorem sort_same (l : List Rt) : tsortF l = rsortF l :=
  Go.Kb.Ord.ext (tsort_ok l).1 (rsort_ok l).1 fun x => ((tsort_ok l).2 x).trans ((rsort_ok l).2 x).symm
theorem tsort_right (h : tright t = true) : tsortF t = t := by
  have ho := right_ord h
  have hk : keepF t = t := by rw [keepF, List.filter_eq_self]; exact fun x hx => ho.may x hx
  refine Go.Kb.Ord.ext (tsort_ok t).1 ho fun x => ?_
  rw [(tsort_ok t).2, hk]
  constructor
  · intro h; exact (lastP_mem h).1
  · intro hx
    cases hl : lastP t x.p with
    | some y =>
      obtain ⟨h1, h2⟩ := lastP_mem hl
      rw [ho.uniq h1 hx h2]
    | none =>
      have : (t.filter fun r => decide (r.p = x.p)) = [] := List.getLast?_eq_none_iff.1 hl
      have := List.filter_eq_nil_iff.1 this x hx
      simp at this
theorem get_rget (h : tright t = true) : getE t p = rgetE t p ∧ getH t p = rgetH t p := by
  have ho := right_ord h
  cases hp : pmay p with
  | false =>
    obtain ⟨e1, e2⟩ := rget_bad (t := t) hp
    have hok : getOk t p = false := by rw [getOk, hp, Bool.and_false]
    rw [e1, e2, getE, getH, if_neg (by rw [hok]; simp), if_neg (by rw [hok]; simp)]
    exact ⟨rfl, rfl⟩
  | true =>
    have hok : getOk t p = true := by rw [getOk, h, hp]; rfl
    by_cases hx : ∃ r ∈ t, r.p = p
    · obtain ⟨r, hr, rfl⟩ := hx
      obtain ⟨i, hi⟩ := List.mem_iff_getElem?.1 hr
      obtain ⟨e1, e2⟩ := rget_hit (t := t) hp (i := i) (e := r) (fun x hx => by
        obtain ⟨j, hj, hv⟩ := List.mem_take_iff_getElem.1 hx
        have hjx : t[j]? = some x := by rw [List.getElem?_eq_getElem (by omega), hv]
        exact less_ne (ho.may x (List.mem_of_getElem? hjx)) (ho.at hjx hi (by omega))) hi rfl
      obtain ⟨e3, e4⟩ := get_of h hr
      rw [e1, e2, e3, e4]; exact ⟨rfl, rfl⟩
    · obtain ⟨e1, e2⟩ := rget_no (t := t) hp fun x hx' e => hx ⟨x, hx', e⟩
      rw [e1, e2]
      cases hf : getF t p with
      | some r =>
        have : getE t p = 0 := by rw [getE, if_pos hok, hf]; rfl
        obtain ⟨r', h1, h2, _⟩ := get_in h this
        exact absurd ⟨r', h1, h2⟩ hx
      | none => rw [getE, getH, if_pos hok, if_pos hok, hf]; exact ⟨rfl, rfl⟩
theorem ask_wrong (h : tright t = false) {l : List Ch} : getE t p = 1 ∧ getH t p = 0 ∧ bestE t k bits = 1 ∧ bestR t k bits = zroute ∧ appE t l = 1 ∧ appL t l = t ∧ undT t p = [] := by
  have hok : getOk t p = false := by rw [getOk, h]; rfl
  have hb : bestO t k bits = false := by rw [bestO, h]; rfl
  have he : appE t l = 1 := if_neg (by rw [h]; simp)
  refine ⟨by rw [getE, if_neg (by rw [hok]; simp)], by rw [getH, if_neg (by rw [hok]; simp)], by rw [bestE, if_neg (by rw [hb]; simp)], by rw [bestR, if_neg (by rw [hb]; simp)], he, by rw [appL, if_neg (by rw [he]; decide)], by rw [undT, if_neg (by rw [hok]; simp)]⟩
theorem tsort_len (l : List Rt) : (tsortF l).length ≤ l.length := by
  have h1 := ddF_length (srt rkR (keepF l)) (srt rkR (keepF l)).length
  have h2 := (srt_stb (f := rkR) (keepF l)).length
  have h3 := keepF_length l
  unfold tsortF
  omega
theorem undF_len (t : List Rt) (p : Pfx) : (undF t p).length ≤ t.length := List.length_filter_le _ _
theorem apF_right {t : List Rt} (h : tright t = true) : ∀ l : List Ch, tright (appF t l).1 = true := by
  intro l
  induction l generalizing t with
  | nil => exact h
  | cons c l ih =>
    rw [appF]; split
    · exact ih (chg_right h c)
    · exact h
theorem apL_right {t : List Rt} (h : tright t = true) (l : List Ch) : tright (appL t l) = true := by
  unfold appL; split
  · exact apF_right h l
  · exact h

end Go.Eng

/- Layer 3 awake. -/
namespace Go.Proofs.YtldkgicmfbofiaaGreatDoor
open Go.Eng Go.Kb

def a3k1 : Key := BitVec.ofNat 128 (10 * 2 ^ 120)
def a3k2 : Key := BitVec.ofNat 128 (10 * 2 ^ 120 + 1 * 2 ^ 112)
def a3k3 : Key := BitVec.ofNat 128 (10 * 2 ^ 120 + 1 * 2 ^ 112 + 2 * 2 ^ 104 + 3 * 2 ^ 96)
def a3r1 : Rt := ⟨⟨32, 8, a3k1⟩, 1⟩
def a3r2 : Rt := ⟨⟨32, 16, a3k2⟩, 2⟩
def a3c1 : Ch := ⟨a3r1, false⟩
def a3c2 : Ch := ⟨a3r2, false⟩
theorem aw3_0 : (appL [] [a3c2, a3c1]) = [a3r1, a3r2] := by decide +kernel
theorem aw3_1 : appE [] [a3c2, a3c1] = 0 := by decide +kernel
theorem aw3_2 : bestE (appL [] [a3c2, a3c1]) a3k3 32 = 0 := by rw [aw3_0]; decide +kernel
theorem aw3_3 : bestR (appL [] [a3c2, a3c1]) a3k3 32 = a3r2 := by rw [aw3_0]; decide +kernel
theorem aw3_4 : getE (appL [] [a3c2, a3c1]) a3r1.p = 0 := by rw [aw3_0]; decide +kernel
theorem aw3_5 : getH (appL [] [a3c2, a3c1]) a3r1.p = 1 := by rw [aw3_0]; decide +kernel
theorem aw3_6 : tright (appL [] [a3c2, a3c1]) = true := by rw [aw3_0]; decide +kernel
theorem aw3_7 : (undT (appL [] [a3c2, a3c1]) a3r1.p).length = 2 := by rw [aw3_0]; decide +kernel
theorem aw3_8 : (tsortF [bestR (appL [] [a3c2, a3c1]) a3k3 32, bestR (appL [] [a3c2, a3c1]) a3k3 32]).length = 1 := by rw [aw3_3]; decide +kernel
theorem aw3_9 : a3r2.hop = 2 := rfl
set_option maxRecDepth 20000 in
theorem aw03_c (w : World)   : Calls Tryz.prog 4 #[] w fun e w' => e = .returned (.bool true) ∧ Mem w [] w' := by
 refine calls_of (args := []) Tryz.func4 rfl Tryz.ntmps4 rfl ?_
 change Cw _ _ _ _ _ [] []
 refine cw_seq ?_
 refine cw_region ?_
 refine sq_r (ry_assign rfl) ?_
 refine sq_nil ?_
 refine ex_then ?_
 refine cw_seq ?_
 refine cw_region ?_
 refine sq_r (ry_build (v := .agg (kcells a3k1)) rfl (fun w => by kernel_rfl)) ?_
 refine sq_r (ry_build (v := .agg (pcells a3r1.p)) rfl (fun w => by kernel_rfl)) ?_
 refine sq_r (ry_build (v := .agg (kcells a3k2)) rfl (fun w => by kernel_rfl)) ?_
 refine sq_r (ry_build (v := .agg (pcells a3r2.p)) rfl (fun w => by kernel_rfl)) ?_
 refine sq_allocA fun b1 => ?_
 refine sq_allocA fun b2 => ?_
 refine sq_storeW rfl rfl ?_
 refine sq_storeW rfl rfl ?_
 refine sq_nil ?_
 refine ex_then ?_
 refine cw_seq ?_
 refine cw_region ?_
 refine sq_r (ry_whole rfl) ?_
 refine sq_r (ry_build (v := .agg (rcells a3r2)) rfl (fun w => by kernel_rfl)) ?_
 refine sq_r (ry_build (v := .agg (chcells a3c2)) rfl (fun w => by kernel_rfl)) ?_
 refine sq_r (ry_whole rfl) ?_
 refine sq_r (ry_build (v := .agg (rcells a3r1)) rfl (fun w => by kernel_rfl)) ?_
 refine sq_r (ry_build (v := .agg (chcells a3c1)) rfl (fun w => by kernel_rfl)) ?_
 refine sq_buildSlice (enc := chcells) (vals := [_, _]) [a3c2, a3c1] rfl rfl rfl (by decide) (by decide) fun b20 => ?_
 refine sq_callC (vs := [Sv.none.val, _]) rfl (by simp) fun x21 hp21 => ?_
 refine sq_r (ry_move rfl) ?_
 refine sq_r (ry_extract (v := x21.val) rfl rfl) ?_
 refine sq_r (ry_extract (v := .int .i64 (appE [] [a3c2, a3c1])) rfl rfl) ?_
 refine sq_r (ry_assign rfl) ?_
 refine sq_r (ry_assign rfl) ?_
 refine sq_nil ?_
 refine ex_then ?_
 refine cw_seq ?_
 refine cw_region ?_
 refine sq_r (ry_move rfl) ?_
 refine sq_r (ry_build (v := .agg (kcells a3k3)) rfl (fun w => by kernel_rfl)) ?_
 refine sq_y (yl_callC rfl trivial) ?_
 refine sq_r (ry_move rfl) ?_
 refine sq_r (ry_extract (v := .agg (rcells (bestR (appL [] [a3c2, a3c1]) a3k3 32))) rfl rfl) ?_
 refine sq_r (ry_extract (v := .int .i64 (bestE (appL [] [a3c2, a3c1]) a3k3 32)) rfl rfl) ?_
 refine sq_allocA fun b5 => ?_
 refine sq_storeW rfl rfl ?_
 refine sq_r (ry_assign rfl) ?_
 refine sq_nil ?_
 refine ex_then ?_
 refine cw_seq ?_
 refine cw_region ?_
 refine sq_r (ry_move rfl) ?_
 refine sq_r (ry_whole rfl) ?_
 refine sq_y (yl_callC rfl trivial) ?_
 refine sq_r (ry_move rfl) ?_
 refine sq_r (ry_extract (v := .int .u16 ((getH (appL [] [a3c2, a3c1]) a3r1.p).toNat : Nat)) rfl rfl) ?_
 refine sq_r (ry_extract (v := .int .i64 (getE (appL [] [a3c2, a3c1]) a3r1.p)) rfl rfl) ?_
 refine sq_r (ry_assign rfl) ?_
 refine sq_r (ry_assign rfl) ?_
 refine sq_nil ?_
 refine ex_then ?_
 refine cw_seq ?_
 refine cw_region ?_
 refine sq_r (ry_move rfl) ?_
 refine sq_r (ry_int rfl rfl rfl) ?_
 refine sq_r (ry_move rfl) ?_
 refine sq_ty rfl rfl rfl (by simp [aw3_1, aw3_2, aw3_3, aw3_4, aw3_5, aw3_6, aw3_7, aw3_8, aw3_9]) (Ry.yl (ry_move rfl)) ?_
 refine sq_ty rfl rfl rfl (by simp [aw3_1, aw3_2, aw3_3, aw3_4, aw3_5, aw3_6, aw3_7, aw3_8, aw3_9]) (Ry.yl (ry_int rfl rfl rfl)) ?_
 refine sq_r (ry_pickT rfl (by simp [aw3_1, aw3_2, aw3_3, aw3_4, aw3_5, aw3_6, aw3_7, aw3_8, aw3_9]) rfl rfl) ?_
 refine sq_r (ry_move rfl) ?_
 refine sq_ty rfl rfl rfl (by simp [aw3_1, aw3_2, aw3_3, aw3_4, aw3_5, aw3_6, aw3_7, aw3_8, aw3_9]) (Ry.yl (ry_move rfl)) ?_
 refine sq_ty rfl rfl rfl (by simp [aw3_1, aw3_2, aw3_3, aw3_4, aw3_5, aw3_6, aw3_7, aw3_8, aw3_9]) (Ry.yl (ry_int rfl rfl rfl)) ?_
 refine sq_r (ry_pickT rfl (by simp [aw3_1, aw3_2, aw3_3, aw3_4, aw3_5, aw3_6, aw3_7, aw3_8, aw3_9]) rfl rfl) ?_
 refine sq_r (ry_move rfl) ?_
 refine sq_ty rfl rfl rfl (by simp [aw3_1, aw3_2, aw3_3, aw3_4, aw3_5, aw3_6, aw3_7, aw3_8, aw3_9]) (Ry.yl (ry_field (o' := 18) rfl rfl)) ?_
 refine sq_ty rfl rfl rfl (by simp [aw3_1, aw3_2, aw3_3, aw3_4, aw3_5, aw3_6, aw3_7, aw3_8, aw3_9]) (Ry.yl (ry_cellc rfl)) ?_
 refine sq_ty rfl rfl rfl (by simp [aw3_1, aw3_2, aw3_3, aw3_4, aw3_5, aw3_6, aw3_7, aw3_8, aw3_9]) (Ry.yl (ry_int rfl rfl rfl)) ?_
 refine sq_r (ry_pickT rfl (by simp [aw3_1, aw3_2, aw3_3, aw3_4, aw3_5, aw3_6, aw3_7, aw3_8, aw3_9]) rfl rfl) ?_
 refine sq_r (ry_move rfl) ?_
 refine sq_ty rfl rfl rfl (by simp [aw3_1, aw3_2, aw3_3, aw3_4, aw3_5, aw3_6, aw3_7, aw3_8, aw3_9]) (Ry.yl (ry_move rfl)) ?_
 refine sq_ty rfl rfl rfl (by simp [aw3_1, aw3_2, aw3_3, aw3_4, aw3_5, aw3_6, aw3_7, aw3_8, aw3_9]) (Ry.yl (ry_int rfl rfl rfl)) ?_
 refine sq_r (ry_pickT rfl (by simp [aw3_1, aw3_2, aw3_3, aw3_4, aw3_5, aw3_6, aw3_7, aw3_8, aw3_9]) rfl rfl) ?_
 refine sq_r (ry_move rfl) ?_
 refine sq_ty rfl rfl rfl (by simp [aw3_1, aw3_2, aw3_3, aw3_4, aw3_5, aw3_6, aw3_7, aw3_8, aw3_9]) (Ry.yl (ry_move rfl)) ?_
 refine sq_ty rfl rfl rfl (by simp [aw3_1, aw3_2, aw3_3, aw3_4, aw3_5, aw3_6, aw3_7, aw3_8, aw3_9]) (yl_callC rfl trivial) ?_
 refine sq_r (ry_pickT rfl (by simp [aw3_1, aw3_2, aw3_3, aw3_4, aw3_5, aw3_6, aw3_7, aw3_8, aw3_9]) rfl rfl) ?_
 refine sq_r (ry_move rfl) ?_
 refine sq_ty rfl rfl rfl (by simp [aw3_1, aw3_2, aw3_3, aw3_4, aw3_5, aw3_6, aw3_7, aw3_8, aw3_9]) (Ry.yl (ry_move rfl)) ?_
 refine sq_ty rfl rfl rfl (by simp [aw3_1, aw3_2, aw3_3, aw3_4, aw3_5, aw3_6, aw3_7, aw3_8, aw3_9]) (Ry.yl (ry_whole rfl)) ?_
 refine sq_tcallC rfl rfl (by simp [aw3_1, aw3_2, aw3_3, aw3_4, aw3_5, aw3_6, aw3_7, aw3_8, aw3_9]) rfl (by rw [aw3_0]; decide) fun x62 hp62 => ?_
 refine sq_ty rfl rfl rfl (by simp [aw3_1, aw3_2, aw3_3, aw3_4, aw3_5, aw3_6, aw3_7, aw3_8, aw3_9]) (Ry.yl (ry_lenH rfl)) ?_
 refine sq_ty rfl rfl rfl (by simp [aw3_1, aw3_2, aw3_3, aw3_4, aw3_5, aw3_6, aw3_7, aw3_8, aw3_9]) (Ry.yl (ry_int rfl rfl rfl)) ?_
 refine sq_r (ry_pickT rfl (by simp [aw3_1, aw3_2, aw3_3, aw3_4, aw3_5, aw3_6, aw3_7, aw3_8, aw3_9]) rfl rfl) ?_
 refine sq_r (ry_move rfl) ?_
 refine sq_ty rfl rfl rfl (by simp [aw3_1, aw3_2, aw3_3, aw3_4, aw3_5, aw3_6, aw3_7, aw3_8, aw3_9]) (Ry.yl (ry_whole rfl)) ?_
 refine sq_ty rfl rfl rfl (by simp [aw3_1, aw3_2, aw3_3, aw3_4, aw3_5, aw3_6, aw3_7, aw3_8, aw3_9]) (Ry.yl (ry_whole rfl)) ?_
 refine sq_gd rfl rfl (by simp [aw3_1, aw3_2, aw3_3, aw3_4, aw3_5, aw3_6, aw3_7, aw3_8, aw3_9]) ?_
 refine sq_buildSlice (enc := rcells) (vals := [_, _]) [(bestR (appL [] [a3c2, a3c1]) a3k3 32), (bestR (appL [] [a3c2, a3c1]) a3k3 32)] rfl rfl rfl (by decide) (by decide) fun b69 => ?_
 refine sq_tcallC rfl rfl (by simp [aw3_1, aw3_2, aw3_3, aw3_4, aw3_5, aw3_6, aw3_7, aw3_8, aw3_9]) rfl (by simp) fun x70 hp70 => ?_
 refine sq_ty rfl rfl rfl (by simp [aw3_1, aw3_2, aw3_3, aw3_4, aw3_5, aw3_6, aw3_7, aw3_8, aw3_9]) (Ry.yl (ry_lenH rfl)) ?_
 refine sq_ty rfl rfl rfl (by simp [aw3_1, aw3_2, aw3_3, aw3_4, aw3_5, aw3_6, aw3_7, aw3_8, aw3_9]) (Ry.yl (ry_int rfl rfl rfl)) ?_
 refine sq_r (ry_pickT rfl (by simp [aw3_1, aw3_2, aw3_3, aw3_4, aw3_5, aw3_6, aw3_7, aw3_8, aw3_9]) rfl rfl) ?_
 refine sq_r (ry_assign rfl) ?_
 refine sq_nil ?_
 refine ex_then ?_
 refine cw_ret ?_
 refine ex_ret (.inl rfl) (res_1 rfl (rv_tmp rfl)) (fun w1 hw => ?_)
 exact ⟨congrArg (fun b => Ending.returned (Value.bool b)) ((by simp [aw3_8])), Keep.mem hw⟩
instance aw03_i {w0 : World} {L : List Ent}   : FnQ Tryz.prog 4 w0 L [] (.bool true) (True) := ⟨fun hp w hw => aw03_c w  ⟩

instance (p : Pfx) : BuildT Tryz.prog 32 [(0, .agg (pcells p))] (.agg (rcells ⟨p, 0⟩)) := ⟨fun w => by kernel_rfl⟩
instance (r : Rt) : BuildT Tryz.prog 44 [(0, .agg (rcells r)), (1, .bool true)] (.agg (chcells ⟨r, true⟩)) := ⟨fun w => by kernel_rfl⟩

end Go.Proofs.YtldkgicmfbofiaaGreatDoor

/- What the laws of routes say, of texts told and read. No program in sight. -/
namespace Go.Kb
open Go.Eng
variable {s : Txt} {k : Key} {n : Int} {a b r : Rt} {p : Pfx}
theorem lineS_len (r : Rt) : (lineS r).length ≤ 42 := by
  unfold lineS
  split
  · rename_i h
    have hp := pfxS_len r.p
    rw [pfxS, if_pos h] at hp
    have hd := dec_len 5 r.hop.toNat (Nat.lt_trans (UInt16.toNat_lt _) (by decide)) (by decide)
    simp only [lineT, List.length_append, List.length_cons]; omega
  · simp
theorem line_back (h : pmay r.p = true) : rlR (lineS r) = r ∧ rlE (lineS r) = 0 := by
  have hl := lineS_len r
  refine rl_some (by omega) (line_iff.2 ⟨h, ?_⟩)
  rw [lineS, if_pos h]
theorem rl_yes (he : rlE s = 0) : pmay (rlR s).p = true ∧ lineS (rlR s) = s := by
  by_cases hl : 60 < s.length
  · rw [(rl_long hl).2] at he; cases he
  · cases e : lineO s with
    | none => rw [(rl_none hl e).2] at he; cases he
    | some r =>
      rw [(rl_some hl e).1]
      obtain ⟨h1, h2⟩ := line_iff.1 e
      exact ⟨h1, by rw [lineS, if_pos h1, h2]⟩
theorem rl_not (he : ¬ rlE s = 0) : rlR s = zroute := by
  by_cases hl : 60 < s.length
  · exact (rl_long hl).1
  · cases e : lineO s with
    | none => exact (rl_none hl e).1
    | some r => exact absurd (rl_some hl e).2 he
theorem rk_yes (he : rkE s = 0) : keyB (rkK s) ((rkN s : Nat) : Int) = true ∧ keyS (rkK s) ((rkN s : Nat) : Int) = s := by
  have hl : s.length ≤ 60 := by
    rcases Nat.lt_or_ge 60 s.length with h | h
    · rw [(rk_long h).2.2] at he; cases he
    · exact h
  obtain ⟨e, _⟩ := rk_ok hl he
  obtain ⟨h1, h2⟩ := key_iff.1 e
  exact ⟨h1, by rw [keyS, if_pos (show keyB (rkK s) ((rkN s : Nat) : Int) = true from h1)]; exact h2.symm⟩
theorem rk_not (he : ¬ rkE s = 0) : rkK s = 0#128 ∧ rkN s = 0 := by
  by_cases hl : 60 < s.length
  · exact ⟨(rk_long hl).1, (rk_long hl).2.1⟩
  · have e := rk_no (by omega) he
    simp [rkK, rkN, hl, e]
theorem key_back (h : keyB k n = true) : rkK (keyS k n) = k ∧ ((rkN (keyS k n) : Nat) : Int) = n ∧ rkE (keyS k n) = 0 := by
  have hl := keyS_len k n
  have e : keyO (keyS k n) = some (k, n) := key_iff.2 ⟨h, by rw [keyS, if_pos h]⟩
  have hn := (keyB_iff.1 h).1
  have h60 : ¬ 60 < (keyS k n).length := by omega
  refine ⟨by rw [rkK, if_neg h60, e], by rw [rkN, if_neg h60, e]; simp only; omega, by rw [rkE, if_neg h60, e]⟩
theorem pfx_back (h : pmay p = true) : rpP (pfxS p) = p ∧ rpE (pfxS p) = 0 := by
  have hl := pfxS_len p
  exact rp_some (by omega) (pfx_iff.2 ⟨h, by rw [pfxS, if_pos h]⟩)
theorem whole_pfx (h : keyB k n = true) : pfxS ⟨n, n, k⟩ = keyS k n ++ 47 :: dec n.toNat := by
  rw [pfxS, if_pos (show pmay ⟨n, n, k⟩ = true from h), pfxT, keyS, if_pos h]
theorem whole_len (h : keyB k n = true) : (keyS k n).length < (pfxS ⟨n, n, k⟩).length := by rw [whole_pfx h, List.length_append, List.length_cons]; omega
theorem whole_take (h : keyB k n = true) : (pfxS ⟨n, n, k⟩).take (keyS k n).length = keyS k n := by rw [whole_pfx h, List.take_left]
theorem whole_at (h : keyB k n = true) : ((pfxS ⟨n, n, k⟩).getD (keyS k n).length 0).toNat = 47 := by
  rw [whole_pfx h, List.getD, List.getElem?_append_right (Nat.le_refl _), Nat.sub_self]; rfl
theorem err_yes {b : Bool} (h : b = true) : errB b = 0 := by rw [errB, if_pos h]
theorem err_zero {b : Bool} : errB b = 0 ↔ b = true := by cases b <;> simp [errB]
def AWL : Txt := [49, 48, 46, 49, 46, 48, 46, 48, 47, 49, 54, 32, 55]
def AWK : Txt := [50, 48, 48, 49, 48, 100, 98, 56, 48, 48, 48, 48, 48, 48, 48, 48, 48, 48, 48, 48, 48, 48, 48, 48, 48, 48, 48, 48, 48, 48, 48, 49]
theorem aw_1 : rlE [49, 48, 46, 49, 46, 48, 46, 48, 47, 49, 54, 32, 55] = 0 := by decide +kernel
theorem aw_2 : (rlR [49, 48, 46, 49, 46, 48, 46, 48, 47, 49, 54, 32, 55]).hop.toNat = 7 := by decide +kernel
theorem aw_3 : (rlR [49, 48, 46, 49, 46, 48, 46, 48, 47, 49, 54, 32, 55]).p.len = 16 := by decide +kernel
theorem aw_4 : errB (pmay (rlR [49, 48, 46, 49, 46, 48, 46, 48, 47, 49, 54, 32, 55]).p) = 0 := err_yes (rl_yes aw_1).1
theorem aw_5 : lineS (rlR [49, 48, 46, 49, 46, 48, 46, 48, 47, 49, 54, 32, 55]) = [49, 48, 46, 49, 46, 48, 46, 48, 47, 49, 54, 32, 55] := (rl_yes aw_1).2
theorem aw_6 : rkE [50, 48, 48, 49, 48, 100, 98, 56, 48, 48, 48, 48, 48, 48, 48, 48, 48, 48, 48, 48, 48, 48, 48, 48, 48, 48, 48, 48, 48, 48, 48, 49] = 0 := by decide +kernel
theorem aw_7 : rkN [50, 48, 48, 49, 48, 100, 98, 56, 48, 48, 48, 48, 48, 48, 48, 48, 48, 48, 48, 48, 48, 48, 48, 48, 48, 48, 48, 48, 48, 48, 48, 49] = 128 := by decide +kernel
theorem aw_8 : kbyte (rkK [50, 48, 48, 49, 48, 100, 98, 56, 48, 48, 48, 48, 48, 48, 48, 48, 48, 48, 48, 48, 48, 48, 48, 48, 48, 48, 48, 48, 48, 48, 48, 49]) 1 = 1 := by decide +kernel
theorem aw_9 : kbyte (rkK [50, 48, 48, 49, 48, 100, 98, 56, 48, 48, 48, 48, 48, 48, 48, 48, 48, 48, 48, 48, 48, 48, 48, 48, 48, 48, 48, 48, 48, 48, 48, 49]) 15 = 1 := by decide +kernel
end Go.Kb

/- A table's routes, turned about: sorted they are the table. No program in sight. -/
namespace Go.Kb
open Go.Eng
variable {t l : List Rt}
theorem tsort_same (h : tright t = true) (hm : ∀ x, x ∈ l ↔ x ∈ t) : tsortF l = t := by
  have ho := right_ord h
  have hk : keepF l = l := by rw [keepF, List.filter_eq_self]; exact fun x hx => ho.may x ((hm x).1 hx)
  refine Go.Kb.Ord.ext (tsort_ok l).1 ho fun x => ?_
  rw [(tsort_ok l).2, hk]
  constructor
  · intro h; exact (hm x).1 (lastP_mem h).1
  · intro hx
    cases hl : lastP l x.p with
    | some y =>
      obtain ⟨h1, h2⟩ := lastP_mem hl
      rw [ho.uniq ((hm y).1 h1) hx h2]
    | none =>
      have : (l.filter fun r => decide (r.p = x.p)) = [] := List.getLast?_eq_none_iff.1 hl
      have := List.filter_eq_nil_iff.1 this x ((hm x).2 hx)
      simp at this
theorem set_get {α : Type} {xs : List α} {i j : Nat} {a b : α} (hi : xs[i]? = some a) (hj : xs[j]? = some b) : (xs.set i b)[j]? = some b := by
  by_cases e : i = j
  · subst e; rw [List.getElem?_set_self (List.getElem?_eq_some_iff.1 hi).1]
  · rw [List.getElem?_set_ne e]; exact hj
theorem swap_mem {α : Type} {xs : List α} {i j : Nat} {a b : α} (hi : xs[i]? = some a) (hj : xs[j]? = some b) (x : α) : x ∈ (xs.set i b).set j a ↔ x ∈ xs := by
  have hil := (List.getElem?_eq_some_iff.1 hi).1
  have hjl := (List.getElem?_eq_some_iff.1 hj).1
  have hg : ∀ k, ((xs.set i b).set j a)[k]? = if k = j then some a else if k = i then some b else xs[k]? := fun k => by
    by_cases e1 : k = j
    · subst e1; rw [if_pos rfl, List.getElem?_set_self (by simpa using hjl)]
    · rw [if_neg e1, List.getElem?_set_ne (fun e => e1 e.symm)]
      by_cases e2 : k = i
      · subst e2; rw [if_pos rfl, List.getElem?_set_self hil]
      · rw [if_neg e2, List.getElem?_set_ne (fun e => e2 e.symm)]
  constructor
  · intro h
    obtain ⟨k, hk⟩ := List.getElem?_of_mem h
    rw [hg] at hk
    split at hk
    · rw [← Option.some.inj hk]; exact List.mem_of_getElem? hi
    · split at hk
      · rw [← Option.some.inj hk]; exact List.mem_of_getElem? hj
      · exact List.mem_of_getElem? hk
  · intro h
    obtain ⟨k, hk⟩ := List.getElem?_of_mem h
    by_cases e1 : k = j
    · refine List.mem_of_getElem? (i := i) ?_
      rw [hg]
      subst e1
      rw [hj] at hk
      split
      · rename_i e; subst e; rw [hi] at hj; rw [← hk]; exact hj
      · rw [if_pos rfl]; exact hk
    · by_cases e2 : k = i
      · refine List.mem_of_getElem? (i := j) ?_
        rw [hg, if_pos rfl]
        subst e2
        rw [hi] at hk; exact hk
      · refine List.mem_of_getElem? (i := k) ?_
        rw [hg, if_neg e1, if_neg e2]; exact hk
end Go.Kb

/- The law of order: walked. -/
namespace Go.Proofs.YtldkgicmfbofiaaGreatDoor
open Go.Eng Go.Kb
set_option maxRecDepth 20000 in
theorem tableOrder_c (w : World) [tb : Tabs w] (t : Sv) (ts : List Rt) (u : Sv) (us : List UInt8) (ht : Lies rcells 19 (hp w) t ts) (hu : Lies benc 1 (hp w) u us) : Calls Tryz.prog 3 #[t.val, u.val] w fun e w' => e = .returned (.bool true) ∧ Mem w [] w' := by
  have ght : Gv w t rcells 19 ts := ⟨ht⟩
  have ghu : Gv w u benc 1 us := ⟨hu⟩
  refine calls_of (args := [_, _]) Tryz.func3 rfl Tryz.ntmps3 rfl ?_
  change Cw _ _ _ _ _ [(0, t.val), (1, u.val)] []
  refine cw_seq ?_
  refine cw_region ?_
  refine sq_r (ry_assign rfl) ?_
  refine sq_nil ?_
  refine ex_then ?_
  refine cw_seq ?_
  refine cw_seq ?_
  refine cw_region ?_
  refine sq_y (yl_callC rfl trivial) ?_
  refine sq_r (ry_not rfl) ?_
  refine sq_nil ?_
  refine ex_then ?_
  refine cw_cond rfl (fun h0 => ?_) (fun h0 => ?_)
  · exfalso; simp at h0
  · try simp only [bz0, bz1, bz2, bz3, bz4, bz5, bz6, bz7, bz8, bz9] at h0
    refine cw_skip ?_
    refine ex_then ?_
    refine cw_seq ?_
    refine cw_seq ?_
    refine cw_region ?_
    refine sq_r (ry_move rfl) ?_
    refine sq_r (ry_lenH rfl) ?_
    refine sq_r (ry_int rfl rfl rfl) ?_
    refine sq_r (ry_move rfl) ?_
    refine sq_gf rfl rfl rfl (fun hg => (Ry.yl (ry_move rfl))) ?_
    refine sq_gf rfl rfl rfl (fun hg => yl_callC (evl_cons (ev_c hg rfl) evl_nil) trivial) ?_
    refine sq_gf rfl rfl rfl (fun hg => (Ry.yl (ry_not (ev_c hg rfl)))) ?_
    refine sq_r (ry_or rfl rfl rfl) ?_
    refine sq_nil ?_
    refine ex_then ?_
    refine cw_cond rfl (fun h1 => ?_) (fun h1 => ?_)
    · try simp only [bz0, bz1, bz2, bz3, bz4, bz5, bz6, bz7, bz8, bz9] at h1
      refine cw_seq ?_
      refine cw_region ?_
      refine sq_r (ry_assign rfl) ?_
      refine sq_nil ?_
      refine ex_then ?_
      refine cw_ret ?_
      refine ex_pass_ret ?_
      refine ex_ret (.inl rfl) (res_1 rfl (rv_tmp rfl)) (fun w1 hw => ?_)
      exact ⟨congrArg (fun b => Ending.returned (Value.bool b)) ((by rfl)), Keep.mem hw⟩
    · try simp only [bz0, bz1, bz2, bz3, bz4, bz5, bz6, bz7, bz8, bz9] at h1
      obtain ⟨h60, hr0⟩ := h1
      have hr : tright ts = true := by simpa using hr0
      have ho := right_ord hr
      refine cw_skip ?_
      refine ex_then ?_
      refine cw_seq ?_
      refine cw_region ?_
      refine sq_build0 rcells fun b27 => ?_
      refine sq_r (ry_move rfl) ?_
      refine sq_append (s := ⟨false, b27, 0, 0, 0, none⟩) (ys := ts) rfl rfl (by decide) (fun w hw => src_rows (s := t) Tryz.underlying22 (by decide) ((inferInstance : Hd _ _ t rcells 19 ts).h w hw)) (by simp only [List.length_append, List.length_cons, List.length_nil]; omega) (by simp only [List.length_append, List.length_cons, List.length_nil]; omega) fun s29 hs29 hl29 => ?_
      refine sq_r (ry_assign rfl) ?_
      refine sq_nil ?_
      refine ex_then ?_
      refine cw_seq ?_
      refine cw_seq ?_
      refine cw_region ?_
      refine sq_r (ry_assign rfl) ?_
      refine sq_nil ?_
      refine ex_then ?_
      refine cw_block ?_
      refine cw_loop (X := Nat × List Rt) (fun zz => [(6, .int .i64 (zz.1 : Nat)), (5, s29.val), (0, t.val), (1, u.val)]) (fun zz => [own rcells 19 s29 zz.2]) (fun zz => zz.1 ≤ us.length ∧ zz.2.length = ts.length ∧ ∀ x, x ∈ zz.2 ↔ x ∈ ts) (fun zz => us.length - zz.1) (0, [] ++ ts) ⟨Nat.zero_le _, rfl, fun x => Iff.rfl⟩ (Sub.cons rfl (Sub.cons rfl (Sub.cons rfl (Sub.cons rfl (Sub.nil _))))) (fun w hw => Keep.mem hw) ?_
      rintro ⟨i, l⟩ ⟨hi, hl, hmem⟩
      dsimp only
      simp only at hi hl hmem
      refine cw_seq ?_
      refine cw_seq ?_
      refine cw_region ?_
      refine sq_r (ry_move rfl) ?_
      refine sq_r (ry_move rfl) ?_
      refine sq_r (ry_lenH rfl) ?_
      refine sq_r (ry_int rfl rfl rfl) ?_
      refine sq_r (ry_move rfl) ?_
      refine sq_gt rfl rfl rfl (fun hg => (Ry.yl (ry_move rfl))) ?_
      refine sq_gt rfl rfl rfl (fun hg => (Ry.yl (ry_int (ev_c hg rfl) rfl rfl))) ?_
      refine sq_r (ry_and rfl rfl rfl) ?_
      refine sq_r (ry_move rfl) ?_
      refine sq_gt rfl rfl rfl (fun hg => (Ry.yl (ry_move rfl))) ?_
      refine sq_gt rfl rfl rfl (fun hg => (Ry.yl (ry_lenH (ev_c hg rfl)))) ?_
      refine sq_gt rfl rfl rfl (fun hg => (Ry.yl (ry_int (ev_c hg rfl) rfl rfl))) ?_
      refine sq_r (ry_and rfl rfl rfl) ?_
      refine sq_nil ?_
      refine ex_then ?_
      refine cw_cond rfl (fun h2 => ?_) (fun h2 => ?_)
      · try simp only [bz0, bz1, bz2, bz3, bz4, bz5, bz6, bz7, bz8, bz9] at h2
        refine cw_skip ?_
        refine ex_then ?_
        refine cw_seq ?_
        refine cw_block ?_
        refine cw_seq ?_
        refine cw_quiet (by kernel_rfl) (by kernel_rfl) ?_
        refine qt_r (ry_move rfl) ?_
        refine qt_r (ry_move rfl) ?_
        refine qt_r (ry_lenH rfl) ?_
        refine qt_r (ry_remn (p := i) (q := l.length) rfl rfl rfl rfl (by omega)) ?_
        refine qt_r (ry_move rfl) ?_
        refine qt_r (ry_move rfl) ?_
        obtain ⟨e, he⟩ := get_some (xs := us) (i := i) (by omega)
        refine qt_r (ry_idxH rfl rfl i rfl (by omega)) ?_
        refine qt_r (ry_elemcH (j := 0) rfl i he rfl (by decide)) ?_
        refine qt_r (ry_conv_u8 rfl) ?_
        refine qt_r (ry_move rfl) ?_
        refine qt_r (ry_lenH rfl) ?_
        refine qt_r (ry_remn (p := e.toNat) (q := l.length) rfl rfl rfl rfl (by omega)) ?_
        refine qt_r (ry_assign rfl) ?_
        refine qt_r (ry_assign rfl) ?_
        refine qt_nil ?_
        refine ex_then ?_
        have ha : (i % l.length) < l.length := Nat.mod_lt _ (by omega)
        have hb : (e.toNat % l.length) < l.length := Nat.mod_lt _ (by omega)
        obtain ⟨x, hx⟩ : ∃ x, l[(i % l.length)]? = some x := ⟨_, List.getElem?_eq_getElem ha⟩
        obtain ⟨y, hy⟩ : ∃ y, l[(e.toNat % l.length)]? = some y := ⟨_, List.getElem?_eq_getElem hb⟩
        refine cw_lin [13, 15, 1006, 1007, 1010, 1011, 1012, 1014] [[], [], [], [], [], [], [], [6], [], [], [], [10], [6, 7, 10, 11], [6, 7, 10, 11, 12], [6, 7, 10, 11, 12, 13], [6, 7, 10, 11, 12, 13, 14]] [0, 1, 2, 3, 4, 5, 6, 7, 8, 9, 10, 11, 12, 13, 14, 15] [] (fun _ hw => Keep.mem hw) (by kernel_rfl) (by kernel_rfl) ?_
        refine ln_r rfl (ry_move rfl) ?_
        refine ln_r rfl (ry_move rfl) ?_
        refine ln_r rfl (ry_move rfl) ?_
        refine ln_r rfl (ry_move rfl) ?_
        refine ln_r rfl (ry_move rfl) ?_
        refine ln_r rfl (ry_move rfl) ?_
        refine lt_r rfl (ry_idxH rfl rfl (e.toNat % l.length) rfl hb) ?_
        refine lt_r rfl (ry_elemH rfl (e.toNat % l.length) hy rfl) ?_
        refine ln_r rfl (ry_move rfl) ?_
        refine ln_r rfl (ry_move rfl) ?_
        refine lt_r rfl (ry_idxH rfl rfl (i % l.length) rfl ha) ?_
        refine lt_r rfl (ry_elemH rfl (i % l.length) hx rfl) ?_
        refine lt_r rfl (ry_idxH rfl rfl (i % l.length) rfl ha) ?_
        refine ln_st rfl (st_storeS (n := 19) (k := (i % l.length)) (j := 0) (a := x) (a' := y) (xs := l) (enc := rcells) (c := 19) (v := .agg (rcells y)) (by kernel_rfl) rfl rfl rfl hx (show (rcells y).all (·.oneCell') = true from Enc.one y) (rcells_size y) (by decide) (over_whole (by rw [rcells_size]; exact (rcells_size y).symm)) ⟨fun _ hw => Keep.mem hw, ?_⟩)
        refine lt_r rfl (ry_idxH rfl rfl (e.toNat % l.length) rfl (by rw [List.length_set]; exact hb)) ?_
        refine ln_st rfl (st_storeS (n := 19) (k := (e.toNat % l.length)) (j := 0) (a := y) (a' := x) (xs := (l.set (i % l.length) y)) (enc := rcells) (c := 19) (v := .agg (rcells x)) (by kernel_rfl) rfl rfl rfl (set_get hx hy) (show (rcells x).all (·.oneCell') = true from Enc.one x) (rcells_size x) (by decide) (over_whole (by rw [rcells_size]; exact (rcells_size x).symm)) ⟨fun _ hw => Keep.mem hw, ?_⟩)
        refine ln_nil ?_
        refine ex_block ?_
        refine ex_then ?_
        refine cw_region ?_
        refine sq_r (ry_move rfl) ?_
        refine sq_r (ry_add rfl rfl (by omega)) ?_
        refine sq_r (ry_assign rfl) ?_
        refine sq_nil ?_
        exact ex_again (x := (i, l)) (i + 1, ((l.set (i % l.length) y).set (e.toNat % l.length) x)) ⟨by first | omega | (simp only []; omega), by simp only [List.length_set]; exact hl, fun z => (swap_mem hx hy z).trans (hmem z)⟩ (by simp only; omega) (Sub.cons rfl (Sub.cons rfl (Sub.cons rfl (Sub.cons rfl (Sub.nil _))))) (fun w hw => Keep.mem hw)
      · try simp only [bz0, bz1, bz2, bz3, bz4, bz5, bz6, bz7, bz8, bz9] at h2
        refine cw_exit ?_
        refine ex_pass_exit ?_
        refine ex_pass_exit ?_
        refine ex_block_hit ?_
        refine ex_then ?_
        refine cw_seq ?_
        refine cw_region ?_
        refine sq_r (ry_assign rfl) ?_
        refine sq_nil ?_
        refine ex_then ?_
        refine cw_seq ?_
        refine cw_seq ?_
        refine cw_region ?_
        refine sq_r (ry_assign rfl) ?_
        refine sq_nil ?_
        refine ex_then ?_
        refine cw_block ?_
        refine cw_loop (X := Nat × Sv × List Rt) (fun zz => [(10, .int .i64 (zz.1 : Nat)), (9, zz.2.1.val), (0, t.val), (5, s29.val)]) (fun zz => [own rcells 19 zz.2.1 zz.2.2, own rcells 19 s29 l]) (fun zz => zz.1 ≤ l.length ∧ zz.2.2 = l.take zz.1) (fun zz => l.length - zz.1) (0, Sv.none, []) ⟨Nat.zero_le _, rfl⟩ (Sub.cons rfl (Sub.cons rfl (Sub.cons rfl (Sub.cons rfl (Sub.nil _))))) (fun w hw => Mem.nilOwn rcells 19 (Keep.mem hw)) ?_
        rintro ⟨i, o, q⟩ ⟨hj, hq⟩
        dsimp only
        simp only at hj hq
        have hql : q.length = i := by rw [hq, List.length_take]; omega
        refine cw_seq ?_
        refine cw_seq ?_
        refine cw_region ?_
        refine sq_r (ry_move rfl) ?_
        refine sq_r (ry_move rfl) ?_
        refine sq_r (ry_lenH rfl) ?_
        refine sq_r (ry_int rfl rfl rfl) ?_
        refine sq_nil ?_
        refine ex_then ?_
        refine cw_cond rfl (fun h3 => ?_) (fun h3 => ?_)
        · try simp only [bz0, bz1, bz2, bz3, bz4, bz5, bz6, bz7, bz8, bz9] at h3
          refine cw_skip ?_
          refine ex_then ?_
          refine cw_seq ?_
          refine cw_block ?_
          refine cw_seq ?_
          refine cw_region ?_
          refine sq_r (ry_move rfl) ?_
          refine sq_r (ry_move rfl) ?_
          obtain ⟨r, hr1⟩ := get_some (xs := l) (i := i) (by omega)
          refine sq_r (ry_idxH rfl rfl i rfl (by omega)) ?_
          refine sq_r (ry_elemH rfl i hr1 rfl) ?_
          refine sq_y (yl_callC rfl trivial) ?_
          refine sq_r (ry_move rfl) ?_
          refine sq_r (ry_extract (v := .string ⟨(lineS r).toArray⟩) rfl rfl) ?_
          refine sq_r (ry_extract (v := .int .i64 (errB (pmay r.p))) rfl rfl) ?_
          refine sq_r (ry_assign rfl) ?_
          refine sq_r (ry_assign rfl) ?_
          refine sq_nil ?_
          refine ex_then ?_
          refine cw_seq ?_
          refine cw_region ?_
          refine sq_r (ry_move rfl) ?_
          refine sq_y (yl_callC rfl (by have := lineS_len r; omega)) ?_
          refine sq_r (ry_move rfl) ?_
          refine sq_r (ry_extract (v := .agg (rcells (rlR (lineS r)))) rfl rfl) ?_
          refine sq_r (ry_extract (v := .int .i64 (rlE (lineS r))) rfl rfl) ?_
          refine sq_allocA fun b13 => ?_
          refine sq_storeW rfl rfl ?_
          refine sq_r (ry_assign rfl) ?_
          refine sq_nil ?_
          refine ex_then ?_
          refine cw_seq ?_
          refine cw_seq ?_
          have hm := ho.may r ((hmem r).1 (List.mem_of_getElem? hr1))
          obtain ⟨e1, e2⟩ := line_back hm
          refine cw_region ?_
          refine sq_r (ry_move rfl) ?_
          refine sq_r (ry_int rfl rfl rfl) ?_
          refine sq_r (ry_move rfl) ?_
          refine sq_gf rfl rfl rfl (fun hg => (Ry.yl (ry_move rfl))) ?_
          refine sq_gf rfl rfl rfl (fun hg => (Ry.yl (ry_int (ev_c hg rfl) rfl rfl))) ?_
          refine sq_r (ry_or rfl rfl rfl) ?_
          refine sq_nil ?_
          refine ex_then ?_
          refine cw_cond rfl (fun h4 => ?_) (fun h4 => ?_)
          · exfalso; simp [e1, e2, hm, errB] at h4
          · try simp only [bz0, bz1, bz2, bz3, bz4, bz5, bz6, bz7, bz8, bz9] at h4
            refine cw_skip ?_
            refine ex_then ?_
            refine cw_region ?_
            refine sq_r (ry_move rfl) ?_
            refine sq_r (ry_whole rfl) ?_
            refine sq_buildSlice (enc := rcells) (vals := [_]) [(rlR (lineS r))] rfl rfl rfl (by decide) (by decide) fun b98 => ?_
            refine sq_append (s := o) (ys := [(rlR (lineS r))]) rfl rfl (by decide) (fun w hw => src_rows (s := ⟨false, b98, 0, 1, 1, none⟩) Tryz.underlying22 (by decide) ((inferInstance : Hd _ _ ⟨false, b98, 0, 1, 1, none⟩ rcells 19 [(rlR (lineS r))]).h w hw)) (by simp only [List.length_append, List.length_cons, List.length_nil]; omega) (by simp only [List.length_append, List.length_cons, List.length_nil]; omega) fun s99 hs99 hl99 => ?_
            refine sq_r (ry_assign rfl) ?_
            refine sq_nil ?_
            refine ex_block ?_
            refine ex_then ?_
            refine cw_region ?_
            refine sq_r (ry_move rfl) ?_
            refine sq_r (ry_add rfl rfl (by omega)) ?_
            refine sq_r (ry_assign rfl) ?_
            refine sq_nil ?_
            exact ex_again (x := (i, o, q)) (i + 1, s99, q ++ [r]) ⟨by first | omega | (simp only []; omega), by simp only; rw [hq, List.take_add_one, hr1]; rfl⟩ (by simp only; omega) (Sub.cons rfl (Sub.cons rfl (Sub.cons rfl (Sub.cons rfl (Sub.nil _))))) (fun w hw => by rw [e1] at hw; exact Keep.mem hw)
        · try simp only [bz0, bz1, bz2, bz3, bz4, bz5, bz6, bz7, bz8, bz9] at h3
          refine cw_exit ?_
          refine ex_pass_exit ?_
          refine ex_pass_exit ?_
          refine ex_block_hit ?_
          refine ex_then ?_
          refine cw_seq ?_
          refine cw_region ?_
          refine sq_r (ry_move rfl) ?_
          refine sq_callC rfl (by omega) fun x101 hp101 => ?_
          refine sq_r (ry_assign rfl) ?_
          refine sq_nil ?_
          refine ex_then ?_
          refine cw_seq ?_
          refine cw_seq ?_
          have hql2 : q = l := by rw [hq, List.take_of_length_le (by omega)]
          have hts : tsortF q = ts := by rw [hql2]; exact tsort_same hr hmem
          rw [hts]
          refine cw_region ?_
          refine sq_r (ry_move rfl) ?_
          refine sq_r (ry_lenH rfl) ?_
          refine sq_r (ry_move rfl) ?_
          refine sq_r (ry_lenH rfl) ?_
          refine sq_r (ry_int rfl rfl rfl) ?_
          refine sq_nil ?_
          refine ex_then ?_
          refine cw_cond rfl (fun h5 => ?_) (fun h5 => ?_)
          · exfalso; simp at h5
          · try simp only [bz0, bz1, bz2, bz3, bz4, bz5, bz6, bz7, bz8, bz9] at h5
            refine cw_skip ?_
            refine ex_then ?_
            refine cw_seq ?_
            refine cw_seq ?_
            refine cw_region ?_
            refine sq_r (ry_assign rfl) ?_
            refine sq_nil ?_
            refine ex_then ?_
            refine cw_block ?_
            refine cw_loop (X := Nat) (fun zz => [(16, .int .i64 (zz : Nat)), (0, t.val), (15, x101.val)]) (fun zz => [own rcells 19 x101 ts]) (fun zz => zz ≤ ts.length) (fun zz => ts.length - zz) 0 (Nat.zero_le _) (Sub.cons rfl (Sub.cons rfl (Sub.cons rfl (Sub.nil _)))) (fun w hw => Keep.mem hw) ?_
            rintro i hI
            refine cw_seq ?_
            refine cw_seq ?_
            refine cw_region ?_
            refine sq_r (ry_move rfl) ?_
            refine sq_r (ry_move rfl) ?_
            refine sq_r (ry_lenH rfl) ?_
            refine sq_r (ry_int rfl rfl rfl) ?_
            refine sq_nil ?_
            refine ex_then ?_
            refine cw_cond rfl (fun h6 => ?_) (fun h6 => ?_)
            · try simp only [bz0, bz1, bz2, bz3, bz4, bz5, bz6, bz7, bz8, bz9] at h6
              refine cw_skip ?_
              refine ex_then ?_
              refine cw_seq ?_
              refine cw_block ?_
              refine cw_seq ?_
              refine cw_quiet (by kernel_rfl) (by kernel_rfl) ?_
              refine qt_r (ry_move rfl) ?_
              refine qt_r (ry_move rfl) ?_
              obtain ⟨e115, he115⟩ := get_some (xs := ts) (i := i) (by omega)
              refine qt_r (ry_idxH rfl rfl i rfl (by omega)) ?_
              refine qt_r (ry_elemH rfl i he115 rfl) ?_
              refine qt_r (ry_move rfl) ?_
              refine qt_r (ry_move rfl) ?_
              obtain ⟨e119, he119⟩ := get_some (xs := ts) (i := i) (by omega)
              refine qt_r (ry_idxH rfl rfl i rfl (by omega)) ?_
              refine qt_r (ry_elemH rfl i he119 rfl) ?_
              refine qt_r (ry_ne rfl rfl) ?_
              refine qt_r (ry_move rfl) ?_
              refine qt_gf rfl rfl rfl (fun hg => (Ry.yl (ry_move rfl))) ?_
              refine qt_gf rfl rfl rfl (fun hg => (Ry.yl (ry_int (ev_c hg rfl) rfl rfl))) ?_
              refine qt_gf rfl rfl rfl (fun hg => (Ry.yl (ry_move (ev_c hg rfl)))) ?_
              refine qt_nt rfl rfl rfl (fun hg => (Ry.yl (ry_move rfl))) ?_
              refine qt_nt rfl rfl rfl (fun hg => (Ry.yl (ry_move rfl))) ?_
              refine qt_nt rfl rfl rfl (fun hg => (Ry.yl (ry_sub (ev_c hg rfl) rfl (by simp only [bz0, bz1, bz2, bz3, bz4, bz5, bz6, bz7, bz8, bz9] at hg; omega)))) ?_
              refine qt_nt rfl rfl rfl (fun hg => (Ry.yl (ry_idxH (ev_c hg rfl) (ev_c hg rfl) (((((i : Nat) : Int) - 1)).toNat) (by simp only [bz0, bz1, bz2, bz3, bz4, bz5, bz6, bz7, bz8, bz9] at hg; omega) (by simp only [bz0, bz1, bz2, bz3, bz4, bz5, bz6, bz7, bz8, bz9] at hg; omega)))) ?_
              refine qt_nt rfl rfl rfl (fun hg => (Ry.yl (ry_field (ev_c hg rfl) rfl))) ?_
              refine qt_nt rfl rfl rfl (fun hg => (Ry.yl (ry_elempH (j := 0) (ev_c hg rfl) (((((i : Nat) : Int) - 1)).toNat) (get_getD (xs := ts) (i := ((((i : Nat) : Int) - 1)).toNat) (d := zroute) (by simp only [bz0, bz1, bz2, bz3, bz4, bz5, bz6, bz7, bz8, bz9] at hg; omega)) rfl (by decide)))) ?_
              refine qt_nt rfl rfl rfl (fun hg => (Ry.yl (ry_move rfl))) ?_
              refine qt_nt rfl rfl rfl (fun hg => (Ry.yl (ry_move rfl))) ?_
              refine qt_nt rfl rfl rfl (fun hg => (Ry.yl (ry_idxH (ev_c hg rfl) (ev_c hg rfl) i rfl (by simp only [bz0, bz1, bz2, bz3, bz4, bz5, bz6, bz7, bz8, bz9] at hg; omega)))) ?_
              refine qt_nt rfl rfl rfl (fun hg => (Ry.yl (ry_field (ev_c hg rfl) rfl))) ?_
              refine qt_nt rfl rfl rfl (fun hg => (Ry.yl (ry_elempH (j := 0) (ev_c hg rfl) i (get_getD (xs := ts) (i := i) (d := zroute) (by simp only [bz0, bz1, bz2, bz3, bz4, bz5, bz6, bz7, bz8, bz9] at hg; omega)) rfl (by decide)))) ?_
              refine qt_nt rfl rfl rfl (fun hg => yl_callC (evl_cons (ev_c hg rfl) (evl_cons (ev_c hg rfl) evl_nil)) trivial) ?_
              refine qt_nt rfl rfl rfl (fun hg => (Ry.yl (ry_not (ev_c hg rfl)))) ?_
              refine qt_gf rfl rfl rfl (fun hg => (Ry.yl (ry_and (ev_c hg rfl) (ev_cc hg rfl) rfl))) ?_
              refine qt_r (ry_or rfl rfl rfl) ?_
              refine qt_nil ?_
              refine ex_then ?_
              refine cw_cond rfl (fun h7 => ?_) (fun h7 => ?_)
              · exfalso
                simp at h7
                rcases h7 with h | ⟨hp, h⟩
                · exact h (Option.some.inj (he115.symm.trans he119))
                · have hh := List.pairwise_iff_getElem.1 ho.less (i - 1) i (by omega) (by omega) (by omega)
                  rw [List.getElem?_eq_getElem (show i - 1 < ts.length by omega), List.getElem?_eq_getElem (show i < ts.length by omega)] at h
                  simp only [Option.getD_some] at h
                  rw [hh] at h; cases h
              · try simp only [bz0, bz1, bz2, bz3, bz4, bz5, bz6, bz7, bz8, bz9] at h7
                refine cw_skip ?_
                refine ex_block ?_
                refine ex_then ?_
                refine cw_region ?_
                refine sq_r (ry_move rfl) ?_
                refine sq_r (ry_add rfl rfl (by omega)) ?_
                refine sq_r (ry_assign rfl) ?_
                refine sq_nil ?_
                exact ex_again (x := (i)) (i + 1) (by first | omega | (simp only []; omega)) (by first | omega | (simp only []; omega)) (Sub.cons rfl (Sub.cons rfl (Sub.cons rfl (Sub.nil _)))) (fun w hw => Keep.mem hw)
            · try simp only [bz0, bz1, bz2, bz3, bz4, bz5, bz6, bz7, bz8, bz9] at h6
              refine cw_exit ?_
              refine ex_pass_exit ?_
              refine ex_pass_exit ?_
              refine ex_block_hit ?_
              refine ex_then ?_
              refine cw_seq ?_
              refine cw_region ?_
              refine sq_r (ry_assign rfl) ?_
              refine sq_nil ?_
              refine ex_then ?_
              refine cw_ret ?_
              refine ex_ret (.inl rfl) (res_1 rfl (rv_tmp rfl)) (fun w1 hw => ?_)
              exact ⟨congrArg (fun b => Ending.returned (Value.bool b)) ((by rfl)), Keep.mem hw⟩

end Go.Proofs.YtldkgicmfbofiaaGreatDoor

/- What a law's row asks once its call is known to yield true and to leave the memory that was there as it was. -/
namespace Go.Eng
open Go.ChangeShapes Go.WideShapes Go.ChangeAt Go.RowKit Go.Kb

variable {H : Type} {enc : TypeId × Value → H} {P : Program}

theorem trodAll_stays (hl : laidOutB P = true) {W W' : World} {sp : Nat → Bool} : ∀ {ts : List TypeId} {vs : List Value} {ds : List (DataW H)} {ps : List MemPlace},
    (∀ t ∈ ts, P.readableRec t = true ∧ t < P.types.size) → DataW.TrodAll enc P W 0 (fun _ => true) true ts vs ds ps → (∀ p ∈ ps, W.sameAt W' p) → (∀ p ∈ ps, sp p.block = true) →
    DataW.TrodAll enc P W' 0 sp true ts vs ds ps
  | [], _, _, _, _, h, _, _ => by
    obtain ⟨rfl, rfl, rfl⟩ := trodAll_nil h
    exact rfl
  | t :: _, _, _, _, ht, h, hs, hp => by
    obtain ⟨v, vs1, d, ds1, a, b, rfl, rfl, rfl, h1, h2⟩ := trodAll_cons h
    exact ⟨a, b, WideElems.Trod_stays hl (ht t (by simp)).1 (ht t (by simp)).2 h1 (fun p h => hs p (by simp [h])) (fun p h => hp p (by simp [h])),
      trodAll_stays hl (fun t h => ht t (by simp [h])) h2 (fun p h => hs p (by simp [h])) (fun p h => hp p (by simp [h])), rfl⟩

theorem trodAll_length {W : World} {b : Nat} {sp : Nat → Bool} {hd : Bool} : ∀ {ts : List TypeId} {vs : List Value} {ds : List (DataW H)} {ps : List MemPlace},
    DataW.TrodAll enc P W b sp hd ts vs ds ps → vs.length = ts.length ∧ ds.length = ts.length
  | [], _, _, _, h => by
    obtain ⟨rfl, rfl, rfl⟩ := trodAll_nil h
    exact ⟨rfl, rfl⟩
  | _ :: _, _, _, _, h => by
    obtain ⟨v, vs1, d, ds1, a, b, rfl, rfl, rfl, h1, h2⟩ := trodAll_cons h
    have := trodAll_length h2
    simp [this.1, this.2]

theorem post_true (hl : laidOutB P = true) {f : Func} {s : ChangeSpec} {apart fresh handsOn : Bool} {W W' : World} {args : Array Value} {ds gs : List (DataW H)} {before : List MemPlace} {tb : TypeId}
    (hp : f.params.toList.all (fun t => P.readableRec t && decide (t < P.types.size)) = true) (hr : f.resultTypes = #[tb]) (hb : P.underlying tb = some .bool) (hv : s.vars = [])
    (hfn : ∀ ds : List (DataW H), ds.length = f.params.size → s.fn H ds = { results := [.lit (.bool true)], args := ds })
    (hW : DataW.Whole enc P f.params.toList s.vars apart W args.toList ds gs before) (hbel : Below W.heap.size W W') :
    s.post enc P f apart fresh handsOn false W args (.bool true) W' := by
  have hlt := hW.lt
  have hW0 := hW
  obtain ⟨p, q, hA, hV, rfl, hfz, hnd⟩ := hW
  rw [hv] at hV
  obtain ⟨rfl, rfl⟩ := trodVars_none hV
  have hlen := trodAll_length hA
  have e1 : s.fn H (ds ++ []) = { results := [.lit (.bool true)], args := ds } := by rw [List.append_nil]; exact hfn ds (by rw [hlen.2]; simp)
  have hpp : ∀ t ∈ f.params.toList, P.readableRec t = true ∧ t < P.types.size := fun t ht => by
    simpa using List.all_eq_true.1 hp t ht
  refine ⟨ds, [], p ++ [], [], p, [], hW0, ?_, ?_, ?_, hbel.frame _, fun h => by cases h⟩
  · rw [e1, hr]; exact trodAll_mk1 (shut_bool hb true)
  · rw [e1]
    exact trodAll_stays hl hpp hA (fun x hx => hbel.same (hlt x (by simp [hx]))) (fun x hx => by simpa using hlt x (by simp [hx]))
  · rw [e1, hv]; exact rfl

theorem lifted_true {C : Checked} {os : Os} {f : FuncId} {fn : Func} {s : ChangeSpec} {conds : List PathCond} {apart fresh handsOn : Bool} {tb : TypeId}
    (own : ownKnob C.prog.godebug = none) (started : os.Started) (noInit : C.prog.inits.idxOf? f = none) (hfunc : C.prog.funcs[f]? = some fn)
    (wit : ∃ (w : World) (tape : Tape) (i : Input), w.os = os ∧ (w.forCall tape i).Shaped C.prog ∧ i.vars = [] ∧ Input.okWide C.prog (w.forCall tape i) .any w.heap.size f i ∧
      s.pre6 enc C.prog fn conds apart (w.forCall tape i).memory i.args ∧ ({} : Assume).holds C.prog (lone (Frame.enter C.prog f i.args .normal) [] (w.forCall tape i)))
    (hl : laidOutB C.prog = true) (hp : fn.params.toList.all (fun t => C.prog.readableRec t && decide (t < C.prog.types.size)) = true) (hr : fn.resultTypes = #[tb]) (hb : C.prog.underlying tb = some .bool)
    (hv : s.vars = []) (hfn : ∀ ds : List (DataW H), ds.length = fn.params.size → s.fn H ds = { results := [.lit (.bool true)], args := ds })
    (contract : ∀ (W : World) (base : Nat) (vs : List Value), vs.length = fn.params.size → (∀ (j : Nat) t v, fn.params[j]? = some t → vs[j]? = some v → Value.okWide C.prog W .any base t v) →
      Calls C.prog f vs.toArray W fun e W' => e = .returned (.bool true) ∧ Mem W [] W') :
    ReturnsInHanded {} C os f .any (s.pre6 enc C.prog fn conds apart) (s.post enc C.prog fn apart fresh handsOn false) := by
  refine returnsInHanded_of_change own started noInit hfunc wit ?_
  intro W base args ds gs before hval hW _ _
  have hlen : args.toList.length = fn.params.size := by
    obtain ⟨p, q, hA, _⟩ := hW
    rw [(trodAll_length hA).1]; simp
  have h := contract W base args.toList hlen (fun j t v h1 h2 => hval j t v h1 (by simpa using h2))
  rw [Array.toArray_toList] at h
  exact h.mono fun e W' hh => ⟨_, hh.1, post_true hl hp hr hb hv hfn hW hh.2.below⟩

/-! Arguments of a type, by its outer form. -/
theorem u8_of_ok {w : World} {b : Nat} {e : TypeId} {v : Value} (he : P.underlying e = some (.int .u8)) (h : Cell.okWide P w .any b e v) : ∃ n : Nat, n < 256 ∧ v = .int .u8 n := by
  cases v with
  | int k n =>
    simp only [Cell.okWide, he, Cell.ok, IntKind.has] at h
    obtain ⟨rfl, h1, h2⟩ := h
    have a1 : (0 : Int) ≤ n := h1
    have a2 : n ≤ (255 : Int) := h2
    exact ⟨n.toNat, by omega, by rw [Int.toNat_of_nonneg a1]⟩
  | _ => simp [Cell.okWide, he, Cell.ok] at h
theorem i64_of_ok {w : World} {b : Nat} {e : TypeId} {v : Value} (he : P.underlying e = some (.int .i64)) (h : Cell.okWide P w .any b e v) : ∃ n : Int, v = .int .i64 n ∧ -2 ^ 63 ≤ n ∧ n < 2 ^ 63 := by
  cases v with
  | int k n =>
    simp only [Cell.okWide, he, Cell.ok, IntKind.has] at h
    obtain ⟨rfl, h1, h2⟩ := h
    have a1 : (-2 ^ 63 : Int) ≤ n := h1
    have a2 : n ≤ (2 ^ 63 - 1 : Int) := h2
    exact ⟨n, rfl, a1, by omega⟩
  | _ => simp [Cell.okWide, he, Cell.ok] at h
theorem int_of_okWide {w : World} {b : Nat} {t : TypeId} {v : Value} (he : P.underlying t = some (.int .i64)) (h : Value.okWide P w .any b t v) : ∃ n : Int, v = .int .i64 n ∧ -2 ^ 63 ≤ n ∧ n < 2 ^ 63 := by
  unfold Value.okWide at h
  rw [he] at h
  exact i64_of_ok he h
theorem u8_of_okWide {w : World} {b : Nat} {t : TypeId} {v : Value} (he : P.underlying t = some (.int .u8)) (h : Value.okWide P w .any b t v) : ∃ n : Nat, n < 256 ∧ v = .int .u8 n := by
  unfold Value.okWide at h
  rw [he] at h
  exact u8_of_ok he h

theorem bytes_key {cs : Array Value} {o : Nat} (h : ∀ i, i < 16 → ∃ n : Nat, n < 256 ∧ cs[o + i]? = some (.int .u8 n)) :
    ∃ k : Key, ∀ i, i < 16 → cs[o + i]? = some (.int .u8 (kbyte k i)) := by
  refine ⟨kof fun i => match cs[o + i]? with | some (.int _ n) => n.toNat | _ => 0, fun i hi => ?_⟩
  obtain ⟨n, hn, e⟩ := h i hi
  rw [kbyte_kof _ i hi, e]
  simp [Nat.mod_eq_of_lt hn]

theorem key_of_okWide {w : World} {b : Nat} {t e : TypeId} {v : Value} (hu : P.underlying t = some (.array 16 e)) (hc : P.cellTypes P.depth t = some (List.replicate 16 e)) (he : P.underlying e = some (.int .u8))
    (hs : P.cellsOf t = 16) (h : Value.okWide P w .any b t v) : ∃ k : Key, v = .agg (kcells k) := by
  unfold Value.okWide at h
  rw [hu] at h
  obtain ⟨cs, rfl, hsz, ts, hts, _, hcell⟩ := h
  rw [hs] at hsz
  obtain rfl : List.replicate 16 e = ts := by rw [hc] at hts; exact Option.some.inj hts
  obtain ⟨k, hk⟩ := bytes_key (cs := cs) (o := 0) fun i hi => by
    obtain ⟨u, hu1, hu2⟩ := hcell i (cs[i]'(by omega)) (by simp [hsz, hi])
    obtain rfl : e = u := by
      rw [List.length_replicate, Nat.mod_eq_of_lt hi, List.getElem?_replicate, if_pos hi] at hu1; exact Option.some.inj hu1
    obtain ⟨n, hn, e1⟩ := u8_of_ok he hu2
    exact ⟨n, hn, by rw [Nat.zero_add, Array.getElem?_eq_getElem (by omega), e1]⟩
  exact ⟨k, by rw [eq_kcells hsz fun i hi => by simpa using hk i hi]⟩

theorem pfx_of_okWide {w : World} {b : Nat} {t e i : TypeId} {fs : Array Field} {v : Value} (hu : P.underlying t = some (.struct fs)) (hc : P.cellTypes P.depth t = some (i :: i :: List.replicate 16 e)) (he : P.underlying e = some (.int .u8))
    (hi : P.underlying i = some (.int .i64)) (hs : P.cellsOf t = 18) (h : Value.okWide P w .any b t v) : ∃ p : Pfx, v = .agg (pcells p) := by
  unfold Value.okWide at h
  rw [hu] at h
  obtain ⟨cs, rfl, hsz, ts, hts, _, hcell⟩ := h
  rw [hs] at hsz
  obtain rfl : i :: i :: List.replicate 16 e = ts := by rw [hc] at hts; exact Option.some.inj hts
  obtain ⟨k, hk⟩ := bytes_key (cs := cs) (o := 2) fun j hj => by
    obtain ⟨u, hu1, hu2⟩ := hcell (2 + j) (cs[2 + j]'(by omega)) (by simp)
    obtain rfl : e = u := by
      have e2 : (2 + j) % (i :: i :: List.replicate 16 e).length = j + 2 := by
        simp only [List.length_cons, List.length_replicate]
        omega
      rw [e2] at hu1
      rw [List.getElem?_cons_succ, List.getElem?_cons_succ, List.getElem?_replicate, if_pos hj] at hu1; exact Option.some.inj hu1
    obtain ⟨n, hn, e1⟩ := u8_of_ok he hu2
    exact ⟨n, hn, by rw [Array.getElem?_eq_getElem (by omega), e1]⟩
  obtain ⟨u0, a0, b0⟩ := hcell 0 (cs[0]'(by omega)) (by simp [hsz])
  obtain ⟨u1, a1, b1⟩ := hcell 1 (cs[1]'(by omega)) (by simp [hsz])
  obtain rfl : i = u0 := by simpa using a0
  obtain rfl : i = u1 := by simpa using a1
  obtain ⟨n0, c0, -⟩ := i64_of_ok hi b0
  obtain ⟨n1, c1, -⟩ := i64_of_ok hi b1
  refine ⟨⟨n0, n1, k⟩, ?_⟩
  congr 1
  refine Array.ext_getElem? fun j => ?_
  match j with
  | 0 => rw [pcells_0, Array.getElem?_eq_getElem (by omega), c0]
  | 1 => rw [pcells_1, Array.getElem?_eq_getElem (by omega), c1]
  | j + 2 =>
    rw [Nat.add_comm j 2, pcells_k]
    rcases Nat.lt_or_ge j 16 with hj | hj
    · rw [hk j hj, kcells_get _ _ hj]
    · rw [kcells_none _ _ hj]; simp; omega

theorem list1 {α : Type} {l : List α} (h : l.length = 1) : ∃ a, l = [a] := match l, h with | [a], _ => ⟨a, rfl⟩
theorem list2 {α : Type} {l : List α} (h : l.length = 2) : ∃ a b, l = [a, b] := match l, h with | [a, b], _ => ⟨a, b, rfl⟩
theorem list3 {α : Type} {l : List α} (h : l.length = 3) : ∃ a b c, l = [a, b, c] := match l, h with | [a, b, c], _ => ⟨a, b, c, rfl⟩
theorem list4 {α : Type} {l : List α} (h : l.length = 4) : ∃ a b c d, l = [a, b, c, d] := match l, h with | [a, b, c, d], _ => ⟨a, b, c, d, rfl⟩
theorem list5 {α : Type} {l : List α} (h : l.length = 5) : ∃ a b c d e, l = [a, b, c, d, e] := match l, h with | [a, b, c, d, e], _ => ⟨a, b, c, d, e, rfl⟩

theorem list6 {α : Type} {l : List α} (h : l.length = 6) : ∃ a b c d e f, l = [a, b, c, d, e, f] := match l, h with | [a, b, c, d, e, f], _ => ⟨a, b, c, d, e, f, rfl⟩
theorem list0 {α : Type} {l : List α} (h : l.length = 0) : l = [] := List.length_eq_zero_iff.1 h
theorem u8_of_okWide2 {w : World} {b : Nat} {t : TypeId} {v : Value} (he : P.underlying t = some (.int .u8)) (h : Value.okWide P w .any b t v) : ∃ n : UInt8, v = .int .u8 n.toNat := by
  obtain ⟨n, hn, rfl⟩ := u8_of_okWide he h
  exact ⟨UInt8.ofNat n, by simp; omega⟩
theorem u16_of_okWide2 {w : World} {b : Nat} {t : TypeId} {v : Value} (he : P.underlying t = some (.int .u16)) (h : Value.okWide P w .any b t v) : ∃ n : UInt16, v = .int .u16 n.toNat := by
  unfold Value.okWide at h
  rw [he] at h
  cases v with
  | int k n =>
    simp only [Cell.okWide, he, Cell.ok, IntKind.has] at h
    obtain ⟨rfl, h1, h2⟩ := h
    have a1 : (0 : Int) ≤ n := h1
    have a2 : n ≤ (65535 : Int) := h2
    exact ⟨UInt16.ofNat n.toNat, by simp; omega⟩
  | _ => simp [Cell.okWide, he, Cell.ok] at h
theorem u32_of_okWide2 {w : World} {b : Nat} {t : TypeId} {v : Value} (he : P.underlying t = some (.int .u32)) (h : Value.okWide P w .any b t v) : ∃ n : UInt32, v = .int .u32 n.toNat := by
  unfold Value.okWide at h
  rw [he] at h
  cases v with
  | int k n =>
    simp only [Cell.okWide, he, Cell.ok, IntKind.has] at h
    obtain ⟨rfl, h1, h2⟩ := h
    have a1 : (0 : Int) ≤ n := h1
    have a2 : n ≤ (4294967295 : Int) := h2
    exact ⟨UInt32.ofNat n.toNat, by simp; omega⟩
  | _ => simp [Cell.okWide, he, Cell.ok] at h
end Go.Eng

/- Arguments opened: what is read of them as data lies in memory as a value of a Lean type. -/
namespace Go.Eng
open Go.ChangeShapes Go.WideShapes Go.ChangeAt Go.RowKit Go.Kb

variable {P : Program}

theorem list_of {α : Type} {p : Nat → α → Prop} : ∀ {n : Nat}, (∀ i, i < n → ∃ x, p i x) → ∃ l : List α, l.length = n ∧ ∀ i x, l[i]? = some x → p i x
  | 0, _ => ⟨[], rfl, fun i x h => by simp at h⟩
  | n + 1, h => by
    obtain ⟨l, hl, hp⟩ := list_of (n := n) fun i hi => h i (by omega)
    obtain ⟨x, hx⟩ := h n (by omega)
    refine ⟨l ++ [x], by simp [hl], fun i y hy => ?_⟩
    by_cases hi : i < n
    · rw [List.getElem?_append_left (by omega)] at hy; exact hp i y hy
    · have : i = n := by
        have := (List.getElem?_eq_some_iff.1 hy).1
        rw [List.length_append, hl] at this; simp at this; omega
      subst this
      rw [List.getElem?_append_right (by omega), hl] at hy
      have : x = y := by simpa using hy
      exact this ▸ hx

class OpenT (P : Program) (t : TypeId) (τ : Type) [Deep τ] : Prop where
  sz : P.cellsOf t = Deep.c τ
  h : ∀ {H : Type} {enc : TypeId × Value → H} {w : World} {fuel : Nat} {cs : List Value} {d : DataW H} {ps : List MemPlace}, DataW.trod enc P w 0 (fun _ => true) true fuel t cs = some (d, ps) → (∀ n ∈ d.weights P t, n ≤ reachBytes) →
    ∃ x : τ, (Deep.cells x).toList = cs ∧ Deep.good (hp w) x

theorem cells_get {w : World} {b : Nat} {a : Addr} {n : Nat} {cs : List Value} (h : w.cells? b a n = some cs) : cs.length = n ∧ ∀ j, j < n → w.cell? (a.add j) = cs[j]? := by
  unfold World.cells? at h
  split at h
  · have hl := mapM_some_length h
    refine ⟨by simpa using hl, fun j hj => ?_⟩
    exact mapM_some_get h j j (by simp [hj])
  · cases h

theorem mem_weightsAll {H : Type} {e : TypeId} {n : Nat} : ∀ {l : List (DataW H)} {d : DataW H}, d ∈ l → n ∈ d.weights P e → n ∈ DataW.weightsAll P e l
  | x :: l, d, hd, hn => by
    rw [DataW.weightsAll]
    rcases List.mem_cons.1 hd with rfl | hd
    · exact List.mem_append_left _ hn
    · exact List.mem_append_right _ (mem_weightsAll hd hn)
theorem mem_weightsEach {H : Type} {n : Nat} : ∀ {ts : List TypeId} {l : List (DataW H)} {i : Nat} {t : TypeId} {d : DataW H}, ts[i]? = some t → l[i]? = some d → n ∈ d.weights P t → n ∈ DataW.weightsEach P ts l
  | [], _, i, _, _, h, _, _ => by simp at h
  | _ :: _, [], i, _, _, _, h, _ => by simp at h
  | t0 :: ts, d0 :: l, 0, t, d, ht, hd, hn => by
    obtain rfl : t0 = t := by simpa using ht
    obtain rfl : d0 = d := by simpa using hd
    rw [DataW.weightsEach]; exact List.mem_append_left _ hn
  | t0 :: ts, d0 :: l, i + 1, t, d, ht, hd, hn => by
    rw [DataW.weightsEach]; exact List.mem_append_right _ (mem_weightsEach (i := i) (by simpa using ht) (by simpa using hd) hn)

theorem reach_le : reachBytes ≤ 140737488355328 := by decide

theorem open_sl {t e : TypeId} {τ : Type} [Deep τ] (hu : P.underlying t = some (.slice e)) (hb' : Nat.ble 1 (P.bytesOf e) = true) (hc : 1 ≤ Deep.c τ) (hs : P.cellsOf t = 1) [o : OpenT P e τ] : OpenT P t (Sl τ) := ⟨hs, fun {H enc w fuel cs d ps} h hw => by
  have hb : 1 ≤ P.bytesOf e := Nat.le_of_ble_eq_true hb'
  rcases Go.Deep.open_slice hu h with ⟨rfl, _⟩ | ⟨a, len, cap, m, n, D, Pl, rfl, _, hl, _, hm, hx, hel⟩
  · exact ⟨⟨Sv.none, []⟩, rfl, good_none⟩
  · simp only [if_true] at hm
    subst hm
    have hd : d = .slice ((List.range len).map D) ((List.range (m - len)).map fun j => D (len + j)) := congrArg Prod.fst hx
    subst hd
    simp only [DataW.weights, hu, List.length_map, List.length_range] at hw
    have hcap : m ≤ 140737488355328 := by
      have h1 := hw _ (List.mem_cons_self ..)
      have h2 : (len + (m - len)) * 1 ≤ (len + (m - len)) * P.bytesOf e := Nat.mul_le_mul_left _ hb
      have := reach_le; omega
    have hcells : ∀ i, i < m → ∃ cs', (cs'.length = Deep.c τ ∧ ∀ j, j < Deep.c τ → w.cell? ((a.add (i * Deep.c τ)).add j) = cs'[j]?) ∧ DataW.trod enc P w 0 (fun _ => true) true n e cs' = some (D i, Pl i) := fun i hi => by
      obtain ⟨cs', h1, h2⟩ := hel i hi
      rw [o.sz] at h1
      exact ⟨cs', cells_get h1, h2⟩
    have hspot : 0 < m → a.spot = none := fun hm => by
      obtain ⟨cs', ⟨h1, h2⟩, _⟩ := hcells 0 hm
      have h3 := h2 0 (by omega)
      have e0 : (a.add (0 * Deep.c τ)).add 0 = a := by simp [Addr.add]
      rw [e0, List.getElem?_eq_getElem (by omega)] at h3
      unfold World.cell? at h3
      split at h3
      · split at h3
        · cases h3
        · rename_i hs; simpa using hs
      · cases h3
    obtain ⟨l, hll, hlp⟩ := list_of (p := fun i (x : τ) => (∀ j, j < Deep.c τ → w.cell? ((a.add (i * Deep.c τ)).add j) = (Deep.cells x)[j]?) ∧ Deep.good (hp w) x) (n := len) fun i hi => by
      obtain ⟨cs', ⟨h1, h2⟩, h3⟩ := hcells i (by omega)
      obtain ⟨x, hx1, hx2⟩ := o.h h3 (fun k hk => hw k (List.mem_cons_of_mem _ (List.mem_append_left _ (mem_weightsAll (List.mem_map.2 ⟨i, List.mem_range.2 hi, rfl⟩) hk))))
      refine ⟨x, fun j hj => ?_, hx2⟩
      rw [h2 j hj, ← hx1]; simp
    refine ⟨⟨⟨false, a.block, a.off, len, m, a.spot⟩, l⟩, rfl, ⟨⟨(fun h => by cases h), hl, by simp only; omega, hspot⟩, by simp [hll], fun i x hi j hj => ?_⟩, fun x hx => ?_⟩
    · have hil : i < len := by rw [← hll]; exact (List.getElem?_eq_some_iff.1 hi).1
      have h1 := (hlp i x hi).1 j hj
      have hs := hspot (by omega)
      have ea : (a.add (i * Deep.c τ)).add j = ⟨a.block, a.off + i * Deep.c τ + j, none⟩ := by
        obtain ⟨ab, ao, asp⟩ := a
        simp only at hs
        subst hs
        rw [Addr.add_none, Addr.add_none]
      rw [ea, cell_hp] at h1
      exact h1
    · obtain ⟨i, hi⟩ := List.getElem?_of_mem hx
      exact (hlp i x hi).2⟩

theorem open_field {H : Type} {enc : TypeId × Value → H} {w : World} {fuel : Nat} {t : TypeId} {cs : List Value} {d : DataW H} {ps : List MemPlace} {fs : Array Field} (hu : P.underlying t = some (.struct fs)) (h : DataW.trod enc P w 0 (fun _ => true) true fuel t cs = some (d, ps)) (hw : ∀ n ∈ d.weights P t, n ≤ reachBytes)
    {i tf off : Nat} (hf0 : (fs[i]?).map (fun f => (f.type, f.offset)) = some (tf, off)) (τ : Type) [Deep τ] [o : OpenT P tf τ] : cs.length = P.cellsOf t ∧ ∃ x : τ, (Deep.cells x).toList = (cs.drop off).take (Deep.c τ) ∧ Deep.good (hp w) x := by
  obtain ⟨f, hf, e⟩ := Option.map_eq_some_iff.1 hf0
  obtain ⟨rfl, rfl⟩ := Prod.mk.inj e
  obtain ⟨xs, n, _, hx, hl, hlen, hg⟩ := DataW.trod_struct hu h
  have h1 := hg i f hf
  have hi : i < xs.length := by rw [hlen]; exact (Array.getElem?_eq_some_iff.1 hf).1
  rw [List.getElem?_eq_getElem hi, o.sz] at h1
  have hd : d = .agg (xs.map (·.1)) := congrArg Prod.fst hx
  subst hd
  obtain ⟨x, hx1, hx2⟩ := o.h (d := xs[i].1) (ps := xs[i].2) h1 (fun k hk => hw k (by
    simp only [DataW.weights, hu]
    exact mem_weightsEach (i := i) (t := f.type) (d := xs[i].1) (by
      have : fs.toList[i]? = some f := by simpa using hf
      rw [List.getElem?_map, this]; rfl) (by simp [hi]) hk))
  exact ⟨hl, x, hx1, hx2⟩
theorem open_elem {H : Type} {enc : TypeId × Value → H} {w : World} {fuel : Nat} {t e : TypeId} {m : Nat} {cs : List Value} {d : DataW H} {ps : List MemPlace} (hu : P.underlying t = some (.array m e)) (h : DataW.trod enc P w 0 (fun _ => true) true fuel t cs = some (d, ps)) (hw : ∀ n ∈ d.weights P t, n ≤ reachBytes)
    (τ : Type) [Deep τ] [o : OpenT P e τ] : cs.length = P.cellsOf t ∧ ∀ i, i < m → ∃ x : τ, (Deep.cells x).toList = (cs.drop (i * Deep.c τ)).take (Deep.c τ) ∧ Deep.good (hp w) x := by
  cases fuel with
  | zero => simp [DataW.trod] at h
  | succ n =>
    unfold DataW.trod at h
    rw [hu] at h
    split at h <;> simp_all
    rename_i m' e' heq
    obtain ⟨hl, xs, hp', hd⟩ := h
    obtain ⟨rfl, rfl⟩ := heq
    intro i hi
    have hlen := mapM_some_length hp'
    have hi' : i < xs.length := by simpa [hlen] using hi
    have h1 := mapM_some_get hp' i i (by simp [hi])
    rw [List.getElem?_eq_getElem hi', o.sz] at h1
    obtain ⟨rfl, -⟩ := hd
    exact o.h (d := xs[i].1) (ps := xs[i].2) h1 (fun k hk => hw k (by
      simp only [DataW.weights, hu]
      exact mem_weightsAll (List.mem_map_of_mem (List.getElem_mem hi')) hk))

theorem cut2 {α : Type} {cs : List α} {a b : Nat} (h : cs.length = a + b) : (cs.drop 0).take a ++ (cs.drop a).take b = cs := by
  rw [List.drop_zero, List.take_of_length_le (l := cs.drop a) (by rw [List.length_drop]; omega), List.take_append_drop]
theorem cut3 {α : Type} {cs : List α} {a b c : Nat} (h : cs.length = a + b + c) : (cs.drop 0).take a ++ (cs.drop a).take b ++ (cs.drop (a + b)).take c = cs := by
  have h1 := cut2 (cs := cs) (a := a + b) (b := c) (by omega)
  conv => rhs; rw [← h1]
  congr 1
  rw [List.drop_zero, List.take_add]
theorem cut4 {α : Type} {cs : List α} {a b c d : Nat} (h : cs.length = a + b + c + d) : (cs.drop 0).take a ++ (cs.drop a).take b ++ (cs.drop (a + b)).take c ++ (cs.drop (a + b + c)).take d = cs := by
  have h1 := cut2 (cs := cs) (a := a + b + c) (b := d) (by omega)
  conv => rhs; rw [← h1]
  congr 1
  rw [List.drop_zero, List.take_add, List.take_add]

/-! Numbers. -/
def ienc (n : Int) : Array Value := #[.int .i64 n]
instance : Enc ienc 1 := ⟨fun _ => rfl, fun _ => by simp [ienc, Value.oneCell']⟩
instance : Deep Int := Deep.flat ienc 1
instance : FlatT Int ienc 1 := ⟨rfl, fun _ => rfl⟩
instance : Plain Int := ⟨fun _ => rfl⟩
instance (n : Int) : CellAt (ienc n) 0 (.int .i64 n) := ⟨rfl⟩
def henc (n : UInt16) : Array Value := #[.int .u16 n.toNat]
instance : Enc henc 1 := ⟨fun _ => rfl, fun _ => by simp [henc, Value.oneCell']⟩
instance : Deep UInt16 := Deep.flat henc 1
instance : FlatT UInt16 henc 1 := ⟨rfl, fun _ => rfl⟩
instance : Plain UInt16 := ⟨fun _ => rfl⟩
instance (n : UInt16) : CellAt (henc n) 0 (.int .u16 n.toNat) := ⟨rfl⟩
def tenc (b : Bool) : Array Value := #[.bool b]
instance : Enc tenc 1 := ⟨fun _ => rfl, fun _ => by simp [tenc, Value.oneCell']⟩
instance : Deep Bool := Deep.flat tenc 1
instance : FlatT Bool tenc 1 := ⟨rfl, fun _ => rfl⟩
instance : Plain Bool := ⟨fun _ => rfl⟩
instance (b : Bool) : CellAt (tenc b) 0 (.bool b) := ⟨rfl⟩

theorem open_i64 {t : TypeId} (hu : P.underlying t = some (.int .i64)) (hs : P.cellsOf t = 1) : OpenT P t Int := ⟨hs, fun h _ => by
  obtain ⟨n, rfl, _, _⟩ := DataW.trod_int hu h
  exact ⟨n, rfl, trivial⟩⟩
theorem open_u8 {t : TypeId} (hu : P.underlying t = some (.int .u8)) (hs : P.cellsOf t = 1) : OpenT P t UInt8 := ⟨hs, fun h _ => by
  obtain ⟨n, rfl, _, hw⟩ := DataW.trod_int hu h
  simp only [Lit.wf, Bool.and_eq_true, decide_eq_true_eq] at hw
  have h1 : (0 : Int) ≤ n := hw.1
  have h2 : n ≤ (255 : Int) := hw.2
  refine ⟨UInt8.ofNat n.toNat, ?_, trivial⟩
  have : ((UInt8.ofNat n.toNat).toNat : Int) = n := by simp; omega
  show (benc (UInt8.ofNat n.toNat)).toList = _
  simp only [benc, this]⟩
theorem open_u16 {t : TypeId} (hu : P.underlying t = some (.int .u16)) (hs : P.cellsOf t = 1) : OpenT P t UInt16 := ⟨hs, fun h _ => by
  obtain ⟨n, rfl, _, hw⟩ := DataW.trod_int hu h
  simp only [Lit.wf, Bool.and_eq_true, decide_eq_true_eq] at hw
  have h1 : (0 : Int) ≤ n := hw.1
  have h2 : n ≤ (65535 : Int) := hw.2
  refine ⟨UInt16.ofNat n.toNat, ?_, trivial⟩
  have : ((UInt16.ofNat n.toNat).toNat : Int) = n := by simp; omega
  show (henc (UInt16.ofNat n.toNat)).toList = _
  simp only [henc, this]⟩
theorem open_bool {t : TypeId} (hu : P.underlying t = some .bool) (hs : P.cellsOf t = 1) : OpenT P t Bool := ⟨hs, fun h _ => by
  obtain ⟨n, rfl, _⟩ := DataW.trod_bool hu h
  exact ⟨n, rfl, trivial⟩⟩

/-! Arguments. -/
theorem arg_sl {H : Type} {enc : TypeId × Value → H} {w : World} {b : Nat} {t e : TypeId} {τ : Type} [Deep τ] [o : OpenT P t (Sl τ)] (hu : P.underlying t = some (.slice e)) {v : Value} {d : DataW H} {ps : List MemPlace} (hv : Value.okWide P w .any b t v) (h : DataW.Trod enc P w 0 (fun _ => true) true t v d ps) (hw : ∀ n ∈ d.weights P t, n ≤ reachBytes) :
    ∃ x : Sl τ, v = x.sv.val ∧ Deep.good (hp w) x := by
  obtain ⟨fuel, h⟩ := h
  obtain ⟨x, h1, h2⟩ := o.h h hw
  refine ⟨x, ?_, h2⟩
  have hc : v.cells = #[v] := by
    unfold Value.okWide at hv
    rw [hu] at hv
    unfold Cell.okWide at hv
    rw [hu] at hv
    cases v <;> simp_all [Cell.ok, Value.cells]
  rw [hc] at h1
  have : [x.sv.val] = [v] := h1
  simpa using this.symm
theorem arg_agg {H : Type} {enc : TypeId × Value → H} {w : World} {b : Nat} {t : TypeId} {τ : Type} [Deep τ] [o : OpenT P t τ] (hu : ∃ d, P.underlying t = some d ∧ isRowD d = true) {v : Value} {d : DataW H} {ps : List MemPlace} (hv : Value.okWide P w .any b t v) (h : DataW.Trod enc P w 0 (fun _ => true) true t v d ps) (hw : ∀ n ∈ d.weights P t, n ≤ reachBytes) :
    ∃ x : τ, v = .agg (Deep.cells x) ∧ Deep.good (hp w) x := by
  obtain ⟨fuel, h⟩ := h
  obtain ⟨x, h1, h2⟩ := o.h h hw
  refine ⟨x, ?_, h2⟩
  obtain ⟨dd, hu1, hu2⟩ := hu
  have hc : ∃ cs, v = .agg cs := by
    unfold Value.okWide at hv
    rw [hu1] at hv
    cases dd <;> simp [isRowD] at hu2
    · obtain ⟨cs, rfl, _⟩ := hv; exact ⟨cs, rfl⟩
    · obtain ⟨cs, rfl, _⟩ := hv; exact ⟨cs, rfl⟩
  obtain ⟨cs, rfl⟩ := hc
  have : (Deep.cells x).toList = cs.toList := h1
  rw [Array.toList_inj.1 this]

structure Arg (H : Type) (enc : TypeId × Value → H) (P : Program) (W : World) (b : Nat) (t : TypeId) (v : Value) : Prop where
  ok : Value.okWide P W .any b t v
  trod : ∃ d ps, DataW.Trod enc P W 0 (fun _ => true) true t v d ps ∧ ∀ n ∈ d.weights P t, n ≤ reachBytes
theorem Arg.sl {H : Type} {enc : TypeId × Value → H} {W : World} {b : Nat} {t e : TypeId} {v : Value} (h : Arg H enc P W b t v) (hu : P.underlying t = some (.slice e)) (τ : Type) [Deep τ] [o : OpenT P t (Sl τ)] : ∃ x : Sl τ, v = x.sv.val ∧ Deep.good (hp W) x := by
  obtain ⟨d, ps, h1, h2⟩ := h.trod
  exact arg_sl hu h.ok h1 h2
theorem Arg.agg {H : Type} {enc : TypeId × Value → H} {W : World} {b : Nat} {t : TypeId} {v : Value} (h : Arg H enc P W b t v) {n : Nat} (hu : RowT P t n) (τ : Type) [Deep τ] [o : OpenT P t τ] : ∃ x : τ, v = .agg (Deep.cells x) ∧ Deep.good (hp W) x := by
  obtain ⟨d, ps, h1, h2⟩ := h.trod
  exact arg_agg hu.row h.ok h1 h2

theorem trodAll_get {H : Type} {enc : TypeId × Value → H} {W : World} {sp : Nat → Bool} {hd : Bool} : ∀ {ts : List TypeId} {vs : List Value} {ds : List (DataW H)} {ps : List MemPlace}, DataW.TrodAll enc P W 0 sp hd ts vs ds ps → ∀ (j : Nat) (t : TypeId) (v : Value), ts[j]? = some t → vs[j]? = some v →
    ∃ d p, ds[j]? = some d ∧ DataW.Trod enc P W 0 sp hd t v d p
  | [], _, _, _, h, j, _, _, ht, _ => by simp at ht
  | t0 :: ts, vs, ds, ps, h, j, t, v, ht, hv => by
    obtain ⟨v0, vs1, d0, ds1, a, b, rfl, rfl, rfl, h1, h2⟩ := trodAll_cons h
    cases j with
    | zero =>
      obtain rfl : t0 = t := by simpa using ht
      obtain rfl : v0 = v := by simpa using hv
      exact ⟨d0, a, rfl, h1⟩
    | succ j => exact trodAll_get h2 j t v (by simpa using ht) (by simpa using hv)

theorem lifted_true2 {H : Type} {enc : TypeId × Value → H} {C : Checked} {os : Os} {f : FuncId} {fn : Func} {s : ChangeSpec} {conds : List PathCond} {apart fresh handsOn : Bool} {tb : TypeId}
    (own : ownKnob C.prog.godebug = none) (started : os.Started) (noInit : C.prog.inits.idxOf? f = none) (hfunc : C.prog.funcs[f]? = some fn)
    (wit : ∃ (w : World) (tape : Tape) (i : Input), w.os = os ∧ (w.forCall tape i).Shaped C.prog ∧ i.vars = [] ∧ Input.okWide C.prog (w.forCall tape i) .any w.heap.size f i ∧
      s.pre6 enc C.prog fn conds apart (w.forCall tape i).memory i.args ∧ ({} : Assume).holds C.prog (lone (Frame.enter C.prog f i.args .normal) [] (w.forCall tape i)))
    (hl : laidOutB C.prog = true) (hp : fn.params.toList.all (fun t => C.prog.readableRec t && decide (t < C.prog.types.size)) = true) (hr : fn.resultTypes = #[tb]) (hb : C.prog.underlying tb = some .bool)
    (hv : s.vars = []) (hfn : ∀ ds : List (DataW H), ds.length = fn.params.size → s.fn H ds = { results := [.lit (.bool true)], args := ds })
    (contract : ∀ (W : World) (base : Nat) (vs : List Value), vs.length = fn.params.size → (∀ (j : Nat) t v, fn.params[j]? = some t → vs[j]? = some v → Arg H enc C.prog W base t v) →
      Calls C.prog f vs.toArray W fun e W' => e = .returned (.bool true) ∧ Mem W [] W') :
    ReturnsInHanded {} C os f .any (s.pre6 enc C.prog fn conds apart) (s.post enc C.prog fn apart fresh handsOn false) := by
  refine returnsInHanded_of_change_shaped own started noInit hfunc wit ?_
  intro W base args ds gs before hval hW _ hwt _ _
  have hlen : args.toList.length = fn.params.size := by
    obtain ⟨p, q, hA, _⟩ := hW
    rw [(trodAll_length hA).1]; simp
  have h := contract W base args.toList hlen (fun j t v h1 h2 => ⟨hval j t v h1 (by simpa using h2), by
    obtain ⟨p, q, hA, _⟩ := hW
    obtain ⟨d, pp, hd, ht⟩ := trodAll_get hA j t v (by simpa using h1) h2
    refine ⟨d, pp, ht, fun n hn => ?_⟩
    have hh := List.all_eq_true.1 hwt n (mem_weightsEach (i := j) (t := t) (d := d) (by rw [List.getElem?_append_left (by have := (Array.getElem?_eq_some_iff.1 h1).1; simpa using this)]; simpa using h1)
      (by rw [List.getElem?_append_left (List.getElem?_eq_some_iff.1 hd).1]; exact hd) hn)
    simpa using hh⟩)
  rw [Array.toArray_toList] at h
  exact h.mono fun e W' hh => ⟨_, hh.1, post_true hl hp hr hb hv hfn hW hh.2.below⟩
end Go.Eng

/- A row whose listed variables are laid: its lifted proof out of the call's. -/
namespace Go.Eng
open Go.ChangeShapes Go.WideShapes Go.ChangeAt Go.RowKit Go.Kb
variable {P : Program}
theorem Arg.str {H : Type} {enc : TypeId × Value → H} {W : World} {b : Nat} {t : TypeId} {v : Value} (h : Arg H enc P W b t v) (hu : P.underlying t = some .string) : ∃ s : Txt, v = .string ⟨s.toArray⟩ ∧ True := by
  have h := h.ok
  unfold Value.okWide at h
  rw [hu] at h
  cases v with
  | string s => exact ⟨s.data.toList, congrArg Value.string (tx_of s), trivial⟩
  | _ => simp [Cell.okWide, hu, Cell.ok] at h
theorem lifted_laid {H : Type} {enc : TypeId × Value → H} {C : Checked} {os : Os} {f : FuncId} {fn : Func} {s : ChangeSpec} {conds : List PathCond} {apart fresh handsOn : Bool} {tb : TypeId} {laid : List (String × DataW Unit)}
    (own : ownKnob C.prog.godebug = none) (started : os.Started) (noInit : C.prog.inits.idxOf? f = none) (hfunc : C.prog.funcs[f]? = some fn)
    (wit : ∃ (w : World) (tape : Tape) (i : Input), w.os = os ∧ (w.forCall tape i).Shaped C.prog ∧ i.vars = [] ∧ Input.okWide C.prog (w.forCall tape i) .any w.heap.size f i ∧
      ((s.pre enc C.prog fn conds apart (w.forCall tape i).memory i.args ∧ laidMetH C.prog laid (w.forCall tape i).memory) ∧ sizedMet enc C.prog fn (OpenSpec.ofChange s) apart (w.forCall tape i).memory i.args) ∧ ({} : Assume).holds C.prog (lone (Frame.enter C.prog f i.args .normal) [] (w.forCall tape i)))
    (hl : laidOutB C.prog = true) (hp : fn.params.toList.all (fun t => C.prog.readableRec t && decide (t < C.prog.types.size)) = true) (hr : fn.resultTypes = #[tb]) (hb : C.prog.underlying tb = some .bool)
    (hv : s.vars = []) (hfn : ∀ ds : List (DataW H), ds.length = fn.params.size → s.fn H ds = { results := [.lit (.bool true)], args := ds })
    (contract : ∀ (W : World) (base : Nat) (vs : List Value), W.ShapedOpen C.prog → laidMetH C.prog laid W → vs.length = fn.params.size → (∀ (j : Nat) t v, fn.params[j]? = some t → vs[j]? = some v → Arg H enc C.prog W base t v) →
      Calls C.prog f vs.toArray W fun e W' => e = .returned (.bool true) ∧ Mem W [] W') :
    ReturnsInHanded {} C os f .any (fun w args => (s.pre enc C.prog fn conds apart w args ∧ laidMetH C.prog laid w) ∧ sizedMet enc C.prog fn (OpenSpec.ofChange s) apart w args) (s.post enc C.prog fn apart fresh handsOn false) := by
  refine returnsInHanded_of_calls own started noInit wit ?_
  intro w tape i _ hsh _ hok hpre hholds
  obtain ⟨_, _, _, fn', hfn', _, _, _, _, hval⟩ := hok
  have e : fn' = fn := Option.some.inj (hfn'.symm.trans hfunc)
  subst e
  obtain ⟨⟨⟨ds, gs, before, hw, hc⟩, hx⟩, hz⟩ := hpre
  have hW := DataW.Whole.of_heap (w' := w.forCall tape i) (by rfl) hw
  have hwt := hz.weights hw
  have hlen : i.args.toList.length = fn'.params.size := by
    obtain ⟨p, q, hA, _⟩ := hW
    rw [(trodAll_length hA).1]; simp
  have h := contract (w.forCall tape i) w.heap.size i.args.toList hsh (laidMetH.of_heap (by rfl) hx) hlen (fun j t v h1 h2 => ⟨hval j t v h1 (by simpa using h2), by
    obtain ⟨p, q, hA, _⟩ := hW
    obtain ⟨d, pp, hd, ht⟩ := trodAll_get hA j t v (by simpa using h1) h2
    refine ⟨d, pp, ht, fun n hn => ?_⟩
    have hh := List.all_eq_true.1 hwt n (mem_weightsEach (i := j) (t := t) (d := d) (by rw [List.getElem?_append_left (by have := (Array.getElem?_eq_some_iff.1 h1).1; simpa using this)]; simpa using h1)
      (by rw [List.getElem?_append_left (List.getElem?_eq_some_iff.1 hd).1]; exact hd) hn)
    simpa using hh⟩)
  rw [Array.toArray_toList] at h
  refine h.mono fun e W' hh => ?_
  obtain ⟨he, hm⟩ := hh
  subst he
  exact ChangeSpec.post_blind (post_true hl hp hr hb hv hfn hW hm.below)
end Go.Eng

/- Arguments of this program, opened. -/
namespace Go.Proofs.YtldkgicmfbofiaaGreatDoor
open Go.Eng Go.Kb
instance op2 : OpenT Tryz.prog 2 Int := open_i64 Tryz.underlying2 (by kernel_rfl)
instance op3 : OpenT Tryz.prog 3 Int := open_i64 Tryz.underlying3 (by kernel_rfl)
instance op4 : OpenT Tryz.prog 4 Bool := open_bool Tryz.underlying4 (by kernel_rfl)
instance op5 : OpenT Tryz.prog 5 UInt8 := open_u8 Tryz.underlying5 (by kernel_rfl)
instance op6 : OpenT Tryz.prog 6 UInt8 := open_u8 Tryz.underlying6 (by kernel_rfl)
instance op30 : OpenT Tryz.prog 30 UInt16 := open_u16 Tryz.underlying30 (by kernel_rfl)
instance op33 : OpenT Tryz.prog 33 Int := open_i64 Tryz.underlying33 (by kernel_rfl)
instance op151 : OpenT Tryz.prog 151 UInt8 := open_u8 Tryz.underlying151 (by kernel_rfl)
instance op152 : OpenT Tryz.prog 152 UInt8 := open_u8 Tryz.underlying152 (by kernel_rfl)

instance : Enc kcells 16 := ⟨kcells_size, fun k => (inferInstance : SizeIs (kcells k) 16).one⟩
instance : Deep Key := Deep.flat kcells 16
instance : FlatT Key kcells 16 := ⟨rfl, fun _ => rfl⟩
instance : Plain Key := ⟨fun _ => rfl⟩
instance : Enc pcells 18 := ⟨pcells_size, fun k => (inferInstance : SizeIs (pcells k) 18).one⟩
instance : Deep Pfx := Deep.flat pcells 18
instance : FlatT Pfx pcells 18 := ⟨rfl, fun _ => rfl⟩
instance : Plain Pfx := ⟨fun _ => rfl⟩
instance : Plain Rt := ⟨fun _ => rfl⟩
instance op27 : OpenT Tryz.prog 27 Key := ⟨by kernel_rfl, fun h hw => by
  obtain ⟨hl, he⟩ := open_elem Tryz.underlying27 h hw UInt8
  rw [show Tryz.prog.cellsOf 27 = 16 from by kernel_rfl] at hl
  obtain ⟨l, hll, hlp⟩ := list_of (p := fun i (x : UInt8) => _) he
  refine ⟨kof fun i => (l.getD i 0).toNat, ?_, trivial⟩
  refine List.ext_getElem? fun i => ?_
  rw [Array.getElem?_toList]
  rcases Nat.lt_or_ge i 16 with hi | hi
  · have hx : l[i]? = some (l.getD i 0) := get_getD (by omega)
    have h1 := congrArg (·[0]?) (hlp i _ hx).1
    simp only [List.getElem?_take, List.getElem?_drop] at h1
    rw [if_pos (by decide), show i * Deep.c UInt8 + 0 = i from Nat.mul_one i] at h1
    have h3 : some (Value.int .u8 (l.getD i 0).toNat) = _ := h1
    have e8 : (l.getD i 0).toNat % 2 ^ 8 = (l.getD i 0).toNat := Nat.mod_eq_of_lt (l.getD i 0).toNat_lt
    show (kcells _)[i]? = _
    rw [kcells_get _ _ hi, kbyte_kof _ _ hi, e8, ← h3]
  · show (kcells _)[i]? = _
    rw [kcells_none _ _ hi, List.getElem?_eq_none (by omega)]⟩
instance op29 : OpenT Tryz.prog 29 Pfx := ⟨by kernel_rfl, fun h hw => by
  obtain ⟨hl, x0, h0, -⟩ := open_field Tryz.underlying29 h hw (i := 0) (tf := 3) (off := 0) rfl Int
  obtain ⟨-, x1, h1, -⟩ := open_field Tryz.underlying29 h hw (i := 1) (tf := 3) (off := 1) rfl Int
  obtain ⟨-, x2, h2, -⟩ := open_field Tryz.underlying29 h hw (i := 2) (tf := 27) (off := 2) rfl Key
  refine ⟨⟨x0, x1, x2⟩, ?_, trivial⟩
  refine Eq.trans ?_ (cut3 (a := 1) (b := 1) (c := 16) (hl.trans (by kernel_rfl)))
  rw [show (Deep.cells (⟨x0, x1, x2⟩ : Pfx)).toList = (Deep.cells x0).toList ++ (Deep.cells x1).toList ++ (Deep.cells x2).toList from by show (pcells _).toList = _; unfold pcells; rw [Array.toList_append]; rfl, h0, h1, h2]
  rfl⟩
instance op32 : OpenT Tryz.prog 32 Rt := ⟨by kernel_rfl, fun h hw => by
  obtain ⟨hl, x0, h0, -⟩ := open_field Tryz.underlying32 h hw (i := 0) (tf := 29) (off := 0) rfl Pfx
  obtain ⟨-, x1, h1, -⟩ := open_field Tryz.underlying32 h hw (i := 1) (tf := 30) (off := 18) rfl UInt16
  refine ⟨⟨x0, x1⟩, ?_, trivial⟩
  refine Eq.trans ?_ (cut2 (a := 18) (b := 1) (hl.trans (by kernel_rfl)))
  rw [show (Deep.cells (⟨x0, x1⟩ : Rt)).toList = (Deep.cells x0).toList ++ (Deep.cells x1).toList from by show (rcells _).toList = _; unfold rcells; rw [Array.toList_append]; rfl, h0, h1]
  rfl⟩


instance op22 : OpenT Tryz.prog 22 (Sl Rt) := open_sl Tryz.underlying22 (by kernel_rfl) (by decide) (by kernel_rfl)
instance op23 : OpenT Tryz.prog 23 (Sl UInt8) := open_sl Tryz.underlying23 (by kernel_rfl) (by decide) (by kernel_rfl)

end Go.Proofs.YtldkgicmfbofiaaGreatDoor

/- What the row's laid variables give. -/
namespace Go.Proofs.YtldkgicmfbofiaaGreatDoor
open Go.Eng Go.Kb Go.ChangeShapes Go.WideShapes Go.ChangeAt Go.RowKit

def laidL : List (String × DataW Unit) := [("math/bits.deBruijn32tab", Rows.laid_math_bits_deBruijn32tab), ("math/bits.deBruijn64tab", Rows.laid_math_bits_deBruijn64tab), ("internal/strconv.uint64pow10", Rows.laid_internal_strconv_uint64pow10), ("unicode/utf8.acceptRanges", Rows.laid_unicode_utf8_acceptRanges), ("unicode/utf8.first", Rows.laid_unicode_utf8_first)]
theorem pow_glob : ∃ g, Tryz.prog.globalNamed "internal/strconv.uint64pow10" = some g ∧ (Tryz.prog.globals[g]?).map (·.type) = some 127 := ⟨Option.get (Tryz.prog.globalNamed "internal/strconv.uint64pow10") (by kernel_rfl), by kernel_rfl, by kernel_rfl⟩
theorem pow_of_laid {W : World} (h : laidMetH Tryz.prog laidL W) : Lib.TabIs Tryz.prog W "internal/strconv.uint64pow10" .u64 Lib.pow10Tab := by
  rw [MakeChecks.laidMetH_plain _ _ _ (by kernel_rfl)] at h
  obtain ⟨g', t', cs, fuel, p, hg', ht', hvar, hd⟩ := Lib.laidMet.reads h (n := "internal/strconv.uint64pow10") (d := Lib.tabData .u64 Lib.pow10Tab) (.tail _ (.tail _ (.head _)))
  obtain ⟨g, pow_named, pow_type⟩ := pow_glob
  obtain rfl := Option.some.inj (pow_named.symm.trans hg')
  obtain rfl := Option.some.inj (pow_type.symm.trans ht')
  unfold Lib.TabIs
  rw [hvar, ← Lib.cells_of_tab Tryz.underlying127 Tryz.underlying115 (by kernel_rfl) (by kernel_rfl) hd]
theorem tabs_of {W : World} (hs : W.ShapedOpen Tryz.prog) (h : laidMetH Tryz.prog laidL W) : Tabs W := ⟨pow_of_laid h, Tryz.laysM146.s1_3 W hs⟩
theorem Tryz.own : ownKnob Tryz.prog.godebug = none := by kernel_rfl
theorem Tryz.laidOut : laidOutB Tryz.prog = true := by kernel_rfl

end Go.Proofs.YtldkgicmfbofiaaGreatDoor

/- The law TableOrder holds, and its card. -/
namespace Go.Proofs.YtldkgicmfbofiaaGreatDoor
open Go.Eng Go.Kb Go.ChangeShapes Go.WideShapes Go.ChangeAt Go.RowKit
set_option maxRecDepth 100000 in
theorem tableOrder_call {H : Type} {enc : TypeId × Value → H} (W : World) (base : Nat) (vs : List Value) (hs : W.ShapedOpen Tryz.prog) (hL : laidMetH Tryz.prog laidL W) (hl : vs.length = 2) (h : ∀ (j : Nat) t v, Tryz.f3.params[j]? = some t → vs[j]? = some v → Arg H enc Tryz.prog W base t v) :
    Calls Tryz.prog 3 vs.toArray W fun e W' => e = .returned (.bool true) ∧ Mem W [] W' := by
  rw [Tryz.params3] at h
  obtain ⟨v0, v1, rfl⟩ := list2 hl
  obtain ⟨x0, rfl, g0⟩ := (h 0 22 v0 rfl rfl).sl Tryz.underlying22 Rt
  obtain ⟨x1, rfl, g1⟩ := (h 1 23 v1 rfl rfl).sl Tryz.underlying23 UInt8
  exact tableOrder_c W (tb := tabs_of hs hL) x0.sv x0.xs x1.sv x1.xs g0.1 g1.1
set_option maxRecDepth 100000 in
theorem tableOrder_lifted (os : Os) (started : os.Started) (H : Type) (enc : TypeId × Value → H) :
    ReturnsInHanded {} Tryz.checked os 3 .any (fun w args => (Rows.tableOrderSpec.pre enc Tryz.prog Tryz.f3 Rows.tableOrderRow.domain false w args ∧ laidMetH Tryz.prog laidL w) ∧ sizedMet enc Tryz.prog Tryz.f3 (OpenSpec.ofChange Rows.tableOrderSpec) false w args) (Rows.tableOrderSpec.post enc Tryz.prog Tryz.f3 false true false false) :=
  lifted_laid (C := Tryz.checked) (laid := laidL) Tryz.own started (by kernel_rfl) Tryz.func3
    (ChangeSpec.witness_shaped (enc := enc) (C := Tryz.checked) (os := os) (X := fun w _ => laidMetH Tryz.prog laidL w) false (World.laidAll Tryz.prog os laidL) #[.slice none 0 0, .slice none 0 0] 24 (World.laidAll_os _ _ _)
      (World.shaped_of_ZipB (by kernel_rfl) (by kernel_rfl)) (by kernel_rfl) (by kernel_rfl) (by kernel_rfl)
      (by rw [MakeChecks.laidMetH_plain _ _ _ (by kernel_rfl)]; exact laidMet_laidAll _ (by kernel_rfl) (by kernel_rfl)))
    Tryz.laidOut (by kernel_rfl) rfl Tryz.underlying4 rfl (fun ds hd => by obtain ⟨d0, d1, rfl⟩ := list2 (hd.trans (by kernel_rfl)); rfl)
    (fun W base vs hs hL hl h => tableOrder_call W base vs hs hL (hl.trans (by kernel_rfl)) h)
theorem tableOrder_row : Rows.TableOrderSaid :=
  OpenClaim.holds_of_wide 3 Tryz.f3 rfl rfl rfl rfl rfl rfl rfl ⟨rfl, rfl, rfl, rfl, rfl⟩ rfl rfl rfl rfl rfl (by kernel_rfl) Tryz.func3 (by kernel_rfl)
    (of_decide_eq_true (by kernel_rfl)) (by unfold Func.isWrapper; first | (rw [if_pos (by decide +kernel)]; kernel_rfl) | (rw [if_neg (by decide +kernel)]; exact ⟨rfl, rfl⟩))
    (fun os started H enc _ => tableOrder_lifted os started H enc)
theorem tableOrder_holds : Rows.TableOrderCardSaid :=
  Claim7.holds_tied_plain_at .later [] [.data, .data, .data, .data, .pinned] true (true, "bc9de9d9f32cbad4b0df9eab431372620d019eb557b0f2f8eed79b0130f2da27") false
    tableOrder_row (fun _ h => by cases h) (by kernel_rfl) (fun _ h => by cases h) tableOrder_row_tie rfl ⟨rfl, rfl⟩ (by kernel_rfl) rfl
    (fun f fn hf hfn => by
      obtain rfl : f = 3 := Option.some.inj ((show Tryz.prog.funcNamed "byway/bywaylaw03.TableOrder" = some 3 by kernel_rfl).symm.trans hf) |>.symm
      obtain rfl : fn = Tryz.f3 := (Option.some.inj (Tryz.func3.symm.trans hfn)).symm
      exact ⟨by kernel_rfl, fun j t ht => by
        rw [Tryz.params3] at ht
        have hm : t ∈ [22, 23] := by
          obtain ⟨hj, e⟩ := Array.getElem?_eq_some_iff.1 ht
          rw [← e]; exact Array.mem_toList_iff.2 (Array.getElem_mem hj)
        simp only [List.mem_cons, List.not_mem_nil, or_false] at hm
        rcases hm with rfl | rfl
        · exact (show Tryz.prog.wantsStandIn 22 = false by kernel_rfl)
        · exact (show Tryz.prog.wantsStandIn 23 = false by kernel_rfl)⟩)
    (by kernel_rfl)

end Go.Proofs.YtldkgicmfbofiaaGreatDoor


/- Go's library, as contracts. -/
import Derived.Test.YtldkgicmfbofiaaDoorSy
import Derived.Test.YtldkgicmfbofiaaDoorRc
import Derived.Test.YtldkgicmfbofiaaDoorKy
import Derived.Test.YtldkgicmfbofiaaDoorBase
import Derived.Test.YtldkgicmfbofiaaDoorShelf
set_option linter.unusedSimpArgs false
set_option linter.unusedVariables false
namespace Go.Proofs.YtldkgicmfbofiaaDoor
open Go.Eng Go.Kb
open Go.RowKit

/-- What Go's library reads of the program's variables. -/
class Tabs (w : World) : Prop where
  pow : Lib.TabIs Tryd.prog w "internal/strconv.uint64pow10" .u64 Lib.pow10Tab
  len : ∃ m, w.cell? ⟨0, 0, none⟩ = some (.int .i64 m)
theorem Tabs.at {w0 w : World} {L : List Ent} (t : Tabs w0) (h : Mem w0 L w) : Tabs w := by
  obtain ⟨m, hm⟩ := t.len
  have h0 : (0 : Nat) < w0.heap.size := by
    rcases Nat.lt_or_ge 0 w0.heap.size with q | q
    · exact q
    · rw [World.cell?] at hm
      rw [Array.getElem?_eq_none (show w0.heap.size ≤ (⟨0, 0, none⟩ : Addr).block by exact q)] at hm
      simp at hm
  refine ⟨?_, m, ?_⟩
  · have hv := t.pow
    unfold Lib.TabIs World.var? at hv ⊢
    cases hg : Tryd.prog.globalNamed "internal/strconv.uint64pow10" with
    | none => rw [hg] at hv; cases hv
    | some g =>
    simp only [hg, Option.bind_some] at hv ⊢
    have hgB : g < w0.heap.size := by
      rcases Nat.lt_or_ge g w0.heap.size with q | q
      · exact q
      · rw [Array.getElem?_eq_none q] at hv; cases hv
    rw [h.below.block g hgB]; exact hv
  · rw [h.below.cell h0]; exact hm
theorem itoa_nat (n : Nat) : Lib.itoa (n : Int) = dec n := by
  rw [Lib.itoa, if_neg (by omega), Int.toNat_natCast]; rfl
theorem lib_itoa {w0 : World} {L : List Ent} [t : Tabs w0] (n : Nat) (h : n < 9223372036854775808) (w : World) (hw : Mem w0 L w) : Calls Tryd.prog 20 #[.int .i64 (n : Nat)] w fun e w' => e = .returned (.string ⟨(dec n).toArray⟩) ∧ Mem w [] w' := by
  refine (Tryd.strconv_Itoa (n : Int) (by omega) (by omega) w (t.at hw).pow).mono ?_
  rintro e w' ⟨he, k, os, rfl⟩
  rw [itoa_nat] at he
  exact ⟨he, .of_below ⟨rfl, rfl, rfl, by show w.heap.size ≤ (w.heap ++ os).size; rw [Array.size_append]; omega, fun j hj => by show (w.heap ++ os)[j]? = w.heap[j]?; exact Array.getElem?_append_left hj⟩⟩
instance {w0 : World} {L : List Ent} [t : Tabs w0] (n : Nat) : FnQ Tryd.prog 20 w0 L [.int .i64 (n : Nat)] (.string ⟨(dec n).toArray⟩) (n < 9223372036854775808) := ⟨fun h w hw => lib_itoa n h w hw⟩
instance (priority := low) {w0 : World} {L : List Ent} [t : Tabs w0] (z : Int) : FnQ Tryd.prog 20 w0 L [.int .i64 z] (.string ⟨(dec z.toNat).toArray⟩) (0 ≤ z ∧ z < 9223372036854775808) := ⟨fun h w hw => by
  have := lib_itoa z.toNat (by omega) w hw
  rwa [Int.toNat_of_nonneg h.1] at this⟩
instance {w0 : World} {L : List Ent} {s : Sv} {xs : List Txt} [q : Hd w0 L s txc 1 xs] (sep : Txt) : FnQ Tryd.prog 33 w0 L [s.val, .string ⟨sep.toArray⟩] (.string ⟨(joinT sep xs).toArray⟩) (xs ≠ [] ∧ (joinT sep xs).length ≤ 140737488355328) := ⟨fun hp w hw => by
  have r := q.h w hw
  have hx : 0 < xs.length := List.length_pos_iff.2 hp.1
  have hsp := r.ok.sp (by have := r.len; have := r.ok.le; omega)
  have e1 : (xs.map fun x => (⟨x.toArray⟩ : ByteArray)).map (·.data.toList) = xs := by
    rw [List.map_map]
    exact (List.map_congr_left (fun x _ => by simp)).trans (List.map_id xs)
  have el : (xs.map fun x => (⟨x.toArray⟩ : ByteArray)).length = xs.length := by simp
  have hc : ∀ (j : Nat) x, (xs.map fun x => (⟨x.toArray⟩ : ByteArray))[j]? = some x → w.cell? ⟨s.b, s.o + j, none⟩ = some (.string x) := by
    intro j x hj
    rw [List.getElem?_map] at hj
    obtain ⟨y, hy, rfl⟩ := Option.map_eq_some_iff.1 hj
    have := r.row j y hy 0 (by decide)
    simp only [Nat.mul_one, Nat.add_zero] at this
    rw [cell_hp, this]; rfl
  have hb : s.b < w.heap.size := by
    rcases Nat.lt_or_ge s.b w.heap.size with h | h
    · exact h
    · have := hc 0 _ (by rw [List.getElem?_map, List.getElem?_eq_getElem hx]; rfl)
      rw [World.cell?, Array.getElem?_eq_none (show w.heap.size ≤ (⟨s.b, s.o + 0, none⟩ : Addr).block by exact h)] at this
      simp at this
  have hj := Tryd.strings_Join s.b s.o s.cap (xs.map fun x => (⟨x.toArray⟩ : ByteArray)) ⟨sep.toArray⟩ w hc hb (by rw [el]; exact r.bd) (by rw [el]; have := r.len; have := r.ok.le; omega) (by rw [e1]; exact hp.2)
  rw [el] at hj
  rw [Sv.val_some (r.some hx), hsp, r.len]
  refine hj.mono ?_
  rintro e w' ⟨he, hb'⟩
  rw [e1] at he
  exact ⟨he, .of_below hb'⟩⟩
instance {w0 : World} {L : List Ent} [t : Tabs w0] (s : Txt) (c : UInt8) : FnQ Tryd.prog 26 w0 L [.string ⟨s.toArray⟩, .string ⟨[c].toArray⟩] (.tuple #[.string ⟨(cutL c s).1.toArray⟩, .string ⟨(cutL c s).2.1.toArray⟩, .bool (cutL c s).2.2]) (s.length < 4294967281) := ⟨fun h w hw => by
  obtain ⟨m, hm⟩ := (t.at hw).len
  refine (Tryd.strings_Cut ⟨s.toArray⟩ ⟨[c].toArray⟩ m w (by rw [tx_size]; exact h) hm).mono ?_
  rintro e w' ⟨he, n, rfl⟩
  exact ⟨he, .of_below ⟨rfl, rfl, rfl, Nat.le_refl _, fun _ _ => rfl⟩⟩⟩
instance {w0 : World} {L : List Ent} (s : Txt) (c : UInt8) : FnQ Tryd.prog 40 w0 L [.string ⟨s.toArray⟩, .int .u8 (c.toNat : Nat)] (.int .i64 (Lib.indexByte s c)) True := ⟨fun _ w hw => by
  refine (Tryd.strings_IndexByte ⟨s.toArray⟩ c.toNat w).mono ?_
  rintro e w' ⟨he, rfl⟩
  have e1 : ((c.toNat : Int)).toNat.toUInt8 = c := by simp
  rw [e1] at he
  exact ⟨he, .init _⟩⟩
instance {w0 : World} {L : List Ent} [t : Tabs w0] (s : Txt) (c : UInt8) : FnC Tryd.prog 39 w0 L [.string ⟨s.toArray⟩, .string ⟨[c].toArray⟩] Nat (fun b => (⟨false, b, 0, (splitL c s).length, (splitL c s).length, none⟩ : Sv).val) (fun b => own txc 1 ⟨false, b, 0, (splitL c s).length, (splitL c s).length, none⟩ (splitL c s) :: L) (fun _ => True) (s.length < 4294967281) := ⟨fun h w hw => by
  obtain ⟨m, hm⟩ := (t.at hw).len
  have hs : (⟨s.toArray⟩ : ByteArray).size < 4294967281 := by rw [tx_size]; exact h
  have e0 : (Lib.splitB ⟨[c].toArray⟩ 0 (Lib.countB ⟨s.toArray⟩ ⟨[c].toArray⟩) ⟨s.toArray⟩).map (·.data.toList) = splitL c s := splitB_L c s.length ⟨s.toArray⟩ (by rw [tx_size]; exact Nat.le_refl _)
  have el : (splitL c s).length = Lib.countB ⟨s.toArray⟩ ⟨[c].toArray⟩ + 1 := by
    exact (splitB_length c ⟨s.toArray⟩).symm
  have hlen : (splitL c s).length ≤ 140737488355328 := by have := split_len c s; omega
  refine (Tryd.strings_Split ⟨s.toArray⟩ ⟨[c].toArray⟩ m w hs hm (Nat.le_refl 1)).mono ?_
  rintro e w' ⟨he, rfl⟩
  refine ⟨w.heap.size, by rw [he, el]; rfl, trivial, hw.call (E := [_]) (mem_new (enc := txc) (c := 1) (xs := splitL c s) rfl _ _ rfl (Nat.le_refl _) hlen ?_ fun i x hx j hj => ?_)⟩
  · have := congrArg List.length e0
    rw [List.length_map] at this
    simp [this]
  · obtain rfl : j = 0 := by omega
    rw [← e0, List.getElem?_map] at hx
    obtain ⟨y, hy, rfl⟩ := Option.map_eq_some_iff.1 hx
    simp only [Nat.mul_one, Nat.add_zero, List.getElem?_toArray, List.getElem?_map, hy, Option.map_some, txc]
    rw [← tx_of y]; rfl⟩

end Go.Proofs.YtldkgicmfbofiaaDoor

/- The law PagedSame holds: a trie of a table as pages finds what the table finds, whatever was kept; hits and misses are as many as nodes are on the way; the same key again misses nothing, if all pages that it needs may be kept. It holds of all arguments that can be read; its arguments read behind the call as they did. -/
import Derived.Test.YtklhkejhndnhbaaC4
import Derived.Test.YtklhkejhndnhbaaC3
import Derived.Test.YtklhkejhndnhbaaRows
import Derived.Test.YtklhkejhndnhbaaC2

/- A trie as pages: what is computed, and its laws. No program in sight. -/
set_option linter.unusedSimpArgs false
set_option linter.unusedVariables false
namespace Go.Eng
open Go.Kb
instance Hd.sub3 {w0 : World} {L : List Ent} {s : Sv} {α : Type} {enc : α → Array Value} {c : Nat} {xs : List α} {lo hi : Nat} [q : Hd w0 L s enc c xs] [r : Rg lo hi xs.length] : Hd w0 L ((s.top hi).sub c lo hi) enc c ((xs.drop lo).take (hi - lo)) := ⟨fun w hw => by
  have h := q.h w hw
  have h1 := r.h.1
  have h2 := r.h.2
  have hl := h.len
  have hle := h.ok.le
  have hbd := h.ok.bd
  refine ⟨⟨fun hn => ?_, ?_, ?_, fun hc => ?_⟩, ?_, fun i x hi' j hj => ?_⟩
  · have := h.ok.nil hn
    simp only [Sv.sub, Sv.top]; omega
  · simp only [Sv.sub, Sv.top]; omega
  · simp only [Sv.sub, Sv.top]; omega
  · simp only [Sv.sub, Sv.top] at hc ⊢
    exact h.ok.sp (by omega)
  · simp [Sv.sub]; omega
  · have hil := (List.getElem?_eq_some_iff.1 hi').1
    rw [List.length_take, List.length_drop] at hil
    have hx : xs[lo + i]? = some x := by
      rw [List.getElem?_take, if_pos (by omega), List.getElem?_drop] at hi'; exact hi'
    have := h.row (lo + i) x hx j hj
    have e : ((s.top hi).sub c lo hi).o = s.o + lo * c := Sv.sub_o (s := s.top hi) (show lo < hi by omega)
    show cellH (hp w) s.b (((s.top hi).sub c lo hi).o + i * c + j) = _
    rw [e, show s.o + lo * c + i * c + j = s.o + (lo + i) * c + j by rw [Nat.add_mul]; omega]
    exact this⟩
end Go.Eng
namespace Go.Kb
open Go.Eng

/-! Pages. -/
def npg (len n : Nat) : Nat := (len + n - 1) / n
theorem npg_lt {len n j : Nat} (hn : 0 < n) : j < npg len n ↔ j * n < len := by
  unfold npg
  rw [Nat.lt_div_iff_mul_lt hn]; omega
theorem npg_pos {len n : Nat} (hn : 0 < n) (h : 0 < len) : 0 < npg len n := (npg_lt hn).2 (by omega)
theorem npg_le {len n : Nat} (hn : 0 < n) : len ≤ npg len n * n := by
  rcases Nat.lt_or_ge (npg len n * n) len with h | h
  · exact absurd ((npg_lt hn).2 h) (Nat.lt_irrefl _)
  · exact h
theorem npg_few {len n : Nat} (hn : 0 < n) : npg len n ≤ len := by
  rcases Nat.lt_or_ge len (npg len n) with h | h
  · have := (npg_lt hn).1 h
    have := Nat.le_mul_of_pos_right len hn
    omega
  · exact h
def part (ns : List Nd) (n j : Nat) : List Nd := (ns.drop (j * n)).take n
theorem part_len (ns : List Nd) (n j : Nat) : (part ns n j).length = min n (ns.length - j * n) := by simp [part]
theorem part_take (ns : List Nd) (n j : Nat) : ns.take ((j + 1) * n) = ns.take (j * n) ++ part ns n j := by
  rw [Nat.succ_mul, List.take_add]; rfl
theorem part_all {ns : List Nd} {n : Nat} (hn : 0 < n) : ns.take (npg ns.length n * n) = ns := List.take_of_length_le (npg_le hn)
theorem part_room {ns : List Nd} {n j : Nat} (hn : 0 < n) (hj : j < npg ns.length n) : 1 ≤ (part ns n j).length ∧ (part ns n j).length ≤ n ∧ (j + 1 < npg ns.length n → (part ns n j).length = n) := by
  have h1 := (npg_lt hn).1 hj
  rw [part_len]
  refine ⟨by omega, by omega, fun h2 => ?_⟩
  have h3 := (npg_lt hn).1 h2
  rw [Nat.succ_mul] at h3; omega
theorem part_cut (ns : List Nd) (n j : Nat) : (ns.drop (j * n)).take (j * n + min n (ns.length - j * n) - j * n) = part ns n j := by
  rw [Nat.add_sub_cancel_left, part]
  rcases Nat.le_total n (ns.length - j * n) with h | h
  · rw [Nat.min_eq_left h]
  · rw [Nat.min_eq_right h, List.take_of_length_le (by rw [List.length_drop]; exact Nat.le_refl _), List.take_of_length_le (by rw [List.length_drop]; exact h)]
theorem part_ok {ns : List Nd} (h : allOk ns = true) (n j : Nat) : allOk (part ns n j) = true := by
  simp only [allOk, Bool.and_eq_true, decide_eq_true_eq, List.all_eq_true] at h ⊢
  refine ⟨by rw [part_len]; omega, fun x hx => h.2 x (List.mem_of_mem_drop (List.mem_of_mem_take hx))⟩
def pagesF (ns : List Nd) (n : Nat) : List (List UInt8) := (List.range (npg ns.length n)).map fun j => allB (part ns n j)
theorem pagesF_len (ns : List Nd) (n : Nat) : (pagesF ns n).length = npg ns.length n := by simp [pagesF]
theorem pagesF_get {ns : List Nd} {n j : Nat} (h : j < npg ns.length n) : (pagesF ns n)[j]? = some (allB (part ns n j)) := by simp [pagesF, h]
theorem pagesF_take {ns : List Nd} {n j : Nat} (h : j < npg ns.length n) : (pagesF ns n).take (j + 1) = (pagesF ns n).take j ++ [allB (part ns n j)] := by
  rw [List.take_add_one, pagesF_get h]; rfl
def pvs (l : List (Sl UInt8)) : List (List UInt8) := l.map fun x => x.xs
theorem pvs_length (l : List (Sl UInt8)) : (pvs l).length = l.length := by simp [pvs]
theorem pvs_get {l : List (Sl UInt8)} {i : Nat} {x : Sl UInt8} (h : l[i]? = some x) : (pvs l)[i]? = some x.xs := by simp [pvs, h]

/-! A way through pages. -/
def wayP (n : Nat) (ws : List Int) : List Nat := ws.map fun x => x.toNat / n
theorem wayP_len (n : Nat) (ws : List Int) : (wayP n ws).length = ws.length := by simp [wayP]
theorem wayP_get {n : Nat} {ws : List Int} {i : Nat} {x : Int} (h : ws[i]? = some x) : (wayP n ws)[i]? = some (x.toNat / n) := by simp [wayP, h]
def mostP (pages : Nat) (bits : Int) : Int := if bits < 4 then 0 else min (pages : Int) (bits / 4)
theorem way_few {n : Nat} {ws : List Int} {pages : Nat} {bits : Int} (hp : ∀ a ∈ wayP n ws, a < pages) (hb : (ws.length : Int) ≤ bits / 4) (l : List Nat) (hl : l.Nodup) (hs : ∀ x ∈ l, x ∈ wayP n ws) : l.length ≤ (mostP pages bits).toNat := by
  have h1 := len_ltN hl (fun x hx => hp x (hs x hx))
  have h2 := len_subN hl hs
  rw [wayP_len] at h2
  unfold mostP
  split
  · have : bits / 4 ≤ 0 := by omega
    have : ws.length = 0 := by omega
    omega
  · omega
structure Fits (cap n : Nat) (ps : List (List UInt8)) (ids : List Nat) (l : List KV) : Prop where
  num : Ids cap n ids
  pos : 0 < cap
  le : cap ≤ 64
  eq : l = ofP ps ids
  pn : ps.length = n
theorem Fits.right {cap n : Nat} {ps : List (List UInt8)} {ids : List Nat} {l : List KV} (h : Fits cap n ps ids l) : kright (cap : Nat) l = true := by rw [h.eq]; exact h.num.right h.pos h.le
theorem Fits.at {cap n : Nat} {ps : List (List UInt8)} {ids : List Nat} {l : List KV} (h : Fits cap n ps ids l) {i : Nat} {x : KV} (hx : l[i]? = some x) : 0 ≤ x.1 ∧ x.1 < (ps.length : Int) ∧ ps[x.1.toNat]? = some x.2 := by
  rw [h.eq] at hx
  obtain ⟨a, ha, rfl⟩ : ∃ a, ids[i]? = some a ∧ ((a : Int), ps.getD a []) = x := by
    simp only [ofP, List.getElem?_map, Option.map_eq_some_iff] at hx; exact hx
  have := h.num.lt a (List.mem_of_getElem? ha)
  have hl : a < ps.length := by rw [h.pn]; exact this
  refine ⟨by simp only; omega, by simp only; omega, ?_⟩
  simp [List.getD, hl]
theorem Fits.nil {cap n : Nat} {ps : List (List UInt8)} (h0 : 0 < cap) (h1 : cap ≤ 64) (hn : ps.length = n) : Fits cap n ps [] [] := ⟨⟨List.nodup_nil, Nat.zero_le _, fun _ h => by cases h⟩, h0, h1, rfl, hn⟩
theorem Fits.visit {cap n : Nat} {ps : List (List UInt8)} {ids : List Nat} {l : List KV} (h : Fits cap n ps ids l) {a : Nat} (ha : a < n) :
    lookO (cap : Nat) l a = decide (a ∈ ids) ∧ (a ∈ ids → Fits cap n ps (lru cap ids a) (lookK (cap : Nat) l a)) ∧ (a ∉ ids → Fits cap n ps (lru cap ids a) (keepK (cap : Nat) l ((a : Int), ps.getD a [])) ∧ keepE (cap : Nat) l ((a : Int), ps.getD a []) = 0) := by
  have h1 := ofP_look (ps := ps) h.num h.pos h.le a
  have hl := h.num.lru ha h.pos
  rw [h.eq]
  exact ⟨h1.1, fun hm => ⟨hl, h.pos, h.le, h1.2 hm, h.pn⟩, fun hm => have h2 := ofP_keep (ps := ps) h.num h.pos h.le hm; ⟨⟨hl, h.pos, h.le, h2.1, h.pn⟩, h2.2⟩⟩
theorem lru_range {cap i : Nat} (h : i < cap) : lru cap (List.range i) i = List.range (i + 1) := by
  rw [lru, if_neg (by simp), List.length_range, if_neg (by omega), List.range_succ]
def idsOf (l : List KV) : List Nat := l.map fun x => x.1.toNat
theorem idsOf_ofP (ps : List (List UInt8)) (ids : List Nat) : idsOf (ofP ps ids) = ids := by
  rw [idsOf, ofP, List.map_map]
  have : ((fun x : KV => x.1.toNat) ∘ fun n : Nat => ((n : Int), ps.getD n [])) = id := by funext n; simp
  rw [this, List.map_id]
def FitK (m : Int) (ps : List (List UInt8)) (l : List KV) : Prop := 0 ≤ m ∧ Fits m.toNat ps.length ps (idsOf l) l
theorem FitK.of {cap n : Nat} {ps : List (List UInt8)} {ids : List Nat} {l : List KV} (h : Fits cap n ps ids l) : FitK (cap : Nat) ps l := by
  have e : idsOf l = ids := by rw [h.eq, idsOf_ofP]
  refine ⟨by omega, ?_⟩
  rw [e, h.pn, Int.toNat_natCast]; exact h
theorem FitK.right {m : Int} {ps : List (List UInt8)} {l : List KV} (h : FitK m ps l) : kright m l = true := by
  have := h.2.right
  rwa [show ((m.toNat : Nat) : Int) = m by have := h.1; omega] at this
def wholeN (ps : List (List UInt8)) : List Nd := ps.flatMap rallN
structure PgOk (bits : Int) (n : Nat) (ps : List (List UInt8)) (ns : List Nd) : Prop where
  ok : allOk ns = true
  tr : (stepsV bits ns).isSome = true
  one : 1 ≤ n
  le : n ≤ 8
  eq : ps = pagesF ns n
theorem wholeN_take {ns : List Nd} {n : Nat} (h : allOk ns = true) : ∀ {j : Nat}, j ≤ npg ns.length n → wholeN ((pagesF ns n).take j) = ns.take (j * n)
  | 0, _ => by simp [wholeN]
  | j + 1, hj => by
    have ih := wholeN_take (n := n) h (j := j) (by omega)
    rw [pagesF_take (by omega), part_take]
    unfold wholeN at ih ⊢
    rw [List.flatMap_append, ih]
    simp only [List.flatMap_cons, List.flatMap_nil, List.append_nil]
    rw [(rall_allB (part_ok h n j)).2]
theorem PgOk.whole {bits : Int} {n : Nat} {ps : List (List UInt8)} {ns : List Nd} (h : PgOk bits n ps ns) : wholeN ps = ns := by
  have h1 := wholeN_take (n := n) h.ok (Nat.le_refl _)
  rw [List.take_of_length_le (by rw [pagesF_len]; exact Nat.le_refl _), part_all h.one] at h1
  rw [h.eq]; exact h1
theorem wholeN_take2 {bits : Int} {n : Nat} {ps : List (List UInt8)} {ns : List Nd} (h : PgOk bits n ps ns) {i : Nat} : wholeN (ps.take i) = ns.take (i * n) := by
  rcases Nat.le_total i (npg ns.length n) with hi | hi
  · rw [h.eq]; exact wholeN_take h.ok hi
  · rw [List.take_of_length_le (by rw [h.eq, pagesF_len]; exact hi), h.whole, List.take_of_length_le]
    exact Nat.le_trans (npg_le h.one) (Nat.mul_le_mul_right _ hi)
theorem PgOk.len {bits : Int} {n : Nat} {ps : List (List UInt8)} {ns : List Nd} (h : PgOk bits n ps ns) : ps.length = npg ns.length n := by rw [h.eq, pagesF_len]
theorem PgOk.few {bits : Int} {n : Nat} {ps : List (List UInt8)} {ns : List Nd} (h : PgOk bits n ps ns) : ns.length ≤ 512 ∧ ps.length ≤ 512 := by
  have h1 := h.ok
  simp only [allOk, Bool.and_eq_true, decide_eq_true_eq] at h1
  have h2 := npg_few (len := ns.length) (n := n) h.one
  have := h.len
  omega
theorem PgOk.at {bits : Int} {n : Nat} {ps : List (List UInt8)} {ns : List Nd} (h : PgOk bits n ps ns) {i : Nat} {b : List UInt8} (hb : ps[i]? = some b) : rallN b = part ns n i ∧ rallE b = 0 ∧ wholeN (ps.take (i + 1)) = wholeN (ps.take i) ++ part ns n i ∧ i < npg ns.length n ∧ b.length ≤ 640 := by
  have hi : i < npg ns.length n := by rw [← h.len]; exact (List.getElem?_eq_some_iff.1 hb).1
  have e := hb
  rw [h.eq, pagesF_get hi] at e
  have e2 := Option.some.inj e
  obtain ⟨r2, r1⟩ := rall_allB (part_ok h.ok n i)
  rw [e2] at r1 r2
  refine ⟨r1, r2, ?_, hi, ?_⟩
  · rw [List.take_add_one, hb]
    unfold wholeN
    rw [List.flatMap_append]
    simp [r1]
  · rw [← e2, allB_length, part_len]
    have := h.le; omega
end Go.Kb

/- Values that are no more written: what they reach, as one entry. -/
namespace Go.Eng
open Go.RowKit

class Rea (τ : Type) [d : Deep τ] where
  reach : τ → Nat → Prop
  congr : ∀ (h h' : Nat → Option Obj) (x : τ), (∀ k, reach x k → h' k = h k) → d.good h x → d.good h' x
theorem Lies.congr {α : Type} {enc : α → Array Value} {c : Nat} {h h' : Nat → Option Obj} {s : Sv} {xs : List α} (e : xs ≠ [] → h' s.b = h s.b) (r : Lies enc c h s xs) : Lies enc c h' s xs :=
  ⟨r.ok, r.len, fun i x hi j hj => by
    have hne : xs ≠ [] := fun he => by rw [he] at hi; simp at hi
    rw [← r.row i x hi j hj]; unfold cellH; rw [e hne]⟩
@[reducible] def Rea.flat {τ : Type} [d : Deep τ] (hg : ∀ h x, d.good h x) : Rea τ := ⟨fun _ _ => False, fun _ h' x _ _ => hg h' x⟩
instance Rea.slice {τ : Type} [d : Deep τ] [r : Rea τ] : Rea (Sl τ) where
  reach a k := (a.xs ≠ [] ∧ k = a.sv.b) ∨ ∃ x ∈ a.xs, r.reach x k
  congr h h' a e g := ⟨g.1.congr fun hne => e _ (.inl ⟨hne, rfl⟩), fun x hx => r.congr h h' x (fun k hk => e k (.inr ⟨x, hx, hk⟩)) (g.2 x hx)⟩
def fz {τ : Type} [d : Deep τ] [r : Rea τ] (x : τ) : Ent := ⟨r.reach x, fun h => d.good h x, fun h h' e s => r.congr h h' x e s⟩
section
variable {w0 : World} {L : List Ent} {τ : Type} [d : Deep τ] [r : Rea τ]
instance (priority := high) HdD.frozen {a : τ} {i : Nat} [q : At L (fz a) i] : HdD w0 L a := ⟨fun _ hw => hw.get q.h⟩
theorem Mem.freeze {w : World} {es : List Ent} (x : τ) (hg : d.good (hp w) x) (hr : ∀ k, r.reach x k → ∃ e ∈ es, e.fp k) (h : Mem w0 (es ++ L) w) : Mem w0 (fz x :: L) w := by
  have hd := List.pairwise_append.1 h.dis
  refine ⟨h.below, fun e he => ?_, fun e he k hk => ?_, List.pairwise_cons.2 ⟨fun y hy k hk hk' => ?_, hd.2.1⟩⟩
  · rcases List.mem_cons.1 he with rfl | he
    · exact hg
    · exact h.sat e (List.mem_append.2 (.inr he))
  · rcases List.mem_cons.1 he with rfl | he
    · obtain ⟨e', he', hk'⟩ := hr k hk
      exact h.dom e' (List.mem_append.2 (.inl he')) k hk'
    · exact h.dom e (List.mem_append.2 (.inr he)) k hk
  · obtain ⟨e', he', hk2⟩ := hr k hk
    exact hd.2.2 e' he' y hy k hk2 hk'
theorem Mem.freeze1 {w : World} {e : Ent} (x : τ) (hg : d.good (hp w) x) (hr : ∀ k, r.reach x k → e.fp k) (h : Mem w0 (e :: L) w) : Mem w0 (fz x :: L) w :=
  Mem.freeze (es := [e]) x hg (fun k hk => ⟨e, by simp, hr k hk⟩) h
theorem fz_flat {x : τ} {w : World} (hr : ∀ k, ¬ r.reach x k) (hg : d.good (hp w) x) (h : Mem w0 L w) : Mem w0 (fz x :: L) w :=
  Mem.freeze (es := []) x hg (fun k hk => (hr k hk).elim) h
end
end Go.Eng

/- What is kept, as cells; the place of an id: walked. -/
namespace Go.Proofs.Ytklhkejhndnhbaa
open Go.Eng Go.Kb

instance : ZeroT Try.prog 51 (.agg (icells zit)) := ⟨by kernel_rfl⟩
instance : ZeroT Try.prog 40 (.agg (kpcells ⟨0, ⟨Sv.none, []⟩⟩)) := ⟨by kernel_rfl⟩
theorem it_build (n : Int) (s : Sv) (xs : List UInt8) (w : World) : (Instr.build 51 #[(0, .int .i64 n), (1, s.val)]).run Try.prog w = .ok (.agg (icells ⟨n, ⟨s, xs⟩⟩)) w := by
  unfold icells
  obtain ⟨e, b, o, l, c, p⟩ := s
  cases e <;> kernel_rfl
theorem kp_build (n : Int) (s : Sv) (xs : List It) (w : World) : (Instr.build 40 #[(0, .int .i64 n), (1, s.val)]).run Try.prog w = .ok (.agg (kpcells ⟨n, ⟨s, xs⟩⟩)) w := by
  unfold kpcells
  obtain ⟨e, b, o, l, c, p⟩ := s
  cases e <;> kernel_rfl
set_option maxRecDepth 20000 in
theorem kpl1_c (w : World) (b : Nat) (x : It) (id : Int) (hb : Lies iec 1 (hp w) ⟨false, b, 0, 1, 1, none⟩ [id]) : Calls Try.prog 47 #[.agg (icells x), .pointer (some ⟨b, 0, none⟩)] w fun e w' => e = .returned (.bool (decide (x.id = id))) ∧ Mem w [] w' := by
  have gb : Gv w ⟨false, b, 0, 1, 1, none⟩ iec 1 [id] := ⟨hb⟩
  refine calls_of (args := [_, _]) Try.func47 rfl Try.ntmps47 rfl ?_
  change Cw _ _ _ _ _ [(0, .agg (icells x)), (1, .pointer (some ⟨b, 0, none⟩))] []
  refine cw_seq ?_
  refine cw_region ?_
  refine sq_boxA rfl fun b2 => ?_
  refine sq_r (ry_assign rfl) ?_
  refine sq_nil ?_
  refine ex_then ?_
  refine cw_seq ?_
  refine cw_region ?_
  refine sq_r (ry_field (o' := 0) rfl rfl) ?_
  refine sq_r (ry_cellc rfl) ?_
  refine sq_r (ry_elemcH (s := ⟨false, b, 0, 1, 1, none⟩) (enc := iec) (c := 1) (xs := [id]) (a := id) (j := 0) (v := .int .i64 id) rfl 0 rfl rfl (by decide)) ?_
  refine sq_r (ry_int rfl rfl rfl) ?_
  refine sq_r (ry_assign rfl) ?_
  refine sq_nil ?_
  refine ex_then ?_
  refine cw_ret ?_
  refine ex_ret (.inl rfl) (res_1 rfl (rv_tmp rfl)) (fun w1 hw => ?_)
  exact ⟨congrArg (fun b => Ending.returned (Value.bool b)) (rfl), Keep.mem hw⟩
set_option maxRecDepth 20000 in
theorem kidx_c (w : World) (b : Nat) (s : Sv) (ss : List It) (id : Int) (hs : Lies icells 2 (hp w) s ss) (hb : Lies iec 1 (hp w) ⟨false, b, 0, 1, 1, none⟩ [id]) : Calls Try.prog 46 #[s.val, .func (.func 47) #[] #[.pointer (some ⟨b, 0, none⟩)]] w fun e w' => e = .returned (.int .i64 (plI (kvs ss) id)) ∧ Mem w [] w' := by
  have gs : Gv w s icells 2 ss := ⟨hs⟩
  have hsb := hs.bd
  refine calls_of (args := [_, _]) Try.func46 rfl Try.ntmps46 rfl ?_
  change Cw _ _ _ _ _ [(0, s.val), (1, .func (.func 47) #[] #[.pointer (some ⟨b, 0, none⟩)])] []
  refine cw_seq ?_
  refine cw_region ?_
  refine sq_r (ry_assign rfl) ?_
  refine sq_nil ?_
  refine ex_then ?_
  refine cw_seq ?_
  refine cw_seq ?_
  refine cw_region ?_
  refine sq_r (ry_move rfl) ?_
  refine sq_r (ry_lenH rfl) ?_
  refine sq_r (ry_move rfl) ?_
  refine sq_nil ?_
  refine ex_then ?_
  refine cw_block ?_
  refine cw_loop (X := Nat) (fun zz => [(8, .int .i64 (zz : Nat)), (0, s.val), (1, .func (.func 47) #[] #[.pointer (some ⟨b, 0, none⟩)]), (7, .int .i64 (ss.length : Nat))]) (fun zz => []) (fun zz => zz ≤ ss.length ∧ ∀ y ∈ kvs (ss.take zz), y.1 ≠ id) (fun zz => ss.length - zz) 0 ⟨Nat.zero_le _, by simp [kvs]⟩ (Sub.cons rfl (Sub.cons rfl (Sub.cons rfl (Sub.cons rfl (Sub.nil _))))) (fun w hw => Keep.mem hw) ?_
  rintro i ⟨hi1, hi2⟩
  refine cw_seq ?_
  refine cw_region ?_
  refine sq_r (ry_int rfl rfl rfl) ?_
  refine sq_nil ?_
  refine ex_then ?_
  refine cw_seq ?_
  refine cw_cond rfl (fun h0 => ?_) (fun h0 => ?_)
  · try simp only [bz0, bz1, bz2, bz3, bz4, bz5, bz6, bz7, bz8, bz9] at h0
    refine cw_skip ?_
    refine ex_then ?_
    refine cw_seq ?_
    refine cw_block ?_
    refine cw_seq ?_
    refine cw_region ?_
    refine sq_r (ry_move rfl) ?_
    refine sq_r (ry_assign rfl) ?_
    refine sq_nil ?_
    refine ex_then ?_
    refine cw_seq ?_
    refine cw_region ?_
    refine sq_r (ry_move rfl) ?_
    refine sq_r (ry_move rfl) ?_
    refine sq_r (ry_move rfl) ?_
    obtain ⟨x, hx⟩ := get_some (xs := ss) (i := i) (by omega)
    refine sq_r (ry_idxH rfl rfl i rfl (by omega)) ?_
    refine sq_r (ry_elemH rfl i hx rfl) ?_
    refine sq_y (yl_fcall rfl rfl (fun w1 hw1 => kpl1_c w1 b x id (hb.mono hw1.below))) ?_
    refine sq_nil ?_
    refine ex_then ?_
    refine cw_cond rfl (fun h1 => ?_) (fun h1 => ?_)
    · try simp only [bz0, bz1, bz2, bz3, bz4, bz5, bz6, bz7, bz8, bz9] at h1
      have hp : plc (kvs ss) id = i := plc_at (kvs_get hx) (by simpa [kval] using h1) (by rw [kvs, ← List.map_take]; exact hi2)
      have hil : i < (kvs ss).length := by rw [kvs_length]; exact (List.getElem?_eq_some_iff.1 hx).1
      refine cw_seq ?_
      refine cw_region ?_
      refine sq_r (ry_move rfl) ?_
      refine sq_r (ry_assign rfl) ?_
      refine sq_nil ?_
      refine ex_then ?_
      refine cw_ret ?_
      refine ex_block_ret ?_
      refine ex_pass_ret ?_
      refine ex_pass_ret ?_
      refine ex_block_ret ?_
      refine ex_pass_ret ?_
      refine ex_ret (.inl rfl) (res_1 rfl (rv_tmp rfl)) (fun w1 hw => ?_)
      exact ⟨congrArg (fun b => Ending.returned (Value.int .i64 b)) ((by rw [plI, hp, if_pos hil])), Keep.mem hw⟩
    · try simp only [bz0, bz1, bz2, bz3, bz4, bz5, bz6, bz7, bz8, bz9] at h1
      refine cw_skip ?_
      refine ex_block ?_
      refine ex_then ?_
      refine cw_region ?_
      refine sq_r (ry_add rfl rfl (by omega)) ?_
      refine sq_r (ry_move rfl) ?_
      refine sq_nil ?_
      exact ex_again (x := (i)) (i + 1) ⟨by first | omega | (simp only []; omega), fun y hy => by rw [kvs, List.take_add_one, hx, List.map_append, List.mem_append] at hy; rcases hy with h | h; (exact hi2 y h); (obtain rfl : y = kval x := by simpa using h); simpa [kval] using h1⟩ (by first | omega | (simp only []; omega)) (Sub.cons rfl (Sub.cons rfl (Sub.cons rfl (Sub.cons rfl (Sub.nil _))))) (fun w hw => Keep.mem hw)
  · try simp only [bz0, bz1, bz2, bz3, bz4, bz5, bz6, bz7, bz8, bz9] at h0
    obtain rfl : i = ss.length := by omega
    refine cw_exit ?_
    refine ex_pass_exit ?_
    refine ex_pass_exit ?_
    refine ex_block_hit ?_
    refine ex_then ?_
    refine cw_seq ?_
    refine cw_region ?_
    refine sq_r (ry_assign rfl) ?_
    refine sq_nil ?_
    refine ex_then ?_
    refine cw_ret ?_
    refine ex_ret (.inl rfl) (res_1 rfl (rv_tmp rfl)) (fun w1 hw => ?_)
    exact ⟨congrArg (fun b => Ending.returned (Value.int .i64 b)) ((by rw [plI, plc_none (by rw [List.take_length] at hi2; exact hi2), if_neg (Nat.lt_irrefl _)])), Keep.mem hw⟩
set_option maxRecDepth 20000 in
theorem kplace_c (w : World) (l : Sv) (ls : List It) (id : Int) (hl : Lies icells 2 (hp w) l ls) : Calls Try.prog 31 #[l.val, .int .i64 id] w fun e w' => e = .returned (.int .i64 (plI (kvs ls) id)) ∧ Mem w [] w' := by
  have ghl : Gv w l icells 2 ls := ⟨hl⟩
  refine calls_of (args := [_, _]) Try.func31 rfl Try.ntmps31 rfl ?_
  change Cw _ _ _ _ _ [(0, l.val), (1, .int .i64 id)] []
  refine cw_seq ?_
  refine cw_region ?_
  refine sq_box1 (by first | rfl | exact Sv.cells_val _) rfl fun b3 => ?_
  refine sq_r (ry_assign rfl) ?_
  refine sq_nil ?_
  refine ex_then ?_
  refine cw_seq ?_
  refine cw_region ?_
  refine sq_r (ry_move rfl) ?_
  refine sq_r (ry_makeFunc (vs := [.pointer (some ⟨b3, 0, none⟩)]) rfl) ?_
  refine sq_y (yl_call (v := .int .i64 (plI (kvs ls) id)) rfl (fun w1 hw1 => kidx_c w1 b3 l ls id (((inferInstance : Hd w _ l icells 2 ls).h w1 hw1)) ((holds_blk (b := b3) (cs := #[.int .i64 id]) (enc := iec) (xs := [id]) (n := 1) rfl rfl (by decide) w1 hw1)))) ?_
  refine sq_r (ry_assign rfl) ?_
  refine sq_nil ?_
  refine ex_then ?_
  refine cw_ret ?_
  refine ex_ret (.inl rfl) (res_1 rfl (rv_tmp rfl)) (fun w1 hw => ?_)
  exact ⟨congrArg (fun b => Ending.returned (Value.int .i64 b)) (rfl), Keep.mem hw⟩
instance kplace_i {w0 : World} {L : List Ent} {l : Sv} {ls : List It} {id : Int} [hl : HdE w0 L icells 2 l ls] : FnQ Try.prog 31 w0 L [l.val, .int .i64 id] (.int .i64 (plI (kvs ls) id)) (True) := ⟨fun hp w hw => kplace_c w l ls id (hl.h w hw)⟩

end Go.Proofs.Ytklhkejhndnhbaa

/- What is kept, copied: walked. -/
namespace Go.Proofs.Ytklhkejhndnhbaa
open Go.Eng Go.Kb
theorem kvs_same {zs : List It} {i : Nat} {z : It} (h : zs[i]? = some z) (s : Sv) : kvs (zs.set i ⟨z.id, ⟨s, z.body.xs⟩⟩) = kvs zs := by
  rw [kvs, List.map_set]
  have : kval ⟨z.id, ⟨s, z.body.xs⟩⟩ = kval z := rfl
  rw [this]
  obtain ⟨hi, rfl⟩ := List.getElem?_eq_some_iff.1 h
  refine List.ext_getElem? fun j => ?_
  rw [List.getElem?_set]
  by_cases hj : i = j
  · subst hj; rw [if_pos rfl, if_pos (by simpa using hi)]; simp [hi, kvs]
  · rw [if_neg hj]; rfl
set_option maxRecDepth 20000 in
theorem cloneI_c (w : World) (s : Sv) (ss : List It) (hs : Lies icells 2 (hp w) s ss) (hpre : ss.length ≤ 1000000) : Calls Try.prog 45 #[s.val] w fun e w' => ∃ zz : Sv, e = .returned (zz.val) ∧ (True) ∧ Mem w [own icells 2 zz ss] w' := by
  have ghs : Gv w s icells 2 ss := ⟨hs⟩
  refine calls_of (args := [_]) Try.func45 rfl Try.ntmps45 rfl ?_
  change Cw _ _ _ _ _ [(0, s.val)] []
  refine cw_seq ?_
  refine cw_region ?_
  refine sq_r (ry_assign rfl) ?_
  refine sq_nil ?_
  refine ex_then ?_
  refine cw_seq ?_
  refine cw_seq ?_
  refine cw_region ?_
  refine sq_r (ry_move rfl) ?_
  refine sq_r (ry_nilS Try.underlying38 rfl) ?_
  refine sq_nil ?_
  refine ex_then ?_
  refine cw_cond rfl (fun h0 => ?_) (fun h0 => ?_)
  · try simp only [bz0, bz1, bz2, bz3, bz4, bz5, bz6, bz7, bz8, bz9] at h0
    have e0 : ss = [] := List.length_eq_zero_iff.1 (by have := hs.ok.nil h0; have := hs.len; omega)
    refine cw_seq ?_
    refine cw_region ?_
    refine sq_r (ry_assign rfl) ?_
    refine sq_nil ?_
    refine ex_then ?_
    refine cw_ret ?_
    refine ex_pass_ret ?_
    refine ex_ret (.inl rfl) (res_1 rfl (rv_tmp rfl)) (fun w1 hw => ?_)
    exact ⟨Sv.none, rfl, trivial, by rw [e0]; exact (Keep.mem hw : Mem w [] _).nilOwn icells 2⟩
  · try simp only [bz0, bz1, bz2, bz3, bz4, bz5, bz6, bz7, bz8, bz9] at h0
    refine cw_skip ?_
    refine ex_then ?_
    refine cw_seq ?_
    refine cw_region ?_
    refine sq_build0 icells fun b5 => ?_
    refine sq_r (ry_move rfl) ?_
    refine sq_append (s := ⟨false, b5, 0, 0, 0, none⟩) (enc := icells) (ys := ss) rfl rfl (by decide) (fun w hw => src_rows (s := s) Try.underlying38 (by decide) ((inferInstance : HdE _ _ icells 2 s ss).h w hw)) (by simp only [List.length_nil]; omega) (by simp only [List.length_nil]; omega) fun s7 hs7 hl7 => ?_
    refine sq_r (ry_assign rfl) ?_
    refine sq_nil ?_
    refine ex_then ?_
    refine cw_ret ?_
    refine ex_ret (.inl rfl) (res_1 rfl (rv_tmp rfl)) (fun w1 hw => ?_)
    exact ⟨s7, rfl, trivial, by rw [List.nil_append] at hw; exact Keep.mem hw⟩
instance cloneI_i {w0 : World} {L : List Ent} {s : Sv} {ss : List It} [hs : HdE w0 L icells 2 s ss] : FnC Try.prog 45 w0 L [s.val] (Sv) (fun zz => zz.val) (fun zz => own icells 2 zz ss :: L) (fun zz => True) (ss.length ≤ 1000000) := ⟨fun hp w hw => (cloneI_c w s ss (hs.h w hw) hp).mono fun e w' ⟨x, h1, h2, h3⟩ => ⟨x, h1, h2, hw.call h3⟩⟩
set_option maxRecDepth 20000 in
theorem bclone_c (w : World) (x : Sv) (xs : List UInt8) (hx : Lies benc 1 (hp w) x xs) (hpre : xs.length ≤ 1000000) : Calls Try.prog 33 #[x.val] w fun e w' => ∃ zz : Sv, e = .returned (zz.val) ∧ (True) ∧ Mem w [own benc 1 zz xs] w' := by
  have ghx : Gv w x benc 1 xs := ⟨hx⟩
  refine calls_of (args := [_]) Try.func33 rfl Try.ntmps33 rfl ?_
  change Cw _ _ _ _ _ [(0, x.val)] []
  refine cw_seq ?_
  refine cw_region ?_
  refine sq_r (ry_assign rfl) ?_
  refine sq_nil ?_
  refine ex_then ?_
  refine cw_seq ?_
  refine cw_seq ?_
  refine cw_region ?_
  refine sq_r (ry_move rfl) ?_
  refine sq_r (ry_nilS Try.underlying49 rfl) ?_
  refine sq_nil ?_
  refine ex_then ?_
  refine cw_cond rfl (fun h0 => ?_) (fun h0 => ?_)
  · try simp only [bz0, bz1, bz2, bz3, bz4, bz5, bz6, bz7, bz8, bz9] at h0
    have e0 : xs = [] := List.length_eq_zero_iff.1 (by have := hx.ok.nil h0; have := hx.len; omega)
    refine cw_seq ?_
    refine cw_region ?_
    refine sq_r (ry_assign rfl) ?_
    refine sq_nil ?_
    refine ex_then ?_
    refine cw_ret ?_
    refine ex_pass_ret ?_
    refine ex_ret (.inl rfl) (res_1 rfl (rv_tmp rfl)) (fun w1 hw => ?_)
    exact ⟨Sv.none, rfl, trivial, by rw [e0]; exact (Keep.mem hw : Mem w [] _).nilOwn benc 1⟩
  · try simp only [bz0, bz1, bz2, bz3, bz4, bz5, bz6, bz7, bz8, bz9] at h0
    refine cw_skip ?_
    refine ex_then ?_
    refine cw_seq ?_
    refine cw_region ?_
    refine sq_build0 benc fun b5 => ?_
    refine sq_r (ry_move rfl) ?_
    refine sq_append (s := ⟨false, b5, 0, 0, 0, none⟩) (ys := xs) rfl rfl (by decide) (fun w hw => src_rows (s := x) Try.underlying49 (by decide) ((inferInstance : Hd _ _ x benc 1 xs).h w hw)) (by simp only [List.length_nil]; omega) (by simp only [List.length_nil]; omega) fun s7 hs7 hl7 => ?_
    refine sq_r (ry_assign rfl) ?_
    refine sq_nil ?_
    refine ex_then ?_
    refine cw_ret ?_
    refine ex_ret (.inl rfl) (res_1 rfl (rv_tmp rfl)) (fun w1 hw => ?_)
    exact ⟨s7, rfl, trivial, by rw [List.nil_append] at hw; exact Keep.mem hw⟩
instance bclone_i {w0 : World} {L : List Ent} {x : Sv} {xs : List UInt8} [hx : HdE w0 L benc 1 x xs] : FnC Try.prog 33 w0 L [x.val] (Sv) (fun zz => zz.val) (fun zz => own benc 1 zz xs :: L) (fun zz => True) (xs.length ≤ 1000000) := ⟨fun hp w hw => (bclone_c w x xs (hx.h w hw) hp).mono fun e w' ⟨x, h1, h2, h3⟩ => ⟨x, h1, h2, hw.call h3⟩⟩
set_option maxRecDepth 20000 in
theorem kcopied_c (w : World) (k : Kp) (hk : Deep.good (hp w) k) (hpre : k.items.xs.length ≤ 1000000 ∧ ∀ x ∈ k.items.xs, x.body.xs.length ≤ 1000000) : Calls Try.prog 30 #[.agg (kpcells k)] w fun e w' => ∃ zz : Sl It × List Ent, e = .returned (.agg (kpcells (⟨k.most, zz.1⟩ : Kp))) ∧ (InBag zz.1.xs zz.2 ∧ kvs zz.1.xs = kvs k.items.xs) ∧ Mem w [own icells 2 zz.1.sv zz.1.xs, Ent.all zz.2] w' := by
  have ghk : GvD w k := ⟨hk⟩
  obtain ⟨hp1, hp2⟩ := hpre
  refine calls_of (args := [_]) Try.func30 rfl Try.ntmps30 rfl ?_
  change Cw _ _ _ _ _ [(0, .agg (kpcells k))] []
  refine cw_seq ?_
  refine cw_region ?_
  refine sq_boxA rfl fun b1 => ?_
  refine sq_allocA fun b2 => ?_
  refine sq_nil ?_
  refine ex_then ?_
  refine cw_seq ?_
  refine cw_region ?_
  refine sq_r (ry_field (o' := 1) rfl rfl) ?_
  refine sq_r (ry_cellc rfl) ?_
  refine sq_callC rfl (by omega) fun x7 hp7 => ?_
  refine sq_r (ry_assign rfl) ?_
  refine sq_nil ?_
  refine ex_then ?_
  refine cw_seq ?_
  refine cw_seq ?_
  refine cw_region ?_
  refine sq_r (ry_move rfl) ?_
  refine sq_r (ry_lenH rfl) ?_
  refine sq_r (ry_move rfl) ?_
  refine sq_nil ?_
  refine ex_then ?_
  refine cw_block ?_
  refine cw_loop (X := Nat × List It × List Ent) (fun zz => [(10, .int .i64 (zz.1 : Nat)), (3, x7.val), (1, .pointer (some ⟨b1, 0, none⟩)), (2, .pointer (some ⟨b2, 0, none⟩)), (9, .int .i64 (k.items.xs.length : Nat))]) (fun zz => [own icells 2 x7 zz.2.1, Ent.all zz.2.2, blk b2 (kpcells ⟨0, ⟨Sv.none, []⟩⟩) 40, blk b1 (kpcells k) 40]) (fun zz => zz.1 ≤ k.items.xs.length ∧ zz.2.1.length = k.items.xs.length ∧ kvs zz.2.1 = kvs k.items.xs ∧ (∀ j, zz.1 ≤ j → zz.2.1[j]? = k.items.xs[j]?) ∧ ∀ z ∈ zz.2.1.take zz.1, Deep.ent z ∈ zz.2.2) (fun zz => k.items.xs.length - zz.1) (0, k.items.xs, []) ⟨Nat.zero_le _, rfl, rfl, fun j _ => rfl, by simp⟩ (Sub.cons rfl (Sub.cons rfl (Sub.cons rfl (Sub.cons rfl (Sub.cons rfl (Sub.nil _)))))) (fun w hw => Keep.mem (Mem.bag0 hw)) ?_
  rintro ⟨i, zs, es⟩ ⟨hi1, hi2, hi3, hi4, hi5⟩
  dsimp only
  simp only at hi1 hi2 hi3 hi4 hi5
  refine cw_seq ?_
  refine cw_region ?_
  refine sq_r (ry_int rfl rfl rfl) ?_
  refine sq_nil ?_
  refine ex_then ?_
  refine cw_seq ?_
  refine cw_cond rfl (fun h0 => ?_) (fun h0 => ?_)
  · try simp only [bz0, bz1, bz2, bz3, bz4, bz5, bz6, bz7, bz8, bz9] at h0
    obtain ⟨z, hz⟩ := get_some (xs := zs) (i := i) (by omega)
    have hzl : k.items.xs[i]? = some z := by rw [← hi4 i (Nat.le_refl _)]; exact hz
    have mbz : Mb z k.items := ⟨List.mem_of_getElem? hzl⟩
    have hzm := hp2 z (List.mem_of_getElem? hzl)
    refine cw_skip ?_
    refine ex_then ?_
    refine cw_seq ?_
    refine cw_block ?_
    refine cw_seq ?_
    refine cw_region ?_
    refine sq_r (ry_move rfl) ?_
    refine sq_r (ry_assign rfl) ?_
    refine sq_nil ?_
    refine ex_then ?_
    refine cw_region ?_
    refine sq_r (ry_move rfl) ?_
    refine sq_r (ry_move rfl) ?_
    refine sq_r (ry_move rfl) ?_
    refine sq_r (ry_move rfl) ?_
    refine sq_r (ry_idxH rfl rfl i rfl (by omega)) ?_
    refine sq_r (ry_field rfl rfl) ?_
    refine sq_r (ry_elemcH (j := 1) rfl i hz rfl (by decide)) ?_
    refine sq_callC rfl (by omega) fun x20 hp20 => ?_
    refine sq_r (ry_idxH rfl rfl i rfl (by omega)) ?_
    refine sq_r (ry_field rfl rfl) ?_
    refine sq_storeS (n := 1) (k := i) (j := 1) (a := z) (a' := (⟨z.id, ⟨x20, z.body.xs⟩⟩ : It)) (xs := zs) (enc := icells) (c := 2) (v := x20.val) (by kernel_rfl) rfl rfl rfl hz (by rw [Sv.cells_val]; simp [Sv.one]) (by rw [Sv.cells_val]; rfl) (by decide) (by rw [Sv.cells_val]; rfl) ?_
    refine sq_nil ?_
    refine ex_block ?_
    refine ex_then ?_
    refine cw_region ?_
    refine sq_r (ry_add rfl rfl (by omega)) ?_
    refine sq_r (ry_move rfl) ?_
    refine sq_nil ?_
    exact ex_again (x := (i, zs, es)) (i + 1, zs.set i (⟨z.id, ⟨x20, z.body.xs⟩⟩ : It), Deep.ent (⟨x20, z.body.xs⟩ : Sl UInt8) :: es) ⟨by first | omega | (simp only []; omega), by rw [List.length_set]; exact hi2, by rw [kvs_same hz]; exact hi3, fun j hj => by simp only at hj; rw [List.getElem?_set_ne (by first | omega | (simp only []; omega))]; exact hi4 j (by first | omega | (simp only []; omega)), fun y hy => by
      have hs1 : (zs.set i (⟨z.id, ⟨x20, z.body.xs⟩⟩ : It))[i]? = some (⟨z.id, ⟨x20, z.body.xs⟩⟩ : It) := List.getElem?_set_self (by first | omega | (simp only []; omega))
      rw [List.take_add_one, hs1, List.take_set_of_le (Nat.le_refl _)] at hy
      rcases List.mem_append.1 hy with h | h
      · exact List.mem_cons_of_mem _ (hi5 y h)
      · rw [show y = (⟨z.id, ⟨x20, z.body.xs⟩⟩ : It) by simpa using h]; exact List.mem_cons_self⟩ (by simp only; omega) (Sub.cons rfl (Sub.cons rfl (Sub.cons rfl (Sub.cons rfl (Sub.cons rfl (Sub.nil _)))))) (fun w hw => Keep.mem (Mem.bagPush (Keep.mem (Mem.shutP (Keep.mem hw : Mem _ [own benc 1 x20 z.body.xs, own icells 2 x7 (zs.set i (⟨z.id, ⟨x20, z.body.xs⟩⟩ : It)), Ent.all es, blk b2 (kpcells ⟨0, ⟨Sv.none, []⟩⟩) 40, blk b1 (kpcells k) 40] _)) : Mem _ [Deep.ent (⟨x20, z.body.xs⟩ : Sl UInt8), Ent.all es, own icells 2 x7 (zs.set i (⟨z.id, ⟨x20, z.body.xs⟩⟩ : It)), blk b2 (kpcells ⟨0, ⟨Sv.none, []⟩⟩) 40, blk b1 (kpcells k) 40] _)))
  · try simp only [bz0, bz1, bz2, bz3, bz4, bz5, bz6, bz7, bz8, bz9] at h0
    obtain rfl : i = k.items.xs.length := by omega
    have hall : ∀ z ∈ zs, Deep.ent z ∈ es := fun z hz => hi5 z (by rw [List.take_of_length_le (by omega)]; exact hz)
    refine cw_exit ?_
    refine ex_pass_exit ?_
    refine ex_pass_exit ?_
    refine ex_block_hit ?_
    refine ex_then ?_
    refine cw_seq ?_
    refine cw_region ?_
    refine sq_r (ry_field (o' := 0) rfl rfl) ?_
    refine sq_r (ry_cellc rfl) ?_
    refine sq_r (ry_move rfl) ?_
    refine sq_r (ry_build (v := .agg (kpcells ⟨k.most, ⟨x7, zs⟩⟩)) rfl (kp_build k.most x7 zs)) ?_
    refine sq_storeW rfl rfl ?_
    refine sq_nil ?_
    refine ex_then ?_
    refine cw_ret ?_
    refine ex_ret (.inl rfl) (res_1 rfl (rv_agg rfl)) (fun w1 hw => ?_)
    exact ⟨(⟨x7, zs⟩, es), rfl, ⟨⟨hall⟩, hi3⟩, Keep.mem hw⟩
instance kcopied_i {w0 : World} {L : List Ent} {k : Kp} [hk : HdD w0 L k] : FnC Try.prog 30 w0 L [.agg (kpcells k)] (Sl It × List Ent) (fun zz => .agg (kpcells (⟨k.most, zz.1⟩ : Kp))) (fun zz => own icells 2 zz.1.sv zz.1.xs :: Ent.all zz.2 :: L) (fun zz => InBag zz.1.xs zz.2 ∧ kvs zz.1.xs = kvs k.items.xs) (k.items.xs.length ≤ 1000000 ∧ ∀ x ∈ k.items.xs, x.body.xs.length ≤ 1000000) := ⟨fun hp w hw => (kcopied_c w k (hk.h w hw) hp).mono fun e w' ⟨x, h1, h2, h3⟩ => ⟨x, h1, h2, hw.call h3⟩⟩

end Go.Proofs.Ytklhkejhndnhbaa

/- Is what is kept right: walked. -/
namespace Go.Proofs.Ytklhkejhndnhbaa
open Go.Eng Go.Kb
set_option maxRecDepth 20000 in
theorem kright_c (w : World) (k : Kp) (hk : Deep.good (hp w) k) : Calls Try.prog 15 #[.agg (kpcells k)] w fun e w' => e = .returned (.bool (kright k.most (kvs k.items.xs))) ∧ Mem w [] w' := by
  have ghk : GvD w k := ⟨hk⟩
  have hkl := kvs_length k.items.xs
  refine calls_of (args := [_]) Try.func15 rfl Try.ntmps15 rfl ?_
  change Cw _ _ _ _ _ [(0, .agg (kpcells k))] []
  refine cw_seq ?_
  refine cw_region ?_
  refine sq_boxA rfl fun b1 => ?_
  refine sq_r (ry_assign rfl) ?_
  refine sq_nil ?_
  refine ex_then ?_
  refine cw_seq ?_
  refine cw_seq ?_
  refine cw_region ?_
  refine sq_r (ry_field (o' := 0) rfl rfl) ?_
  refine sq_r (ry_cellc rfl) ?_
  refine sq_r (ry_int rfl rfl rfl) ?_
  refine sq_r (ry_move rfl) ?_
  refine sq_gf rfl rfl rfl (fun hg => (Ry.yl (ry_field (o' := 0) rfl rfl))) ?_
  refine sq_gf rfl rfl rfl (fun hg => (Ry.yl (ry_cellc (ev_c hg rfl)))) ?_
  refine sq_gf rfl rfl rfl (fun hg => (Ry.yl (ry_int (ev_c hg rfl) rfl rfl))) ?_
  refine sq_r (ry_or rfl rfl rfl) ?_
  refine sq_r (ry_move rfl) ?_
  refine sq_gf rfl rfl rfl (fun hg => (Ry.yl (ry_field (o' := 1) rfl rfl))) ?_
  refine sq_gf rfl rfl rfl (fun hg => (Ry.yl (ry_cellc (ev_c hg rfl)))) ?_
  refine sq_gf rfl rfl rfl (fun hg => (Ry.yl (ry_lenH (ev_c hg rfl)))) ?_
  refine sq_gf rfl rfl rfl (fun hg => (Ry.yl (ry_field (o' := 0) rfl rfl))) ?_
  refine sq_gf rfl rfl rfl (fun hg => (Ry.yl (ry_cellc (ev_c hg rfl)))) ?_
  refine sq_gf rfl rfl rfl (fun hg => (Ry.yl (ry_int (ev_c hg rfl) (ev_c hg rfl) rfl))) ?_
  refine sq_r (ry_or rfl rfl rfl) ?_
  refine sq_nil ?_
  refine ex_then ?_
  refine cw_cond rfl (fun h0 => ?_) (fun h0 => ?_)
  · try simp only [bz0, bz1, bz2, bz3, bz4, bz5, bz6, bz7, bz8, bz9] at h0
    have hz : kright k.most (kvs k.items.xs) = false := by
      cases hk : kright k.most (kvs k.items.xs) with
      | false => rfl
      | true => have := kright_iff.1 hk; omega
    refine cw_seq ?_
    refine cw_region ?_
    refine sq_r (ry_assign rfl) ?_
    refine sq_nil ?_
    refine ex_then ?_
    refine cw_ret ?_
    refine ex_pass_ret ?_
    refine ex_ret (.inl rfl) (res_1 rfl (rv_tmp rfl)) (fun w1 hw => ?_)
    exact ⟨congrArg (fun b => Ending.returned (Value.bool b)) (hz.symm), Keep.mem hw⟩
  · try simp only [bz0, bz1, bz2, bz3, bz4, bz5, bz6, bz7, bz8, bz9] at h0
    refine cw_skip ?_
    refine ex_then ?_
    refine cw_seq ?_
    refine cw_seq ?_
    refine cw_region ?_
    refine sq_r (ry_field (o' := 1) rfl rfl) ?_
    refine sq_r (ry_cellc rfl) ?_
    refine sq_r (ry_lenH rfl) ?_
    refine sq_r (ry_move rfl) ?_
    refine sq_nil ?_
    refine ex_then ?_
    refine cw_block ?_
    refine cw_loop (X := Nat) (fun zz => [(24, .int .i64 (zz : Nat)), (1, .pointer (some ⟨b1, 0, none⟩)), (22, k.items.sv.val), (23, .int .i64 (k.items.xs.length : Nat))]) (fun zz => [blk b1 (kpcells k) 40]) (fun zz => zz ≤ k.items.xs.length ∧ ∀ j x, j < zz → (kvs k.items.xs)[j]? = some x → 0 ≤ x.1 ∧ plc (kvs k.items.xs) x.1 = j) (fun zz => k.items.xs.length - zz) 0 ⟨Nat.zero_le _, fun j x hj => by first | omega | (simp only []; omega)⟩ (Sub.cons rfl (Sub.cons rfl (Sub.cons rfl (Sub.cons rfl (Sub.nil _))))) (fun w hw => Keep.mem hw) ?_
    rintro i ⟨hi1, hi2⟩
    refine cw_seq ?_
    refine cw_region ?_
    refine sq_r (ry_int rfl rfl rfl) ?_
    refine sq_nil ?_
    refine ex_then ?_
    refine cw_seq ?_
    refine cw_cond rfl (fun h1 => ?_) (fun h1 => ?_)
    · try simp only [bz0, bz1, bz2, bz3, bz4, bz5, bz6, bz7, bz8, bz9] at h1
      obtain ⟨z, hz⟩ := get_some (xs := k.items.xs) (i := i) (by omega)
      have hpl := plc_le (kvs k.items.xs) z.id
      refine cw_skip ?_
      refine ex_then ?_
      refine cw_seq ?_
      refine cw_block ?_
      refine cw_seq ?_
      refine cw_region ?_
      refine sq_r (ry_move rfl) ?_
      refine sq_r (ry_idxH rfl rfl i rfl (by omega)) ?_
      refine sq_r (ry_elemH rfl i hz rfl) ?_
      refine sq_allocA fun b4 => ?_
      refine sq_r (ry_assign rfl) ?_
      refine sq_storeW rfl rfl ?_
      refine sq_nil ?_
      refine ex_then ?_
      refine cw_seq ?_
      refine cw_region ?_
      refine sq_r (ry_field (o' := 0) rfl rfl) ?_
      refine sq_r (ry_cellc rfl) ?_
      refine sq_r (ry_int rfl rfl rfl) ?_
      refine sq_r (ry_move rfl) ?_
      refine sq_gf rfl rfl rfl (fun hg => (Ry.yl (ry_field (o' := 1) rfl rfl))) ?_
      refine sq_gf rfl rfl rfl (fun hg => (Ry.yl (ry_cellc (ev_c hg rfl)))) ?_
      refine sq_gf rfl rfl rfl (fun hg => (Ry.yl (ry_field (o' := 0) rfl rfl))) ?_
      refine sq_gf rfl rfl rfl (fun hg => (Ry.yl (ry_cellc (ev_c hg rfl)))) ?_
      refine sq_gf rfl rfl rfl (fun hg => yl_callC (evl_cons (ev_c hg rfl) (evl_cons (ev_c hg rfl) evl_nil)) trivial) ?_
      refine sq_gf rfl rfl rfl (fun hg => (Ry.yl (ry_move rfl))) ?_
      refine sq_gf rfl rfl rfl (fun hg => (Ry.yl (ry_int (ev_c hg rfl) (ev_c hg rfl) rfl))) ?_
      refine sq_r (ry_or rfl rfl rfl) ?_
      refine sq_nil ?_
      refine ex_then ?_
      refine cw_cond rfl (fun h2 => ?_) (fun h2 => ?_)
      · try simp only [bz0, bz1, bz2, bz3, bz4, bz5, bz6, bz7, bz8, bz9] at h2
        have hz : kright k.most (kvs k.items.xs) = false := kright_step (kvs_get hz) (by rintro ⟨g1, g2⟩; rw [show (kval z).1 = z.id from rfl] at g1 g2; simp only [plI, g2] at h2; rw [if_pos (by rw [hkl]; exact (List.getElem?_eq_some_iff.1 hz).1)] at h2; omega)
        refine cw_seq ?_
        refine cw_region ?_
        refine sq_r (ry_assign rfl) ?_
        refine sq_nil ?_
        refine ex_then ?_
        refine cw_ret ?_
        refine ex_block_ret ?_
        refine ex_pass_ret ?_
        refine ex_pass_ret ?_
        refine ex_block_ret ?_
        refine ex_pass_ret ?_
        refine ex_ret (.inl rfl) (res_1 rfl (rv_tmp rfl)) (fun w1 hw => ?_)
        exact ⟨congrArg (fun b => Ending.returned (Value.bool b)) (hz.symm), Keep.mem hw⟩
      · try simp only [bz0, bz1, bz2, bz3, bz4, bz5, bz6, bz7, bz8, bz9] at h2
        have hok : 0 ≤ (kval z).1 ∧ plc (kvs k.items.xs) (kval z).1 = i := by
          rw [show (kval z).1 = z.id from rfl]
          simp only [plI] at h2
          split at h2 <;> omega
        refine cw_skip ?_
        refine ex_block ?_
        refine ex_then ?_
        refine cw_region ?_
        refine sq_r (ry_add rfl rfl (by omega)) ?_
        refine sq_r (ry_move rfl) ?_
        refine sq_nil ?_
        exact ex_again (x := (i)) (i + 1) ⟨by first | omega | (simp only []; omega), fun j x hj hx => if e : j = i then (by subst e; rw [kvs_get hz] at hx; cases hx; exact hok) else hi2 j x (by first | omega | (simp only []; omega)) hx⟩ (by first | omega | (simp only []; omega)) (Sub.cons rfl (Sub.cons rfl (Sub.cons rfl (Sub.cons rfl (Sub.nil _))))) (fun w hw => Keep.mem hw)
    · try simp only [bz0, bz1, bz2, bz3, bz4, bz5, bz6, bz7, bz8, bz9] at h1
      have hz : kright k.most (kvs k.items.xs) = true := kright_iff.2 ⟨by omega, by omega, by omega, fun j x hx => hi2 j x (by have := (List.getElem?_eq_some_iff.1 hx).1; omega) hx⟩
      refine cw_exit ?_
      refine ex_pass_exit ?_
      refine ex_pass_exit ?_
      refine ex_block_hit ?_
      refine ex_then ?_
      refine cw_seq ?_
      refine cw_region ?_
      refine sq_r (ry_assign rfl) ?_
      refine sq_nil ?_
      refine ex_then ?_
      refine cw_ret ?_
      refine ex_ret (.inl rfl) (res_1 rfl (rv_tmp rfl)) (fun w1 hw => ?_)
      exact ⟨congrArg (fun b => Ending.returned (Value.bool b)) (hz.symm), Keep.mem hw⟩
instance kright_i {w0 : World} {L : List Ent} {k : Kp} [hk : HdD w0 L k] : FnQ Try.prog 15 w0 L [.agg (kpcells k)] (.bool (kright k.most (kvs k.items.xs))) (True) := ⟨fun hp w hw => kright_c w k (hk.h w hw)⟩

end Go.Proofs.Ytklhkejhndnhbaa

/- Ids of what is kept, deleted: walked. -/
namespace Go.Proofs.Ytklhkejhndnhbaa
open Go.Eng Go.Kb
set_option maxRecDepth 20000 in
theorem sdelI_c (w0 w : World) (L : List Ent) (s : Sv) (ss : List It) (n : Nat) (m : Nat) (hw : Mem w0 (own icells 2 s ss :: L) w) (hpre : n ≤ m ∧ m ≤ ss.length) : Calls Try.prog 32 #[s.val, .int .i64 (n : Nat), .int .i64 (m : Nat)] w fun e w' => ∃ zz : Sv, e = .returned (zz.val) ∧ (True) ∧ Mem w0 (own icells 2 zz (ss.take n ++ ss.drop m) :: L) w' := by
  obtain ⟨hp1, hp2⟩ := hpre
  refine calls_in (args := [_, _, _]) Try.func32 rfl Try.ntmps32 rfl hw ?_
  change Cw _ _ _ _ _ [(0, s.val), (1, .int .i64 (n : Nat)), (2, .int .i64 (m : Nat))] (own icells 2 s ss :: L)
  refine cw_seq ?_
  refine cw_region ?_
  refine sq_r (ry_assign rfl) ?_
  refine sq_nil ?_
  refine ex_then ?_
  refine cw_seq ?_
  refine cw_region ?_
  refine sq_r (ry_move rfl) ?_
  refine sq_r (ry_move rfl) ?_
  refine sq_r (ry_move rfl) ?_
  refine sq_r (ry_move rfl) ?_
  refine sq_r (ry_lenH rfl) ?_
  refine sq_r (ry_subH3 (l := n) (h := m) (m := ss.length) rfl rfl rfl rfl rfl rfl rfl (by omega) (by omega) (by omega)) ?_
  refine sq_nil ?_
  refine ex_then ?_
  refine cw_seq ?_
  refine cw_seq ?_
  refine cw_region ?_
  refine sq_r (ry_move rfl) ?_
  refine sq_r (ry_move rfl) ?_
  refine sq_r (ry_int rfl rfl rfl) ?_
  refine sq_nil ?_
  refine ex_then ?_
  refine cw_cond rfl (fun h0 => ?_) (fun h0 => ?_)
  · try simp only [bz0, bz1, bz2, bz3, bz4, bz5, bz6, bz7, bz8, bz9] at h0
    obtain rfl : n = m := by omega
    refine cw_seq ?_
    refine cw_region ?_
    refine sq_r (ry_move rfl) ?_
    refine sq_r (ry_assign rfl) ?_
    refine sq_nil ?_
    refine ex_then ?_
    refine cw_ret ?_
    refine ex_pass_ret ?_
    refine ex_ret (.inl rfl) (res_1 rfl (rv_tmp rfl)) (fun w1 hw => ?_)
    exact ⟨s, rfl, trivial, by rw [List.take_append_drop]; exact hw⟩
  · try simp only [bz0, bz1, bz2, bz3, bz4, bz5, bz6, bz7, bz8, bz9] at h0
    refine cw_skip ?_
    refine ex_then ?_
    refine cw_seq ?_
    refine cw_bd s fun hbd0 => ?_
    have hlt : n < m := by omega
    refine cw_open (s := s) inferInstance (by decide) (by omega) fun pre mid T hpl hcap hnil hsp hok hsl => ?_
    have hle := hok.le
    have hbd := hok.bd
    have hlv : (flatR icells (ss.drop m)).length = (ss.length - m) * 2 := by rw [flatR_length, List.length_drop]
    have hlu : (flatR icells (ss.take n)).length = n * 2 := by rw [flatR_length, List.length_take]; congr 1; omega
    have hlx : (flatR icells ss).length = ss.length * 2 := flatR_length ss
    have exs : flatR icells ss = flatR icells (ss.take m) ++ flatR icells (ss.drop m) := by rw [← flatR_app, List.take_append_drop]
    have hlm : (flatR icells (ss.take m)).length = m * 2 := by rw [flatR_length, List.length_take]; congr 1; omega
    obtain ⟨X, hX⟩ : ∃ X, flatR icells ss = flatR icells (ss.take n) ++ X := ⟨flatR icells (ss.drop n), by rw [← flatR_app, List.take_append_drop]⟩
    have hXl : n * 2 + X.length = ss.length * 2 := by rw [← hlx, hX, List.length_append, hlu]
    obtain ⟨r1, hr1⟩ : ∃ r : Sv, r = (⟨false, s.b, s.o, n + (ss.length - m), s.cap, none⟩ : Sv) := ⟨_, rfl⟩
    refine cw_region ?_
    refine sq_r (ry_move rfl) ?_
    refine sq_r (ry_lenS rfl hok hsl) ?_
    refine sq_r (ry_assign rfl) ?_
    refine sq_nil ?_
    refine ex_then ?_
    refine cw_seq ?_
    refine cw_tail 6 [] (by kernel_rfl) (by kernel_rfl) ?_
    simp only [List.take_succ_cons, List.take_zero]
    refine qt_r (ry_move rfl) ?_
    refine qt_r (ry_move rfl) ?_
    have rg22 : Rg 0 n ss.length := ⟨by omega⟩
    refine qt_r (ry_subS_hi (h := n) rfl rfl rfl hok (by omega)) ?_
    refine qt_r (ry_move rfl) ?_
    refine qt_r (ry_move rfl) ?_
    have rg25 : Rg m ss.length ss.length := ⟨by omega⟩
    refine qt_r (ry_subS_lo (l := m) (n := ss.length) rfl rfl rfl hok hsl (by omega)) ?_
    refine qt_end ?_
    refine fr_nil ?_
    simp only [List.drop_succ_cons, List.drop_zero]
    refine sq_appendB (D := s.sub 2 0 n) (S := s.sub 2 m ss.length) (b := s.b) (o := s.o + n * 2) (n := ss.length - m) (vs := flatR icells (ss.drop m)) (R := r1) (cs' := (pre ++ (flatR icells (ss.take n) ++ (flatR icells (ss.drop m) ++ (X ++ mid).drop (flatR icells (ss.drop m)).length))).toArray) rfl rfl hnil hsp rfl (by rw [Sv.sub_0]; rfl) hnil hsp rfl rfl hlv (by show n - 0 + _ ≤ s.cap - 0; omega) (fun w hw j v hj => by
      have hjl := (List.getElem?_eq_some_iff.1 hj).1
      rw [hlv] at hjl
      rw [Sv.sub_o (by omega)]
      show w.cell? ⟨s.b, _, none⟩ = _
      rw [hw.cell (inferInstance : Has _ s.b _ _ _).h, List.getElem?_toArray, List.getElem?_append_right (by omega), List.getElem?_append_left (by omega), exs, List.getElem?_append_right (by omega), ← hj]
      congr 1; omega) (flatR_one _) (by simp only [List.size_toArray, List.length_append]; omega) (by rw [hX, List.append_assoc, ← List.append_assoc pre, over_cat (by rw [List.length_append]; omega), List.append_assoc]) (by rw [hr1, Sv.sub_0]; rfl) ?_
    refine sq_r (ry_assign rfl) ?_
    refine sq_nil ?_
    refine ex_then ?_
    refine cw_seq ?_
    refine cw_region ?_
    refine sq_r (ry_move rfl) ?_
    refine sq_r (ry_move rfl) ?_
    refine sq_r (ry_lenS (n := n + (ss.length - m)) (s := r1) rfl (by rw [hr1]; exact ⟨(fun h => by cases h), by simp only; omega, by simp only; omega, fun _ => rfl⟩) (by rw [hr1])) ?_
    refine sq_r (ry_move rfl) ?_
    refine sq_r (ry_subS (s := r1) (l := n + (ss.length - m)) (h := ss.length) rfl rfl rfl rfl rfl (by rw [hr1]; exact ⟨(fun h => by cases h), by simp only; omega, by simp only; omega, fun _ => rfl⟩) (by omega) (by rw [hr1]; simp only; omega)) ?_
    refine sq_clearB (D := r1.sub 2 (n + (ss.length - m)) ss.length) (b := s.b) (o := s.o + (n + (ss.length - m)) * 2) (n := m - n) (z := .agg (icells zit)) rfl (by rw [hr1]; rfl) (by rw [hr1]; rfl) (by rw [hr1]; rfl) (by rw [hr1, Sv.sub_o (by show _ < s.cap; omega)]) (by show ss.length - (n + (ss.length - m)) = _; omega) (by omega) (show (icells zit).all (·.oneCell') = true from (inferInstance : Enc icells 2).one zit) (by simp only [List.size_toArray, List.length_append, List.length_drop]; omega) fun Z hZ => ?_
    refine sq_nil ?_
    refine ex_then ?_
    refine cw_seq ?_
    refine cw_region ?_
    refine sq_r (ry_move rfl) ?_
    refine sq_r (ry_assign rfl) ?_
    refine sq_nil ?_
    refine ex_then ?_
    refine cw_ret ?_
    refine ex_ret (.inl rfl) (res_1 rfl (rv_tmp rfl)) (fun w1 hw => ?_)
    refine ⟨r1, rfl, trivial, ?_⟩
    rw [show (pre ++ (flatR icells (ss.take n) ++ (flatR icells (ss.drop m) ++ (X ++ mid).drop (flatR icells (ss.drop m)).length))) = (pre ++ (flatR icells (ss.take n) ++ flatR icells (ss.drop m))) ++ (X ++ mid).drop (flatR icells (ss.drop m)).length from by simp only [List.append_assoc], over_cat (A := pre ++ (flatR icells (ss.take n) ++ flatR icells (ss.drop m))) (by simp only [List.length_append]; omega), ← flatR_app, List.append_assoc pre] at hw
    have hw2 := own_shut (enc := icells) (i := 0) (xs := ss.take n ++ ss.drop m) (pre := pre) hw rfl r1 (by rw [hr1]; exact ⟨(fun h => by cases h), by simp only; omega, by simp only; omega, fun _ => rfl⟩) (by rw [hr1]) (by rw [hr1]) (by rw [hr1]) (by rw [hr1]; exact hpl.symm) (by rw [hr1]; simp only [List.length_append, List.length_take, List.length_drop]; omega) (by rw [hr1]; simp only [List.length_append, List.length_take, List.length_drop]; omega)
    exact hw2
instance sdelI_i {w0 : World} {L R : List Ent} {i : Nat} {s : Sv} {ss : List It} {n : Nat} {m : Nat} [q : Owns L s icells 2 ss i] [d : DelI L i R] : FnC Try.prog 32 w0 L [s.val, .int .i64 (n : Nat), .int .i64 (m : Nat)] (Sv) (fun zz => zz.val) (fun zz => own icells 2 zz (ss.take n ++ ss.drop m) :: R) (fun zz => True) (n ≤ m ∧ m ≤ ss.length) := ⟨fun hp w hw => sdelI_c w0 w R s ss n m (mem_one q.h d.h hw) hp⟩

end Go.Proofs.Ytklhkejhndnhbaa

/- What is kept, made, looked for: walked. -/
namespace Go.Proofs.Ytklhkejhndnhbaa
open Go.Eng Go.Kb
set_option maxRecDepth 20000 in
theorem knew_c (w : World) (m : Int)  : Calls Try.prog 10 #[.int .i64 m] w fun e w' => e = .returned (.tuple #[.agg (kpcells (⟨newM m, ⟨Sv.none, []⟩⟩ : Kp)), .int .i64 (newE m)]) ∧ Mem w [] w' := by
  refine calls_of (args := [_]) Try.func10 rfl Try.ntmps10 rfl ?_
  change Cw _ _ _ _ _ [(0, .int .i64 m)] []
  refine cw_seq ?_
  refine cw_region ?_
  refine sq_allocA fun b2 => ?_
  refine sq_r (ry_assign rfl) ?_
  refine sq_nil ?_
  refine ex_then ?_
  refine cw_seq ?_
  refine cw_seq ?_
  refine cw_region ?_
  refine sq_r (ry_move rfl) ?_
  refine sq_r (ry_int rfl rfl rfl) ?_
  refine sq_r (ry_move rfl) ?_
  refine sq_gf rfl rfl rfl (fun hg => (Ry.yl (ry_move rfl))) ?_
  refine sq_gf rfl rfl rfl (fun hg => (Ry.yl (ry_int (ev_c hg rfl) rfl rfl))) ?_
  refine sq_r (ry_or rfl rfl rfl) ?_
  refine sq_nil ?_
  refine ex_then ?_
  refine cw_cond rfl (fun h0 => ?_) (fun h0 => ?_)
  · try simp only [bz0, bz1, bz2, bz3, bz4, bz5, bz6, bz7, bz8, bz9] at h0
    refine cw_seq ?_
    refine cw_region ?_
    refine sq_r (ry_build (v := .agg (kpcells ⟨0, ⟨Sv.none, []⟩⟩)) rfl (fun w => by kernel_rfl)) ?_
    refine sq_storeW rfl rfl ?_
    refine sq_r (ry_assign rfl) ?_
    refine sq_nil ?_
    refine ex_then ?_
    refine cw_ret ?_
    refine ex_pass_ret ?_
    refine ex_ret (.inl rfl) (res_2 rfl (rv_agg rfl) (rv_tmp rfl)) (fun w1 hw => ?_)
    exact ⟨(by have hn : ¬ (1 ≤ m ∧ m ≤ 64) := (by omega); rw [newM, newE, if_neg hn, if_neg hn]), Keep.mem hw⟩
  · try simp only [bz0, bz1, bz2, bz3, bz4, bz5, bz6, bz7, bz8, bz9] at h0
    refine cw_skip ?_
    refine ex_then ?_
    refine cw_seq ?_
    refine cw_region ?_
    refine sq_r (ry_move rfl) ?_
    refine sq_r (ry_build (v := .agg (kpcells ⟨m, ⟨Sv.none, []⟩⟩)) rfl (fun w => by kernel_rfl)) ?_
    refine sq_storeW rfl rfl ?_
    refine sq_r (ry_assign rfl) ?_
    refine sq_nil ?_
    refine ex_then ?_
    refine cw_ret ?_
    refine ex_ret (.inl rfl) (res_2 rfl (rv_agg rfl) (rv_tmp rfl)) (fun w1 hw => ?_)
    exact ⟨(by have hn : 1 ≤ m ∧ m ≤ 64 := (by omega); rw [newM, newE, if_pos hn, if_pos hn]), Keep.mem hw⟩
instance knew_i {w0 : World} {L : List Ent} {m : Int}  : FnQ Try.prog 10 w0 L [.int .i64 m] (.tuple #[.agg (kpcells (⟨newM m, ⟨Sv.none, []⟩⟩ : Kp)), .int .i64 (newE m)]) (True) := ⟨fun hp w hw => knew_c w m ⟩
set_option maxRecDepth 20000 in
theorem klook_c (w : World) (k : Kp) (id : Int) (hk : Deep.good (hp w) k) (hpre : k.items.xs.length ≤ 1000000 ∧ ∀ x ∈ k.items.xs, x.body.xs.length ≤ 1000000) : Calls Try.prog 44 #[.agg (kpcells k), .int .i64 id] w fun e w' => ∃ zz : Sl It × List Ent × Sv, e = .returned (.tuple #[.agg (kpcells (⟨k.most, zz.1⟩ : Kp)), zz.2.2.val, .bool (lookO k.most (kvs k.items.xs) id)]) ∧ (InBag zz.1.xs zz.2.1 ∧ kvs zz.1.xs = lookK k.most (kvs k.items.xs) id) ∧ Mem w [own icells 2 zz.1.sv zz.1.xs, Ent.all zz.2.1, own benc 1 zz.2.2 (lookB k.most (kvs k.items.xs) id)] w' := by
  have ghk : GvD w k := ⟨hk⟩
  obtain ⟨hp1, hp2⟩ := hpre
  have hkl := kvs_length k.items.xs
  refine calls_of (args := [_, _]) Try.func44 rfl Try.ntmps44 rfl ?_
  change Cw _ _ _ _ _ [(0, .agg (kpcells k)), (1, .int .i64 id)] []
  refine cw_seq ?_
  refine cw_region ?_
  refine sq_boxA rfl fun b2 => ?_
  refine sq_allocA fun b4 => ?_
  refine sq_r (ry_assign rfl) ?_
  refine sq_r (ry_assign rfl) ?_
  refine sq_nil ?_
  refine ex_then ?_
  refine cw_seq ?_
  refine cw_region ?_
  refine sq_r (ry_whole rfl) ?_
  refine sq_y (yl_callC rfl trivial) ?_
  refine sq_r (ry_assign rfl) ?_
  refine sq_nil ?_
  refine ex_then ?_
  refine cw_seq ?_
  refine cw_region ?_
  refine sq_r (ry_whole rfl) ?_
  refine sq_callC rfl ⟨hp1, hp2⟩ fun x13 hp13 => ?_
  have ib13 : InBag x13.1.xs x13.2 := hp13.1
  have gv13 : kvs x13.1.xs = (kvs k.items.xs) := hp13.2
  have l13 : x13.1.xs.length = k.items.xs.length := by rw [← kvs_length, gv13, kvs_length]
  refine sq_storeW rfl rfl ?_
  refine sq_nil ?_
  refine ex_then ?_
  refine cw_seq ?_
  refine cw_region ?_
  refine sq_r (ry_field (o' := 1) rfl rfl) ?_
  refine sq_r (ry_cellc rfl) ?_
  refine sq_r (ry_move rfl) ?_
  refine sq_y (yl_callC rfl trivial) ?_
  refine sq_r (ry_assign rfl) ?_
  refine sq_nil ?_
  refine ex_then ?_
  refine cw_seq ?_
  refine cw_seq ?_
  refine cw_region ?_
  refine sq_r (ry_move rfl) ?_
  refine sq_r (ry_not rfl) ?_
  refine sq_r (ry_move rfl) ?_
  refine sq_gf rfl rfl rfl (fun hg => (Ry.yl (ry_move rfl))) ?_
  refine sq_gf rfl rfl rfl (fun hg => (Ry.yl (ry_int (ev_c hg rfl) rfl rfl))) ?_
  refine sq_r (ry_or rfl rfl rfl) ?_
  refine sq_nil ?_
  refine ex_then ?_
  refine cw_cond rfl (fun h0 => ?_) (fun h0 => ?_)
  · try simp only [bz0, bz1, bz2, bz3, bz4, bz5, bz6, bz7, bz8, bz9] at h0
    have hO : lookO k.most (kvs k.items.xs) id = false := by
      rw [lookO]
      rcases h0 with h | h
      · rw [h]; rfl
      · rw [gv13] at h; simp only [plI] at h; split at h
        · omega
        · rename_i hn; rw [decide_eq_false hn, Bool.and_false]
    have hK : lookK k.most (kvs k.items.xs) id = (kvs k.items.xs) := if_neg (by rw [hO]; simp)
    have hB : lookB k.most (kvs k.items.xs) id = [] := if_neg (by rw [hO]; simp)
    refine cw_seq ?_
    refine cw_region ?_
    refine sq_r (ry_whole rfl) ?_
    refine sq_storeW rfl rfl ?_
    refine sq_r (ry_assign rfl) ?_
    refine sq_r (ry_assign rfl) ?_
    refine sq_nil ?_
    refine ex_then ?_
    refine cw_ret ?_
    refine ex_pass_ret ?_
    refine ex_ret (.inl rfl) (res_3 rfl (rv_agg rfl) (rv_tmp rfl) (rv_tmp rfl)) (fun w1 hw => ?_)
    exact ⟨(x13.1, x13.2, Sv.none), by rw [hO]; rfl, ⟨hp13.1, by rw [hK, gv13]⟩, by rw [hB]; exact Keep.mem (Mem.nilOwn benc 1 hw)⟩
  · try simp only [bz0, bz1, bz2, bz3, bz4, bz5, bz6, bz7, bz8, bz9] at h0
    have hr : kright k.most (kvs k.items.xs) = true := by simpa using h0.1
    have hpl : (plc (kvs k.items.xs) id) < (kvs k.items.xs).length := by
      have h := h0.2
      rw [gv13] at h
      simp only [plI] at h
      split at h
      · assumption
      · omega
    have hO : lookO k.most (kvs k.items.xs) id = true := by rw [lookO, hr, decide_eq_true hpl]; rfl
    have hpI : plI (kvs x13.1.xs) id = ((plc (kvs k.items.xs) id) : Nat) := by rw [gv13, plI, if_pos hpl]
    obtain ⟨z, hz⟩ := get_some (xs := x13.1.xs) (i := (plc (kvs k.items.xs) id)) (by omega)
    have ibz : InB z x13.2 := ⟨hp13.1.h z (List.mem_of_getElem? hz)⟩
    have mbz : Mb z x13.1 := ⟨List.mem_of_getElem? hz⟩
    have hzi : (kvs k.items.xs)[(plc (kvs k.items.xs) id)]? = some (kval z) := by
      have h := kvs_get hz
      rw [gv13] at h; exact h
    have hzk : (kvs k.items.xs).getD (plc (kvs k.items.xs) id) (0, []) = kval z := by rw [List.getD, hzi]; rfl
    have hB : lookB k.most (kvs k.items.xs) id = z.body.xs := by rw [lookB, if_pos hO, hzk]; rfl
    have hzm : z.body.xs.length ≤ 1000000 := by
      have hzi2 := hzi
      simp only [kvs, List.getElem?_map, Option.map_eq_some_iff] at hzi2
      obtain ⟨y, hy, hyz⟩ := hzi2
      have := hp2 y (List.mem_of_getElem? hy)
      have e1 : y.body.xs = z.body.xs := congrArg Prod.snd hyz
      rw [← e1]; exact this
    have hK : lookK k.most (kvs k.items.xs) id = kvs ((x13.1.xs.take (plc (kvs k.items.xs) id) ++ x13.1.xs.drop ((plc (kvs k.items.xs) id) + 1)) ++ [z]) := by rw [lookK, if_pos hO, hzk, ← gv13]; simp [kvs]
    have hdl : (x13.1.xs.take (plc (kvs k.items.xs) id) ++ x13.1.xs.drop ((plc (kvs k.items.xs) id) + 1)).length = k.items.xs.length - 1 := by simp only [List.length_append, List.length_take, List.length_drop]; omega
    refine cw_skip ?_
    refine ex_then ?_
    refine cw_seq ?_
    refine cw_region ?_
    refine sq_r (ry_field (o' := 1) rfl rfl) ?_
    refine sq_r (ry_cellc rfl) ?_
    refine sq_r (ry_move rfl) ?_
    refine sq_r (ry_idxH rfl rfl (plc (kvs k.items.xs) id) (by rw [hpI]) (by omega)) ?_
    refine sq_r (ry_elemH rfl (plc (kvs k.items.xs) id) hz rfl) ?_
    refine sq_allocA fun b9 => ?_
    refine sq_storeW rfl rfl ?_
    refine sq_nil ?_
    refine ex_then ?_
    refine cw_seq ?_
    refine cw_linE [5, 7, 8, 10, 1000, 1001, 2007, 4005] [[], [0], [], [], [], [0, 1], [], [], [0, 1, 5, 7], [0, 1, 5, 7, 8], [0, 1, 5, 7, 8]] [0, 1, 2, 3, 4, 6, 5, 7, 8, 9, 10] [blk b9 (icells z) 51] [(7, bsM icells 2 1 [z])] (by kernel_rfl) (fun _ hw => Keep.mem hw) (by kernel_rfl) (by kernel_rfl) ?_
    refine lt_r rfl (ry_field (o' := 1) rfl rfl) ?_
    refine lt_r rfl (ry_cellc rfl) ?_
    refine ln_r rfl (Ry.to (v' := .int .i64 (((plc (kvs k.items.xs) id) : Nat) : Int)) (ry_move rfl) (by rw [hpI])) ?_
    refine ln_r rfl (ry_move rfl) ?_
    refine ln_r rfl (Ry.to (v' := .int .i64 (((plc (kvs k.items.xs) id) + 1 : Nat) : Int)) (ry_add rfl rfl (by rw [hpI]; omega)) (by rw [hpI]; rfl)) ?_
    refine ln_r rfl (ry_whole rfl) ?_
    refine ln_callF rfl rfl ⟨by omega, by omega⟩ (fun e x w hw => Keep.mem hw) (Cert.one (i := 7) rfl rfl rfl (makes_bs (enc := icells) (c := 2) (n := 1) (vals := [.agg (icells z)]) [z] rfl rfl rfl (by decide) (by decide)) (Cert.none rfl)) fun x35 hp35 => ⟨fun _ hw => Keep.mem hw, ?_⟩
    refine ln_mk (m := bsM icells 2 1 [z]) rfl rfl (makes_bs (enc := icells) (c := 2) (n := 1) (vals := [.agg (icells z)]) [z] rfl rfl rfl (by decide) (by decide)) (Cert.none rfl) fun b37 => ?_
    change Ln _ _ _ _ _ _ _ _ (putE _ _ (Sv.val ⟨false, b37, 0, 1, 1, none⟩)) (own icells 2 ⟨false, b37, 0, 1, 1, none⟩ [z] :: _) _
    refine ln_st rfl (st_append (s := x35) (enc := icells) (ys := [z]) rfl rfl (by decide) (fun w hw => src_rows (s := (⟨false, b37, 0, 1, 1, none⟩ : Sv)) Try.underlying38 (by decide) ((inferInstance : HdE _ _ icells 2 (⟨false, b37, 0, 1, 1, none⟩ : Sv) [z]).h w hw)) (by rw [hdl]; simp only [List.length_cons, List.length_nil]; omega) (by rw [hdl]; simp only [List.length_cons, List.length_nil]; omega) fun s38 hs38 hl38 => ⟨fun _ hw => Keep.mem hw, ?_⟩)
    refine ln_r rfl (ry_field (o' := 1) rfl rfl) ?_
    refine ln_st rfl (st_store (cs' := kpcells (⟨k.most, ⟨s38, ((x13.1.xs.take (plc (kvs k.items.xs) id) ++ x13.1.xs.drop ((plc (kvs k.items.xs) id) + 1)) ++ [z])⟩⟩ : Kp)) rfl rfl (by show 1 < 2; decide) (by first | rfl | exact Sv.one _) rfl ⟨fun _ hw => Keep.mem hw, ?_⟩)
    refine ln_nil ?_
    refine ex_then ?_
    refine cw_seq ?_
    refine cw_lin [3, 4] [[], [], [], [], [3], [3, 4], [3, 4]] [0, 1, 2, 3, 4, 5, 6] [blk b2 (kpcells ⟨k.most, ⟨s38, (x13.1.xs.take (plc (kvs k.items.xs) id) ++ x13.1.xs.drop ((plc (kvs k.items.xs) id) + 1)) ++ [z]⟩⟩) 40, blk b9 (icells z) 51] (fun _ hw => Keep.mem hw) (by kernel_rfl) (by kernel_rfl) ?_
    refine ln_r rfl (ry_whole rfl) ?_
    refine ln_r rfl (ry_field (o' := 1) rfl rfl) ?_
    refine ln_r rfl (ry_cellc rfl) ?_
    refine ln_st rfl (st_callC rfl (hzm) fun x43 hp43 => ⟨fun _ hw => Keep.mem hw, ?_⟩)
    refine ln_st rfl (st_storeW rfl rfl ⟨fun _ hw => Keep.mem hw, ?_⟩)
    refine ln_r rfl (ry_assign rfl) ?_
    refine ln_r rfl (ry_assign rfl) ?_
    refine ln_nil ?_
    refine ex_then ?_
    refine cw_ret ?_
    refine ex_ret (.inl rfl) (res_3 rfl (rv_agg rfl) (rv_tmp rfl) (rv_tmp rfl)) (fun w1 hw => ?_)
    exact ⟨(⟨s38, (x13.1.xs.take (plc (kvs k.items.xs) id) ++ x13.1.xs.drop ((plc (kvs k.items.xs) id) + 1)) ++ [z]⟩, x13.2, x43), by rw [hO], ⟨⟨fun y hy => (List.mem_append.1 hy).elim (fun h => (List.mem_append.1 h).elim (fun h => hp13.1.h y (List.mem_of_mem_take h)) (fun h => hp13.1.h y (List.mem_of_mem_drop h))) (fun h => by rw [List.mem_singleton.1 h]; exact hp13.1.h z (List.mem_of_getElem? hz))⟩, hK.symm⟩, by rw [hB]; exact Keep.mem hw⟩
instance klook_i {w0 : World} {L : List Ent} {k : Kp} {id : Int} [hk : HdD w0 L k] : FnC Try.prog 44 w0 L [.agg (kpcells k), .int .i64 id] (Sl It × List Ent × Sv) (fun zz => .tuple #[.agg (kpcells (⟨k.most, zz.1⟩ : Kp)), zz.2.2.val, .bool (lookO k.most (kvs k.items.xs) id)]) (fun zz => own icells 2 zz.1.sv zz.1.xs :: Ent.all zz.2.1 :: own benc 1 zz.2.2 (lookB k.most (kvs k.items.xs) id) :: L) (fun zz => InBag zz.1.xs zz.2.1 ∧ kvs zz.1.xs = lookK k.most (kvs k.items.xs) id) (k.items.xs.length ≤ 1000000 ∧ ∀ x ∈ k.items.xs, x.body.xs.length ≤ 1000000) := ⟨fun hp w hw => (klook_c w k id (hk.h w hw) hp).mono fun e w' ⟨x, h1, h2, h3⟩ => ⟨x, h1, h2, hw.call h3⟩⟩

end Go.Proofs.Ytklhkejhndnhbaa

/- What is kept, and one more: walked. -/
namespace Go.Proofs.Ytklhkejhndnhbaa
open Go.Eng Go.Kb
set_option maxRecDepth 20000 in
theorem kkeep_c (w : World) (k : Kp) (x : It) (hk : Deep.good (hp w) k) (hx : Deep.good (hp w) x) (hpre : (k.items.xs.length ≤ 1000000 ∧ ∀ x ∈ k.items.xs, x.body.xs.length ≤ 1000000) ∧ x.body.xs.length ≤ 1000000) : Calls Try.prog 12 #[.agg (kpcells k), .agg (icells x)] w fun e w' => ∃ zz : Sl It × List Ent, e = .returned (.tuple #[.agg (kpcells (⟨k.most, zz.1⟩ : Kp)), .int .i64 (keepE k.most (kvs k.items.xs) (kval x))]) ∧ (InBag zz.1.xs zz.2 ∧ kvs zz.1.xs = keepK k.most (kvs k.items.xs) (kval x)) ∧ Mem w [own icells 2 zz.1.sv zz.1.xs, Ent.all zz.2] w' := by
  have ghk : GvD w k := ⟨hk⟩
  have ghx : GvD w x := ⟨hx⟩
  obtain ⟨⟨hp1, hp2⟩, hp3⟩ := hpre
  have hkl := kvs_length k.items.xs
  have hkx : (kval x).1 = x.id := rfl
  refine calls_of (args := [_, _]) Try.func12 rfl Try.ntmps12 rfl ?_
  change Cw _ _ _ _ _ [(0, .agg (kpcells k)), (1, .agg (icells x))] []
  refine cw_seq ?_
  refine cw_region ?_
  refine sq_boxA rfl fun b2 => ?_
  refine sq_boxA rfl fun b3 => ?_
  refine sq_allocA fun b4 => ?_
  refine sq_r (ry_assign rfl) ?_
  refine sq_nil ?_
  refine ex_then ?_
  refine cw_seq ?_
  refine cw_region ?_
  refine sq_r (ry_whole rfl) ?_
  refine sq_y (yl_callC rfl trivial) ?_
  refine sq_r (ry_assign rfl) ?_
  refine sq_nil ?_
  refine ex_then ?_
  refine cw_seq ?_
  refine cw_region ?_
  refine sq_r (ry_whole rfl) ?_
  refine sq_callC rfl ⟨hp1, hp2⟩ fun x11 hp11 => ?_
  have ib11 : InBag x11.1.xs x11.2 := hp11.1
  have gv11 : kvs x11.1.xs = (kvs k.items.xs) := hp11.2
  have l11 : x11.1.xs.length = k.items.xs.length := by rw [← kvs_length, gv11, kvs_length]
  refine sq_storeW rfl rfl ?_
  refine sq_nil ?_
  refine ex_then ?_
  refine cw_seq ?_
  refine cw_seq ?_
  refine cw_region ?_
  refine sq_r (ry_move rfl) ?_
  refine sq_r (ry_not rfl) ?_
  refine sq_r (ry_move rfl) ?_
  refine sq_gf rfl rfl rfl (fun hg => (Ry.yl (ry_field (o' := 0) rfl rfl))) ?_
  refine sq_gf rfl rfl rfl (fun hg => (Ry.yl (ry_cellc (ev_c hg rfl)))) ?_
  refine sq_gf rfl rfl rfl (fun hg => (Ry.yl (ry_int (ev_c hg rfl) rfl rfl))) ?_
  refine sq_r (ry_or rfl rfl rfl) ?_
  refine sq_nil ?_
  refine ex_then ?_
  refine cw_cond rfl (fun h0 => ?_) (fun h0 => ?_)
  · try simp only [bz0, bz1, bz2, bz3, bz4, bz5, bz6, bz7, bz8, bz9] at h0
    have hE : keepE k.most (kvs k.items.xs) (kval x) = 1 := if_neg (by rintro ⟨g1, g2⟩; rw [hkx] at g2; rcases h0 with h | h; (rw [g1] at h; cases h); omega)
    have hK : keepK k.most (kvs k.items.xs) (kval x) = (kvs k.items.xs) := if_neg (by rintro ⟨g1, g2⟩; rw [hkx] at g2; rcases h0 with h | h; (rw [g1] at h; cases h); omega)
    refine cw_seq ?_
    refine cw_region ?_
    refine sq_r (ry_whole rfl) ?_
    refine sq_storeW rfl rfl ?_
    refine sq_r (ry_assign rfl) ?_
    refine sq_nil ?_
    refine ex_then ?_
    refine cw_ret ?_
    refine ex_pass_ret ?_
    refine ex_ret (.inl rfl) (res_2 rfl (rv_agg rfl) (rv_tmp rfl)) (fun w1 hw => ?_)
    exact ⟨x11, by rw [hE], ⟨hp11.1, by rw [hK, gv11]⟩, Keep.mem hw⟩
  · try simp only [bz0, bz1, bz2, bz3, bz4, bz5, bz6, bz7, bz8, bz9] at h0
    have hr : kright k.most (kvs k.items.xs) = true := by simpa using h0.1
    have hx0 : 0 ≤ x.id := by omega
    obtain ⟨kr1, kr2, kr3, -⟩ := kright_iff.1 hr
    have hE : keepE k.most (kvs k.items.xs) (kval x) = 0 := if_pos ⟨hr, hx0⟩
    have hK : keepK k.most (kvs k.items.xs) (kval x) = keepC k.most (kvs k.items.xs) (kval x) ++ [(kval x)] := if_pos ⟨hr, hx0⟩
    refine cw_skip ?_
    refine ex_then ?_
    refine cw_cut (X := Sv × List It) (fun zz => [(2, .pointer (some ⟨b2, 0, none⟩)), (3, .pointer (some ⟨b3, 0, none⟩)), (4, .pointer (some ⟨b4, 0, none⟩))]) (fun zz => [own icells 2 zz.1 zz.2, Ent.all x11.2, blk b2 (kpcells ⟨k.most, ⟨zz.1, zz.2⟩⟩) 40, blk b3 (icells x) 51, blk b4 (kpcells ⟨0, ⟨Sv.none, []⟩⟩) 40]) (fun zz => InBag zz.2 x11.2 ∧ kvs zz.2 = keepC k.most (kvs k.items.xs) (kval x) ∧ zz.2.length ≤ k.items.xs.length) ?_ ?_
    · refine cw_seq ?_
      refine cw_region ?_
      refine sq_r (ry_field (o' := 1) rfl rfl) ?_
      refine sq_r (ry_cellc rfl) ?_
      refine sq_r (ry_field (o' := 0) rfl rfl) ?_
      refine sq_r (ry_cellc rfl) ?_
      refine sq_y (yl_callC rfl trivial) ?_
      refine sq_r (ry_assign rfl) ?_
      refine sq_nil ?_
      refine ex_then ?_
      refine cw_seq ?_
      refine cw_region ?_
      refine sq_r (ry_move rfl) ?_
      refine sq_r (ry_int rfl rfl rfl) ?_
      refine sq_nil ?_
      refine ex_then ?_
      refine cw_cond rfl (fun h1 => ?_) (fun h1 => ?_)
      · try simp only [bz0, bz1, bz2, bz3, bz4, bz5, bz6, bz7, bz8, bz9] at h1
        have hpl : (plc (kvs k.items.xs) x.id) < (kvs k.items.xs).length := by
          rw [gv11] at h1
          simp only [plI] at h1
          split at h1
          · assumption
          · omega
        have hpI : plI (kvs x11.1.xs) x.id = ((plc (kvs k.items.xs) x.id) : Nat) := by rw [gv11, plI, if_pos hpl]
        have hC : keepC k.most (kvs k.items.xs) (kval x) = (kvs k.items.xs).take (plc (kvs k.items.xs) x.id) ++ (kvs k.items.xs).drop ((plc (kvs k.items.xs) x.id) + 1) := if_pos hpl
        refine cw_region ?_
        refine sq_r (ry_field (o' := 1) rfl rfl) ?_
        refine sq_r (ry_cellc rfl) ?_
        refine sq_r (Ry.to (v' := .int .i64 (((plc (kvs k.items.xs) x.id) : Nat) : Int)) (ry_move rfl) (by rw [hpI])) ?_
        refine sq_r (ry_move rfl) ?_
        refine sq_r (Ry.to (v' := .int .i64 (((plc (kvs k.items.xs) x.id) + 1 : Nat) : Int)) (ry_add rfl rfl (by rw [hpI]; omega)) (by rw [hpI]; rfl)) ?_
        refine sq_callC rfl ⟨by omega, by omega⟩ fun x32 hp32 => ?_
        refine sq_r (ry_field (o' := 1) rfl rfl) ?_
        refine sq_store (cs' := kpcells (⟨k.most, ⟨x32, (x11.1.xs.take (plc (kvs k.items.xs) x.id) ++ x11.1.xs.drop ((plc (kvs k.items.xs) x.id) + 1))⟩⟩ : Kp)) rfl rfl (by show 1 < 2; decide) (by first | rfl | exact Sv.one _) rfl ?_
        refine sq_nil ?_
        exact ex_meet (x32, x11.1.xs.take (plc (kvs k.items.xs) x.id) ++ x11.1.xs.drop ((plc (kvs k.items.xs) x.id) + 1)) ⟨⟨fun y hy => (List.mem_append.1 hy).elim (fun h => hp11.1.h y (List.mem_of_mem_take h)) (fun h => hp11.1.h y (List.mem_of_mem_drop h))⟩, by rw [hC, ← gv11]; simp only [kvs, List.map_append, List.map_take, List.map_drop], by simp only [List.length_append, List.length_take, List.length_drop]; omega⟩ (Sub.cons rfl (Sub.cons rfl (Sub.cons rfl (Sub.nil _)))) (fun w hw => Keep.mem hw)
      · try simp only [bz0, bz1, bz2, bz3, bz4, bz5, bz6, bz7, bz8, bz9] at h1
        have hpl : ¬ (plc (kvs k.items.xs) x.id) < (kvs k.items.xs).length := by
          intro h
          rw [gv11, plI, if_pos h] at h1; omega
        refine cw_seq ?_
        refine cw_region ?_
        refine sq_r (ry_field (o' := 1) rfl rfl) ?_
        refine sq_r (ry_cellc rfl) ?_
        refine sq_r (ry_lenH rfl) ?_
        refine sq_r (ry_field (o' := 0) rfl rfl) ?_
        refine sq_r (ry_cellc rfl) ?_
        refine sq_r (ry_int rfl rfl rfl) ?_
        refine sq_nil ?_
        refine ex_then ?_
        refine cw_cond rfl (fun h2 => ?_) (fun h2 => ?_)
        · try simp only [bz0, bz1, bz2, bz3, bz4, bz5, bz6, bz7, bz8, bz9] at h2
          have hC : keepC k.most (kvs k.items.xs) (kval x) = (kvs k.items.xs).drop 1 := by rw [keepC, hkx, if_neg hpl, if_pos (by omega)]
          refine cw_region ?_
          refine sq_r (ry_field (o' := 1) rfl rfl) ?_
          refine sq_r (ry_cellc rfl) ?_
          refine sq_callC (vs := [_, .int .i64 ((0 : Nat) : Int), .int .i64 ((1 : Nat) : Int)]) rfl ⟨by omega, by omega⟩ fun x42 hp42 => ?_
          refine sq_r (ry_field (o' := 1) rfl rfl) ?_
          refine sq_store (cs' := kpcells (⟨k.most, ⟨x42, (x11.1.xs.take 0 ++ x11.1.xs.drop 1)⟩⟩ : Kp)) rfl rfl (by show 1 < 2; decide) (by first | rfl | exact Sv.one _) rfl ?_
          refine sq_nil ?_
          exact ex_meet (x42, x11.1.xs.take 0 ++ x11.1.xs.drop 1) ⟨⟨fun y hy => (List.mem_append.1 hy).elim (fun h => hp11.1.h y (List.mem_of_mem_take h)) (fun h => hp11.1.h y (List.mem_of_mem_drop h))⟩, by rw [hC, ← gv11]; simp only [kvs, List.map_append, List.map_take, List.map_drop, List.take_zero, List.nil_append], by simp only [List.length_append, List.length_take, List.length_drop]; omega⟩ (Sub.cons rfl (Sub.cons rfl (Sub.cons rfl (Sub.nil _)))) (fun w hw => Keep.mem hw)
        · try simp only [bz0, bz1, bz2, bz3, bz4, bz5, bz6, bz7, bz8, bz9] at h2
          have hC : keepC k.most (kvs k.items.xs) (kval x) = (kvs k.items.xs) := by rw [keepC, hkx, if_neg hpl, if_neg (by omega)]
          refine cw_skip ?_
          exact ex_meet (x11.1.sv, x11.1.xs) ⟨hp11.1, by rw [hC, gv11], by simp only; omega⟩ (Sub.cons rfl (Sub.cons rfl (Sub.cons rfl (Sub.nil _)))) (fun w hw => Keep.mem hw)
    · rintro ⟨s, xs⟩ ⟨hi1, hi2, hi3⟩
      dsimp only
      simp only at hi1 hi2 hi3
      refine cw_seq ?_
      refine cw_linE [6, 8, 9, 11, 1000, 1001, 5006, 5008] [[], [0], [], [], [], [], [], [6], [6], [0, 1, 6, 8], [0, 1, 6, 8, 9], [0, 1, 6, 8, 9]] [0, 1, 2, 3, 4, 5, 6, 7, 8, 9, 10, 11] [blk b3 (icells x) 51] [] (by kernel_rfl) (fun _ hw => Keep.mem hw) (by kernel_rfl) (by kernel_rfl) ?_
      refine lt_r rfl (ry_field (o' := 1) rfl rfl) ?_
      refine lt_r rfl (ry_cellc rfl) ?_
      refine ln_r rfl (ry_field (o' := 0) rfl rfl) ?_
      refine ln_r rfl (ry_cellc rfl) ?_
      refine ln_r rfl (ry_field (o' := 1) rfl rfl) ?_
      refine ln_r rfl (ry_cellc rfl) ?_
      refine ln_stA rfl (st_callC rfl hp3 fun x50 hp50 => ⟨fun _ hw => Keep.mem hw, fun _ hw => Keep.mem hw, ?_⟩)
      refine ln_r rfl (ry_build (v := .agg (icells (⟨x.id, ⟨x50, x.body.xs⟩⟩ : It))) rfl (it_build x.id x50 x.body.xs)) ?_
      refine ln_stA rfl (st_buildSlice (enc := icells) (vals := [_]) [(⟨x.id, ⟨x50, x.body.xs⟩⟩ : It)] rfl rfl rfl (by decide) (by decide) fun b52 => ⟨fun _ hw => Keep.mem hw, fun _ hw => Keep.mem hw, ?_⟩)
      refine ln_st rfl (st_append (s := s) (enc := icells) (ys := [(⟨x.id, ⟨x50, x.body.xs⟩⟩ : It)]) rfl rfl (by decide) (fun w hw => src_rows (s := (⟨false, b52, 0, 1, 1, none⟩ : Sv)) Try.underlying38 (by decide) ((inferInstance : HdE _ _ icells 2 (⟨false, b52, 0, 1, 1, none⟩ : Sv) [(⟨x.id, ⟨x50, x.body.xs⟩⟩ : It)]).h w hw)) (by simp only [List.length_cons, List.length_nil]; omega) (by simp only [List.length_cons, List.length_nil]; omega) fun s53 hs53 hl53 => ⟨fun _ hw => Keep.mem hw, ?_⟩)
      refine ln_r rfl (ry_field (o' := 1) rfl rfl) ?_
      refine ln_st rfl (st_store (cs' := kpcells (⟨k.most, ⟨s53, (xs ++ [(⟨x.id, ⟨x50, x.body.xs⟩⟩ : It)])⟩⟩ : Kp)) rfl rfl (by show 1 < 2; decide) (by first | rfl | exact Sv.one _) rfl ⟨fun _ hw => Keep.mem hw, ?_⟩)
      refine ln_nil ?_
      refine ex_then ?_
      refine cw_seq ?_
      refine cw_region ?_
      refine sq_r (ry_whole rfl) ?_
      refine sq_storeW rfl rfl ?_
      refine sq_r (ry_assign rfl) ?_
      refine sq_nil ?_
      refine ex_then ?_
      refine cw_ret ?_
      refine ex_ret (.inl rfl) (res_2 rfl (rv_agg rfl) (rv_tmp rfl)) (fun w1 hw => ?_)
      exact ⟨(⟨s53, xs ++ [(⟨x.id, ⟨x50, x.body.xs⟩⟩ : It)]⟩, Deep.ent (⟨x50, x.body.xs⟩ : Sl UInt8) :: x11.2), by rw [hE], ⟨⟨fun y hy => (List.mem_append.1 hy).elim (fun h => List.mem_cons_of_mem _ (hi1.h y h)) (fun h => by rw [List.mem_singleton.1 h]; exact List.mem_cons_self)⟩, by rw [hK, ← hi2]; simp [kvs, kval]⟩, Keep.mem (Mem.bagPush (Keep.mem (Mem.shutP (Keep.mem hw : Mem _ [own benc 1 x50 x.body.xs, own icells 2 s53 (xs ++ [(⟨x.id, ⟨x50, x.body.xs⟩⟩ : It)]), Ent.all x11.2] _)) : Mem _ [Deep.ent (⟨x50, x.body.xs⟩ : Sl UInt8), Ent.all x11.2, own icells 2 s53 (xs ++ [(⟨x.id, ⟨x50, x.body.xs⟩⟩ : It)])] _))⟩
instance kkeep_i {w0 : World} {L : List Ent} {k : Kp} {x : It} [hk : HdD w0 L k] [hx : HdD w0 L x] : FnC Try.prog 12 w0 L [.agg (kpcells k), .agg (icells x)] (Sl It × List Ent) (fun zz => .tuple #[.agg (kpcells (⟨k.most, zz.1⟩ : Kp)), .int .i64 (keepE k.most (kvs k.items.xs) (kval x))]) (fun zz => own icells 2 zz.1.sv zz.1.xs :: Ent.all zz.2 :: L) (fun zz => InBag zz.1.xs zz.2 ∧ kvs zz.1.xs = keepK k.most (kvs k.items.xs) (kval x)) ((k.items.xs.length ≤ 1000000 ∧ ∀ x ∈ k.items.xs, x.body.xs.length ≤ 1000000) ∧ x.body.xs.length ≤ 1000000) := ⟨fun hp w hw => (kkeep_c w k x (hk.h w hw) (hx.h w hw) hp).mono fun e w' ⟨x, h1, h2, h3⟩ => ⟨x, h1, h2, hw.call h3⟩⟩

end Go.Proofs.Ytklhkejhndnhbaa

/- A walker through pages: its cells, what a visit does. -/
namespace Go.Kb
open Go.Eng
structure Rch where
  len : Int
  hop : UInt16
  kept : Kp
  hits : Int
  misses : Int
structure Wkr where
  r : Rch
  pages : Sl (Sl UInt8)
  per : Int
def rchcells (x : Rch) : Array Value := #[.int .i64 x.len, .int .u16 x.hop.toNat, .int .i64 x.kept.most, x.kept.items.sv.val, .int .i64 x.hits, .int .i64 x.misses]
def wkrcells (x : Wkr) : Array Value := #[.int .i64 x.r.len, .int .u16 x.r.hop.toNat, .int .i64 x.r.kept.most, x.r.kept.items.sv.val, .int .i64 x.r.hits, .int .i64 x.r.misses, x.pages.sv.val, .int .i64 x.per]
theorem i64one (n : Int) : (Value.int .i64 n).oneCell' = true := rfl
theorem u16one (n : Int) : (Value.int .u16 n).oneCell' = true := rfl
instance : Enc rchcells 6 := ⟨fun _ => rfl, fun x => by
  simp only [rchcells, List.all_toArray, List.all_cons, List.all_nil, Sv.one, i64one, u16one, Bool.and_self]⟩
instance : Enc wkrcells 8 := ⟨fun _ => rfl, fun x => by
  simp only [wkrcells, List.all_toArray, List.all_cons, List.all_nil, Sv.one, i64one, u16one, Bool.and_self]⟩
instance (x : Rch) : SizeIs (rchcells x) 6 := ⟨rfl, Enc.one x⟩
instance (x : Wkr) : SizeIs (wkrcells x) 8 := ⟨rfl, Enc.one x⟩
instance (x : Rch) : CellAt (rchcells x) 0 (.int .i64 x.len) := ⟨rfl⟩
instance (x : Rch) : CellAt (rchcells x) 1 (.int .u16 x.hop.toNat) := ⟨rfl⟩
instance (x : Rch) : CellAt (rchcells x) 2 (.int .i64 x.kept.most) := ⟨rfl⟩
instance (x : Rch) : CellAt (rchcells x) 4 (.int .i64 x.hits) := ⟨rfl⟩
instance (x : Rch) : CellAt (rchcells x) 5 (.int .i64 x.misses) := ⟨rfl⟩
theorem part2 {a b : Array Value} (h : a.size = 2) (e0 : b[0]? = a[0]?) (e1 : b[1]? = a[1]?) : ∀ j, j < 2 → b[j]? = a[j]? := fun j hj => by
  match j, hj with
  | 0, _ => exact e0
  | 1, _ => exact e1
instance (x : Rch) : PartAt (rchcells x) 2 2 (kpcells x.kept) := ⟨rfl, fun j hj => by
  match j, hj with
  | 0, _ => rfl
  | 1, _ => rfl⟩
instance (x : Wkr) : PartAt (wkrcells x) 2 2 (kpcells x.r.kept) := ⟨rfl, fun j hj => by
  match j, hj with
  | 0, _ => rfl
  | 1, _ => rfl⟩
instance (x : Wkr) : PartAt (wkrcells x) 0 6 (rchcells x.r) := ⟨rfl, fun j hj => by
  match j, hj with
  | 0, _ => rfl
  | 1, _ => rfl
  | 2, _ => rfl
  | 3, _ => rfl
  | 4, _ => rfl
  | 5, _ => rfl⟩
instance (x : Wkr) : CellAt (wkrcells x) 0 (.int .i64 x.r.len) := ⟨rfl⟩
instance (x : Wkr) : CellAt (wkrcells x) 1 (.int .u16 x.r.hop.toNat) := ⟨rfl⟩
instance (x : Wkr) : CellAt (wkrcells x) 4 (.int .i64 x.r.hits) := ⟨rfl⟩
instance (x : Wkr) : CellAt (wkrcells x) 5 (.int .i64 x.r.misses) := ⟨rfl⟩
instance (x : Wkr) : CellAt (wkrcells x) 6 x.pages.sv.val := ⟨rfl⟩
instance (x : Wkr) : CellAt (wkrcells x) 7 (.int .i64 x.per) := ⟨rfl⟩
def zrch : Rch := ⟨0, 0, ⟨0, ⟨Sv.none, []⟩⟩, 0, 0⟩
def zwkr : Wkr := ⟨zrch, ⟨Sv.none, []⟩, 0⟩

/-! What is kept is let go of. -/
instance : Rea UInt8 := Rea.flat fun _ _ => trivial
instance : Rea It where
  reach x := Rea.reach x.body
  congr h h' x := Rea.congr h h' x.body
instance : Rea Kp where
  reach x := Rea.reach x.items
  congr h h' x := Rea.congr h h' x.items
theorem Ent.all_fp {k : Nat} : ∀ {es : List Ent} {e : Ent}, e ∈ es → e.fp k → (Ent.all es).fp k
  | _ :: _, _, he, hk => (List.mem_cons.1 he).elim (fun h => .inl (h ▸ hk)) fun h => .inr (Ent.all_fp h hk)
theorem own_fp {α : Type} {enc : α → Array Value} {c : Nat} {s : Sv} {xs : List α} {h : Nat → Option Obj} (hl : Lies enc c h s xs) (hx : xs ≠ []) : (own enc c s xs).fp s.b :=
  ⟨hl.ok.some (by have := hl.len; have := List.length_pos_iff.2 hx; omega), rfl⟩
theorem frzK {w0 w : World} {L : List Ent} {a : Sl It} {es : List Ent} (m : Int) (hb : InBag a.xs es) (h : Mem w0 (own icells 2 a.sv a.xs :: Ent.all es :: L) w) : Mem w0 (fz (⟨m, a⟩ : Kp) :: L) w := by
  have hs := h.sat (own icells 2 a.sv a.xs) (by simp)
  have ha := h.sat (Ent.all es) (by simp)
  refine Mem.freeze (es := [own icells 2 a.sv a.xs, Ent.all es]) (⟨m, a⟩ : Kp) ⟨hs.1, fun x hx => Deep.good_of _ x (Ent.all_sat ha _ (hb.h x hx))⟩ (fun k hk => ?_) h
  rcases hk with ⟨hne, rfl⟩ | ⟨x, hx, hk⟩
  · exact ⟨_, by simp, own_fp hs.1 hne⟩
  · refine ⟨Ent.all es, by simp, Ent.all_fp (hb.h x hx) ?_⟩
    have hsx : (own benc 1 x.body.sv x.body.xs).sat fun k => w.heap[k]? := (Ent.all_sat ha _ (hb.h x hx)).1
    rcases hk with ⟨hne, rfl⟩ | ⟨_, _, hf⟩
    · exact .inl (own_fp hsx.1 hne)
    · exact hf.elim
theorem frz0 {w0 w : World} {L : List Ent} (m : Int) (h : Mem w0 L w) : Mem w0 (fz (⟨m, ⟨Sv.none, []⟩⟩ : Kp) :: L) w :=
  fz_flat (fun k hk => by rcases hk with ⟨hne, _⟩ | ⟨x, hx, _⟩; exact hne rfl; cases hx) ⟨Lies.nil _ _ _, fun x hx => by cases hx⟩ h
instance (priority := low) HdD.kept {w0 : World} {L : List Ent} {x : Kp} [q : HdD w0 L x.items] : HdD w0 L x := ⟨q.h⟩

/-! A visit. -/
structure VOk (W : Wkr) (n : Nat) (x : Int) : Prop where
  per : W.per = (n : Int)
  one : 1 ≤ n
  le : n ≤ 8
  fit : FitK W.r.kept.most (pvs W.pages.xs) (kvs W.r.kept.items.xs)
  lo : 0 ≤ x
  hi : x.toNat / n < W.pages.xs.length
  top : x ≤ 1000
  few : W.pages.xs.length ≤ 1000
  len : ∀ y ∈ W.pages.xs, y.xs.length ≤ 1000
  h0 : 0 ≤ W.r.hits ∧ W.r.hits ≤ 1000
  m0 : 0 ≤ W.r.misses ∧ W.r.misses ≤ 1000
def visW (W : Wkr) (a : Nat) (K : Kp) : Wkr := { W with r := { W.r with kept := K, hits := if a ∈ idsOf (kvs W.r.kept.items.xs) then W.r.hits + 1 else W.r.hits, misses := if a ∈ idsOf (kvs W.r.kept.items.xs) then W.r.misses else W.r.misses + 1 } }
structure VStep (W : Wkr) (a : Nat) (K : Kp) : Prop where
  most : K.most = W.r.kept.most
  fit : FitK K.most (pvs W.pages.xs) (kvs K.items.xs)
  ids : idsOf (kvs K.items.xs) = lru W.r.kept.most.toNat (idsOf (kvs W.r.kept.items.xs)) a
theorem FitK.visit {m : Int} {ps : List (List UInt8)} {l : List KV} (h : FitK m ps l) {a : Nat} (ha : a < ps.length) :
    lookO m l a = decide (a ∈ idsOf l) ∧ (a ∈ idsOf l → FitK m ps (lookK m l a) ∧ idsOf (lookK m l a) = lru m.toNat (idsOf l) a) ∧ (a ∉ idsOf l → FitK m ps (keepK m l ((a : Int), ps.getD a [])) ∧ idsOf (keepK m l ((a : Int), ps.getD a [])) = lru m.toNat (idsOf l) a ∧ keepE m l ((a : Int), ps.getD a []) = 0) := by
  obtain ⟨h0, hf⟩ := h
  have em : ((m.toNat : Nat) : Int) = m := by omega
  have hv := hf.visit ha
  rw [em] at hv
  have key : ∀ l', Fits m.toNat ps.length ps (lru m.toNat (idsOf l) a) l' → FitK m ps l' ∧ idsOf l' = lru m.toNat (idsOf l) a := fun l' hl => by
    have e : idsOf l' = lru m.toNat (idsOf l) a := by rw [hl.eq, idsOf_ofP]
    exact ⟨⟨h0, by rw [e]; exact hl⟩, e⟩
  exact ⟨hv.1, fun hm => key _ (hv.2.1 hm), fun hm => ⟨(key _ (hv.2.2 hm).1).1, (key _ (hv.2.2 hm).1).2, (hv.2.2 hm).2⟩⟩
theorem FitK.lens {m : Int} {ps : List (List UInt8)} {l : List It} (h : FitK m ps (kvs l)) (hp : ∀ y ∈ ps, y.length ≤ 1000) : l.length ≤ 64 ∧ ∀ x ∈ l, x.body.xs.length ≤ 1000 := by
  obtain ⟨k1, k2, k3, -⟩ := kright_iff.1 h.right
  rw [kvs_length] at k3
  refine ⟨by omega, fun x hx => ?_⟩
  obtain ⟨i, hi⟩ := List.mem_iff_getElem?.1 hx
  have := (h.2.at (kvs_get hi)).2.2
  exact hp _ (List.mem_of_getElem? this)
/-! All pages on a key's way. -/
theorem wayLen_le (ns : List Nd) (k : Key) (n : Nat) : wayLen ns k n ≤ n := by
  unfold wayLen
  cases h : (List.range n).find? fun j => chain ns k (j + 1) == 0 with
  | none => exact Nat.le_refl _
  | some m =>
    have := List.mem_of_find?_eq_some h
    exact Nat.le_of_lt (List.mem_range.1 this)
theorem walkV_few {bits : Int} {ns : List Nd} (h : (stepsV bits ns).isSome = true) (k : Key) : (walkV bits ns k).length ≤ 33 := by
  obtain ⟨_, hb, _, _⟩ := inR_of h
  unfold walkV
  split
  · have h1 := wayLen_le ns k (bits / 4).toNat
    have : (bits / 4).toNat ≤ 32 := by rcases hb with rfl | rfl <;> decide
    simp only [wayL, List.length_map, List.length_range]; omega
  · exact Nat.zero_le _
def wsP (bits : Int) (ps : List (List UInt8)) (per : Nat) (k : Key) : List Nat := wayP per (walkV bits (wholeN ps) k)
def runP (bits : Int) (ps : List (List UInt8)) (per : Nat) (K : Kp) (k : Key) (i : Nat) : List Nat × Nat × Nat := runV K.most.toNat (idsOf (kvs K.items.xs), 0, 0) ((wsP bits ps per k).take i)
structure WInv (bits : Int) (ps : Sl (Sl UInt8)) (per : Nat) (K : Kp) (k : Key) (i : Nat) (W : Wkr) : Prop where
  pages : W.pages = ps
  pe : W.per = (per : Int)
  first : decide (i = 0) = true → W.r.kept = K
  most : W.r.kept.most = K.most
  fit : FitK K.most (pvs ps.xs) (kvs W.r.kept.items.xs)
  ids : idsOf (kvs W.r.kept.items.xs) = (runP bits (pvs ps.xs) per K k i).1
  hits : W.r.hits = ((runP bits (pvs ps.xs) per K k i).2.1 : Int)
  mis : W.r.misses = ((runP bits (pvs ps.xs) per K k i).2.2 : Int)
theorem runP_zero (bits : Int) (ps : List (List UInt8)) (per : Nat) (K : Kp) (k : Key) : runP bits ps per K k 0 = (idsOf (kvs K.items.xs), 0, 0) := by simp [runP, runV]
theorem runP_sum (bits : Int) (ps : List (List UInt8)) (per : Nat) (K : Kp) (k : Key) (i : Nat) : (runP bits ps per K k i).2.1 + (runP bits ps per K k i).2.2 ≤ i := by
  have := runV_sum K.most.toNat ((wsP bits ps per k).take i) (idsOf (kvs K.items.xs), 0, 0)
  rw [List.length_take] at this
  unfold runP; simp only at this; omega
theorem WInv.start {bits : Int} {ps : Sl (Sl UInt8)} {per : Nat} {K : Kp} {k : Key} (h : FitK K.most (pvs ps.xs) (kvs K.items.xs)) : WInv bits ps per K k 0 ⟨⟨0, 0, K, 0, 0⟩, ps, per⟩ :=
  ⟨rfl, rfl, fun _ => rfl, rfl, h, by rw [runP_zero], by rw [runP_zero]; rfl, by rw [runP_zero]; rfl⟩
theorem WInv.step {bits : Int} {ps : Sl (Sl UInt8)} {per : Nat} {K K' : Kp} {k : Key} {i : Nat} {W : Wkr} (h : WInv bits ps per K k i W) {x : Int} (hx : (walkV bits (wholeN (pvs ps.xs)) k)[i]? = some x) (hv : VStep W (x.toNat / per) K') : WInv bits ps per K k (i + 1) (visW W (x.toNat / per) K') := by
  have hw : (wsP bits (pvs ps.xs) per k)[i]? = some (x.toNat / per) := wayP_get hx
  have e : runP bits (pvs ps.xs) per K k (i + 1) = stepV K.most.toNat (runP bits (pvs ps.xs) per K k i) (x.toNat / per) := runV_take hw
  refine ⟨h.pages, h.pe, fun h => by simp at h, hv.most.trans h.most, ?_, ?_, ?_, ?_⟩
  · have h1 := hv.fit
    rw [hv.most, h.most, h.pages] at h1; exact h1
  · rw [e]; show idsOf (kvs K'.items.xs) = _
    rw [hv.ids, h.most, h.ids]; rfl
  · rw [e]
    simp only [visW, stepV, h.ids, h.hits]
    split <;> simp
  · rw [e]
    simp only [visW, stepV, h.ids, h.mis]
    split <;> simp
theorem WInv.vok {bits : Int} {ps : Sl (Sl UInt8)} {per : Nat} {K : Kp} {k : Key} {i : Nat} {W : Wkr} (h : WInv bits ps per K k i W) {ns : List Nd} (hg : PgOk bits per (pvs ps.xs) ns) {x : Int} (hx : (walkV bits (wholeN (pvs ps.xs)) k)[i]? = some x) : VOk W W.per.toNat x := by
  have hil := (List.getElem?_eq_some_iff.1 hx).1
  have h33 := walkV_few hg.tr k
  obtain ⟨f1, f2⟩ := hg.few
  rw [hg.whole] at hx hil
  have h1 := walkV_get hil
  obtain ⟨hr, _, hl1, _⟩ := inR_of hg.tr
  have hc := chain_lt (k := k) hr hl1 i
  have ex : x = ((chain ns k i : Nat) : Int) := Option.some.inj (hx.symm.trans h1)
  have hp : W.per.toNat = per := by rw [h.pe]; rfl
  have hs := runP_sum bits (pvs ps.xs) per K k i
  have hlen : W.pages.xs.length = npg ns.length per := by rw [h.pages, ← pvs_length, hg.len]
  have g1 := hg.one
  refine ⟨by rw [hp]; exact h.pe, by rw [hp]; exact g1, by rw [hp]; exact hg.le, ?_, by omega, ?_, by omega, by rw [h.pages, ← pvs_length]; omega, fun y hy => ?_, by rw [h.hits]; omega, by rw [h.mis]; omega⟩
  · rw [h.most, h.pages]; exact h.fit
  · rw [hlen, hp, ex, Int.toNat_natCast, npg_lt g1]
    exact Nat.lt_of_le_of_lt (Nat.div_mul_le_self _ _) hc
  · rw [h.pages] at hy
    obtain ⟨j, hj⟩ := List.mem_iff_getElem?.1 hy
    have := (hg.at (pvs_get hj)).2.2.2.2
    omega
end Go.Kb
namespace Go.Eng
open Go.Kb
section
variable {w0 : World} {L : List Ent} {τ : Type} [d : Deep τ] [r : Rea τ]
class OwnsF (L : List Ent) (a : τ) (g : outParam Bool) (i : outParam Nat) : Prop where
  h : L[i]? = some (selE g (fz a))
instance (priority := high) OwnsF.here {a : τ} {g : Bool} : OwnsF (selE g (fz a) :: L) a g 0 := ⟨rfl⟩
instance OwnsF.there {a : τ} {g : Bool} {e : Ent} {i : Nat} [q : OwnsF L a g i] : OwnsF (e :: L) a g (i + 1) := ⟨by simpa using q.h⟩
theorem sel_good {a b : τ} {g : Bool} {i : Nat} [q : OwnsF L a g i] (h : g = true → a = b) [hb : HdD w0 L b] : ∀ w, Mem w0 L w → d.good (hp w) a := fun w hw => by
  cases hg : g with
  | true => rw [h hg]; exact hb.h w hw
  | false =>
    have := hw.get q.h
    rw [hg] at this; exact this
end
end Go.Eng

/- A page is visited: walked. -/
namespace Go.Proofs.Ytklhkejhndnhbaa
open Go.Eng Go.Kb

instance : ZeroT Try.prog 45 (.agg (rchcells zrch)) := ⟨by kernel_rfl⟩
instance : ZeroT Try.prog 87 (.agg (wkrcells zwkr)) := ⟨by kernel_rfl⟩
theorem rch_build (k : Kp) (w : World) : (Instr.build 45 #[(2, .agg (kpcells k))]).run Try.prog w = .ok (.agg (rchcells ⟨0, 0, k, 0, 0⟩)) w := by
  obtain ⟨m, s, xs⟩ := k
  unfold rchcells kpcells
  obtain ⟨e, b, o, l, c, p⟩ := s
  cases e <;> kernel_rfl
theorem wkr_build (r : Rch) (s : Sl (Sl UInt8)) (n : Int) (w : World) : (Instr.build 87 #[(0, .agg (rchcells r)), (1, s.sv.val), (2, .int .i64 n)]).run Try.prog w = .ok (.agg (wkrcells ⟨r, s, n⟩)) w := by
  obtain ⟨l, h, ⟨m, s2, xs⟩, a, b⟩ := r
  obtain ⟨s, ys⟩ := s
  unfold wkrcells rchcells
  obtain ⟨e, b, o, l, c, p⟩ := s
  obtain ⟨e2, b2, o2, l2, c2, p2⟩ := s2
  cases e <;> cases e2 <;> kernel_rfl
set_option maxRecDepth 20000 in
theorem pvisit_c (w0 w : World) (L : List Ent) (p : Nat) (W : Wkr) (x : Int) (hw : Mem w0 (blk p (wkrcells W) 87 :: L) w) (hpre : (∀ w, Mem w0 L w → Deep.good (hp w) W.r.kept) ∧ (∀ w, Mem w0 L w → Deep.good (hp w) W.pages) ∧ VOk W W.per.toNat x) : Calls Try.prog 28 #[.pointer (some ⟨p, 0, none⟩), .int .i64 x] w fun e w' => ∃ zz : Kp, e = .returned (.tuple #[]) ∧ (VStep W (x.toNat / W.per.toNat) zz) ∧ Mem w0 (blk p (wkrcells (visW W (x.toNat / W.per.toNat) zz)) 87 :: fz zz :: L) w' := by
  obtain ⟨hq1, hq2, hv⟩ := hpre
  have gk : ∀ {L9 : List Ent} [Keep L9 L], HdD w0 L9 W.r.kept := fun {L9} q => ⟨fun w hw => hq1 w (Keep.mem hw)⟩
  have gp : ∀ {L9 : List Ent} [Keep L9 L], HdD w0 L9 W.pages := fun {L9} q => ⟨fun w hw => hq2 w (Keep.mem hw)⟩
  obtain ⟨hper, hn1, hn8, hfit, hx0, hxn, hxt, hpf, hpl, hh0, hm0⟩ := hv
  have hpvl := pvs_length W.pages.xs
  obtain ⟨hkl, hkb⟩ := hfit.lens (fun z hz => by obtain ⟨y, hy, rfl⟩ := List.mem_map.1 hz; exact hpl y hy)
  obtain ⟨v1, v2, v3⟩ := hfit.visit (a := (x.toNat / W.per.toNat)) (by omega)
  obtain ⟨y, hy⟩ := get_some (xs := W.pages.xs) (i := (x.toNat / W.per.toNat)) hxn
  have mby : Mb y W.pages := ⟨List.mem_of_getElem? hy⟩
  have hyl := hpl y (List.mem_of_getElem? hy)
  have hyp : (pvs W.pages.xs).getD (x.toNat / W.per.toNat) [] = y.xs := by rw [List.getD, pvs_get hy]; rfl
  refine calls_in (args := [_, _]) Try.func28 rfl Try.ntmps28 rfl hw ?_
  change Cw _ _ _ _ _ [(0, .pointer (some ⟨p, 0, none⟩)), (1, .int .i64 x)] (blk p (wkrcells W) 87 :: L)
  refine cw_seq ?_
  refine cw_region ?_
  refine sq_r (ry_move rfl) ?_
  refine sq_r (ry_move rfl) ?_
  refine sq_r (ry_nilp rfl) ?_
  refine sq_r (ry_field (o' := 7) rfl rfl) ?_
  refine sq_r (ry_cellc rfl) ?_
  refine sq_r (Ry.to (v' := .int .i64 (((x.toNat / W.per.toNat) : Nat) : Int)) (ry_quo rfl rfl (by omega) (by omega)) (by rw [Int.natCast_ediv, Int.toNat_of_nonneg hx0, Int.toNat_of_nonneg (by omega)])) ?_
  refine sq_r (ry_assign rfl) ?_
  refine sq_nil ?_
  refine ex_then ?_
  refine cw_seq ?_
  refine cw_region ?_
  refine sq_r (ry_move rfl) ?_
  refine sq_r (ry_nilp rfl) ?_
  refine sq_r (ry_field (o' := 0) rfl rfl) ?_
  refine sq_r (ry_field (o' := 2) rfl rfl) ?_
  refine sq_r (ry_part rfl) ?_
  refine sq_r (ry_move rfl) ?_
  refine sq_callC rfl ⟨by omega, fun z hz => Nat.le_trans (hkb z hz) (by omega)⟩ fun x21 hp21 => ?_
  refine sq_r (ry_move rfl) ?_
  refine sq_r (ry_extract (v := .agg (kpcells (⟨W.r.kept.most, x21.1⟩ : Kp))) rfl rfl) ?_
  refine sq_r (ry_extract (v := x21.2.2.val) rfl rfl) ?_
  refine sq_r (ry_extract (v := .bool (lookO W.r.kept.most (kvs W.r.kept.items.xs) (((x.toNat / W.per.toNat) : Nat) : Int))) rfl rfl) ?_
  refine sq_allocA fun b5 => ?_
  refine sq_storeW rfl rfl ?_
  refine sq_r (ry_assign rfl) ?_
  refine sq_r (ry_assign rfl) ?_
  refine sq_nil ?_
  refine ex_then ?_
  refine cw_seq ?_
  refine cw_seq ?_
  refine cw_region ?_
  refine sq_r (ry_move rfl) ?_
  refine sq_nil ?_
  refine ex_then ?_
  refine cw_cond rfl (fun h0 => ?_) (fun h0 => ?_)
  · try simp only [bz0, bz1, bz2, bz3, bz4, bz5, bz6, bz7, bz8, bz9] at h0
    have ha : (x.toNat / W.per.toNat) ∈ idsOf (kvs W.r.kept.items.xs) := by rw [v1] at h0; exact of_decide_eq_true h0
    obtain ⟨f1, f2⟩ := v2 ha
    refine cw_seq ?_
    refine cw_region ?_
    refine sq_r (ry_move rfl) ?_
    refine sq_r (ry_whole rfl) ?_
    refine sq_r (ry_nilp rfl) ?_
    refine sq_r (ry_field (o' := 0) rfl rfl) ?_
    refine sq_r (ry_field (o' := 2) rfl rfl) ?_
    refine sq_storeN (cs' := wkrcells { W with r := { W.r with kept := (⟨W.r.kept.most, x21.1⟩ : Kp) } }) rfl rfl (by show 2 + 2 ≤ 8; decide) rfl ?_
    refine sq_nil ?_
    refine ex_then ?_
    refine cw_seq ?_
    refine cw_region ?_
    refine sq_r (ry_move rfl) ?_
    refine sq_r (ry_nilp rfl) ?_
    refine sq_r (ry_field (o' := 0) rfl rfl) ?_
    refine sq_r (ry_field (o' := 4) rfl rfl) ?_
    refine sq_r (Ry.to (v' := .int .i64 W.r.hits) (ry_cellc rfl) rfl) ?_
    refine sq_r (ry_add rfl rfl (by omega)) ?_
    refine sq_r (ry_nilp rfl) ?_
    refine sq_r (ry_field (o' := 0) rfl rfl) ?_
    refine sq_r (ry_field (o' := 4) rfl rfl) ?_
    refine sq_store (cs' := wkrcells { W with r := { W.r with kept := (⟨W.r.kept.most, x21.1⟩ : Kp), hits := W.r.hits + 1 } }) rfl rfl (by show 4 < 8; decide) rfl rfl ?_
    refine sq_nil ?_
    refine ex_then ?_
    refine cw_ret ?_
    refine ex_pass_ret ?_
    refine ex_ret (.inl rfl) (res_none rfl) (fun w1 hw => ?_)
    exact ⟨(⟨W.r.kept.most, x21.1⟩ : Kp), rfl, ⟨rfl, by rw [hp21.2]; exact f1, by rw [hp21.2]; exact f2⟩, by
      have e : visW W (x.toNat / W.per.toNat) (⟨W.r.kept.most, x21.1⟩ : Kp) = { W with r := { W.r with kept := (⟨W.r.kept.most, x21.1⟩ : Kp), hits := W.r.hits + 1 } } := by simp only [visW, if_pos ha]
      rw [e]
      exact Keep.mem (frzK W.r.kept.most hp21.1 (Keep.mem hw : Mem _ (own icells 2 x21.1.sv x21.1.xs :: Ent.all x21.2.1 :: blk p (wkrcells { W with r := { W.r with kept := (⟨W.r.kept.most, x21.1⟩ : Kp), hits := W.r.hits + 1 } }) 87 :: L) _))⟩
  · try simp only [bz0, bz1, bz2, bz3, bz4, bz5, bz6, bz7, bz8, bz9] at h0
    have ha : (x.toNat / W.per.toNat) ∉ idsOf (kvs W.r.kept.items.xs) := by rw [v1] at h0; exact of_decide_eq_false h0
    obtain ⟨f1, f2, f3⟩ := v3 ha
    rw [hyp] at f1 f2 f3
    refine cw_skip ?_
    refine ex_then ?_
    refine cw_seq ?_
    refine cw_region ?_
    refine sq_r (ry_move rfl) ?_
    refine sq_r (ry_nilp rfl) ?_
    refine sq_r (ry_field (o' := 0) rfl rfl) ?_
    refine sq_r (ry_field (o' := 5) rfl rfl) ?_
    refine sq_r (ry_cellc rfl) ?_
    refine sq_r (ry_add rfl rfl (by omega)) ?_
    refine sq_r (ry_nilp rfl) ?_
    refine sq_r (ry_field (o' := 0) rfl rfl) ?_
    refine sq_r (ry_field (o' := 5) rfl rfl) ?_
    refine sq_store (cs' := wkrcells { W with r := { W.r with misses := W.r.misses + 1 } }) rfl rfl (by show 5 < 8; decide) rfl rfl ?_
    refine sq_nil ?_
    refine ex_then ?_
    refine cw_lin [15, 22, 1003, 1004, 1005, 1009, 1010, 1012, 1013, 1020, 1021] [[], [], [], [], [3], [3, 4], [], [], [], [], [9], [], [9, 10], [9, 10, 12], [9, 10, 12, 13], [3, 4, 5, 9, 10, 12, 13], [3, 4, 5, 9, 10, 12, 13, 15], [3, 4, 5, 9, 10, 12, 13, 15], [3, 4, 5, 9, 10, 12, 13, 15], [3, 4, 5, 9, 10, 12, 13, 15], [3, 4, 5, 9, 10, 12, 13, 15], [3, 4, 5, 9, 10, 12, 13, 15, 20], [3, 4, 5, 9, 10, 12, 13, 15, 20, 21]] [0, 1, 2, 3, 4, 5, 6, 7, 8, 9, 10, 11, 12, 13, 14, 15, 16, 17, 18, 19, 20, 21, 22] [] (fun _ hw => Keep.mem hw) (by kernel_rfl) (by kernel_rfl) ?_
    refine ln_r rfl (ry_move rfl) ?_
    refine ln_r rfl (ry_move rfl) ?_
    refine ln_r rfl (ry_nilp rfl) ?_
    refine lt_r rfl (ry_field (o' := 0) rfl rfl) ?_
    refine lt_r rfl (ry_field (o' := 2) rfl rfl) ?_
    refine lt_r rfl (ry_part rfl) ?_
    refine ln_r rfl (ry_move rfl) ?_
    refine ln_r rfl (ry_move rfl) ?_
    refine ln_r rfl (ry_nilp rfl) ?_
    refine lt_r rfl (ry_field (o' := 6) rfl rfl) ?_
    refine lt_r rfl (ry_cellc rfl) ?_
    refine ln_r rfl (ry_move rfl) ?_
    refine lt_r rfl (ry_idxH rfl rfl (x.toNat / W.per.toNat) rfl (by omega)) ?_
    refine lt_r rfl (ry_elemcH (j := 0) rfl (x.toNat / W.per.toNat) hy rfl (by decide)) ?_
    have mb63 : Mb y _ := ⟨List.mem_of_getElem? hy⟩
    refine ln_r rfl (ry_build (v := .agg (icells (⟨(((x.toNat / W.per.toNat) : Nat) : Int), y⟩ : It))) rfl (it_build (x.toNat / W.per.toNat) y.sv y.xs)) ?_
    refine ln_st rfl (st_callC rfl ⟨⟨show W.r.kept.items.xs.length ≤ 1000000 by omega, fun z hz => Nat.le_trans (hkb z hz) (by omega)⟩, show y.xs.length ≤ 1000000 by omega⟩ fun x65 hp65 => ⟨fun _ hw => Keep.mem hw, ?_⟩)
    refine ln_r rfl (ry_move rfl) ?_
    refine ln_r rfl (ry_extract (v := .agg (kpcells (⟨((({ W with r := { W.r with misses := W.r.misses + 1 } } : Wkr).r).kept).most, x65.1⟩ : Kp))) rfl rfl) ?_
    refine ln_r rfl (ry_extract (v := .int .i64 (keepE ((({ W with r := { W.r with misses := W.r.misses + 1 } } : Wkr).r).kept).most (kvs ((({ W with r := { W.r with misses := W.r.misses + 1 } } : Wkr).r).kept).items.xs) (kval (⟨(((x.toNat / W.per.toNat) : Nat) : Int), y⟩ : It)))) rfl rfl) ?_
    refine ln_r rfl (ry_nilp rfl) ?_
    refine lt_r rfl (ry_field (o' := 0) rfl rfl) ?_
    refine lt_r rfl (ry_field (o' := 2) rfl rfl) ?_
    refine ln_st rfl (st_storeN (cs' := wkrcells { W with r := { W.r with kept := (⟨W.r.kept.most, x65.1⟩ : Kp), misses := W.r.misses + 1 } }) rfl rfl (by show 2 + 2 ≤ 8; decide) rfl ⟨fun _ hw => Keep.mem hw, ?_⟩)
    refine ln_nil ?_
    refine ex_ret (.inr rfl) (res_none rfl) (fun w1 hw => ?_)
    exact ⟨(⟨W.r.kept.most, x65.1⟩ : Kp), rfl, ⟨rfl, by rw [hp65.2]; exact f1, by rw [hp65.2]; exact f2⟩, by
      have e : visW W (x.toNat / W.per.toNat) (⟨W.r.kept.most, x65.1⟩ : Kp) = { W with r := { W.r with kept := (⟨W.r.kept.most, x65.1⟩ : Kp), misses := W.r.misses + 1 } } := by simp only [visW, if_neg ha]
      rw [e]
      exact Keep.mem (frzK W.r.kept.most hp65.1 (Keep.mem hw : Mem _ (own icells 2 x65.1.sv x65.1.xs :: Ent.all x65.2 :: blk p (wkrcells { W with r := { W.r with kept := (⟨W.r.kept.most, x65.1⟩ : Kp), misses := W.r.misses + 1 } }) 87 :: L) _))⟩
instance pvisit_i {w0 : World} {L L2 : List Ent} {i : Nat} {p : Nat} {W : Wkr} {x : Int} [q : Has L p (wkrcells W) 87 i] [d1 : DelI L i L2] : FnC Try.prog 28 w0 L [.pointer (some ⟨p, 0, none⟩), .int .i64 x] (Kp) (fun zz => .tuple #[]) (fun zz => blk p (wkrcells (visW W (x.toNat / W.per.toNat) zz)) 87 :: fz zz :: L2) (fun zz => VStep W (x.toNat / W.per.toNat) zz) ((∀ w, Mem w0 L2 w → Deep.good (hp w) W.r.kept) ∧ (∀ w, Mem w0 L2 w → Deep.good (hp w) W.pages) ∧ VOk W W.per.toNat x) := ⟨fun hp w hw => pvisit_c w0 w L2 p W x (mem_one q.h d1.h hw) hp⟩

end Go.Proofs.Ytklhkejhndnhbaa

/- How many pages; what is kept of these pages; chunks: walked. -/
namespace Go.Proofs.Ytklhkejhndnhbaa
open Go.Eng Go.Kb
set_option maxRecDepth 20000 in
theorem beq_c (w : World) (x : Sv) (xs : List UInt8) (y : Sv) (ys : List UInt8) (hx : Lies benc 1 (hp w) x xs) (hy : Lies benc 1 (hp w) y ys) : Calls Try.prog 43 #[x.val, y.val] w fun e w' => e = .returned (.bool (decide (xs = ys))) ∧ Mem w [] w' := by
  have ghx : Gv w x benc 1 xs := ⟨hx⟩
  have ghy : Gv w y benc 1 ys := ⟨hy⟩
  refine calls_of (args := [_, _]) Try.func43 rfl Try.ntmps43 rfl ?_
  change Cw _ _ _ _ _ [(0, x.val), (1, y.val)] []
  refine cw_seq ?_
  refine cw_region ?_
  refine sq_r (ry_assign rfl) ?_
  refine sq_nil ?_
  refine ex_then ?_
  refine cw_seq ?_
  refine cw_region ?_
  refine sq_r (ry_move rfl) ?_
  refine sq_r (ry_bstrH Try.underlying49 Try.underlying5 Try.underlying9 rfl) ?_
  refine sq_r (ry_move rfl) ?_
  refine sq_r (ry_bstrH Try.underlying49 Try.underlying5 Try.underlying9 rfl) ?_
  refine sq_r (ry_streqL rfl rfl) ?_
  refine sq_r (ry_assign rfl) ?_
  refine sq_nil ?_
  refine ex_then ?_
  refine cw_ret ?_
  refine ex_ret (.inl rfl) (res_1 rfl (rv_tmp rfl)) (fun w1 hw => ?_)
  exact ⟨congrArg (fun b => Ending.returned (Value.bool b)) (rfl), Keep.mem hw⟩
instance beq_i {w0 : World} {L : List Ent} {x : Sv} {xs : List UInt8} {y : Sv} {ys : List UInt8} [hx : HdE w0 L benc 1 x xs] [hy : HdE w0 L benc 1 y ys] : FnQ Try.prog 43 w0 L [x.val, y.val] (.bool (decide (xs = ys))) (True) := ⟨fun hp w hw => beq_c w x xs y ys (hx.h w hw) (hy.h w hw)⟩
set_option maxRecDepth 20000 in
theorem pmost_c (w : World) (ps : Sl (Sl UInt8)) (bits : Int) (hps : Deep.good (hp w) ps) (hpre : bits ≤ 1000) : Calls Try.prog 14 #[ps.sv.val, .int .i64 bits] w fun e w' => e = .returned (.int .i64 (mostP ps.xs.length bits)) ∧ Mem w [] w' := by
  have ghps : GvD w ps := ⟨hps⟩
  have hpb := hps.1.bd
  refine calls_of (args := [_, _]) Try.func14 rfl Try.ntmps14 rfl ?_
  change Cw _ _ _ _ _ [(0, ps.sv.val), (1, .int .i64 bits)] []
  refine cw_seq ?_
  refine cw_region ?_
  refine sq_r (ry_assign rfl) ?_
  refine sq_nil ?_
  refine ex_then ?_
  refine cw_seq ?_
  refine cw_seq ?_
  refine cw_region ?_
  refine sq_r (ry_move rfl) ?_
  refine sq_r (ry_int rfl rfl rfl) ?_
  refine sq_nil ?_
  refine ex_then ?_
  refine cw_cond rfl (fun h0 => ?_) (fun h0 => ?_)
  · try simp only [bz0, bz1, bz2, bz3, bz4, bz5, bz6, bz7, bz8, bz9] at h0
    refine cw_seq ?_
    refine cw_region ?_
    refine sq_r (ry_assign rfl) ?_
    refine sq_nil ?_
    refine ex_then ?_
    refine cw_ret ?_
    refine ex_pass_ret ?_
    refine ex_ret (.inl rfl) (res_1 rfl (rv_tmp rfl)) (fun w1 hw => ?_)
    exact ⟨congrArg (fun b => Ending.returned (Value.int .i64 b)) ((by rw [mostP, if_pos h0])), Keep.mem hw⟩
  · try simp only [bz0, bz1, bz2, bz3, bz4, bz5, bz6, bz7, bz8, bz9] at h0
    refine cw_skip ?_
    refine ex_then ?_
    refine cw_seq ?_
    refine cw_region ?_
    refine sq_r (ry_move rfl) ?_
    refine sq_r (ry_lenH rfl) ?_
    refine sq_r (ry_move rfl) ?_
    refine sq_r (ry_quo rfl rfl (by omega) (by omega)) ?_
    refine sq_r (ry_min rfl rfl) ?_
    refine sq_r (ry_assign rfl) ?_
    refine sq_nil ?_
    refine ex_then ?_
    refine cw_ret ?_
    refine ex_ret (.inl rfl) (res_1 rfl (rv_tmp rfl)) (fun w1 hw => ?_)
    exact ⟨congrArg (fun b => Ending.returned (Value.int .i64 b)) ((by rw [mostP, if_neg h0])), Keep.mem hw⟩
instance pmost_i {w0 : World} {L : List Ent} {ps : Sl (Sl UInt8)} {bits : Int} [hps : HdD w0 L ps] : FnQ Try.prog 14 w0 L [ps.sv.val, .int .i64 bits] (.int .i64 (mostP ps.xs.length bits)) (bits ≤ 1000) := ⟨fun hp w hw => pmost_c w ps bits (hps.h w hw) hp⟩
set_option maxRecDepth 20000 in
theorem pof_c (w : World) (ps : Sl (Sl UInt8)) (k : Kp) (hps : Deep.good (hp w) ps) (hk : Deep.good (hp w) k) (hpre : FitK k.most (pvs ps.xs) (kvs k.items.xs)) : Calls Try.prog 27 #[ps.sv.val, .agg (kpcells k)] w fun e w' => e = .returned (.bool true) ∧ Mem w [] w' := by
  have ghps : GvD w ps := ⟨hps⟩
  have ghk : GvD w k := ⟨hk⟩
  have hkl := kvs_length k.items.xs
  have hpl := pvs_length ps.xs
  have hkr := hpre.right
  obtain ⟨kb1, kb2, kb3, -⟩ := kright_iff.1 hkr
  refine calls_of (args := [_, _]) Try.func27 rfl Try.ntmps27 rfl ?_
  change Cw _ _ _ _ _ [(0, ps.sv.val), (1, .agg (kpcells k))] []
  refine cw_seq ?_
  refine cw_region ?_
  refine sq_boxA rfl fun b3 => ?_
  refine sq_r (ry_assign rfl) ?_
  refine sq_nil ?_
  refine ex_then ?_
  refine cw_seq ?_
  refine cw_seq ?_
  refine cw_region ?_
  refine sq_r (ry_whole rfl) ?_
  refine sq_y (yl_callC rfl trivial) ?_
  refine sq_r (ry_not rfl) ?_
  refine sq_nil ?_
  refine ex_then ?_
  refine cw_cond rfl (fun h0 => ?_) (fun h0 => ?_)
  · exfalso; rw [hkr] at h0; cases h0
  · try simp only [bz0, bz1, bz2, bz3, bz4, bz5, bz6, bz7, bz8, bz9] at h0
    refine cw_skip ?_
    refine ex_then ?_
    refine cw_seq ?_
    refine cw_seq ?_
    refine cw_region ?_
    refine sq_r (ry_field (o' := 1) rfl rfl) ?_
    refine sq_r (ry_cellc rfl) ?_
    refine sq_r (ry_lenH rfl) ?_
    refine sq_r (ry_move rfl) ?_
    refine sq_nil ?_
    refine ex_then ?_
    refine cw_block ?_
    refine cw_loop (X := Nat) (fun zz => [(13, .int .i64 (zz : Nat)), (0, ps.sv.val), (11, k.items.sv.val), (12, .int .i64 (k.items.xs.length : Nat))]) (fun zz => [blk b3 (kpcells k) 40]) (fun zz => zz ≤ k.items.xs.length) (fun zz => k.items.xs.length - zz) 0 (Nat.zero_le _) (Sub.cons rfl (Sub.cons rfl (Sub.cons rfl (Sub.cons rfl (Sub.nil _))))) (fun w hw => Keep.mem hw) ?_
    rintro i hi
    refine cw_seq ?_
    refine cw_region ?_
    refine sq_r (ry_int rfl rfl rfl) ?_
    refine sq_nil ?_
    refine ex_then ?_
    refine cw_seq ?_
    refine cw_cond rfl (fun h1 => ?_) (fun h1 => ?_)
    · try simp only [bz0, bz1, bz2, bz3, bz4, bz5, bz6, bz7, bz8, bz9] at h1
      obtain ⟨z, hz⟩ := get_some (xs := k.items.xs) (i := i) (by omega)
      have mbz : Mb z k.items := ⟨List.mem_of_getElem? hz⟩
      obtain ⟨z1, z2, z3⟩ := hpre.2.at (kvs_get hz)
      rw [show (kval z).1 = z.id from rfl] at z1 z2 z3
      obtain ⟨y, hy⟩ := get_some (xs := ps.xs) (i := z.id.toNat) (by omega)
      have mby : Mb y ps := ⟨List.mem_of_getElem? hy⟩
      have hyz : y.xs = z.body.xs := by rw [pvs_get hy] at z3; exact Option.some.inj z3
      refine cw_skip ?_
      refine ex_then ?_
      refine cw_seq ?_
      refine cw_block ?_
      refine cw_seq ?_
      refine cw_region ?_
      refine sq_r (ry_idxH rfl rfl i rfl (by omega)) ?_
      refine sq_r (ry_elemH rfl i hz rfl) ?_
      refine sq_allocA fun b6 => ?_
      refine sq_storeW rfl rfl ?_
      refine sq_nil ?_
      refine ex_then ?_
      refine cw_seq ?_
      refine cw_quiet (by kernel_rfl) (by kernel_rfl) ?_
      refine qt_r (ry_field (o' := 0) rfl rfl) ?_
      refine qt_r (ry_cellc rfl) ?_
      refine qt_r (ry_move rfl) ?_
      refine qt_r (ry_lenH rfl) ?_
      refine qt_r (ry_int rfl rfl rfl) ?_
      refine qt_r (ry_move rfl) ?_
      refine qt_gf rfl rfl rfl (fun hg => (Ry.yl (ry_move rfl))) ?_
      refine qt_gf rfl rfl rfl (fun hg => (Ry.yl (ry_field (o' := 0) rfl rfl))) ?_
      refine qt_gf rfl rfl rfl (fun hg => (Ry.yl (ry_cellc (ev_c hg rfl)))) ?_
      refine qt_gf rfl rfl rfl (fun hg => (Ry.yl (ry_idxH (ev_c hg rfl) (ev_c hg rfl) z.id.toNat (by omega) (by omega)))) ?_
      refine qt_gf rfl rfl rfl (fun hg => (Ry.yl (ry_elemcH (j := 0) (ev_c hg rfl) z.id.toNat hy rfl (by decide)))) ?_
      refine qt_gf rfl rfl rfl (fun hg => (Ry.yl (ry_field (o' := 1) rfl rfl))) ?_
      refine qt_gf rfl rfl rfl (fun hg => (Ry.yl (ry_cellc (ev_c hg rfl)))) ?_
      refine qt_gf rfl rfl rfl (fun hg => yl_callC (evl_cons (ev_c hg rfl) (evl_cons (ev_c hg rfl) evl_nil)) trivial) ?_
      refine qt_gf rfl rfl rfl (fun hg => (Ry.yl (ry_not (ev_c hg rfl)))) ?_
      refine qt_r (ry_or rfl rfl rfl) ?_
      refine qt_nil ?_
      refine ex_then ?_
      refine cw_cond rfl (fun h2 => ?_) (fun h2 => ?_)
      · try simp only [bz0, bz1, bz2, bz3, bz4, bz5, bz6, bz7, bz8, bz9] at h2
        exfalso
        rcases h2 with h | h
        · omega
        · exact h hyz
      · try simp only [bz0, bz1, bz2, bz3, bz4, bz5, bz6, bz7, bz8, bz9] at h2
        refine cw_skip ?_
        refine ex_block ?_
        refine ex_then ?_
        refine cw_region ?_
        refine sq_r (ry_add rfl rfl (by omega)) ?_
        refine sq_r (ry_move rfl) ?_
        refine sq_nil ?_
        exact ex_again (x := (i)) (i + 1) (by first | omega | (simp only []; omega)) (by first | omega | (simp only []; omega)) (Sub.cons rfl (Sub.cons rfl (Sub.cons rfl (Sub.cons rfl (Sub.nil _))))) (fun w hw => Keep.mem hw)
    · try simp only [bz0, bz1, bz2, bz3, bz4, bz5, bz6, bz7, bz8, bz9] at h1
      refine cw_exit ?_
      refine ex_pass_exit ?_
      refine ex_pass_exit ?_
      refine ex_block_hit ?_
      refine ex_then ?_
      refine cw_seq ?_
      refine cw_region ?_
      refine sq_r (ry_assign rfl) ?_
      refine sq_nil ?_
      refine ex_then ?_
      refine cw_ret ?_
      refine ex_ret (.inl rfl) (res_1 rfl (rv_tmp rfl)) (fun w1 hw => ?_)
      exact ⟨congrArg (fun b => Ending.returned (Value.bool b)) (rfl), Keep.mem hw⟩
instance pof_i {w0 : World} {L : List Ent} {ps : Sl (Sl UInt8)} {k : Kp} [hps : HdD w0 L ps] [hk : HdD w0 L k] : FnQ Try.prog 27 w0 L [ps.sv.val, .agg (kpcells k)] (.bool true) (FitK k.most (pvs ps.xs) (kvs k.items.xs)) := ⟨fun hp w hw => pof_c w ps k (hps.h w hw) (hk.h w hw) hp⟩
set_option maxRecDepth 20000 in
theorem chunk1_it {b2 b3 : Nat} {b : Sv} {bs : List Nd} {c m : Nat} (hc : 0 < c) (hc8 : c ≤ 1000) (hm : m = npg bs.length c) : Iter Try.prog 40 #[.pointer (some ⟨b2, 0, none⟩), .pointer (some ⟨b3, 0, none⟩)] (fun k => [((b.top (k * c + min c (bs.length - k * c))).sub 48 (k * c) (k * c + min c (bs.length - k * c))).val].toArray) m (fun w => w.cell? ⟨b2, 0, none⟩ = some b.val ∧ w.cell? ⟨b3, 0, none⟩ = some (.int .i64 (c : Nat)) ∧ Lies ncells 48 (hp w) b bs) := by
  intro l J Jx W0 hJ hJx hN hY h0
  change Calls _ _ ([.func (.yield l) #[] #[], .pointer (some ⟨b2, 0, none⟩), .pointer (some ⟨b3, 0, none⟩)] : List Value).toArray _ _
  refine calls_of (args := [_, _, _]) Try.func40 rfl Try.ntmps40 rfl ?_
  change Cw _ _ _ _ _ [(0, .func (.yield l) #[] #[]), (1, .pointer (some ⟨b2, 0, none⟩)), (2, .pointer (some ⟨b3, 0, none⟩))] []
  refine cw_seq ?_
  refine cw_region ?_
  refine sq_r (ry_assign rfl) ?_
  refine sq_nil ?_
  refine ex_then ?_
  refine cw_block ?_
  refine cw_iter (X := Nat) (fun zz => [(4, .int .i64 ((zz * c) : Nat)), (0, .func (.yield l) #[] #[]), (1, .pointer (some ⟨b2, 0, none⟩)), (2, .pointer (some ⟨b3, 0, none⟩))]) (fun zz w => zz ≤ m ∧ J zz w) (fun zz => m - zz) 0 (Sub.cons (look_eq rfl (by rw [Nat.zero_mul]; rfl)) (Sub.cons rfl (Sub.cons rfl (Sub.cons rfl (Sub.nil _))))) (fun w hw => ⟨Nat.zero_le _, hJ _ _ _ h0 hw.below⟩) ?_
  rintro i W ⟨hi, hj⟩
  obtain ⟨n1, n2, n3⟩ := hN i W hj
  have gb : Gv W b ncells 48 bs := ⟨n3⟩
  have hbd := n3.bd
  have hil : i < m ↔ i * c < bs.length := by rw [hm]; exact npg_lt hc
  have hmc := npg_few (len := bs.length) hc
  refine cw_seq ?_
  refine cw_seq ?_
  refine cw_region ?_
  refine sq_r (ry_move rfl) ?_
  refine sq_r (ry_old rfl n1) ?_
  refine sq_r (ry_lenH rfl) ?_
  refine sq_r (ry_int rfl rfl rfl) ?_
  refine sq_nil ?_
  refine ex_then ?_
  refine cw_cond rfl (fun h0 => ?_) (fun h0 => ?_)
  · try simp only [bz0, bz1, bz2, bz3, bz4, bz5, bz6, bz7, bz8, bz9] at h0
    have him : i < m := by omega
    have hdl : ((bs.drop (i * c)).take (bs.length - i * c)).length = bs.length - i * c := by rw [List.length_take, List.length_drop, Nat.min_self]
    refine cw_skip ?_
    refine ex_then ?_
    refine cw_seq ?_
    refine cw_block ?_
    refine cw_seq ?_
    refine cw_quiet (by kernel_rfl) (by kernel_rfl) ?_
    refine qt_r (ry_old rfl n2) ?_
    refine qt_r (ry_old rfl n1) ?_
    refine qt_r (ry_move rfl) ?_
    have rg16 : Rg (i * c) bs.length bs.length := ⟨by omega⟩
    refine qt_r (ry_subH_lo rfl rfl (i * c) rfl rg16.h.1) ?_
    refine qt_r (ry_lenH rfl) ?_
    refine qt_r (Ry.to (v' := .int .i64 ((min c (bs.length - i * c) : Nat) : Int)) (ry_min rfl rfl) (by rw [hdl]; congr 1; omega)) ?_
    refine qt_r (ry_assign rfl) ?_
    refine qt_nil ?_
    refine ex_then ?_
    refine cw_seq ?_
    refine cw_yields ?_
    refine si_r (ry_move rfl) ?_
    refine si_r (ry_old rfl n1) ?_
    refine si_r (ry_move rfl) ?_
    refine si_r (ry_move rfl) ?_
    refine si_r (ry_move rfl) ?_
    refine si_r (ry_add rfl rfl (by omega)) ?_
    refine si_r (ry_move rfl) ?_
    refine si_r (ry_move rfl) ?_
    refine si_r (ry_add rfl rfl (by omega)) ?_
    refine si_r (ry_subH3 (l := i * c) (h := (i * c + min c (bs.length - i * c))) (m := (i * c + min c (bs.length - i * c))) rfl rfl rfl rfl rfl rfl rfl (by omega) (by omega) (by omega)) ?_
    refine si_yield (vs := [((b.top (i * c + min c (bs.length - i * c))).sub 48 (i * c) (i * c + min c (bs.length - i * c))).val]) rfl rfl (fun w hw => hY i w him (hJ _ _ _ hj hw.below)) (fun W2 hJ2 => ?_) (fun W2 hJ2 => ?_)
    · obtain ⟨n1b, n2b, n3b⟩ := hN (i + 1) W2 hJ2
      refine si_r (ry_not rfl) ?_
      refine si_nil ?_
      refine ex_then ?_
      refine cw_cond rfl (fun h1 => ?_) (fun h1 => ?_)
      · exfalso; simp at h1
      · try simp only [bz0, bz1, bz2, bz3, bz4, bz5, bz6, bz7, bz8, bz9] at h1
        refine cw_skip ?_
        refine ex_block ?_
        refine ex_then ?_
        refine cw_region ?_
        refine sq_r (ry_move rfl) ?_
        refine sq_r (ry_old rfl n2b) ?_
        refine sq_r (ry_add rfl rfl (by omega)) ?_
        refine sq_r (ry_assign rfl) ?_
        refine sq_nil ?_
        exact ex_iter (i + 1) (by first | omega | (simp only []; omega)) (Sub.cons (look_eq rfl (by rw [Nat.succ_mul]; rfl)) (Sub.cons rfl (Sub.cons rfl (Sub.cons rfl (Sub.nil _))))) (fun w hw => ⟨by omega, hJ _ _ _ hJ2 hw.below⟩)
    · refine si_r (ry_not rfl) ?_
      refine si_nil ?_
      refine ex_then ?_
      refine cw_cond rfl (fun h1 => ?_) (fun h1 => ?_)
      · try simp only [bz0, bz1, bz2, bz3, bz4, bz5, bz6, bz7, bz8, bz9] at h1
        refine cw_ret ?_
        refine ex_block_ret ?_
        refine ex_pass_ret ?_
        refine ex_pass_ret ?_
        refine ex_block_ret ?_
        refine ex_ret (.inl rfl) (res_none rfl) (fun w1 hw => ?_)
        exact ⟨⟨_, rfl⟩, .inr ⟨_, hJx _ _ _ hJ2 hw.below⟩⟩
      · exfalso; simp at h1
  · try simp only [bz0, bz1, bz2, bz3, bz4, bz5, bz6, bz7, bz8, bz9] at h0
    obtain rfl : i = m := by omega
    refine cw_exit ?_
    refine ex_pass_exit ?_
    refine ex_pass_exit ?_
    refine ex_block_hit ?_
    refine ex_ret (.inr rfl) (res_none rfl) (fun w1 hw => ?_)
    exact ⟨⟨_, rfl⟩, .inl (hJ _ _ _ hj hw.below)⟩
set_option maxRecDepth 20000 in
theorem chunk_c (w : World) (s : Sv) (ss : List Nd) (n : Int) (hs : Lies ncells 48 (hp w) s ss) (hpre : 1 ≤ n) : Calls Try.prog 23 #[s.val, .int .i64 n] w fun e w' => ∃ zz : Nat × Nat, e = .returned (.func (.func 40) #[] #[.pointer (some ⟨zz.1, 0, none⟩), .pointer (some ⟨zz.2, 0, none⟩)]) ∧ (True) ∧ Mem w [blk zz.1 #[s.val] 27, blk zz.2 #[.int .i64 n] 3] w' := by
  have ghs : Gv w s ncells 48 ss := ⟨hs⟩
  refine calls_of (args := [_, _]) Try.func23 rfl Try.ntmps23 rfl ?_
  change Cw _ _ _ _ _ [(0, s.val), (1, .int .i64 n)] []
  refine cw_seq ?_
  refine cw_region ?_
  refine sq_box1 (by first | rfl | exact Sv.cells_val _) rfl fun b2 => ?_
  refine sq_box1 (by first | rfl | exact Sv.cells_val _) rfl fun b3 => ?_
  refine sq_r (ry_assign rfl) ?_
  refine sq_nil ?_
  refine ex_then ?_
  refine cw_seq ?_
  refine cw_seq ?_
  refine cw_region ?_
  refine sq_r (ry_cellc rfl) ?_
  refine sq_r (ry_int rfl rfl rfl) ?_
  refine sq_nil ?_
  refine ex_then ?_
  refine cw_cond rfl (fun h0 => ?_) (fun h0 => ?_)
  · try simp only [bz0, bz1, bz2, bz3, bz4, bz5, bz6, bz7, bz8, bz9] at h0
    exfalso; omega
  · try simp only [bz0, bz1, bz2, bz3, bz4, bz5, bz6, bz7, bz8, bz9] at h0
    refine cw_skip ?_
    refine ex_then ?_
    refine cw_seq ?_
    refine cw_region ?_
    refine sq_r (ry_makeFunc rfl) ?_
    refine sq_r (ry_assign rfl) ?_
    refine sq_nil ?_
    refine ex_then ?_
    refine cw_ret ?_
    refine ex_ret (.inl rfl) (res_1 rfl (rv_tmp rfl)) (fun w1 hw => ?_)
    exact ⟨(b2, b3), rfl, trivial, (Keep.mem hw : Mem w [blk b2 #[s.val] 27, blk b3 #[.int .i64 n] 3] _)⟩
instance chunk_i {w0 : World} {L : List Ent} {s : Sv} {ss : List Nd} {n : Int} [hs : HdE w0 L ncells 48 s ss] : FnC Try.prog 23 w0 L [s.val, .int .i64 n] (Nat × Nat) (fun zz => .func (.func 40) #[] #[.pointer (some ⟨zz.1, 0, none⟩), .pointer (some ⟨zz.2, 0, none⟩)]) (fun zz => blk zz.1 #[s.val] 27 :: blk zz.2 #[.int .i64 n] 3 :: L) (fun zz => True) (1 ≤ n) := ⟨fun hp w hw => (chunk_c w s ss n (hs.h w hw) hp).mono fun e w' ⟨x, h1, h2, h3⟩ => ⟨x, h1, h2, hw.call h3⟩⟩

end Go.Proofs.Ytklhkejhndnhbaa

/- Pages as a trie: walked. -/
namespace Go.Proofs.Ytklhkejhndnhbaa
open Go.Eng Go.Kb
set_option maxRecDepth 20000 in
theorem pwhole_c (w : World) (ps : Sl (Sl UInt8)) (bits : Int) (per : Nat) (hps : Deep.good (hp w) ps) (hpre : ∃ ns, PgOk bits per (pvs ps.xs) ns) : Calls Try.prog 16 #[ps.sv.val, .int .i64 bits, .int .i64 (per : Nat)] w fun e w' => ∃ zz : Sv, e = .returned (.tuple #[.agg (tcells (⟨bits, ⟨zz, (wholeN (pvs ps.xs))⟩⟩ : Tri)), .int .i64 0]) ∧ (True) ∧ Mem w [Deep.ent (⟨bits, ⟨zz, (wholeN (pvs ps.xs))⟩⟩ : Tri)] w' := by
  have ghps : GvD w ps := ⟨hps⟩
  obtain ⟨ns, hg⟩ := hpre
  have hpl := pvs_length ps.xs
  obtain ⟨hf1, hf2⟩ := hg.few
  have hg1 := hg.one
  have hg8 := hg.le
  have hw0 := hg.whole
  refine calls_of (args := [_, _, _]) Try.func16 rfl Try.ntmps16 rfl ?_
  change Cw _ _ _ _ _ [(0, ps.sv.val), (1, .int .i64 bits), (2, .int .i64 (per : Nat))] []
  refine cw_seq ?_
  refine cw_region ?_
  refine sq_allocA fun b6 => ?_
  refine sq_r (ry_assign rfl) ?_
  refine sq_nil ?_
  refine ex_then ?_
  refine cw_seq ?_
  refine cw_seq ?_
  refine cw_region ?_
  refine sq_r (ry_move rfl) ?_
  refine sq_r (ry_int rfl rfl rfl) ?_
  refine sq_r (ry_move rfl) ?_
  refine sq_gf rfl rfl rfl (fun hg => (Ry.yl (ry_move rfl))) ?_
  refine sq_gf rfl rfl rfl (fun hg => (Ry.yl (ry_int (ev_c hg rfl) rfl rfl))) ?_
  refine sq_r (ry_or rfl rfl rfl) ?_
  refine sq_nil ?_
  refine ex_then ?_
  refine cw_cond rfl (fun h0 => ?_) (fun h0 => ?_)
  · try simp only [bz0, bz1, bz2, bz3, bz4, bz5, bz6, bz7, bz8, bz9] at h0
    exfalso; omega
  · try simp only [bz0, bz1, bz2, bz3, bz4, bz5, bz6, bz7, bz8, bz9] at h0
    refine cw_skip ?_
    refine ex_then ?_
    refine cw_seq ?_
    refine cw_region ?_
    refine sq_r (ry_move rfl) ?_
    refine sq_r (ry_buildc rfl) ?_
    refine sq_allocA fun b8 => ?_
    refine sq_storeW rfl rfl ?_
    refine sq_nil ?_
    refine ex_then ?_
    refine cw_seq ?_
    refine cw_seq ?_
    refine cw_region ?_
    refine sq_r (ry_move rfl) ?_
    refine sq_r (ry_lenH rfl) ?_
    refine sq_r (ry_move rfl) ?_
    refine sq_nil ?_
    refine ex_then ?_
    refine cw_block ?_
    refine cw_loop (X := Nat × Sv × List Nd) (fun zz => [(24, .int .i64 (zz.1 : Nat)), (8, .pointer (some ⟨b8, 0, none⟩)), (0, ps.sv.val), (2, .int .i64 (per : Nat)), (6, .pointer (some ⟨b6, 0, none⟩)), (22, ps.sv.val), (23, .int .i64 (ps.xs.length : Nat))]) (fun zz => [blk b8 (tcells ⟨bits, ⟨zz.2.1, zz.2.2⟩⟩) 29, own ncells 48 zz.2.1 zz.2.2, blk b6 (tcells ⟨0, ⟨Sv.none, []⟩⟩) 29]) (fun zz => zz.1 ≤ ps.xs.length ∧ zz.2.2 = wholeN ((pvs ps.xs).take zz.1)) (fun zz => ps.xs.length - zz.1) (0, Sv.none, []) ⟨Nat.zero_le _, by simp [wholeN]⟩ (Sub.cons rfl (Sub.cons rfl (Sub.cons rfl (Sub.cons rfl (Sub.cons rfl (Sub.cons rfl (Sub.cons rfl (Sub.nil _)))))))) (fun w hw => Keep.mem (Mem.nilOwn ncells 48 hw)) ?_
    rintro ⟨i, s, xs⟩ ⟨hi1, hi2⟩
    dsimp only
    simp only at hi1 hi2
    have hxl : xs.length ≤ 512 := by
      rw [hi2, wholeN_take2 hg]; rw [List.length_take]; omega
    refine cw_seq ?_
    refine cw_region ?_
    refine sq_r (ry_int rfl rfl rfl) ?_
    refine sq_nil ?_
    refine ex_then ?_
    refine cw_seq ?_
    refine cw_cond rfl (fun h1 => ?_) (fun h1 => ?_)
    · try simp only [bz0, bz1, bz2, bz3, bz4, bz5, bz6, bz7, bz8, bz9] at h1
      obtain ⟨y, hy⟩ := get_some (xs := ps.xs) (i := i) (by omega)
      have mby : Mb y ps := ⟨List.mem_of_getElem? hy⟩
      obtain ⟨g1, g2, g3, g4, g5⟩ := hg.at (pvs_get hy)
      obtain ⟨r1, r2, r3⟩ := part_room (ns := ns) hg1 g4
      have hgl := hg.len
      refine cw_skip ?_
      refine ex_then ?_
      refine cw_seq ?_
      refine cw_block ?_
      refine cw_seq ?_
      refine cw_region ?_
      refine sq_r (ry_move rfl) ?_
      refine sq_r (ry_idxH rfl rfl i rfl (by omega)) ?_
      refine sq_r (ry_elemcH (j := 0) rfl i hy rfl (by decide)) ?_
      have mb28 : Mb y _ := ⟨List.mem_of_getElem? hy⟩
      refine sq_r (ry_assign rfl) ?_
      refine sq_r (ry_assign rfl) ?_
      refine sq_nil ?_
      refine ex_then ?_
      refine cw_seq ?_
      refine cw_region ?_
      refine sq_r (ry_move rfl) ?_
      refine sq_callC rfl trivial fun x31 hp31 => ?_
      refine sq_r (ry_move rfl) ?_
      refine sq_r (ry_extract (v := x31.val) rfl rfl) ?_
      refine sq_r (ry_extract (v := .int .i64 (rallE y.xs)) rfl rfl) ?_
      refine sq_r (ry_assign rfl) ?_
      refine sq_r (ry_assign rfl) ?_
      refine sq_nil ?_
      refine ex_then ?_
      refine cw_seq ?_
      refine cw_seq ?_
      refine cw_region ?_
      refine sq_r (ry_move rfl) ?_
      refine sq_r (ry_int rfl rfl rfl) ?_
      refine sq_r (ry_move rfl) ?_
      refine sq_gf rfl rfl rfl (fun hg => (Ry.yl (ry_move rfl))) ?_
      refine sq_gf rfl rfl rfl (fun hg => (Ry.yl (ry_lenH (ev_c hg rfl)))) ?_
      refine sq_gf rfl rfl rfl (fun hg => (Ry.yl (ry_int (ev_c hg rfl) rfl rfl))) ?_
      refine sq_r (ry_or rfl rfl rfl) ?_
      refine sq_r (ry_move rfl) ?_
      refine sq_gf rfl rfl rfl (fun hg => (Ry.yl (ry_move rfl))) ?_
      refine sq_gf rfl rfl rfl (fun hg => (Ry.yl (ry_lenH (ev_c hg rfl)))) ?_
      refine sq_gf rfl rfl rfl (fun hg => (Ry.yl (ry_move rfl))) ?_
      refine sq_gf rfl rfl rfl (fun hg => (Ry.yl (ry_int (ev_c hg rfl) (ev_c hg rfl) rfl))) ?_
      refine sq_r (ry_or rfl rfl rfl) ?_
      refine sq_r (ry_move rfl) ?_
      refine sq_gf rfl rfl rfl (fun hg => (Ry.yl (ry_move rfl))) ?_
      refine sq_gf rfl rfl rfl (fun hg => (Ry.yl (ry_lenH (ev_c hg rfl)))) ?_
      refine sq_gf rfl rfl rfl (fun hg => (Ry.yl (ry_move rfl))) ?_
      refine sq_gf rfl rfl rfl (fun hg => (Ry.yl (ry_int (ev_c hg rfl) (ev_c hg rfl) rfl))) ?_
      refine sq_gf rfl rfl rfl (fun hg => (Ry.yl (ry_move (ev_c hg rfl)))) ?_
      refine sq_nt rfl rfl rfl (fun hg => (Ry.yl (ry_move rfl))) ?_
      refine sq_nt rfl rfl rfl (fun hg => (Ry.yl (ry_move rfl))) ?_
      refine sq_nt rfl rfl rfl (fun hg => (Ry.yl (ry_lenH (ev_c hg rfl)))) ?_
      refine sq_nt rfl rfl rfl (fun hg => (Ry.yl (ry_sub (ev_c hg rfl) rfl (by simp only [bz0, bz1, bz2, bz3, bz4, bz5, bz6, bz7, bz8, bz9] at hg; omega)))) ?_
      refine sq_nt rfl rfl rfl (fun hg => (Ry.yl (ry_int (ev_c hg rfl) (ev_c hg rfl) rfl))) ?_
      refine sq_gf rfl rfl rfl (fun hg => (Ry.yl (ry_and (ev_c hg rfl) (ev_cc hg rfl) rfl))) ?_
      refine sq_r (ry_or rfl rfl rfl) ?_
      refine sq_nil ?_
      refine ex_then ?_
      refine cw_cond rfl (fun h2 => ?_) (fun h2 => ?_)
      · try simp only [bz0, bz1, bz2, bz3, bz4, bz5, bz6, bz7, bz8, bz9] at h2
        exfalso
        rw [g1, g2] at h2
        rcases h2 with ((h | h) | h) | ⟨h, h9⟩
        · omega
        · omega
        · omega
        · have := r3 (by omega); omega
      · try simp only [bz0, bz1, bz2, bz3, bz4, bz5, bz6, bz7, bz8, bz9] at h2
        refine cw_skip ?_
        refine ex_then ?_
        refine cw_region ?_
        refine sq_r (ry_field (o' := 1) rfl rfl) ?_
        refine sq_r (ry_cellc rfl) ?_
        refine sq_r (ry_move rfl) ?_
        refine sq_append (s := s) (ys := (rallN y.xs)) rfl rfl (by decide) (fun w hw => src_rows (s := x31) Try.underlying27 (by decide) ((inferInstance : Hd _ _ x31 ncells 48 (rallN y.xs)).h w hw)) (by rw [g1]; omega) (by rw [g1]; omega) fun s64 hs64 hl64 => ?_
        refine sq_r (ry_field (o' := 1) rfl rfl) ?_
        refine sq_store (cs' := tcells (⟨bits, ⟨s64, (xs ++ rallN y.xs)⟩⟩ : Tri)) rfl rfl (by show 1 < 2; decide) (by first | rfl | exact Sv.one _) rfl ?_
        refine sq_nil ?_
        refine ex_block ?_
        refine ex_then ?_
        refine cw_region ?_
        refine sq_r (ry_add rfl rfl (by omega)) ?_
        refine sq_r (ry_move rfl) ?_
        refine sq_nil ?_
        exact ex_again (x := (i, s, xs)) (i + 1, s64, xs ++ rallN y.xs) ⟨by first | omega | (simp only []; omega), by rw [g3, ← hi2, g1]⟩ (by simp only; omega) (Sub.cons rfl (Sub.cons rfl (Sub.cons rfl (Sub.cons rfl (Sub.cons rfl (Sub.cons rfl (Sub.cons rfl (Sub.nil _)))))))) (fun w hw => Keep.mem hw)
    · try simp only [bz0, bz1, bz2, bz3, bz4, bz5, bz6, bz7, bz8, bz9] at h1
      obtain rfl : i = ps.xs.length := by omega
      rw [List.take_of_length_le (by omega)] at hi2
      refine cw_exit ?_
      refine ex_pass_exit ?_
      refine ex_pass_exit ?_
      refine ex_block_hit ?_
      refine ex_then ?_
      refine cw_seq ?_
      refine cw_seq ?_
      refine cw_region ?_
      refine sq_r (ry_whole rfl) ?_
      refine sq_y (yl_callC rfl trivial) ?_
      refine sq_r (ry_not rfl) ?_
      refine sq_nil ?_
      refine ex_then ?_
      refine cw_cond rfl (fun h3 => ?_) (fun h3 => ?_)
      · try simp only [bz0, bz1, bz2, bz3, bz4, bz5, bz6, bz7, bz8, bz9] at h3
        exfalso; rw [hi2, hw0] at h3; rw [hg.tr] at h3; cases h3
      · try simp only [bz0, bz1, bz2, bz3, bz4, bz5, bz6, bz7, bz8, bz9] at h3
        refine cw_skip ?_
        refine ex_then ?_
        refine cw_seq ?_
        refine cw_region ?_
        refine sq_r (ry_whole rfl) ?_
        refine sq_storeW rfl rfl ?_
        refine sq_r (ry_assign rfl) ?_
        refine sq_nil ?_
        refine ex_then ?_
        refine cw_ret ?_
        refine ex_ret (.inl rfl) (res_2 rfl (rv_agg rfl) (rv_tmp rfl)) (fun w1 hw => ?_)
        exact ⟨s, by rw [← hi2], trivial, by rw [← hi2]; exact Mem.shutP (Keep.mem hw : Mem _ [own ncells 48 s xs] _)⟩
instance pwhole_i {w0 : World} {L : List Ent} {ps : Sl (Sl UInt8)} {bits : Int} {per : Nat} [hps : HdD w0 L ps] : FnC Try.prog 16 w0 L [ps.sv.val, .int .i64 bits, .int .i64 (per : Nat)] (Sv) (fun zz => .tuple #[.agg (tcells (⟨bits, ⟨zz, (wholeN (pvs ps.xs))⟩⟩ : Tri)), .int .i64 0]) (fun zz => Deep.ent (⟨bits, ⟨zz, (wholeN (pvs ps.xs))⟩⟩ : Tri) :: L) (fun zz => True) (∃ ns, PgOk bits per (pvs ps.xs) ns) := ⟨fun hp w hw => (pwhole_c w ps bits per (hps.h w hw) hp).mono fun e w' ⟨x, h1, h2, h3⟩ => ⟨x, h1, h2, hw.call h3⟩⟩

end Go.Proofs.Ytklhkejhndnhbaa

/- A trie as pages: walked. -/
namespace Go.Proofs.Ytklhkejhndnhbaa
open Go.Eng Go.Kb
set_option maxRecDepth 20000 in
theorem ppages_c (w : World) (t : Tri) (per : Nat) (ht : Deep.good (hp w) t) (hpre : 1 ≤ per ∧ per ≤ 8 ∧ ((stepsV t.bits t.ns.xs).isSome = true → allOk t.ns.xs = true)) : Calls Try.prog 8 #[.agg (tcells t), .int .i64 (per : Nat)] w fun e w' => ∃ zz : Sl (Sl UInt8), e = .returned (.tuple #[zz.sv.val, .int .i64 (if (stepsV t.bits t.ns.xs).isSome = true then 0 else 1)]) ∧ (pvs zz.xs = if (stepsV t.bits t.ns.xs).isSome = true then pagesF t.ns.xs per else []) ∧ Mem w [Deep.ent zz] w' := by
  have ght : GvD w t := ⟨ht⟩
  obtain ⟨hp1, hp2, hp3⟩ := hpre
  refine calls_of (args := [_, _]) Try.func8 rfl Try.ntmps8 rfl ?_
  change Cw _ _ _ _ _ [(0, .agg (tcells t)), (1, .int .i64 (per : Nat))] []
  refine cw_seq ?_
  refine cw_region ?_
  refine sq_boxA rfl fun b2 => ?_
  refine sq_alloc1 (z := Sv.none.val) rfl fun b4 => ?_
  refine sq_alloc1 (z := .int .i64 0) rfl fun b5 => ?_
  refine sq_nil ?_
  refine ex_then ?_
  refine cw_seq ?_
  refine cw_seq ?_
  refine cw_region ?_
  refine sq_r (ry_move rfl) ?_
  refine sq_r (ry_int rfl rfl rfl) ?_
  refine sq_r (ry_move rfl) ?_
  refine sq_gf rfl rfl rfl (fun hg => (Ry.yl (ry_move rfl))) ?_
  refine sq_gf rfl rfl rfl (fun hg => (Ry.yl (ry_int (ev_c hg rfl) rfl rfl))) ?_
  refine sq_r (ry_or rfl rfl rfl) ?_
  refine sq_r (ry_move rfl) ?_
  refine sq_gf rfl rfl rfl (fun hg => (Ry.yl (ry_whole rfl))) ?_
  refine sq_gf rfl rfl rfl (fun hg => yl_callC (evl_cons (ev_c hg rfl) evl_nil) trivial) ?_
  refine sq_gf rfl rfl rfl (fun hg => (Ry.yl (ry_not (ev_c hg rfl)))) ?_
  refine sq_r (ry_or rfl rfl rfl) ?_
  refine sq_nil ?_
  refine ex_then ?_
  refine cw_cond rfl (fun h0 => ?_) (fun h0 => ?_)
  · try simp only [bz0, bz1, bz2, bz3, bz4, bz5, bz6, bz7, bz8, bz9] at h0
    have hr : (stepsV t.bits t.ns.xs).isSome = false := by rcases h0 with h | h; omega; exact h
    have hE : (if (stepsV t.bits t.ns.xs).isSome = true then 0 else 1 : Int) = 1 := if_neg (by rw [hr]; simp)
    refine cw_seq ?_
    refine cw_region ?_
    refine sq_store1 (v := Sv.none.val) (by first | rfl | exact Sv.one _) rfl rfl ?_
    refine sq_store1 (by first | rfl | exact Sv.one _) rfl rfl ?_
    refine sq_nil ?_
    refine ex_then ?_
    refine cw_ret ?_
    refine ex_pass_ret ?_
    refine ex_ret (.inl rfl) (res_2 rfl (rv_one rfl rfl) (rv_one rfl rfl)) (fun w1 hw => ?_)
    exact ⟨⟨Sv.none, []⟩, by rw [hE]; rfl, by rw [if_neg (by rw [hr]; simp)]; rfl, Mem.nilEnt (τ := Sl UInt8) (enc := scells) (c := 1) (Keep.mem hw : Mem w [] _)⟩
  · try simp only [bz0, bz1, bz2, bz3, bz4, bz5, bz6, bz7, bz8, bz9] at h0
    have hr : (stepsV t.bits t.ns.xs).isSome = true := by simpa using h0.2
    have hE : (if (stepsV t.bits t.ns.xs).isSome = true then 0 else 1 : Int) = 0 := if_pos hr
    have hok := hp3 hr
    refine cw_skip ?_
    refine ex_then ?_
    refine cw_seq ?_
    refine cw_region ?_
    refine sq_alloc1 (z := Sv.none.val) rfl fun b6 => ?_
    refine sq_nil ?_
    refine ex_then ?_
    refine cw_seq ?_
    refine cw_seq ?_
    refine cw_region ?_
    refine sq_r (ry_field (o' := 1) rfl rfl) ?_
    refine sq_r (ry_cellc rfl) ?_
    refine sq_r (ry_move rfl) ?_
    refine sq_callC rfl (by omega) fun x24 hp24 => ?_
    refine sq_nil ?_
    refine ex_then ?_
    refine cw_block ?_
    refine cw_rangeFunc (vals := fun k => [((t.ns.sv.top (k * per + min per (t.ns.xs.length - k * per))).sub 48 (k * per) (k * per + min per (t.ns.xs.length - k * per))).val]) (m := (npg t.ns.xs.length per)) (X := Sl (Sl UInt8)) (Y := Unit) rfl (chunk1_it (c := per) (b := t.ns.sv) (bs := t.ns.xs) (by omega) (by omega) rfl) (fun _ => rfl) (by decide) (envI := [(6, .pointer (some ⟨b6, 0, none⟩)), (4, .pointer (some ⟨b4, 0, none⟩)), (5, .pointer (some ⟨b5, 0, none⟩)), (24, .func (.func 40) #[] #[.pointer (some ⟨x24.1, 0, none⟩), .pointer (some ⟨x24.2, 0, none⟩)])]) (Sub.cons rfl (Sub.cons rfl (Sub.cons rfl (Sub.cons rfl (Sub.nil _))))) (fun k zz => [blk b6 #[zz.sv.val] 33, Deep.ent zz, blk x24.1 #[t.ns.sv.val] 27, blk x24.2 #[.int .i64 (per : Nat)] 3, blk b4 #[Sv.none.val] 33, blk b5 #[.int .i64 0] 30, blk b2 (tcells t) 29]) (fun k zz => pvs zz.xs = (pagesF t.ns.xs per).take k ∧ zz.xs.length ≤ k) ⟨Sv.none, []⟩ ⟨by simp [pvs], Nat.zero_le _⟩ (fun w hw => Keep.mem (Mem.nilEnt (τ := Sl UInt8) (enc := scells) (c := 1) hw)) (fun k zz w hI hw => ⟨(hw.cell (inferInstance : Has _ x24.1 _ _ _).h 0).trans rfl, (hw.cell (inferInstance : Has _ x24.2 _ _ _).h 0).trans rfl, (inferInstance : Hd _ _ t.ns.sv ncells 48 t.ns.xs).h _ hw⟩) (fun yy => []) (fun yy => False) ?_ ?_ ?_
    · rintro lr k a r0 hk ⟨hi1, hi2⟩
      have hkl := (npg_lt (len := t.ns.xs.length) (show 0 < per by omega)).1 hk
      have rg : Rg (k * per) (k * per + min per (t.ns.xs.length - k * per)) t.ns.xs.length := ⟨by omega, by omega⟩
      have hnl : t.ns.xs.length ≤ 512 := by simp only [allOk, Bool.and_eq_true, decide_eq_true_eq] at hok; exact hok.1
      have hkn : k ≤ 512 := by have := npg_few (len := t.ns.xs.length) (n := per) (by omega); omega
      change Cw _ _ _ _ _ [(25, ((t.ns.sv.top (k * per + min per (t.ns.xs.length - k * per))).sub 48 (k * per) (k * per + min per (t.ns.xs.length - k * per))).val), (6, .pointer (some ⟨b6, 0, none⟩)), (4, .pointer (some ⟨b4, 0, none⟩)), (5, .pointer (some ⟨b5, 0, none⟩)), (24, .func (.func 40) #[] #[.pointer (some ⟨x24.1, 0, none⟩), .pointer (some ⟨x24.2, 0, none⟩)])] (r0 :: [blk b6 #[a.sv.val] 33, Deep.ent a, blk x24.1 #[t.ns.sv.val] 27, blk x24.2 #[.int .i64 (per : Nat)] 3, blk b4 #[Sv.none.val] 33, blk b5 #[.int .i64 0] 30, blk b2 (tcells t) 29])
      refine cw_region ?_
      refine sq_r (ry_assign rfl) ?_
      refine sq_nil ?_
      refine ex_assigned [blk b6 #[a.sv.val] 33, Deep.ent a, blk x24.1 #[t.ns.sv.val] 27, blk x24.2 #[.int .i64 (per : Nat)] 3, blk b4 #[Sv.none.val] 33, blk b5 #[.int .i64 0] 30, blk b2 (tcells t) 29] (fun w hw => Keep.mem hw) fun r1 => ?_
      refine cw_block ?_
      refine cw_seq ?_
      refine cw_region ?_
      refine sq_r (ry_move rfl) ?_
      refine sq_callC rfl trivial fun x28 hp28 => ?_
      refine sq_r (ry_move rfl) ?_
      refine sq_r (ry_extract (v := x28.val) rfl rfl) ?_
      refine sq_r (ry_extract (v := .int .i64 (allE ((t.ns.xs.drop (k * per)).take ((k * per + min per (t.ns.xs.length - k * per)) - k * per)))) rfl rfl) ?_
      refine sq_r (ry_assign rfl) ?_
      refine sq_r (ry_assign rfl) ?_
      refine sq_nil ?_
      refine ex_then ?_
      refine cw_seq ?_
      refine cw_seq ?_
      refine cw_region ?_
      refine sq_r (ry_move rfl) ?_
      refine sq_r (ry_int rfl rfl rfl) ?_
      refine sq_nil ?_
      refine ex_then ?_
      refine cw_cond rfl (fun h1 => ?_) (fun h1 => ?_)
      · try simp only [bz0, bz1, bz2, bz3, bz4, bz5, bz6, bz7, bz8, bz9] at h1
        exfalso
        rw [part_cut] at h1
        exact h1 (by rw [allE, part_ok hok per k]; rfl)
      · try simp only [bz0, bz1, bz2, bz3, bz4, bz5, bz6, bz7, bz8, bz9] at h1
        refine cw_skip ?_
        refine ex_then ?_
        refine cw_region ?_
        refine sq_r (ry_cellc rfl) ?_
        refine sq_r (ry_move rfl) ?_
        refine sq_buildSlice (enc := scells) (vals := [x28.val]) [⟨x28, allBV ((t.ns.xs.drop (k * per)).take ((k * per + min per (t.ns.xs.length - k * per)) - k * per))⟩] rfl (by simp only [List.map_cons, List.map_nil, Sv.cells_val]; rfl) rfl (by decide) (by decide) fun b35 => ?_
        refine sq_appendD (s := ⟨false, b35, 0, 1, 1, none⟩) a [⟨x28, allBV ((t.ns.xs.drop (k * per)).take ((k * per + min per (t.ns.xs.length - k * per)) - k * per))⟩] rfl rfl (by decide) (by simp only [List.length_cons, List.length_nil]; omega) (by simp only [List.length_cons, List.length_nil]; omega) fun x36 hx36 => ?_
        refine sq_store1 (by first | rfl | exact Sv.one _) rfl rfl ?_
        refine sq_nil ?_
        refine ex_block ?_
        exact ex_round x36 ⟨by rw [pagesF_take hk, ← hi1, hx36, pvs, List.map_append, part_cut, allBV, if_pos (part_ok hok per k)]; rfl, by rw [hx36, List.length_append]; simp only [List.length_cons, List.length_nil]; omega⟩ (fun w hw => Keep.mem hw)
    · rintro D a ⟨hi1, hi2⟩
      rw [List.take_of_length_le (by rw [pagesF_len]; exact Nat.le_refl _)] at hi1
      refine ex_block ?_
      refine ex_then ?_
      refine cw_seq ?_
      refine cw_region ?_
      refine sq_r (ry_cellc rfl) ?_
      refine sq_store1 (by first | rfl | exact Sv.one _) rfl rfl ?_
      refine sq_store1 (by first | rfl | exact Sv.one _) rfl rfl ?_
      refine sq_nil ?_
      refine ex_then ?_
      refine cw_ret ?_
      refine ex_retM (.inl rfl) (res_2 rfl (rv_one rfl rfl) (rv_one rfl rfl)) (fun w1 hw => ?_)
      exact ⟨a, by rw [hE]; rfl, by rw [hi1, if_pos hr], Keep.mem hw⟩
    · exact fun _ _ h => h.elim
instance ppages_i {w0 : World} {L : List Ent} {t : Tri} {per : Nat} [ht : HdD w0 L t] : FnC Try.prog 8 w0 L [.agg (tcells t), .int .i64 (per : Nat)] (Sl (Sl UInt8)) (fun zz => .tuple #[zz.sv.val, .int .i64 (if (stepsV t.bits t.ns.xs).isSome = true then 0 else 1)]) (fun zz => Deep.ent zz :: L) (fun zz => pvs zz.xs = if (stepsV t.bits t.ns.xs).isSome = true then pagesF t.ns.xs per else []) (1 ≤ per ∧ per ≤ 8 ∧ ((stepsV t.bits t.ns.xs).isSome = true → allOk t.ns.xs = true)) := ⟨fun hp w hw => (ppages_c w t per (ht.h w hw) hp).mono fun e w' ⟨x, h1, h2, h3⟩ => ⟨x, h1, h2, hw.call h3⟩⟩

end Go.Proofs.Ytklhkejhndnhbaa

/- A key is found through pages: walked. -/
namespace Go.Proofs.Ytklhkejhndnhbaa
open Go.Eng Go.Kb
set_option maxRecDepth 20000 in
theorem pfind_c (w : World) (ps : Sl (Sl UInt8)) (bits : Int) (per : Nat) (k : Kp) (y : Key) (hps : Deep.good (hp w) ps) (hk : Deep.good (hp w) k) (hpre : (∃ ns, PgOk bits per (pvs ps.xs) ns) ∧ FitK k.most (pvs ps.xs) (kvs k.items.xs)) : Calls Try.prog 11 #[ps.sv.val, .int .i64 bits, .int .i64 (per : Nat), .agg (kpcells k), .agg (kcells y)] w fun e w' => ∃ zz : Kp, e = .returned (.tuple #[.agg (rchcells (⟨findN bits (wholeN (pvs ps.xs)) y, findH bits (wholeN (pvs ps.xs)) y, zz, ((runP bits (pvs ps.xs) per k y (walkV bits (wholeN (pvs ps.xs)) y).length).2.1 : Int), ((runP bits (pvs ps.xs) per k y (walkV bits (wholeN (pvs ps.xs)) y).length).2.2 : Int)⟩ : Rch)), .int .i64 (findE bits (wholeN (pvs ps.xs)) y)]) ∧ (walkOk bits (wholeN (pvs ps.xs)) y = true → zz.most = k.most ∧ FitK k.most (pvs ps.xs) (kvs zz.items.xs) ∧ idsOf (kvs zz.items.xs) = (runP bits (pvs ps.xs) per k y (walkV bits (wholeN (pvs ps.xs)) y).length).1) ∧ Mem w [fz zz] w' := by
  have ghps : GvD w ps := ⟨hps⟩
  have ghk : GvD w k := ⟨hk⟩
  obtain ⟨⟨ns, hg⟩, hfit⟩ := hpre
  have hw0 := hg.whole
  have hg1 := hg.one
  have hg8 := hg.le
  have hst : (stepsV bits (wholeN (pvs ps.xs))).isSome = true := by rw [hw0]; exact hg.tr
  refine calls_of (args := [_, _, _, _, _]) Try.func11 rfl Try.ntmps11 rfl ?_
  change Cw _ _ _ _ _ [(0, ps.sv.val), (1, .int .i64 bits), (2, .int .i64 (per : Nat)), (3, .agg (kpcells k)), (4, .agg (kcells y))] []
  refine cw_seq ?_
  refine cw_region ?_
  refine sq_boxA rfl fun b8 => ?_
  refine sq_boxA rfl fun b9 => ?_
  refine sq_allocA fun b10 => ?_
  refine sq_r (ry_assign rfl) ?_
  refine sq_nil ?_
  refine ex_then ?_
  refine cw_seq ?_
  refine cw_region ?_
  refine sq_r (ry_move rfl) ?_
  refine sq_r (ry_move rfl) ?_
  refine sq_r (ry_move rfl) ?_
  refine sq_callC rfl ⟨ns, hg⟩ fun x21 hp21 => ?_
  refine sq_r (ry_move rfl) ?_
  refine sq_r (ry_extract (v := .agg (tcells (⟨bits, ⟨x21, (wholeN (pvs ps.xs))⟩⟩ : Tri))) rfl rfl) ?_
  refine sq_r (ry_extract (v := .int .i64 0) rfl rfl) ?_
  refine sq_allocA fun b12 => ?_
  refine sq_storeW rfl rfl ?_
  refine sq_r (ry_assign rfl) ?_
  refine sq_nil ?_
  refine ex_then ?_
  refine cw_seq ?_
  refine cw_seq ?_
  refine cw_region ?_
  refine sq_r (ry_move rfl) ?_
  refine sq_r (ry_int rfl rfl rfl) ?_
  refine sq_nil ?_
  refine ex_then ?_
  refine cw_cond rfl (fun h0 => ?_) (fun h0 => ?_)
  · try simp only [bz0, bz1, bz2, bz3, bz4, bz5, bz6, bz7, bz8, bz9] at h0
    exfalso; simp at h0
  · try simp only [bz0, bz1, bz2, bz3, bz4, bz5, bz6, bz7, bz8, bz9] at h0
    refine cw_skip ?_
    refine ex_then ?_
    refine cw_seq ?_
    refine cw_seq ?_
    refine cw_quiet (by kernel_rfl) (by kernel_rfl) ?_
    refine qt_r (ry_move rfl) ?_
    refine qt_r (ry_whole rfl) ?_
    refine qt_y (yl_callC rfl hfit) ?_
    refine qt_r (ry_not rfl) ?_
    refine qt_r (ry_move rfl) ?_
    refine qt_gf rfl rfl rfl (fun hg => (Ry.yl (ry_whole rfl))) ?_
    refine qt_gf rfl rfl rfl (fun hg => (Ry.yl (ry_move rfl))) ?_
    refine qt_gf rfl rfl rfl (fun hg => yl_callC (evl_cons (ev_c hg rfl) (evl_cons (ev_c hg rfl) evl_nil)) trivial) ?_
    refine qt_gf rfl rfl rfl (fun hg => (Ry.yl (ry_whole rfl))) ?_
    refine qt_gf rfl rfl rfl (fun hg => (Ry.yl (ry_ne (ev_c hg rfl) (ev_c hg rfl)))) ?_
    refine qt_r (ry_or rfl rfl rfl) ?_
    refine qt_nil ?_
    refine ex_then ?_
    refine cw_cond rfl (fun h1 => ?_) (fun h1 => ?_)
    · try simp only [bz0, bz1, bz2, bz3, bz4, bz5, bz6, bz7, bz8, bz9] at h1
      have hc : ¬ kcut y bits = y := by rcases h1 with h | h; (cases h); exact h
      have hk : walkOk bits (wholeN (pvs ps.xs)) y = false := by rw [walkOk, decide_eq_false hc, Bool.and_false]
      have he : findE bits (wholeN (pvs ps.xs)) y = 1 := by rw [findE, if_neg (by rw [hk]; simp)]
      have hl : (walkV bits (wholeN (pvs ps.xs)) y) = [] := List.length_eq_zero_iff.1 (walkV_len.2 hk)
      refine cw_seq ?_
      refine cw_region ?_
      refine sq_r (ry_build (v := .agg (rchcells zrch)) rfl (fun w => by kernel_rfl)) ?_
      refine sq_storeW rfl rfl ?_
      refine sq_r (ry_assign rfl) ?_
      refine sq_nil ?_
      refine ex_then ?_
      refine cw_ret ?_
      refine ex_pass_ret ?_
      refine ex_ret (.inl rfl) (res_2 rfl (rv_agg rfl) (rv_tmp rfl)) (fun w1 hw => ?_)
      exact ⟨⟨0, ⟨Sv.none, []⟩⟩, by rw [findN, findH, he, hl]; rfl, (fun h => by rw [hk] at h; cases h), frz0 0 (Keep.mem hw : Mem w [] _)⟩
    · try simp only [bz0, bz1, bz2, bz3, bz4, bz5, bz6, bz7, bz8, bz9] at h1
      have hk : walkOk bits (wholeN (pvs ps.xs)) y = true := by rw [walkOk, hst, decide_eq_true (by simpa using h1)]; rfl
      have hlp : 0 < (walkV bits (wholeN (pvs ps.xs)) y).length := by
        rcases Nat.eq_zero_or_pos (walkV bits (wholeN (pvs ps.xs)) y).length with h | h
        · have := walkV_len.1 h; rw [hk] at this; cases this
        · exact h
      have h33 : (walkV bits (wholeN (pvs ps.xs)) y).length ≤ 33 := walkV_few hst y
      refine cw_skip ?_
      refine ex_then ?_
      refine cw_seq ?_
      refine cw_region ?_
      refine sq_r (ry_whole rfl) ?_
      refine sq_r (ry_build (v := .agg (rchcells ⟨0, 0, k, 0, 0⟩)) rfl (rch_build k)) ?_
      refine sq_r (ry_move rfl) ?_
      refine sq_r (ry_move rfl) ?_
      refine sq_r (ry_build (v := .agg (wkrcells ⟨⟨0, 0, k, 0, 0⟩, ps, per⟩)) rfl (wkr_build ⟨0, 0, k, 0, 0⟩ ps per)) ?_
      refine sq_allocA fun b14 => ?_
      refine sq_storeW rfl rfl ?_
      refine sq_nil ?_
      refine ex_then ?_
      refine cw_seq ?_
      refine cw_seq ?_
      refine cw_region ?_
      refine sq_r (ry_whole rfl) ?_
      refine sq_r (ry_whole rfl) ?_
      refine sq_callC rfl trivial fun x47 hp47 => ?_
      refine sq_r (ry_lenH rfl) ?_
      refine sq_r (ry_move rfl) ?_
      refine sq_nil ?_
      refine ex_then ?_
      refine cw_block ?_
      refine cw_loop (X := Nat × Wkr) (fun zz => [(49, .int .i64 (zz.1 : Nat)), (14, .pointer (some ⟨b14, 0, none⟩)), (9, .pointer (some ⟨b9, 0, none⟩)), (10, .pointer (some ⟨b10, 0, none⟩)), (12, .pointer (some ⟨b12, 0, none⟩)), (47, x47.val), (48, .int .i64 ((walkV bits (wholeN (pvs ps.xs)) y).length : Nat))]) (fun zz => [blk b14 (wkrcells zz.2) 87, selE (decide (zz.1 = 0)) (fz zz.2.r.kept), own iec 1 x47 (walkV (⟨bits, ⟨x21, (wholeN (pvs ps.xs))⟩⟩ : Tri).bits (⟨bits, ⟨x21, (wholeN (pvs ps.xs))⟩⟩ : Tri).ns.xs y), blk b12 (tcells (⟨bits, ⟨x21, (wholeN (pvs ps.xs))⟩⟩ : Tri)) 29, Deep.ent (⟨bits, ⟨x21, (wholeN (pvs ps.xs))⟩⟩ : Tri), blk b10 (rchcells zrch) 45, blk b9 (kcells y) 24, blk b8 (kpcells k) 40]) (fun zz => zz.1 ≤ (walkV bits (wholeN (pvs ps.xs)) y).length ∧ WInv bits ps per k y zz.1 zz.2) (fun zz => (walkV bits (wholeN (pvs ps.xs)) y).length - zz.1) (0, ⟨⟨0, 0, k, 0, 0⟩, ps, per⟩) ⟨Nat.zero_le _, WInv.start hfit⟩ (Sub.cons rfl (Sub.cons rfl (Sub.cons rfl (Sub.cons rfl (Sub.cons rfl (Sub.cons rfl (Sub.cons rfl (Sub.nil _)))))))) (fun w hw => (Keep.mem (Mem.selT (e := fz k) hw) : Mem _ [blk b14 (wkrcells ⟨⟨0, 0, k, 0, 0⟩, ps, per⟩) 87, selE true (fz k), own iec 1 x47 (walkV (⟨bits, ⟨x21, (wholeN (pvs ps.xs))⟩⟩ : Tri).bits (⟨bits, ⟨x21, (wholeN (pvs ps.xs))⟩⟩ : Tri).ns.xs y), blk b12 (tcells (⟨bits, ⟨x21, (wholeN (pvs ps.xs))⟩⟩ : Tri)) 29, Deep.ent (⟨bits, ⟨x21, (wholeN (pvs ps.xs))⟩⟩ : Tri), blk b10 (rchcells zrch) 45, blk b9 (kcells y) 24, blk b8 (kpcells k) 40] _)) ?_
      rintro ⟨i, W⟩ ⟨hi, hI⟩
      dsimp only
      simp only at hi hI
      refine cw_seq ?_
      refine cw_region ?_
      refine sq_r (ry_int rfl rfl rfl) ?_
      refine sq_nil ?_
      refine ex_then ?_
      refine cw_seq ?_
      refine cw_cond rfl (fun h2 => ?_) (fun h2 => ?_)
      · try simp only [bz0, bz1, bz2, bz3, bz4, bz5, bz6, bz7, bz8, bz9] at h2
        obtain ⟨x, hx⟩ := get_some (xs := (walkV bits (wholeN (pvs ps.xs)) y)) (i := i) (by omega)
        refine cw_skip ?_
        refine ex_then ?_
        refine cw_seq ?_
        refine cw_block ?_
        refine cw_seq ?_
        refine cw_region ?_
        refine sq_r (ry_idxH rfl rfl i rfl (by omega)) ?_
        refine sq_r (ry_elemcH (j := 0) rfl i hx rfl (by decide)) ?_
        refine sq_r (ry_assign rfl) ?_
        refine sq_nil ?_
        refine ex_then ?_
        refine cw_region ?_
        refine sq_r (ry_move rfl) ?_
        refine sq_callC rfl ⟨sel_good (fun h => hI.first h), (fun w hw => by rw [hI.pages]; exact (inferInstance : HdD _ _ ps).h w hw), hI.vok hg hx⟩ fun x54 hp54 => ?_
        refine sq_nil ?_
        refine ex_block ?_
        refine ex_then ?_
        refine cw_region ?_
        refine sq_r (ry_add rfl rfl (by omega)) ?_
        refine sq_r (ry_move rfl) ?_
        refine sq_nil ?_
        exact ex_again (x := (i, W)) (i + 1, visW W (x.toNat / W.per.toNat) x54) ⟨by first | omega | (simp only []; omega), by have hp : W.per.toNat = per := (by rw [hI.pe]; rfl); rw [hp] at hp54 ⊢; exact hI.step hx hp54⟩ (by simp only; omega) (Sub.cons rfl (Sub.cons rfl (Sub.cons rfl (Sub.cons rfl (Sub.cons rfl (Sub.cons rfl (Sub.cons rfl (Sub.nil _)))))))) (fun w hw => by rw [show decide ((i + 1, visW W (x.toNat / W.per.toNat) x54).1 = 0) = false from by simp]; exact (Keep.mem (Mem.selF (Keep.mem hw : Mem _ [fz x54, blk b14 (wkrcells (visW W (x.toNat / W.per.toNat) x54)) 87, own iec 1 x47 (walkV (⟨bits, ⟨x21, (wholeN (pvs ps.xs))⟩⟩ : Tri).bits (⟨bits, ⟨x21, (wholeN (pvs ps.xs))⟩⟩ : Tri).ns.xs y), blk b12 (tcells (⟨bits, ⟨x21, (wholeN (pvs ps.xs))⟩⟩ : Tri)) 29, Deep.ent (⟨bits, ⟨x21, (wholeN (pvs ps.xs))⟩⟩ : Tri), blk b10 (rchcells zrch) 45, blk b9 (kcells y) 24, blk b8 (kpcells k) 40] _)) : Mem _ [blk b14 (wkrcells (visW W (x.toNat / W.per.toNat) x54)) 87, selE false (fz x54), own iec 1 x47 (walkV (⟨bits, ⟨x21, (wholeN (pvs ps.xs))⟩⟩ : Tri).bits (⟨bits, ⟨x21, (wholeN (pvs ps.xs))⟩⟩ : Tri).ns.xs y), blk b12 (tcells (⟨bits, ⟨x21, (wholeN (pvs ps.xs))⟩⟩ : Tri)) 29, Deep.ent (⟨bits, ⟨x21, (wholeN (pvs ps.xs))⟩⟩ : Tri), blk b10 (rchcells zrch) 45, blk b9 (kcells y) 24, blk b8 (kpcells k) 40] _))
      · try simp only [bz0, bz1, bz2, bz3, bz4, bz5, bz6, bz7, bz8, bz9] at h2
        obtain rfl : i = (walkV bits (wholeN (pvs ps.xs)) y).length := by omega
        refine cw_exit ?_
        refine ex_pass_exit ?_
        refine ex_pass_exit ?_
        refine ex_block_hit ?_
        refine ex_then ?_
        refine cw_seq ?_
        refine cw_region ?_
        refine sq_r (ry_whole rfl) ?_
        refine sq_r (ry_whole rfl) ?_
        refine sq_y (yl_callC rfl trivial) ?_
        refine sq_r (ry_move rfl) ?_
        refine sq_r (ry_extract (v := .int .i64 (findN (⟨bits, ⟨x21, (wholeN (pvs ps.xs))⟩⟩ : Tri).bits (⟨bits, ⟨x21, (wholeN (pvs ps.xs))⟩⟩ : Tri).ns.xs y)) rfl rfl) ?_
        refine sq_r (ry_extract (v := .int .u16 ((findH (⟨bits, ⟨x21, (wholeN (pvs ps.xs))⟩⟩ : Tri).bits (⟨bits, ⟨x21, (wholeN (pvs ps.xs))⟩⟩ : Tri).ns.xs y).toNat : Nat)) rfl rfl) ?_
        refine sq_r (ry_extract (v := .int .i64 (findE (⟨bits, ⟨x21, (wholeN (pvs ps.xs))⟩⟩ : Tri).bits (⟨bits, ⟨x21, (wholeN (pvs ps.xs))⟩⟩ : Tri).ns.xs y)) rfl rfl) ?_
        refine sq_r (ry_field (o' := 0) rfl rfl) ?_
        refine sq_r (ry_field (o' := 0) rfl rfl) ?_
        refine sq_store (cs' := wkrcells { W with r := { W.r with len := findN bits (wholeN (pvs ps.xs)) y } }) rfl rfl (by show 0 < 8; decide) rfl rfl ?_
        refine sq_r (ry_field (o' := 0) rfl rfl) ?_
        refine sq_r (ry_field (o' := 1) rfl rfl) ?_
        refine sq_store (cs' := wkrcells { W with r := { W.r with len := findN bits (wholeN (pvs ps.xs)) y, hop := findH bits (wholeN (pvs ps.xs)) y } }) rfl rfl (by show 1 < 8; decide) rfl rfl ?_
        refine sq_r (ry_assign rfl) ?_
        refine sq_nil ?_
        refine ex_then ?_
        refine cw_seq ?_
        refine cw_region ?_
        refine sq_r (ry_field (o' := 0) rfl rfl) ?_
        refine sq_r (ry_part rfl) ?_
        refine sq_r (ry_move rfl) ?_
        refine sq_storeW rfl rfl ?_
        refine sq_r (ry_assign rfl) ?_
        refine sq_nil ?_
        refine ex_then ?_
        refine cw_ret ?_
        refine ex_ret (.inl rfl) (res_2 rfl (rv_agg rfl) (rv_tmp rfl)) (fun w1 hw => ?_)
        exact ⟨W.r.kept, by rw [← hI.hits, ← hI.mis], fun _ => ⟨hI.most, hI.fit, hI.ids⟩, by rw [decide_eq_false (show ¬ (walkV bits (wholeN (pvs ps.xs)) y).length = 0 by omega)] at hw; exact Keep.mem (show Mem _ [_, fz W.r.kept, _, _, _, _, _, _] _ from hw)⟩
instance pfind_i {w0 : World} {L : List Ent} {ps : Sl (Sl UInt8)} {bits : Int} {per : Nat} {k : Kp} {y : Key} [hps : HdD w0 L ps] [hk : HdD w0 L k] : FnC Try.prog 11 w0 L [ps.sv.val, .int .i64 bits, .int .i64 (per : Nat), .agg (kpcells k), .agg (kcells y)] (Kp) (fun zz => .tuple #[.agg (rchcells (⟨findN bits (wholeN (pvs ps.xs)) y, findH bits (wholeN (pvs ps.xs)) y, zz, ((runP bits (pvs ps.xs) per k y (walkV bits (wholeN (pvs ps.xs)) y).length).2.1 : Int), ((runP bits (pvs ps.xs) per k y (walkV bits (wholeN (pvs ps.xs)) y).length).2.2 : Int)⟩ : Rch)), .int .i64 (findE bits (wholeN (pvs ps.xs)) y)]) (fun zz => fz zz :: L) (fun zz => walkOk bits (wholeN (pvs ps.xs)) y = true → zz.most = k.most ∧ FitK k.most (pvs ps.xs) (kvs zz.items.xs) ∧ idsOf (kvs zz.items.xs) = (runP bits (pvs ps.xs) per k y (walkV bits (wholeN (pvs ps.xs)) y).length).1) ((∃ ns, PgOk bits per (pvs ps.xs) ns) ∧ FitK k.most (pvs ps.xs) (kvs k.items.xs)) := ⟨fun hp w hw => (pfind_c w ps bits per k y (hps.h w hw) (hk.h w hw) hp).mono fun e w' ⟨x, h1, h2, h3⟩ => ⟨x, h1, h2, hw.call h3⟩⟩

end Go.Proofs.Ytklhkejhndnhbaa

/- Same tries: walked. -/
namespace Go.Proofs.Ytklhkejhndnhbaa
open Go.Eng Go.Kb
theorem add8 (x y : Nat) : IntKind.u8.wrap (((x : Nat) : Int) + (((b8 y).toNat : Nat) : Int)) = (((x + y) % 256 : Nat) : Int) := by
  rw [b8_toNat]; simp [IntKind.wrap, IntKind.bits, IntKind.signed]
set_option maxRecDepth 20000 in
theorem rsame4_c (w : World) (a : Tri) (b : Tri) (ha : Deep.good (hp w) a) (hb : Deep.good (hp w) b) : Calls Try.prog 17 #[.agg (tcells a), .agg (tcells b)] w fun e w' => e = .returned (.bool (decide (a.bits = b.bits) && decide (a.ns.xs = b.ns.xs))) ∧ Mem w [] w' := by
  have gha : GvD w a := ⟨ha⟩
  have ghb : GvD w b := ⟨hb⟩
  have hba := ha.1.bd
  have hbb := hb.1.bd
  refine calls_of (args := [_, _]) Try.func17 rfl Try.ntmps17 rfl ?_
  change Cw _ _ _ _ _ [(0, .agg (tcells a)), (1, .agg (tcells b))] []
  refine cw_seq ?_
  refine cw_region ?_
  refine sq_boxA rfl fun b2 => ?_
  refine sq_boxA rfl fun b3 => ?_
  refine sq_r (ry_assign rfl) ?_
  refine sq_nil ?_
  refine ex_then ?_
  refine cw_seq ?_
  refine cw_seq ?_
  refine cw_region ?_
  refine sq_r (ry_field (o' := 0) rfl rfl) ?_
  refine sq_r (ry_cellc rfl) ?_
  refine sq_r (ry_field (o' := 0) rfl rfl) ?_
  refine sq_r (ry_cellc rfl) ?_
  refine sq_r (ry_int rfl rfl rfl) ?_
  refine sq_r (ry_move rfl) ?_
  refine sq_gf rfl rfl rfl (fun hg => (Ry.yl (ry_field (o' := 1) rfl rfl))) ?_
  refine sq_gf rfl rfl rfl (fun hg => (Ry.yl (ry_cellc (ev_c hg rfl)))) ?_
  refine sq_gf rfl rfl rfl (fun hg => (Ry.yl (ry_lenH (ev_c hg rfl)))) ?_
  refine sq_gf rfl rfl rfl (fun hg => (Ry.yl (ry_field (o' := 1) rfl rfl))) ?_
  refine sq_gf rfl rfl rfl (fun hg => (Ry.yl (ry_cellc (ev_c hg rfl)))) ?_
  refine sq_gf rfl rfl rfl (fun hg => (Ry.yl (ry_lenH (ev_c hg rfl)))) ?_
  refine sq_gf rfl rfl rfl (fun hg => (Ry.yl (ry_int (ev_c hg rfl) (ev_c hg rfl) rfl))) ?_
  refine sq_r (ry_or rfl rfl rfl) ?_
  refine sq_nil ?_
  refine ex_then ?_
  refine cw_cond rfl (fun h0 => ?_) (fun h0 => ?_)
  · try simp only [bz0, bz1, bz2, bz3, bz4, bz5, bz6, bz7, bz8, bz9] at h0
    refine cw_seq ?_
    refine cw_region ?_
    refine sq_r (ry_assign rfl) ?_
    refine sq_nil ?_
    refine ex_then ?_
    refine cw_ret ?_
    refine ex_pass_ret ?_
    refine ex_ret (.inl rfl) (res_1 rfl (rv_tmp rfl)) (fun w1 hw => ?_)
    exact ⟨congrArg (fun b => Ending.returned (Value.bool b)) ((by rcases h0 with h | h; (rw [decide_eq_false h, Bool.false_and]); (rw [decide_eq_false (fun e => h (by rw [e]) : ¬ a.ns.xs = b.ns.xs), Bool.and_false]))), Keep.mem hw⟩
  · try simp only [bz0, bz1, bz2, bz3, bz4, bz5, bz6, bz7, bz8, bz9] at h0
    refine cw_skip ?_
    refine ex_then ?_
    refine cw_seq ?_
    refine cw_seq ?_
    refine cw_region ?_
    refine sq_r (ry_assign rfl) ?_
    refine sq_nil ?_
    refine ex_then ?_
    refine cw_block ?_
    refine cw_loop (X := Nat) (fun zz => [(5, .int .i64 (zz : Nat)), (2, .pointer (some ⟨b2, 0, none⟩)), (3, .pointer (some ⟨b3, 0, none⟩))]) (fun zz => [blk b3 (tcells b) 29, blk b2 (tcells a) 29]) (fun zz => zz ≤ a.ns.xs.length ∧ ∀ j, j < zz → a.ns.xs[j]? = b.ns.xs[j]?) (fun zz => a.ns.xs.length - zz) 0 ⟨by first | omega | (simp only []; omega), fun j h => by first | omega | (simp only []; omega)⟩ (Sub.cons rfl (Sub.cons rfl (Sub.cons rfl (Sub.nil _)))) (fun w hw => Keep.mem hw) ?_
    rintro i ⟨hi1, hi2⟩
    refine cw_seq ?_
    refine cw_seq ?_
    refine cw_region ?_
    refine sq_r (ry_move rfl) ?_
    refine sq_r (ry_field (o' := 1) rfl rfl) ?_
    refine sq_r (ry_cellc rfl) ?_
    refine sq_r (ry_lenH rfl) ?_
    refine sq_r (ry_int rfl rfl rfl) ?_
    refine sq_nil ?_
    refine ex_then ?_
    refine cw_cond rfl (fun h1 => ?_) (fun h1 => ?_)
    · try simp only [bz0, bz1, bz2, bz3, bz4, bz5, bz6, bz7, bz8, bz9] at h1
      refine cw_skip ?_
      refine ex_then ?_
      refine cw_seq ?_
      refine cw_block ?_
      refine cw_seq ?_
      refine cw_quiet (by kernel_rfl) (by kernel_rfl) ?_
      refine qt_r (ry_field (o' := 1) rfl rfl) ?_
      refine qt_r (ry_cellc rfl) ?_
      refine qt_r (ry_move rfl) ?_
      obtain ⟨u, hu⟩ := get_some (xs := a.ns.xs) (i := i) (by omega)
      refine qt_r (ry_idxH rfl rfl i rfl (by omega)) ?_
      refine qt_r (ry_elemH rfl i hu rfl) ?_
      refine qt_r (ry_field (o' := 1) rfl rfl) ?_
      refine qt_r (ry_cellc rfl) ?_
      refine qt_r (ry_move rfl) ?_
      obtain ⟨v, hv⟩ := get_some (xs := b.ns.xs) (i := i) (by omega)
      refine qt_r (ry_idxH rfl rfl i rfl (by omega)) ?_
      refine qt_r (ry_elemH rfl i hv rfl) ?_
      refine qt_r (ry_ne rfl rfl) ?_
      refine qt_nil ?_
      refine ex_then ?_
      refine cw_cond rfl (fun h2 => ?_) (fun h2 => ?_)
      · try simp only [bz0, bz1, bz2, bz3, bz4, bz5, bz6, bz7, bz8, bz9] at h2
        refine cw_seq ?_
        refine cw_region ?_
        refine sq_r (ry_assign rfl) ?_
        refine sq_nil ?_
        refine ex_then ?_
        refine cw_ret ?_
        refine ex_block_ret ?_
        refine ex_pass_ret ?_
        refine ex_pass_ret ?_
        refine ex_block_ret ?_
        refine ex_pass_ret ?_
        refine ex_ret (.inl rfl) (res_1 rfl (rv_tmp rfl)) (fun w1 hw => ?_)
        exact ⟨congrArg (fun b => Ending.returned (Value.bool b)) ((by rw [decide_eq_false (list_no hu hv h2), Bool.and_false])), Keep.mem hw⟩
      · try simp only [bz0, bz1, bz2, bz3, bz4, bz5, bz6, bz7, bz8, bz9] at h2
        refine cw_skip ?_
        refine ex_block ?_
        refine ex_then ?_
        refine cw_region ?_
        refine sq_r (ry_move rfl) ?_
        refine sq_r (ry_add rfl rfl (by omega)) ?_
        refine sq_r (ry_assign rfl) ?_
        refine sq_nil ?_
        exact ex_again (x := (i)) (i + 1) ⟨by first | omega | (simp only []; omega), fun j hj => if e : j = i then (by subst e; rw [hu, hv, h2]) else hi2 j (by first | omega | (simp only []; omega))⟩ (by first | omega | (simp only []; omega)) (Sub.cons rfl (Sub.cons rfl (Sub.cons rfl (Sub.nil _)))) (fun w hw => Keep.mem hw)
    · try simp only [bz0, bz1, bz2, bz3, bz4, bz5, bz6, bz7, bz8, bz9] at h1
      refine cw_exit ?_
      refine ex_pass_exit ?_
      refine ex_pass_exit ?_
      refine ex_block_hit ?_
      refine ex_then ?_
      refine cw_seq ?_
      refine cw_region ?_
      refine sq_r (ry_assign rfl) ?_
      refine sq_nil ?_
      refine ex_then ?_
      refine cw_ret ?_
      refine ex_ret (.inl rfl) (res_1 rfl (rv_tmp rfl)) (fun w1 hw => ?_)
      exact ⟨congrArg (fun b => Ending.returned (Value.bool b)) ((by rw [decide_eq_true h0.1, decide_eq_true (list_all (by omega) (fun j hj => hi2 j (by omega)))]; rfl)), Keep.mem hw⟩
instance rsame4_i {w0 : World} {L : List Ent} {a : Tri} {b : Tri} [ha : HdD w0 L a] [hb : HdD w0 L b] : FnQ Try.prog 17 w0 L [.agg (tcells a), .agg (tcells b)] (.bool (decide (a.bits = b.bits) && decide (a.ns.xs = b.ns.xs))) (True) := ⟨fun hp w hw => rsame4_c w a b (ha.h w hw) (hb.h w hw)⟩

end Go.Proofs.Ytklhkejhndnhbaa

/- The laws of pages: what is found, hits and misses. No program in sight. -/
namespace Go.Kb
open Go.Eng
structure PSet (ts : List Rt) (bits : Int) (per : Nat) (ps : List (List UInt8)) (ns : List Nd) : Prop where
  tr : tright ts = true
  hb : bits = 32 ∨ bits = 128
  hl : (waysF bits ts).length ≤ 512
  en : ns = nodes bits (waysF bits ts) ts
  pg : PgOk bits per ps ns
theorem build_set {ts : List Rt} {bits : Int} (h : buildE ts bits = 0) {x : Tri} (h1 : x.bits = buildB ts bits) (h2 : x.ns.xs = buildN ts bits) : tright ts = true ∧ (bits = 32 ∨ bits = 128) ∧ (waysF bits ts).length ≤ 512 ∧ x.bits = bits ∧ x.ns.xs = nodes bits (waysF bits ts) ts ∧ allOk x.ns.xs = true ∧ (stepsV bits x.ns.xs).isSome = true := by
  have hc : tright ts = true ∧ (bits = 32 ∨ bits = 128) := by apply Classical.byContradiction; intro hc; have := (buildE_arg hc).1; omega
  have hl : (waysF bits ts).length ≤ 512 := by apply Classical.byContradiction; intro hn; have := (buildE_full hc hn).1; omega
  obtain ⟨_, e2, e3⟩ := buildE_ok hc hl
  have hm : ∀ r ∈ ts, pmay r.p = true := fun r hx => tr_may hc.1 hx
  have en : x.ns.xs = nodes bits (waysF bits ts) ts := h2.trans e3
  refine ⟨hc.1, hc.2, hl, h1.trans e2, en, ?_, ?_⟩
  · rw [en]; exact allOk_trie hc.1 hc.2 hl
  · rw [en, steps_eq hc.2 (ways_bits hc.2 hm) hm hl]; rfl
theorem build_not {ts : List Rt} {bits : Int} (h : buildE ts bits ≠ 0) {x : Tri} (h2 : x.ns.xs = buildN ts bits) : allOk x.ns.xs = true := by
  have : x.ns.xs = [] := by rw [h2, buildN, if_neg h]
  rw [this]; rfl
theorem PSet.way {ts : List Rt} {bits : Int} {per : Nat} {ps : List (List UInt8)} {ns : List Nd} (h : PSet ts bits per ps ns) {k : Key} : (∀ a ∈ wsP bits ps per k, a < ps.length) ∧ ((kcut k bits = k) → ((walkV bits (wholeN ps) k).length : Int) ≤ bits / 4) := by
  have g1 := h.pg.one
  refine ⟨fun a ha => ?_, fun hk => ?_⟩
  · obtain ⟨i, hi⟩ := List.mem_iff_getElem?.1 ha
    have hil := (List.getElem?_eq_some_iff.1 hi).1
    rw [wsP, wayP_len] at hil
    rw [wsP, h.pg.whole] at hi
    rw [h.pg.whole] at hil
    have h1 := wayP_get (n := per) (walkV_get hil)
    have ea : a = ((chain ns k i : Nat) : Int).toNat / per := Option.some.inj (hi.symm.trans h1)
    obtain ⟨hr, _, hl1, _⟩ := inR_of h.pg.tr
    have hc := chain_lt (k := k) hr hl1 i
    rw [h.pg.len, ea, Int.toNat_natCast, npg_lt g1]
    exact Nat.lt_of_le_of_lt (Nat.div_mul_le_self _ _) hc
  · have hm : ∀ r ∈ ts, pmay r.p = true := fun r hx => tr_may h.tr hx
    have e := walkV_eq h.hb hm h.hl hk
    have hd := deepT_lt h.hb hm k
    rw [h.pg.whole, h.en, e, List.length_map, List.length_range]
    rcases h.hb with rfl | rfl <;> omega
theorem wsP_len (bits : Int) (ps : List (List UInt8)) (per : Nat) (k : Key) : (wsP bits ps per k).length = (walkV bits (wholeN ps) k).length := wayP_len _ _
theorem runP_all (bits : Int) (ps : List (List UInt8)) (per : Nat) (K : Kp) (k : Key) : runP bits ps per K k (walkV bits (wholeN ps) k).length = runV K.most.toNat (idsOf (kvs K.items.xs), 0, 0) (wsP bits ps per k) := by
  rw [runP, List.take_of_length_le (by rw [wsP_len]; exact Nat.le_refl _)]
theorem runP_len (bits : Int) (ps : List (List UInt8)) (per : Nat) (K : Kp) (k : Key) : (runP bits ps per K k (walkV bits (wholeN ps) k).length).2.1 + (runP bits ps per K k (walkV bits (wholeN ps) k).length).2.2 = (walkV bits (wholeN ps) k).length := by
  rw [runP_all, runV_sum, wsP_len]; simp
theorem PSet.room {ts : List Rt} {bits : Int} {per : Nat} {ps : List (List UInt8)} {ns : List Nd} (h : PSet ts bits per ps ns) {k : Key} (hk : kcut k bits = k) {K : Kp} (hf : FitK K.most ps (kvs K.items.xs)) (hM : mostP ps.length bits ≤ K.most) :
    ((runP bits ps per K k (walkV bits (wholeN ps) k).length).2.2 : Int) ≤ mostP ps.length bits ∧ ∀ K' : Kp, K'.most = K.most → idsOf (kvs K'.items.xs) = (runP bits ps per K k (walkV bits (wholeN ps) k).length).1 → (runP bits ps per K' k (walkV bits (wholeN ps) k).length).2.2 = 0 ∧ (runP bits ps per K' k (walkV bits (wholeN ps) k).length).2.1 = (walkV bits (wholeN ps) k).length := by
  obtain ⟨w1, w2⟩ := h.way (k := k)
  have hids := hf.2.num
  have h0 : 0 ≤ mostP ps.length bits := by unfold mostP; split; exact Int.le_refl 0; rcases h.hb with rfl | rfl <;> omega
  have hpos := hf.2.pos
  have hr := runV_room (M := (mostP ps.length bits).toNat) hids hpos w1 (fun l hl hs => way_few (fun a ha => w1 a ha) (w2 hk) l hl hs) (by omega)
  rw [runP_all]
  refine ⟨by omega, fun K' e1 e2 => ?_⟩
  rw [runP_all] at *
  have hh := runV_hit (cap := K'.most.toNat) (s := (idsOf (kvs K'.items.xs), 0, 0)) (ws := wsP bits ps per k) (fun a ha => by simp only; rw [e2]; exact hr.2 a ha)
  rw [hh.1, hh.2, wsP_len]; simp
theorem PSet.one {bits : Int} {per : Nat} {ps : List (List UInt8)} {k : Key} {K : Kp} (hm : K.most = 1) (hk : kvs K.items.xs = []) (hl : 0 < (walkV bits (wholeN ps) k).length) :
    (runP bits ps per K k (walkV bits (wholeN ps) k).length).2.2 = chgP (wsP bits ps per k) ((walkV bits (wholeN ps) k).length - 1) ∧ (runP bits ps per K k (walkV bits (wholeN ps) k).length).2.1 = (walkV bits (wholeN ps) k).length - chgP (wsP bits ps per k) ((walkV bits (wholeN ps) k).length - 1) ∧ chgP (wsP bits ps per k) ((walkV bits (wholeN ps) k).length - 1) ≤ (walkV bits (wholeN ps) k).length := by
  have h1 := runV_one (ws := wsP bits ps per k) (i := (walkV bits (wholeN ps) k).length - 1) (by rw [wsP_len]; omega)
  rw [show (walkV bits (wholeN ps) k).length - 1 + 1 = (walkV bits (wholeN ps) k).length by omega] at h1
  have e : runP bits ps per K k (walkV bits (wholeN ps) k).length = runV 1 ([], 0, 0) ((wsP bits ps per k).take (walkV bits (wholeN ps) k).length) := by
    rw [runP, hm, hk]; rfl
  rw [e, h1.1]
  exact ⟨rfl, rfl, h1.2⟩
theorem PSet.all {ts : List Rt} {bits : Int} {per : Nat} {ps : List (List UInt8)} {ns : List Nd} (h : PSet ts bits per ps ns) {k : Key} {K : Kp} (hk : kvs K.items.xs = ofP ps (List.range ps.length)) :
    (runP bits ps per K k (walkV bits (wholeN ps) k).length).2.2 = 0 ∧ (runP bits ps per K k (walkV bits (wholeN ps) k).length).2.1 = (walkV bits (wholeN ps) k).length := by
  have hh := runV_hit (cap := K.most.toNat) (s := (idsOf (kvs K.items.xs), 0, 0)) (ws := wsP bits ps per k) (fun a ha => by simp only; rw [hk, idsOf_ofP]; exact List.mem_range.2 (h.way.1 a ha))
  rw [runP_all, hh.1, hh.2, wsP_len]; simp
theorem allKept {ps : List (List UInt8)} {i : Nat} (hi : i < ps.length) (h64 : ps.length ≤ 64) {K : Kp} (hm : K.most = 64) (hk : kvs K.items.xs = ofP ps (List.range i)) : FitK 64 ps (kvs K.items.xs) ∧ keepK 64 (kvs K.items.xs) ((i : Int), ps.getD i []) = ofP ps (List.range (i + 1)) := by
  have hid : Ids 64 ps.length (List.range i) := ⟨List.nodup_range, by rw [List.length_range]; omega, fun a ha => by have := List.mem_range.1 ha; omega⟩
  refine ⟨FitK.of (cap := 64) (ids := List.range i) ⟨hid, by decide, by decide, hk, rfl⟩, ?_⟩
  rw [hk]
  have := (ofP_keep (ps := ps) hid (by decide) (by decide) (a := i) (by simp)).1
  rw [lru_range (by omega)] at this
  exact this
theorem FitK.all {ps : List (List UInt8)} (h64 : ps.length ≤ 64) : FitK 64 ps (ofP ps (List.range ps.length)) :=
  FitK.of (cap := 64) (ids := List.range ps.length) ⟨⟨List.nodup_range, by rw [List.length_range]; exact h64, fun a ha => List.mem_range.1 ha⟩, by decide, by decide, rfl, rfl⟩
theorem FitK.nil {m : Int} {ps : List (List UInt8)} (h1 : 1 ≤ m) (h2 : m ≤ 64) : FitK m ps [] := by
  have := FitK.of (Fits.nil (ps := ps) (cap := m.toNat) (n := ps.length) (by omega) (by omega) rfl)
  rwa [show ((m.toNat : Nat) : Int) = m by omega] at this
theorem chg_step {ws : List Int} {n i : Nat} {x y : Int} (hn : 0 < n) (hx : ws[i + 1]? = some x) (hy : ws[i]? = some y) (h1 : 0 ≤ x) (h2 : 0 ≤ y) : (chgP (wayP n ws) (i + 1) : Int) = if x / n ≠ y / n then (chgP (wayP n ws) i : Int) + 1 else chgP (wayP n ws) i := by
  have e1 : (wayP n ws).getD (i + 1) 0 = x.toNat / n := by rw [List.getD, wayP_get hx]; rfl
  have e2 : (wayP n ws).getD i 0 = y.toNat / n := by rw [List.getD, wayP_get hy]; rfl
  have e3 : x / (n : Int) = ((x.toNat / n : Nat) : Int) := by rw [Int.natCast_ediv, Int.toNat_of_nonneg h1]
  have e4 : y / (n : Int) = ((y.toNat / n : Nat) : Int) := by rw [Int.natCast_ediv, Int.toNat_of_nonneg h2]
  rw [chgP, e1, e2, e3, e4]
  by_cases h : x.toNat / n = y.toNat / n
  · rw [if_neg (by omega), if_neg (by rw [h]; exact fun h => h rfl)]
  · rw [if_pos h, if_pos (fun h9 => h (Int.ofNat_inj.1 h9))]; omega
theorem walkV_pos {bits : Int} {ns : List Nd} {k : Key} {i : Nat} {x : Int} (h : (walkV bits ns k)[i]? = some x) : 0 ≤ x := by
  have := walkV_get (List.getElem?_eq_some_iff.1 h).1
  rw [Option.some.inj (h.symm.trans this)]; omega
theorem walkV_top {bits : Int} {ns : List Nd} {k : Key} {i : Nat} {x : Int} (hs : (stepsV bits ns).isSome = true) (h : (walkV bits ns k)[i]? = some x) : x < 512 := by
  have := walkV_get (List.getElem?_eq_some_iff.1 h).1
  rw [Option.some.inj (h.symm.trans this)]
  obtain ⟨hr, _, hl1, hl2⟩ := inR_of hs
  have hc := chain_lt (k := k) hr hl1 i
  omega
theorem chgP_le {bits : Int} {ps : List (List UInt8)} {per : Nat} {k : Key} {i : Nat} (h : i < (walkV bits (wholeN ps) k).length) : chgP (wsP bits ps per k) i ≤ i + 1 := (runV_one (ws := wsP bits ps per k) (i := i) (by rw [wsP_len]; exact h)).2
end Go.Kb

/- Laws of layer 23, awake: walked. -/
namespace Go.Proofs.Ytklhkejhndnhbaa
open Go.Eng Go.Kb

def a23k : Key := BitVec.ofNat 128 (10 * 2 ^ 120)
def a23r : Rt := ⟨⟨32, 9, a23k⟩, 7⟩
theorem aw23_E : buildE [a23r] 32 = 0 := by decide +kernel
theorem aw23_N : npg (buildN [a23r] 32).length 2 = 2 ∧ findE 32 (buildN [a23r] 32) a23k = 0 ∧ findN 32 (buildN [a23r] 32) a23k = 9 ∧ (findH 32 (buildN [a23r] 32) a23k).toNat = 7 ∧ (runV 4 ([], 0, 0) (wayP 2 (walkV 32 (buildN [a23r] 32) a23k))).2.1 = 1 ∧ (runV 4 ([], 0, 0) (wayP 2 (walkV 32 (buildN [a23r] 32) a23k))).2.2 = 2 := by decide +kernel
set_option maxRecDepth 20000 in
theorem aw23_c (w : World)   : Calls Try.prog 5 #[] w fun e w' => e = .returned (.bool true) ∧ Mem w [] w' := by
  refine calls_of (args := []) Try.func5 rfl Try.ntmps5 rfl ?_
  change Cw _ _ _ _ _ [] []
  refine cw_seq ?_
  refine cw_region ?_
  refine sq_r (ry_assign rfl) ?_
  refine sq_nil ?_
  refine ex_then ?_
  refine cw_seq ?_
  refine cw_region ?_
  refine sq_r (ry_build (v := .agg (kcells a23k)) rfl (fun w => by kernel_rfl)) ?_
  refine sq_r (ry_build (v := .agg (pcells a23r.p)) rfl (fun w => by kernel_rfl)) ?_
  refine sq_r (ry_build (v := .agg (rcells a23r)) rfl (fun w => by kernel_rfl)) ?_
  refine sq_buildSlice (enc := rcells) (vals := [_]) [a23r] rfl rfl rfl (by decide) (by decide) fun b15 => ?_
  refine sq_callC rfl trivial fun x16 hp16 => ?_
  obtain ⟨_, _, _, eb, _, eok, est⟩ := build_set aw23_E hp16.1 hp16.2
  have ens : x16.ns.xs = buildN [a23r] 32 := hp16.2
  have hst : (stepsV x16.bits x16.ns.xs).isSome = true := by rw [eb]; exact est
  obtain ⟨g1, g2, g3, g4, g5, g6⟩ := aw23_N
  rw [← ens] at g1 g2 g3 g4 g5 g6
  refine sq_r (ry_move rfl) ?_
  refine sq_r (ry_extract (v := .agg (tcells x16)) rfl rfl) ?_
  refine sq_r (ry_extract (v := .int .i64 (buildE [a23r] 32)) rfl rfl) ?_
  refine sq_allocA fun b1 => ?_
  refine sq_storeW rfl rfl ?_
  refine sq_r (ry_assign rfl) ?_
  refine sq_nil ?_
  refine ex_then ?_
  refine cw_seq ?_
  refine cw_region ?_
  refine sq_r (ry_whole rfl) ?_
  refine sq_callC (vs := [_, .int .i64 ((2 : Nat) : Int)]) rfl ⟨by decide, by decide, fun _ => eok⟩ fun x21 hp21 => ?_
  have hpv : pvs x21.xs = pagesF x16.ns.xs 2 := by rw [hp21, if_pos hst]
  have hpl : x21.xs.length = 2 := by rw [← pvs_length, hpv, pagesF_len]; exact g1
  have hpg : PgOk 32 2 (pvs x21.xs) x16.ns.xs := ⟨eok, est, by decide, by decide, hpv⟩
  have hwn := hpg.whole
  rw [← hwn] at g2 g3 g4 g5 g6
  have k1 : newE 4 = 0 := by decide
  have k2 : newM 4 = 4 := by decide
  have hwn2 := hwn.symm
  have hne : ¬ stepsV 32 (wholeN (pvs x21.xs)) = none := by intro h; rw [hwn] at h; rw [h] at est; cases est
  refine sq_r (ry_move rfl) ?_
  refine sq_r (ry_extract (v := x21.sv.val) rfl rfl) ?_
  refine sq_r (ry_extract (v := .int .i64 (if (stepsV x16.bits x16.ns.xs).isSome = true then 0 else 1)) rfl rfl) ?_
  refine sq_r (ry_assign rfl) ?_
  refine sq_r (ry_assign rfl) ?_
  refine sq_nil ?_
  refine ex_then ?_
  refine cw_seq ?_
  refine cw_region ?_
  refine sq_y (yl_callC rfl trivial) ?_
  refine sq_r (ry_move rfl) ?_
  refine sq_r (ry_extract (v := .agg (kpcells (⟨newM 4, ⟨Sv.none, []⟩⟩ : Kp))) rfl rfl) ?_
  refine sq_r (ry_extract (v := .int .i64 (newE 4)) rfl rfl) ?_
  refine sq_allocA fun b5 => ?_
  refine sq_storeW rfl rfl ?_
  refine sq_r (ry_assign rfl) ?_
  refine sq_nil ?_
  refine ex_then ?_
  refine cw_seq ?_
  refine cw_region ?_
  refine sq_r (ry_move rfl) ?_
  refine sq_r (ry_whole rfl) ?_
  refine sq_r (ry_build (v := .agg (kcells a23k)) rfl (fun w => by kernel_rfl)) ?_
  refine sq_callC (vs := [_, _, .int .i64 ((2 : Nat) : Int), _, _]) rfl ⟨⟨_, hpg⟩, FitK.nil (by decide) (by decide)⟩ fun x32 hp32 => ?_
  have r1 : (runP 32 (pvs x21.xs) 2 ⟨newM 4, ⟨Sv.none, []⟩⟩ a23k (walkV 32 (wholeN (pvs x21.xs)) a23k).length).2.1 = 1 := by rw [runP_all]; exact g5
  have r2 : (runP 32 (pvs x21.xs) 2 ⟨newM 4, ⟨Sv.none, []⟩⟩ a23k (walkV 32 (wholeN (pvs x21.xs)) a23k).length).2.2 = 2 := by rw [runP_all]; exact g6
  have m1 : mostP 2 32 = 2 := by decide
  refine sq_r (ry_move rfl) ?_
  refine sq_r (ry_extract (v := .agg (rchcells (⟨findN 32 (wholeN (pvs x21.xs)) a23k, findH 32 (wholeN (pvs x21.xs)) a23k, x32, ((runP 32 (pvs x21.xs) 2 (⟨newM 4, ⟨Sv.none, []⟩⟩ : Kp) a23k (walkV 32 (wholeN (pvs x21.xs)) a23k).length).2.1 : Int), ((runP 32 (pvs x21.xs) 2 (⟨newM 4, ⟨Sv.none, []⟩⟩ : Kp) a23k (walkV 32 (wholeN (pvs x21.xs)) a23k).length).2.2 : Int)⟩ : Rch))) rfl rfl) ?_
  refine sq_r (ry_extract (v := .int .i64 (findE 32 (wholeN (pvs x21.xs)) a23k)) rfl rfl) ?_
  refine sq_allocA fun b7 => ?_
  refine sq_storeW rfl rfl ?_
  refine sq_r (ry_assign rfl) ?_
  refine sq_nil ?_
  refine ex_then ?_
  refine cw_seq ?_
  refine cw_region ?_
  refine sq_r (ry_move rfl) ?_
  refine sq_callC (vs := [_, _, .int .i64 ((2 : Nat) : Int)]) rfl ⟨_, hpg⟩ fun x37 hp37 => ?_
  refine sq_r (ry_move rfl) ?_
  refine sq_r (ry_extract (v := .agg (tcells (⟨32, ⟨x37, (wholeN (pvs x21.xs))⟩⟩ : Tri))) rfl rfl) ?_
  refine sq_r (ry_extract (v := .int .i64 0) rfl rfl) ?_
  refine sq_allocA fun b9 => ?_
  refine sq_storeW rfl rfl ?_
  refine sq_r (ry_assign rfl) ?_
  refine sq_nil ?_
  refine ex_then ?_
  refine cw_seq ?_
  refine cw_region ?_
  refine sq_r (ry_move rfl) ?_
  refine sq_r (ry_int rfl rfl rfl) ?_
  refine sq_r (ry_move rfl) ?_
  refine sq_ty rfl rfl rfl (by simp [aw23_E, hne, k1, g2, g3, g4, r1, r2, hpl, eb, hwn2]) (Ry.yl (ry_move rfl)) ?_
  refine sq_ty rfl rfl rfl (by simp [aw23_E, hne, k1, g2, g3, g4, r1, r2, hpl, eb, hwn2]) (Ry.yl (ry_int rfl rfl rfl)) ?_
  refine sq_r (ry_pickT rfl (by simp [aw23_E, hne, k1, g2, g3, g4, r1, r2, hpl, eb, hwn2]) rfl rfl) ?_
  refine sq_r (ry_move rfl) ?_
  refine sq_ty rfl rfl rfl (by simp [aw23_E, hne, k1, g2, g3, g4, r1, r2, hpl, eb, hwn2]) (Ry.yl (ry_move rfl)) ?_
  refine sq_ty rfl rfl rfl (by simp [aw23_E, hne, k1, g2, g3, g4, r1, r2, hpl, eb, hwn2]) (Ry.yl (ry_int rfl rfl rfl)) ?_
  refine sq_r (ry_pickT rfl (by simp [aw23_E, hne, k1, g2, g3, g4, r1, r2, hpl, eb, hwn2]) rfl rfl) ?_
  refine sq_r (ry_move rfl) ?_
  refine sq_ty rfl rfl rfl (by simp [aw23_E, hne, k1, g2, g3, g4, r1, r2, hpl, eb, hwn2]) (Ry.yl (ry_move rfl)) ?_
  refine sq_ty rfl rfl rfl (by simp [aw23_E, hne, k1, g2, g3, g4, r1, r2, hpl, eb, hwn2]) (Ry.yl (ry_int rfl rfl rfl)) ?_
  refine sq_r (ry_pickT rfl (by simp [aw23_E, hne, k1, g2, g3, g4, r1, r2, hpl, eb, hwn2]) rfl rfl) ?_
  refine sq_r (ry_move rfl) ?_
  refine sq_ty rfl rfl rfl (by simp [aw23_E, hne, k1, g2, g3, g4, r1, r2, hpl, eb, hwn2]) (Ry.yl (ry_move rfl)) ?_
  refine sq_ty rfl rfl rfl (by simp [aw23_E, hne, k1, g2, g3, g4, r1, r2, hpl, eb, hwn2]) (Ry.yl (ry_int rfl rfl rfl)) ?_
  refine sq_r (ry_pickT rfl (by simp [aw23_E, hne, k1, g2, g3, g4, r1, r2, hpl, eb, hwn2]) rfl rfl) ?_
  refine sq_r (ry_move rfl) ?_
  refine sq_ty rfl rfl rfl (by simp [aw23_E, hne, k1, g2, g3, g4, r1, r2, hpl, eb, hwn2]) (Ry.yl (ry_move rfl)) ?_
  refine sq_ty rfl rfl rfl (by simp [aw23_E, hne, k1, g2, g3, g4, r1, r2, hpl, eb, hwn2]) (Ry.yl (ry_lenH rfl)) ?_
  refine sq_ty rfl rfl rfl (by simp [aw23_E, hne, k1, g2, g3, g4, r1, r2, hpl, eb, hwn2]) (Ry.yl (ry_int rfl rfl rfl)) ?_
  refine sq_r (ry_pickT rfl (by simp [aw23_E, hne, k1, g2, g3, g4, r1, r2, hpl, eb, hwn2]) rfl rfl) ?_
  refine sq_r (ry_move rfl) ?_
  refine sq_ty rfl rfl rfl (by simp [aw23_E, hne, k1, g2, g3, g4, r1, r2, hpl, eb, hwn2]) (Ry.yl (ry_field (o' := 0) rfl rfl)) ?_
  refine sq_ty rfl rfl rfl (by simp [aw23_E, hne, k1, g2, g3, g4, r1, r2, hpl, eb, hwn2]) (Ry.yl (ry_cellc rfl)) ?_
  refine sq_ty rfl rfl rfl (by simp [aw23_E, hne, k1, g2, g3, g4, r1, r2, hpl, eb, hwn2]) (Ry.yl (ry_int rfl rfl rfl)) ?_
  refine sq_r (ry_pickT rfl (by simp [aw23_E, hne, k1, g2, g3, g4, r1, r2, hpl, eb, hwn2]) rfl rfl) ?_
  refine sq_r (ry_move rfl) ?_
  refine sq_ty rfl rfl rfl (by simp [aw23_E, hne, k1, g2, g3, g4, r1, r2, hpl, eb, hwn2]) (Ry.yl (ry_field (o' := 1) rfl rfl)) ?_
  refine sq_ty rfl rfl rfl (by simp [aw23_E, hne, k1, g2, g3, g4, r1, r2, hpl, eb, hwn2]) (Ry.yl (ry_cellc rfl)) ?_
  refine sq_ty rfl rfl rfl (by simp [aw23_E, hne, k1, g2, g3, g4, r1, r2, hpl, eb, hwn2]) (Ry.yl (ry_int rfl rfl rfl)) ?_
  refine sq_r (ry_pickT rfl (by simp [aw23_E, hne, k1, g2, g3, g4, r1, r2, hpl, eb, hwn2]) rfl rfl) ?_
  refine sq_r (ry_move rfl) ?_
  refine sq_ty rfl rfl rfl (by simp [aw23_E, hne, k1, g2, g3, g4, r1, r2, hpl, eb, hwn2]) (Ry.yl (ry_field (o' := 5) rfl rfl)) ?_
  refine sq_ty rfl rfl rfl (by simp [aw23_E, hne, k1, g2, g3, g4, r1, r2, hpl, eb, hwn2]) (Ry.yl (ry_cellc rfl)) ?_
  refine sq_ty rfl rfl rfl (by simp [aw23_E, hne, k1, g2, g3, g4, r1, r2, hpl, eb, hwn2]) (Ry.yl (ry_int rfl rfl rfl)) ?_
  refine sq_r (ry_pickT rfl (by simp [aw23_E, hne, k1, g2, g3, g4, r1, r2, hpl, eb, hwn2]) rfl rfl) ?_
  refine sq_r (ry_move rfl) ?_
  refine sq_ty rfl rfl rfl (by simp [aw23_E, hne, k1, g2, g3, g4, r1, r2, hpl, eb, hwn2]) (Ry.yl (ry_field (o' := 4) rfl rfl)) ?_
  refine sq_ty rfl rfl rfl (by simp [aw23_E, hne, k1, g2, g3, g4, r1, r2, hpl, eb, hwn2]) (Ry.yl (ry_cellc rfl)) ?_
  refine sq_ty rfl rfl rfl (by simp [aw23_E, hne, k1, g2, g3, g4, r1, r2, hpl, eb, hwn2]) (Ry.yl (ry_int rfl rfl rfl)) ?_
  refine sq_r (ry_pickT rfl (by simp [aw23_E, hne, k1, g2, g3, g4, r1, r2, hpl, eb, hwn2]) rfl rfl) ?_
  refine sq_r (ry_move rfl) ?_
  refine sq_ty rfl rfl rfl (by simp [aw23_E, hne, k1, g2, g3, g4, r1, r2, hpl, eb, hwn2]) (Ry.yl (ry_whole rfl)) ?_
  refine sq_ty rfl rfl rfl (by simp [aw23_E, hne, k1, g2, g3, g4, r1, r2, hpl, eb, hwn2]) (Ry.yl (ry_whole rfl)) ?_
  refine sq_ty rfl rfl rfl (by simp [aw23_E, hne, k1, g2, g3, g4, r1, r2, hpl, eb, hwn2]) (yl_callC rfl trivial) ?_
  refine sq_r (ry_pickT rfl (by simp [aw23_E, hne, k1, g2, g3, g4, r1, r2, hpl, eb, hwn2]) rfl rfl) ?_
  refine sq_r (ry_move rfl) ?_
  refine sq_ty rfl rfl rfl (by simp [aw23_E, hne, k1, g2, g3, g4, r1, r2, hpl, eb, hwn2]) (Ry.yl (ry_move rfl)) ?_
  refine sq_ty rfl rfl rfl (by simp [aw23_E, hne, k1, g2, g3, g4, r1, r2, hpl, eb, hwn2]) (yl_callC rfl (by decide)) ?_
  refine sq_ty rfl rfl rfl (by simp [aw23_E, hne, k1, g2, g3, g4, r1, r2, hpl, eb, hwn2]) (Ry.yl (ry_int rfl rfl rfl)) ?_
  refine sq_r (ry_pickT rfl (by simp [aw23_E, hne, k1, g2, g3, g4, r1, r2, hpl, eb, hwn2]) rfl rfl) ?_
  refine sq_r (ry_assign rfl) ?_
  refine sq_nil ?_
  refine ex_then ?_
  refine cw_ret ?_
  refine ex_ret (.inl rfl) (res_1 rfl (rv_tmp rfl)) (fun w1 hw => ?_)
  exact ⟨congrArg (fun b => Ending.returned (Value.bool b)) ((by simp [hpl, m1])), Keep.mem hw⟩
instance aw23_i {w0 : World} {L : List Ent}   : FnQ Try.prog 5 w0 L [] (.bool true) (True) := ⟨fun hp w hw => aw23_c w  ⟩

end Go.Proofs.Ytklhkejhndnhbaa

/- The law PagedSame: walked. -/
namespace Go.Proofs.Ytklhkejhndnhbaa
open Go.Eng Go.Kb
instance encKey23 : Enc kcells 16 := ⟨kcells_size, kc_one⟩
set_option maxRecDepth 20000 in
theorem pagedSame_c (w : World) (t : Sv) (ts : List Rt) (bits : Int) (per : UInt8) (most : UInt8) (keys : Sv) (keyss : List Key) (ht : Lies rcells 19 (hp w) t ts) (hkeys : Lies kcells 16 (hp w) keys keyss) : Calls Try.prog 4 #[t.val, .int .i64 bits, .int .u8 (per.toNat : Nat), .int .u8 (most.toNat : Nat), keys.val] w fun e w' => e = .returned (.bool true) ∧ Mem w [] w' := by
  have ght : Gv w t rcells 19 ts := ⟨ht⟩
  have ghkeys : Gv w keys kcells 16 keyss := ⟨hkeys⟩
  have hpt := per.toNat_lt
  have hmt := most.toNat_lt
  refine calls_of (args := [_, _, _, _, _]) Try.func4 rfl Try.ntmps4 rfl ?_
  change Cw _ _ _ _ _ [(0, t.val), (1, .int .i64 bits), (2, .int .u8 (per.toNat : Nat)), (3, .int .u8 (most.toNat : Nat)), (4, keys.val)] []
  refine cw_seq ?_
  refine cw_region ?_
  refine sq_r (ry_assign rfl) ?_
  refine sq_nil ?_
  refine ex_then ?_
  refine cw_seq ?_
  refine cw_seq ?_
  refine cw_region ?_
  refine sq_y (yl_callC rfl trivial) ?_
  refine sq_r (ry_not rfl) ?_
  refine sq_nil ?_
  refine ex_then ?_
  refine cw_cond rfl (fun h0 => ?_) (fun h0 => ?_)
  · exfalso; simp at h0
  · try simp only [bz0, bz1, bz2, bz3, bz4, bz5, bz6, bz7, bz8, bz9] at h0
    refine cw_skip ?_
    refine ex_then ?_
    refine cw_seq ?_
    refine cw_seq ?_
    refine cw_region ?_
    refine sq_r (ry_move rfl) ?_
    refine sq_r (ry_lenH rfl) ?_
    refine sq_r (ry_int rfl rfl rfl) ?_
    refine sq_r (ry_move rfl) ?_
    refine sq_gf rfl rfl rfl (fun hg => (Ry.yl (ry_move rfl))) ?_
    refine sq_gf rfl rfl rfl (fun hg => (Ry.yl (ry_lenH (ev_c hg rfl)))) ?_
    refine sq_gf rfl rfl rfl (fun hg => (Ry.yl (ry_int (ev_c hg rfl) rfl rfl))) ?_
    refine sq_r (ry_or rfl rfl rfl) ?_
    refine sq_r (ry_move rfl) ?_
    refine sq_gf rfl rfl rfl (fun hg => (Ry.yl (ry_move rfl))) ?_
    refine sq_gf rfl rfl rfl (fun hg => yl_callC (evl_cons (ev_c hg rfl) evl_nil) trivial) ?_
    refine sq_gf rfl rfl rfl (fun hg => (Ry.yl (ry_not (ev_c hg rfl)))) ?_
    refine sq_r (ry_or rfl rfl rfl) ?_
    refine sq_nil ?_
    refine ex_then ?_
    refine cw_cond rfl (fun h1 => ?_) (fun h1 => ?_)
    · try simp only [bz0, bz1, bz2, bz3, bz4, bz5, bz6, bz7, bz8, bz9] at h1
      refine cw_seq ?_
      refine cw_region ?_
      refine sq_r (ry_assign rfl) ?_
      refine sq_nil ?_
      refine ex_then ?_
      refine cw_ret ?_
      refine ex_pass_ret ?_
      refine ex_ret (.inl rfl) (res_1 rfl (rv_tmp rfl)) (fun w1 hw => ?_)
      exact ⟨congrArg (fun b => Ending.returned (Value.bool b)) (rfl), Keep.mem hw⟩
    · try simp only [bz0, bz1, bz2, bz3, bz4, bz5, bz6, bz7, bz8, bz9] at h1
      have hr : tright ts = true := by simpa using h1.2
      have hlen := tr_len hr
      have hkl : keyss.length ≤ 12 := by omega
      refine cw_skip ?_
      refine ex_then ?_
      refine cw_seq ?_
      refine cw_region ?_
      refine sq_r (ry_move rfl) ?_
      refine sq_r (ry_move rfl) ?_
      refine sq_callC rfl trivial fun x44 hp44 => ?_
      refine sq_r (ry_move rfl) ?_
      refine sq_r (ry_extract (v := .agg (tcells x44)) rfl rfl) ?_
      refine sq_r (ry_extract (v := .int .i64 (buildE ts bits)) rfl rfl) ?_
      refine sq_allocA fun b11 => ?_
      refine sq_storeW rfl rfl ?_
      refine sq_r (ry_assign rfl) ?_
      refine sq_nil ?_
      refine ex_then ?_
      refine cw_seq ?_
      refine cw_seq ?_
      refine cw_region ?_
      refine sq_r (ry_move rfl) ?_
      refine sq_r (ry_int rfl rfl rfl) ?_
      refine sq_nil ?_
      refine ex_then ?_
      refine cw_cond rfl (fun h2 => ?_) (fun h2 => ?_)
      · try simp only [bz0, bz1, bz2, bz3, bz4, bz5, bz6, bz7, bz8, bz9] at h2
        refine cw_seq ?_
        refine cw_region ?_
        refine sq_r (ry_assign rfl) ?_
        refine sq_nil ?_
        refine ex_then ?_
        refine cw_ret ?_
        refine ex_pass_ret ?_
        refine ex_ret (.inl rfl) (res_1 rfl (rv_tmp rfl)) (fun w1 hw => ?_)
        exact ⟨congrArg (fun b => Ending.returned (Value.bool b)) (rfl), Keep.mem hw⟩
      · try simp only [bz0, bz1, bz2, bz3, bz4, bz5, bz6, bz7, bz8, bz9] at h2
        have hbe : buildE ts bits = 0 := by simpa using h2
        obtain ⟨_, hb, hl, eb, en, eok, est⟩ := build_set hbe hp44.1 hp44.2
        have hst : (stepsV x44.bits x44.ns.xs).isSome = true := by rw [eb]; exact est
        have hE : (if (stepsV x44.bits x44.ns.xs).isSome = true then 0 else 1 : Int) = 0 := if_pos hst
        obtain ⟨_, _, hn1, hn512⟩ := inR_of est
        refine cw_skip ?_
        refine ex_then ?_
        refine cw_seq ?_
        refine cw_region ?_
        refine sq_r (ry_move rfl) ?_
        refine sq_r (Ry.to (v' := .int .u8 ((per.toNat % 8 : Nat) : Int)) (ry_remn (p := per.toNat) (q := 8) rfl rfl rfl rfl (by omega)) rfl) ?_
        refine sq_r (ry_convn rfl (by simp only [nb]; omega)) ?_
        refine sq_r (Ry.to (v' := .int .i64 (((per.toNat % 8 + 1) : Nat) : Int)) (ry_add rfl rfl (by omega)) rfl) ?_
        refine sq_r (ry_assign rfl) ?_
        refine sq_nil ?_
        refine ex_then ?_
        refine cw_seq ?_
        refine cw_region ?_
        refine sq_r (ry_whole rfl) ?_
        refine sq_r (ry_move rfl) ?_
        refine sq_callC rfl ⟨by omega, by omega, fun _ => eok⟩ fun x56 hp56 => ?_
        have hpv : pvs x56.xs = pagesF x44.ns.xs (per.toNat % 8 + 1) := by rw [hp56, if_pos hst]
        have hpg : PgOk bits (per.toNat % 8 + 1) (pvs x56.xs) x44.ns.xs := ⟨eok, est, by omega, by omega, hpv⟩
        have hset : PSet ts bits (per.toNat % 8 + 1) (pvs x56.xs) x44.ns.xs := ⟨hr, hb, hl, en, hpg⟩
        have hpl : x56.xs.length = npg x44.ns.xs.length (per.toNat % 8 + 1) := by rw [← pvs_length, hpg.len]
        have hwn := hpg.whole
        have k1 : newE (((most.toNat % 40 + 1) : Nat) : Int) = 0 := if_pos (by omega)
        have k2 : newM (((most.toNat % 40 + 1) : Nat) : Int) = (((most.toNat % 40 + 1) : Nat) : Int) := if_pos (by omega)
        refine sq_r (ry_move rfl) ?_
        refine sq_r (ry_extract (v := x56.sv.val) rfl rfl) ?_
        refine sq_r (ry_extract (v := .int .i64 (if (stepsV x44.bits x44.ns.xs).isSome = true then 0 else 1)) rfl rfl) ?_
        refine sq_r (ry_assign rfl) ?_
        refine sq_r (ry_assign rfl) ?_
        refine sq_nil ?_
        refine ex_then ?_
        refine cw_seq ?_
        refine cw_region ?_
        refine sq_r (ry_move rfl) ?_
        refine sq_r (Ry.to (v' := .int .u8 ((most.toNat % 40 : Nat) : Int)) (ry_remn (p := most.toNat) (q := 40) rfl rfl rfl rfl (by omega)) rfl) ?_
        refine sq_r (ry_convn rfl (by simp only [nb]; omega)) ?_
        refine sq_r (Ry.to (v' := .int .i64 (((most.toNat % 40 + 1) : Nat) : Int)) (ry_add rfl rfl (by omega)) rfl) ?_
        refine sq_y (yl_callC rfl trivial) ?_
        refine sq_r (ry_move rfl) ?_
        refine sq_r (ry_extract (v := .agg (kpcells (⟨newM (((most.toNat % 40 + 1) : Nat) : Int), ⟨Sv.none, []⟩⟩ : Kp))) rfl rfl) ?_
        refine sq_r (ry_extract (v := .int .i64 (newE (((most.toNat % 40 + 1) : Nat) : Int))) rfl rfl) ?_
        refine sq_allocA fun b16 => ?_
        refine sq_storeW rfl rfl ?_
        refine sq_r (ry_assign rfl) ?_
        refine sq_nil ?_
        refine ex_then ?_
        refine cw_seq ?_
        refine cw_seq ?_
        refine cw_region ?_
        refine sq_r (ry_move rfl) ?_
        refine sq_r (ry_int rfl rfl rfl) ?_
        refine sq_r (ry_move rfl) ?_
        refine sq_gf rfl rfl rfl (fun hg => (Ry.yl (ry_move rfl))) ?_
        refine sq_gf rfl rfl rfl (fun hg => (Ry.yl (ry_int (ev_c hg rfl) rfl rfl))) ?_
        refine sq_r (ry_or rfl rfl rfl) ?_
        refine sq_r (ry_move rfl) ?_
        refine sq_gf rfl rfl rfl (fun hg => (Ry.yl (ry_move rfl))) ?_
        refine sq_gf rfl rfl rfl (fun hg => (Ry.yl (ry_lenH (ev_c hg rfl)))) ?_
        refine sq_gf rfl rfl rfl (fun hg => (Ry.yl (ry_field (o' := 1) rfl rfl))) ?_
        refine sq_gf rfl rfl rfl (fun hg => (Ry.yl (ry_cellc (ev_c hg rfl)))) ?_
        refine sq_gf rfl rfl rfl (fun hg => (Ry.yl (ry_lenH (ev_c hg rfl)))) ?_
        refine sq_gf rfl rfl rfl (fun hg => (Ry.yl (ry_move rfl))) ?_
        refine sq_gf rfl rfl rfl (fun hg => (Ry.yl (ry_add (ev_c hg rfl) (ev_c hg rfl) (by simp only [bz0, bz1, bz2, bz3, bz4, bz5, bz6, bz7, bz8, bz9] at hg; omega)))) ?_
        refine sq_gf rfl rfl rfl (fun hg => (Ry.yl (ry_sub (ev_c hg rfl) rfl (by simp only [bz0, bz1, bz2, bz3, bz4, bz5, bz6, bz7, bz8, bz9] at hg; omega)))) ?_
        refine sq_gf rfl rfl rfl (fun hg => (Ry.yl (ry_move rfl))) ?_
        refine sq_gf rfl rfl rfl (fun hg => (Ry.yl (ry_quo (ev_c hg rfl) (ev_c hg rfl) (by simp only [bz0, bz1, bz2, bz3, bz4, bz5, bz6, bz7, bz8, bz9] at hg; omega) (by simp only [bz0, bz1, bz2, bz3, bz4, bz5, bz6, bz7, bz8, bz9] at hg; omega)))) ?_
        refine sq_gf rfl rfl rfl (fun hg => (Ry.yl (ry_int (ev_c hg rfl) (ev_c hg rfl) rfl))) ?_
        refine sq_r (ry_or rfl rfl rfl) ?_
        refine sq_nil ?_
        refine ex_then ?_
        refine cw_cond rfl (fun h3 => ?_) (fun h3 => ?_)
        · try simp only [bz0, bz1, bz2, bz3, bz4, bz5, bz6, bz7, bz8, bz9] at h3
          exfalso
          rcases h3 with (h | h) | h
          · exact h hE
          · exact h k1
          · refine h ?_
            rw [hpl, npg, Int.natCast_ediv]
            congr 1; omega
        · try simp only [bz0, bz1, bz2, bz3, bz4, bz5, bz6, bz7, bz8, bz9] at h3
          refine cw_skip ?_
          refine ex_then ?_
          refine cw_seq ?_
          refine cw_seq ?_
          refine cw_region ?_
          refine sq_r (ry_assign rfl) ?_
          refine sq_nil ?_
          refine ex_then ?_
          refine cw_block ?_
          refine cw_loop (X := Nat × Kp) (fun zz => [(18, .int .i64 (zz.1 : Nat)), (16, .pointer (some ⟨b16, 0, none⟩)), (0, t.val), (1, .int .i64 bits), (4, keys.val), (11, .pointer (some ⟨b11, 0, none⟩)), (13, .int .i64 ((per.toNat % 8 + 1) : Nat)), (14, x56.sv.val)]) (fun zz => [blk b16 (kpcells zz.2) 40, fz zz.2, Deep.ent x56, blk b11 (tcells x44) 29, Deep.ent x44]) (fun zz => zz.1 ≤ keyss.length ∧ zz.2.most = (((most.toNat % 40 + 1) : Nat) : Int) ∧ FitK (((most.toNat % 40 + 1) : Nat) : Int) (pvs x56.xs) (kvs zz.2.items.xs)) (fun zz => keyss.length - zz.1) (0, ⟨newM (((most.toNat % 40 + 1) : Nat) : Int), ⟨Sv.none, []⟩⟩) ⟨Nat.zero_le _, k2, FitK.nil (by first | omega | (simp only []; omega)) (by first | omega | (simp only []; omega))⟩ (Sub.cons rfl (Sub.cons rfl (Sub.cons rfl (Sub.cons rfl (Sub.cons rfl (Sub.cons rfl (Sub.cons rfl (Sub.cons rfl (Sub.nil _))))))))) (fun w hw => Keep.mem (frz0 (newM (((most.toNat % 40 + 1) : Nat) : Int)) hw)) ?_
          rintro ⟨i, K⟩ ⟨hi, hK, hF⟩
          dsimp only
          simp only at hi hK hF
          have h1000 : bits ≤ 1000 := by rcases hb with h | h <;> omega
          refine cw_seq ?_
          refine cw_seq ?_
          refine cw_region ?_
          refine sq_r (ry_move rfl) ?_
          refine sq_r (ry_move rfl) ?_
          refine sq_r (ry_lenH rfl) ?_
          refine sq_r (ry_int rfl rfl rfl) ?_
          refine sq_nil ?_
          refine ex_then ?_
          refine cw_cond rfl (fun h4 => ?_) (fun h4 => ?_)
          · try simp only [bz0, bz1, bz2, bz3, bz4, bz5, bz6, bz7, bz8, bz9] at h4
            obtain ⟨e, he⟩ := get_some (xs := keyss) (i := i) (by omega)
            obtain ⟨q1, q2, q3⟩ := trie_best (k := e) hr hb hl
            rw [← en, ← hwn] at q1 q2 q3
            have rl := runP_len bits (pvs x56.xs) (per.toNat % 8 + 1) K e
            have h33 := walkV_few (ns := (wholeN (pvs x56.xs))) (by rw [hwn]; exact est) e
            refine cw_skip ?_
            refine ex_then ?_
            refine cw_seq ?_
            refine cw_block ?_
            refine cw_seq ?_
            refine cw_linE [8, 12, 13, 1003, 2012, 4008] [[], [], [], [], [], [], [], [], [3], [3, 8], [3, 8], [3, 8], [], [3, 8, 12], [3, 8, 12, 13]] [0, 1, 2, 3, 4, 5, 6, 7, 8, 9, 10, 11, 12, 13, 14] [] [(12, alM Try.prog 45)] (by kernel_rfl) (fun _ hw => Keep.mem hw) (by kernel_rfl) (by kernel_rfl) ?_
            refine ln_r rfl (ry_move rfl) ?_
            refine ln_r rfl (ry_move rfl) ?_
            refine ln_r rfl (ry_move rfl) ?_
            refine lt_r rfl (ry_whole rfl) ?_
            refine ln_r rfl (ry_move rfl) ?_
            refine ln_r rfl (ry_move rfl) ?_
            refine ln_r rfl (ry_idxH rfl rfl i rfl (by omega)) ?_
            refine ln_r rfl (ry_elemH rfl i he rfl) ?_
            refine ln_callF rfl rfl ⟨⟨_, hpg⟩, by rw [hK]; exact hF⟩ (fun e x w hw => Keep.mem hw) (Cert.one (i := 12) rfl rfl rfl makes_al (Cert.none rfl)) fun x101 hp101 => ⟨fun _ hw => Keep.mem hw, ?_⟩
            refine ln_r rfl (ry_move rfl) ?_
            refine ln_r rfl (ry_extract (v := .agg (rchcells (⟨findN bits (wholeN (pvs x56.xs)) e, findH bits (wholeN (pvs x56.xs)) e, x101, ((runP bits (pvs x56.xs) (per.toNat % 8 + 1) K e (walkV bits (wholeN (pvs x56.xs)) e).length).2.1 : Int), ((runP bits (pvs x56.xs) (per.toNat % 8 + 1) K e (walkV bits (wholeN (pvs x56.xs)) e).length).2.2 : Int)⟩ : Rch))) rfl rfl) ?_
            refine ln_r rfl (ry_extract (v := .int .i64 (findE bits (wholeN (pvs x56.xs)) e)) rfl rfl) ?_
            refine ln_mk (m := alM Try.prog 45) rfl rfl makes_al (Cert.none rfl) fun b19 => ?_
            change Ln _ _ _ _ _ _ _ _ (putE _ _ (.pointer (some ⟨b19, 0, none⟩))) (blk b19 (rchcells zrch) 45 :: _) _
            refine ln_st rfl (st_storeW rfl rfl ⟨fun _ hw => Keep.mem hw, ?_⟩)
            refine ln_r rfl (ry_assign rfl) ?_
            refine ln_nil ?_
            refine ex_then ?_
            refine cw_seq ?_
            refine cw_region ?_
            refine sq_r (ry_move rfl) ?_
            refine sq_r (ry_move rfl) ?_
            refine sq_r (ry_move rfl) ?_
            refine sq_r (ry_idxH rfl rfl i rfl (by omega)) ?_
            refine sq_r (ry_elemH rfl i he rfl) ?_
            refine sq_r (ry_move rfl) ?_
            refine sq_y (yl_callC rfl trivial) ?_
            refine sq_r (ry_move rfl) ?_
            refine sq_r (ry_extract (v := .agg (rcells (bestR ts e bits))) rfl rfl) ?_
            refine sq_r (ry_extract (v := .int .i64 (bestE ts e bits)) rfl rfl) ?_
            refine sq_allocA fun b21 => ?_
            refine sq_storeW rfl rfl ?_
            refine sq_r (ry_assign rfl) ?_
            refine sq_nil ?_
            refine ex_then ?_
            refine cw_seq ?_
            refine cw_seq ?_
            refine cw_region ?_
            refine sq_r (ry_move rfl) ?_
            refine sq_r (ry_move rfl) ?_
            refine sq_r (ry_int rfl rfl rfl) ?_
            refine sq_r (ry_move rfl) ?_
            refine sq_gf rfl rfl rfl (fun hg => (Ry.yl (ry_field (o' := 0) rfl rfl))) ?_
            refine sq_gf rfl rfl rfl (fun hg => (Ry.yl (ry_cellc (ev_c hg rfl)))) ?_
            refine sq_gf rfl rfl rfl (fun hg => (Ry.yl (ry_field (o' := 0) rfl rfl))) ?_
            refine sq_gf rfl rfl rfl (fun hg => (Ry.yl (ry_field (o' := 1) (ev_c hg rfl) rfl))) ?_
            refine sq_gf rfl rfl rfl (fun hg => (Ry.yl (ry_cellc (ev_c hg rfl)))) ?_
            refine sq_gf rfl rfl rfl (fun hg => (Ry.yl (ry_int (ev_c hg rfl) (ev_c hg rfl) rfl))) ?_
            refine sq_r (ry_or rfl rfl rfl) ?_
            refine sq_r (ry_move rfl) ?_
            refine sq_gf rfl rfl rfl (fun hg => (Ry.yl (ry_field (o' := 1) rfl rfl))) ?_
            refine sq_gf rfl rfl rfl (fun hg => (Ry.yl (ry_cellc (ev_c hg rfl)))) ?_
            refine sq_gf rfl rfl rfl (fun hg => (Ry.yl (ry_field (o' := 18) rfl rfl))) ?_
            refine sq_gf rfl rfl rfl (fun hg => (Ry.yl (ry_cellc (ev_c hg rfl)))) ?_
            refine sq_gf rfl rfl rfl (fun hg => (Ry.yl (ry_int (ev_c hg rfl) (ev_c hg rfl) rfl))) ?_
            refine sq_r (ry_or rfl rfl rfl) ?_
            refine sq_nil ?_
            refine ex_then ?_
            refine cw_cond rfl (fun h5 => ?_) (fun h5 => ?_)
            · try simp only [bz0, bz1, bz2, bz3, bz4, bz5, bz6, bz7, bz8, bz9] at h5
              exfalso; simp [q1, q2, q3] at h5
            · try simp only [bz0, bz1, bz2, bz3, bz4, bz5, bz6, bz7, bz8, bz9] at h5
              refine cw_skip ?_
              refine ex_then ?_
              refine cw_seq ?_
              refine cw_seq ?_
              refine cw_region ?_
              refine sq_r (ry_move rfl) ?_
              refine sq_r (ry_int rfl rfl rfl) ?_
              refine sq_nil ?_
              refine ex_then ?_
              refine cw_cond rfl (fun h6 => ?_) (fun h6 => ?_)
              · try simp only [bz0, bz1, bz2, bz3, bz4, bz5, bz6, bz7, bz8, bz9] at h6
                refine cw_exit ?_
                refine ex_pass_exit ?_
                refine ex_block_hit ?_
                refine ex_then ?_
                refine cw_region ?_
                refine sq_r (ry_move rfl) ?_
                refine sq_r (ry_add rfl rfl (by omega)) ?_
                refine sq_r (ry_assign rfl) ?_
                refine sq_nil ?_
                exact ex_again (x := (i, K)) (i + 1, K) ⟨by first | omega | (simp only []; omega), hK, hF⟩ (by simp only; omega) (Sub.cons rfl (Sub.cons rfl (Sub.cons rfl (Sub.cons rfl (Sub.cons rfl (Sub.cons rfl (Sub.cons rfl (Sub.cons rfl (Sub.nil _))))))))) (fun w hw => Keep.mem hw)
              · try simp only [bz0, bz1, bz2, bz3, bz4, bz5, bz6, bz7, bz8, bz9] at h6
                have hk : walkOk bits (wholeN (pvs x56.xs)) e = true := by
                  cases hk : walkOk bits (wholeN (pvs x56.xs)) e with
                  | true => rfl
                  | false => exact absurd (by rw [findE, if_neg (by rw [hk]; simp)]) h6
                have hkc : kcut e bits = e := by rw [walkOk, Bool.and_eq_true, decide_eq_true_eq] at hk; exact hk.2
                obtain ⟨x1, x2, x3⟩ := hp101 hk
                rw [hK] at x1 x2
                have rm := fun hM => hset.room hkc (K := K) (by rw [hK]; exact hF) hM
                rw [hK] at rm
                rw [pvs_length] at rm
                have ewn : walkV x44.bits x44.ns.xs e = walkV bits (wholeN (pvs x56.xs)) e := by rw [eb, hwn]
                refine cw_skip ?_
                refine ex_then ?_
                refine cw_seq ?_
                refine cw_lin [5] [[], [], [], [], [], [], [5]] [0, 1, 2, 3, 4, 5, 6] _ (fun _ hw => hw) (by kernel_rfl) (by kernel_rfl) ?_
                refine ln_r rfl (ry_whole rfl) ?_
                refine ln_r rfl (ry_move rfl) ?_
                refine ln_r rfl (ry_move rfl) ?_
                refine ln_r rfl (ry_idxH rfl rfl i rfl (by omega)) ?_
                refine ln_r rfl (ry_elemH rfl i he rfl) ?_
                refine ln_st rfl (st_callC rfl trivial fun x139 hp139 => ⟨fun _ hw => Keep.mem hw, ?_⟩)
                refine ln_r rfl (ry_assign rfl) ?_
                refine ln_nil ?_
                refine ex_then ?_
                refine cw_seq ?_
                refine cw_seq ?_
                refine cw_quiet (by kernel_rfl) (by kernel_rfl) ?_
                refine qt_r (ry_field (o' := 4) rfl rfl) ?_
                refine qt_r (Ry.to (v' := .int .i64 ((runP bits (pvs x56.xs) (per.toNat % 8 + 1) K e (walkV bits (wholeN (pvs x56.xs)) e).length).2.1 : Int)) (ry_cellc rfl) rfl) ?_
                refine qt_r (ry_field (o' := 5) rfl rfl) ?_
                refine qt_r (Ry.to (v' := .int .i64 ((runP bits (pvs x56.xs) (per.toNat % 8 + 1) K e (walkV bits (wholeN (pvs x56.xs)) e).length).2.2 : Int)) (ry_cellc rfl) rfl) ?_
                refine qt_r (ry_add rfl rfl (by omega)) ?_
                refine qt_r (ry_move rfl) ?_
                refine qt_r (ry_lenH rfl) ?_
                refine qt_r (ry_int rfl rfl rfl) ?_
                refine qt_r (ry_move rfl) ?_
                refine qt_gf rfl rfl rfl (fun hg => (Ry.yl (ry_field (o' := 5) rfl rfl))) ?_
                refine qt_gf rfl rfl rfl (fun hg => (Ry.yl (ry_cellc (ev_c hg rfl)))) ?_
                refine qt_gf rfl rfl rfl (fun hg => (Ry.yl (ry_move rfl))) ?_
                refine qt_gf rfl rfl rfl (fun hg => (Ry.yl (ry_move rfl))) ?_
                refine qt_gf rfl rfl rfl (fun hg => yl_callC (evl_cons (ev_c hg rfl) (evl_cons (ev_c hg rfl) evl_nil)) h1000) ?_
                refine qt_gf rfl rfl rfl (fun hg => (Ry.yl (ry_int (ev_c hg rfl) (ev_c hg rfl) rfl))) ?_
                refine qt_gf rfl rfl rfl (fun hg => (Ry.yl (ry_move (ev_c hg rfl)))) ?_
                refine qt_nt rfl rfl rfl (fun hg => (Ry.yl (ry_field (o' := 0) rfl rfl))) ?_
                refine qt_nt rfl rfl rfl (fun hg => (Ry.yl (ry_cellc (ev_c hg rfl)))) ?_
                refine qt_nt rfl rfl rfl (fun hg => (Ry.yl (ry_move rfl))) ?_
                refine qt_nt rfl rfl rfl (fun hg => (Ry.yl (ry_move rfl))) ?_
                refine qt_nt rfl rfl rfl (fun hg => yl_callC (evl_cons (ev_c hg rfl) (evl_cons (ev_c hg rfl) evl_nil)) h1000) ?_
                refine qt_nt rfl rfl rfl (fun hg => (Ry.yl (ry_int (ev_c hg rfl) (ev_c hg rfl) rfl))) ?_
                refine qt_gf rfl rfl rfl (fun hg => (Ry.yl (ry_and (ev_c hg rfl) (ev_cc hg rfl) rfl))) ?_
                refine qt_r (ry_or rfl rfl rfl) ?_
                refine qt_nil ?_
                refine ex_then ?_
                refine cw_cond rfl (fun h7 => ?_) (fun h7 => ?_)
                · try simp only [bz0, bz1, bz2, bz3, bz4, bz5, bz6, bz7, bz8, bz9] at h7
                  exfalso
                  rw [ewn, hK] at h7
                  rcases h7 with h | ⟨h, h9⟩
                  · omega
                  · have := (rm h9).1; omega
                · try simp only [bz0, bz1, bz2, bz3, bz4, bz5, bz6, bz7, bz8, bz9] at h7
                  refine cw_skip ?_
                  refine ex_then ?_
                  refine cw_seq ?_
                  refine cw_region ?_
                  refine sq_r (ry_field (o' := 2) rfl rfl) ?_
                  refine sq_r (ry_part rfl) ?_
                  refine sq_storeW rfl rfl ?_
                  refine sq_nil ?_
                  refine ex_then ?_
                  refine cw_seq ?_
                  refine cw_quiet (by kernel_rfl) (by kernel_rfl) ?_
                  refine qt_r (ry_field (o' := 0) rfl rfl) ?_
                  refine qt_r (ry_cellc rfl) ?_
                  refine qt_r (ry_move rfl) ?_
                  refine qt_r (ry_move rfl) ?_
                  refine qt_y (yl_callC rfl h1000) ?_
                  refine qt_r (ry_int rfl rfl rfl) ?_
                  refine qt_nil ?_
                  refine ex_then ?_
                  refine cw_cond rfl (fun h8 => ?_) (fun h8 => ?_)
                  · try simp only [bz0, bz1, bz2, bz3, bz4, bz5, bz6, bz7, bz8, bz9] at h8
                    have rr := (rm (by rw [← x1]; exact h8)).2 x101 x1 x3
                    refine cw_seq ?_
                    refine cw_linE [8, 12, 13, 1003, 2012, 4008] [[], [], [], [], [], [], [], [], [3], [3, 8], [3, 8], [3, 8], [], [3, 8, 12], [3, 8, 12, 13]] [0, 1, 2, 3, 4, 5, 6, 7, 8, 9, 10, 11, 12, 13, 14] [] [(12, alM Try.prog 45)] (by kernel_rfl) (fun _ hw => Keep.mem hw) (by kernel_rfl) (by kernel_rfl) ?_
                    refine ln_r rfl (ry_move rfl) ?_
                    refine ln_r rfl (ry_move rfl) ?_
                    refine ln_r rfl (ry_move rfl) ?_
                    refine lt_r rfl (ry_whole rfl) ?_
                    refine ln_r rfl (ry_move rfl) ?_
                    refine ln_r rfl (ry_move rfl) ?_
                    refine ln_r rfl (ry_idxH rfl rfl i rfl (by omega)) ?_
                    refine ln_r rfl (ry_elemH rfl i he rfl) ?_
                    refine ln_callF rfl rfl ⟨⟨_, hpg⟩, by rw [x1]; exact x2⟩ (fun e x w hw => Keep.mem hw) (Cert.one (i := 12) rfl rfl rfl makes_al (Cert.none rfl)) fun x181 hp181 => ⟨fun _ hw => Keep.mem hw, ?_⟩
                    refine ln_r rfl (ry_move rfl) ?_
                    refine ln_r rfl (ry_extract (v := .agg (rchcells (⟨findN bits (wholeN (pvs x56.xs)) e, findH bits (wholeN (pvs x56.xs)) e, x181, ((runP bits (pvs x56.xs) (per.toNat % 8 + 1) ((⟨findN bits (wholeN (pvs x56.xs)) e, findH bits (wholeN (pvs x56.xs)) e, x101, ((runP bits (pvs x56.xs) (per.toNat % 8 + 1) K e (walkV bits (wholeN (pvs x56.xs)) e).length).2.1 : Int), ((runP bits (pvs x56.xs) (per.toNat % 8 + 1) K e (walkV bits (wholeN (pvs x56.xs)) e).length).2.2 : Int)⟩ : Rch).kept) e (walkV bits (wholeN (pvs x56.xs)) e).length).2.1 : Int), ((runP bits (pvs x56.xs) (per.toNat % 8 + 1) ((⟨findN bits (wholeN (pvs x56.xs)) e, findH bits (wholeN (pvs x56.xs)) e, x101, ((runP bits (pvs x56.xs) (per.toNat % 8 + 1) K e (walkV bits (wholeN (pvs x56.xs)) e).length).2.1 : Int), ((runP bits (pvs x56.xs) (per.toNat % 8 + 1) K e (walkV bits (wholeN (pvs x56.xs)) e).length).2.2 : Int)⟩ : Rch).kept) e (walkV bits (wholeN (pvs x56.xs)) e).length).2.2 : Int)⟩ : Rch))) rfl rfl) ?_
                    refine ln_r rfl (ry_extract (v := .int .i64 (findE bits (wholeN (pvs x56.xs)) e)) rfl rfl) ?_
                    refine ln_mk (m := alM Try.prog 45) rfl rfl makes_al (Cert.none rfl) fun b24 => ?_
                    change Ln _ _ _ _ _ _ _ _ (putE _ _ (.pointer (some ⟨b24, 0, none⟩))) (blk b24 (rchcells zrch) 45 :: _) _
                    refine ln_st rfl (st_storeW rfl rfl ⟨fun _ hw => Keep.mem hw, ?_⟩)
                    refine ln_r rfl (ry_assign rfl) ?_
                    refine ln_nil ?_
                    refine ex_then ?_
                    refine cw_seq ?_
                    refine cw_region ?_
                    refine sq_r (ry_field (o' := 5) rfl rfl) ?_
                    refine sq_r (ry_cellc rfl) ?_
                    refine sq_r (ry_int rfl rfl rfl) ?_
                    refine sq_r (ry_move rfl) ?_
                    refine sq_gf rfl rfl rfl (fun hg => (Ry.yl (ry_field (o' := 4) rfl rfl))) ?_
                    refine sq_gf rfl rfl rfl (fun hg => (Ry.yl (ry_cellc (ev_c hg rfl)))) ?_
                    refine sq_gf rfl rfl rfl (fun hg => (Ry.yl (ry_move rfl))) ?_
                    refine sq_gf rfl rfl rfl (fun hg => (Ry.yl (ry_lenH (ev_c hg rfl)))) ?_
                    refine sq_gf rfl rfl rfl (fun hg => (Ry.yl (ry_int (ev_c hg rfl) (ev_c hg rfl) rfl))) ?_
                    refine sq_r (ry_or rfl rfl rfl) ?_
                    refine sq_r (ry_move rfl) ?_
                    refine sq_gf rfl rfl rfl (fun hg => (Ry.yl (ry_field (o' := 0) rfl rfl))) ?_
                    refine sq_gf rfl rfl rfl (fun hg => (Ry.yl (ry_cellc (ev_c hg rfl)))) ?_
                    refine sq_gf rfl rfl rfl (fun hg => (Ry.yl (ry_field (o' := 0) rfl rfl))) ?_
                    refine sq_gf rfl rfl rfl (fun hg => (Ry.yl (ry_cellc (ev_c hg rfl)))) ?_
                    refine sq_gf rfl rfl rfl (fun hg => (Ry.yl (ry_int (ev_c hg rfl) (ev_c hg rfl) rfl))) ?_
                    refine sq_r (ry_or rfl rfl rfl) ?_
                    refine sq_r (ry_move rfl) ?_
                    refine sq_gf rfl rfl rfl (fun hg => (Ry.yl (ry_field (o' := 1) rfl rfl))) ?_
                    refine sq_gf rfl rfl rfl (fun hg => (Ry.yl (ry_cellc (ev_c hg rfl)))) ?_
                    refine sq_gf rfl rfl rfl (fun hg => (Ry.yl (ry_field (o' := 1) rfl rfl))) ?_
                    refine sq_gf rfl rfl rfl (fun hg => (Ry.yl (ry_cellc (ev_c hg rfl)))) ?_
                    refine sq_gf rfl rfl rfl (fun hg => (Ry.yl (ry_int (ev_c hg rfl) (ev_c hg rfl) rfl))) ?_
                    refine sq_r (ry_or rfl rfl rfl) ?_
                    refine sq_nil ?_
                    refine ex_then ?_
                    refine cw_cond rfl (fun h9 => ?_) (fun h9 => ?_)
                    · try simp only [bz0, bz1, bz2, bz3, bz4, bz5, bz6, bz7, bz8, bz9] at h9
                      exfalso
                      rw [ewn] at h9
                      rw [rr.1, rr.2] at h9
                      simp at h9
                    · try simp only [bz0, bz1, bz2, bz3, bz4, bz5, bz6, bz7, bz8, bz9] at h9
                      refine cw_skip ?_
                      refine ex_block ?_
                      refine ex_then ?_
                      refine cw_region ?_
                      refine sq_r (ry_move rfl) ?_
                      refine sq_r (ry_add rfl rfl (by omega)) ?_
                      refine sq_r (ry_assign rfl) ?_
                      refine sq_nil ?_
                      exact ex_again (x := (i, K)) (i + 1, x101) ⟨by first | omega | (simp only []; omega), x1, x2⟩ (by simp only; omega) (Sub.cons rfl (Sub.cons rfl (Sub.cons rfl (Sub.cons rfl (Sub.cons rfl (Sub.cons rfl (Sub.cons rfl (Sub.cons rfl (Sub.nil _))))))))) (fun w hw => Keep.mem hw)
                  · try simp only [bz0, bz1, bz2, bz3, bz4, bz5, bz6, bz7, bz8, bz9] at h8
                    refine cw_skip ?_
                    refine ex_block ?_
                    refine ex_then ?_
                    refine cw_region ?_
                    refine sq_r (ry_move rfl) ?_
                    refine sq_r (ry_add rfl rfl (by omega)) ?_
                    refine sq_r (ry_assign rfl) ?_
                    refine sq_nil ?_
                    exact ex_again (x := (i, K)) (i + 1, x101) ⟨by first | omega | (simp only []; omega), x1, x2⟩ (by simp only; omega) (Sub.cons rfl (Sub.cons rfl (Sub.cons rfl (Sub.cons rfl (Sub.cons rfl (Sub.cons rfl (Sub.cons rfl (Sub.cons rfl (Sub.nil _))))))))) (fun w hw => Keep.mem hw)
          · try simp only [bz0, bz1, bz2, bz3, bz4, bz5, bz6, bz7, bz8, bz9] at h4
            have hz : kright K.most (kvs K.items.xs) = true := by rw [hK]; exact hF.right
            refine cw_exit ?_
            refine ex_pass_exit ?_
            refine ex_pass_exit ?_
            refine ex_block_hit ?_
            refine ex_then ?_
            refine cw_seq ?_
            refine cw_region ?_
            refine sq_r (ry_whole rfl) ?_
            refine sq_y (yl_callC rfl trivial) ?_
            refine sq_r (ry_assign rfl) ?_
            refine sq_nil ?_
            refine ex_then ?_
            refine cw_ret ?_
            refine ex_ret (.inl rfl) (res_1 rfl (rv_tmp rfl)) (fun w1 hw => ?_)
            exact ⟨congrArg (fun b => Ending.returned (Value.bool b)) (hz), Keep.mem hw⟩

end Go.Proofs.Ytklhkejhndnhbaa

/- The law PagedSame holds: a trie of a table as pages finds what the table finds, whatever was kept; hits and misses are as many as nodes are on the way; the same key again misses nothing, if all pages that it needs may be kept. It holds of all arguments that can be read; its arguments read behind the call as they did. -/
namespace Go.Proofs.Ytklhkejhndnhbaa
open Go.Eng Go.Kb Go.ChangeShapes Go.WideShapes Go.ChangeAt Go.RowKit

theorem Try.own : ownKnob Try.prog.godebug = none := by kernel_rfl
theorem Try.laidOut : laidOutB Try.prog = true := by kernel_rfl
set_option maxRecDepth 100000 in
theorem pagedSame_call {H : Type} {enc : TypeId × Value → H} (W : World) (base : Nat) (vs : List Value) (hl : vs.length = 5) (h : ∀ (j : Nat) t v, Try.f4.params[j]? = some t → vs[j]? = some v → Arg H enc Try.prog W base t v) :
    Calls Try.prog 4 vs.toArray W fun e W' => e = .returned (.bool true) ∧ Mem W [] W' := by
  rw [Try.params4] at h
  obtain ⟨v0, v1, v2, v3, v4, rfl⟩ := list5 hl
  obtain ⟨x0, rfl, g0⟩ := (h 0 22 v0 rfl rfl).sl Try.underlying22 Rt
  obtain ⟨x1, rfl, b1⟩ := int_of_okWide (t := 3) Try.underlying3 (h 1 3 v1 rfl rfl).ok
  obtain ⟨x2, rfl⟩ := u8_of_okWide2 (t := 5) Try.underlying5 (h 2 5 v2 rfl rfl).ok
  obtain ⟨x3, rfl⟩ := u8_of_okWide2 (t := 5) Try.underlying5 (h 3 5 v3 rfl rfl).ok
  obtain ⟨x4, rfl, g4⟩ := (h 4 53 v4 rfl rfl).sl Try.underlying53 Key
  exact pagedSame_c W x0.sv x0.xs x1 x2 x3 x4.sv x4.xs g0.1 g4.1
set_option maxRecDepth 100000 in
theorem pagedSame_lifted (os : Os) (started : os.Started) (H : Type) (enc : TypeId × Value → H) :
    ReturnsInHanded {} Try.checked os 4 .any (Rows.pagedSameSpec.pre6 enc Try.prog Try.f4 Rows.pagedSameRow.domain false) (Rows.pagedSameSpec.post enc Try.prog Try.f4 false true false false) :=
  lifted_true2 (C := Try.checked) Try.own started (by kernel_rfl) Try.func4
    (ChangeSpec.witness6 (enc := enc) (C := Try.checked) false ⟨#[], #[.slice none 0 0, .int .i64 0, .int .u8 0, .int .u8 0, .slice none 0 0], []⟩ 24 (by kernel_rfl) (by kernel_rfl) (by kernel_rfl) (by kernel_rfl))
    Try.laidOut (by kernel_rfl) rfl Try.underlying4 rfl (fun ds hd => by obtain ⟨d0, d1, d2, d3, d4, rfl⟩ := list5 (hd.trans (by kernel_rfl)); rfl)
    (fun W base vs hl h => pagedSame_call W base vs (hl.trans (by kernel_rfl)) h)
theorem pagedSame_holds : Rows.PagedSameSaid :=
  OpenClaim.holds_of_wide 4 Try.f4 rfl rfl rfl rfl rfl rfl rfl ⟨rfl, rfl, rfl, rfl, rfl⟩ rfl rfl rfl rfl rfl (by kernel_rfl) Try.func4 (by kernel_rfl)
    (of_decide_eq_true (by kernel_rfl)) (by unfold Func.isWrapper; first | (rw [if_pos (by decide +kernel)]; kernel_rfl) | (rw [if_neg (by decide +kernel)]; exact ⟨rfl, rfl⟩))
    (fun os started H enc _ => pagedSame_lifted os started H enc)

end Go.Proofs.Ytklhkejhndnhbaa


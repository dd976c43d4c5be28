/- A volume's writer, by what each step makes of its chip. No program in sight. -/
import Derived.Test.YtaipiecplldinaaGreatC2
import Derived.Test.YtaipiecplldinaaGreatC1
set_option maxRecDepth 20000

set_option linter.unusedSimpArgs false
set_option linter.unusedVariables false
namespace Go.Kb
open Go.Eng
/-! Chips of one shape. -/
structure Like (c d : CV) : Prop where
 pages : d.pages = c.pages
 size : d.size = c.size
 len : d.blocks.length = c.blocks.length
theorem Like.rfl' (c : CV) : Like c c := ⟨rfl, rfl, rfl⟩
theorem Like.trans {c d e : CV} (h : Like c d) (g : Like d e) : Like c e := ⟨g.pages.trans h.pages, g.size.trans h.size, g.len.trans h.len⟩
theorem like_prog (c : CV) (b g : Int) (p : List UInt8) : Like c (programF c b g p) := by
 rw [programF]; split
 ·
  exact ⟨rfl, rfl, by simp [progC]⟩
 ·
  exact .rfl' c
theorem like_erase (c : CV) (b : Int) : Like c (eraseF c b) := by
 rw [eraseF]; split
 ·
  exact ⟨rfl, rfl, by simp [eraseC]⟩
 ·
  exact .rfl' c
theorem like_mark (c : CV) (b : Int) : Like c (markF c b) := by
 rw [markF]; split
 ·
  exact ⟨rfl, rfl, by simp⟩
 ·
  exact .rfl' c
theorem ok_set {c : CV} (h : chipOk c = true) {o : Int} {f : Bool} (h0 : 0 ≤ o) (h1 : o ≤ ctop) {i : Nat} {B : BV} (hB : bkOk c.pages c.size B = true) : chipOk { c with ops := o, off := f, blocks := c.blocks.set i B } = true := by
 obtain ⟨k1, k2, k3, k4, k5⟩ := chipOk_iff.1 h
 refine chipOk_iff.2 ⟨by simpa using k1, h0, h1, k4, fun b hb => ?_⟩
 rcases List.mem_or_eq_of_mem_set hb with hb | rfl
 ·
  exact k5 b hb
 ·
  exact hB
theorem ok_prog {c : CV} (h : chipOk c = true) (b g : Int) (p : List UInt8) : chipOk (programF c b g p) = true := by
 rw [programF]; split
 ·
  rename_i hk
  obtain ⟨k1, k2, k3, k4⟩ := hk
  obtain ⟨j1, j2, j3, j4, j5⟩ := progOk_iff.1 k1
  obtain ⟨o1, o2, o3, o4, o5, o6⟩ := bkOk_iff.1 (blkAt_ok j1)
  have := (chipOk_iff.1 h).2.1
  refine ok_set h (by omega) (by omega) (bkOk_iff.2 ⟨by simpa using o1, by simp only; omega, by simp only; omega, o4, o5, fun x hx => ?_⟩)
  rcases List.mem_or_eq_of_mem_set hx with hx | rfl
  ·
   exact o6 x hx
  ·
   rw [progP]; split
   ·
    simpa [hurt] using j4
   ·
    exact j4
 ·
  exact h
theorem ok_erase {c : CV} (h : chipOk c = true) (b : Int) : chipOk (eraseF c b) = true := by
 rw [eraseF]; split
 ·
  rename_i hk
  obtain ⟨k1, k2, k3⟩ := hk
  obtain ⟨j1, j2, j3⟩ := eraseOk_iff.1 k1
  obtain ⟨o1, o2, o3, o4, o5, o6⟩ := bkOk_iff.1 (blkAt_ok j1)
  have := (chipOk_iff.1 h).2.1
  have hs := soundF_iff.1 (chipOk_iff.1 h).1
  have hl : (erasePg c (blkAt c b).pages).length = (blkAt c b).pages.length := by rw [erasePg]; split <;> simp
  refine ok_set h (by omega) (by omega) (bkOk_iff.2 ⟨by rw [hl]; exact o1, ?_, ?_, by simp only; omega, by simp only; omega, fun x hx => ?_⟩)
  ·
   simp only; split <;> omega
  ·
   simp only; split <;> omega
  ·
   rw [erasePg] at hx
   split at hx
   ·
    obtain ⟨y, hy, rfl⟩ := List.mem_map.1 hx
    simpa [hurt] using o6 y hy
   ·
    obtain ⟨y, hy, rfl⟩ := List.mem_map.1 hx
    simp only [blankP, List.length_replicate]; omega
 ·
  exact h
theorem ok_mark {c : CV} (h : chipOk c = true) (b : Int) : chipOk (markF c b) = true := by
 rw [markF]; split
 ·
  rename_i hk
  have hh : hasF c b = true := by
   rw [markE] at hk
   split at hk
   ·
    assumption
   ·
    cases hk
  obtain ⟨o1, o2, o3, o4, o5, o6⟩ := bkOk_iff.1 (blkAt_ok hh)
  have k := chipOk_iff.1 h
  exact ok_set (o := c.ops) (f := c.off) h k.2.1 k.2.2.1 (bkOk_iff.2 ⟨o1, o2, o3, o4, o5, o6⟩)
 ·
  exact h
/-! Steps of a writer, of its chip. -/
def freeF (c : CV) (b : Int) : Int := if (blkAt c b).bad = true then 0 else c.pages - (blkAt c b).used
def markW (c : CV) (b e : Int) : CV := if e = 9 then markF c b else c
def progWE (c : CV) (b : Int) (p : List UInt8) : Int := progE c b (blkAt c b).used p
def progW (c : CV) (b : Int) (p : List UInt8) : CV := markW (programF c b (blkAt c b).used p) b (progWE c b p)
def erasW (c : CV) (b : Int) : CV := markW (eraseF c b) b (eraseE c b)
def clrPg (c : CV) : List UInt8 := (putF ⟨1, 0, 0, []⟩ c.size).1
def clrTo : Nat → CV → Int → CV × Int
 | 0, c, b => (erasW c b, eraseE c b)
 | n + 1, c, b => if progWE c b (clrPg c) ≠ 0 then (progW c b (clrPg c), progWE c b (clrPg c)) else clrTo n (progW c b (clrPg c)) b
def clrF (c : CV) (b : Int) : CV × Int := clrTo (freeF c b).toNat c b
theorem markW_ok {c : CV} (h : chipOk c = true) (b e : Int) : chipOk (markW c b e) = true := by
 rw [markW]; split
 ·
  exact ok_mark h b
 ·
  exact h
theorem markW_like (c : CV) (b e : Int) : Like c (markW c b e) := by
 rw [markW]; split
 ·
  exact like_mark c b
 ·
  exact .rfl' c
theorem progW_ok {c : CV} (h : chipOk c = true) (b : Int) (p : List UInt8) : chipOk (progW c b p) = true := markW_ok (ok_prog h _ _ _) _ _
theorem progW_like (c : CV) (b : Int) (p : List UInt8) : Like c (progW c b p) := (like_prog _ _ _ _).trans (markW_like _ _ _)
theorem erasW_ok {c : CV} (h : chipOk c = true) (b : Int) : chipOk (erasW c b) = true := markW_ok (ok_erase h _) _ _
theorem erasW_like (c : CV) (b : Int) : Like c (erasW c b) := (like_erase _ _).trans (markW_like _ _ _)
theorem clrTo_ok : ∀ (n : Nat) {c : CV} (b : Int), chipOk c = true → chipOk (clrTo n c b).1 = true ∧ Like c (clrTo n c b).1
 | 0, c, b, h => ⟨erasW_ok h b, erasW_like c b⟩
 | n + 1, c, b, h => by
  rw [clrTo]; split
  ·
   exact ⟨progW_ok h _ _, progW_like _ _ _⟩
  ·
   have := clrTo_ok n b (progW_ok h b (clrPg c))
   exact ⟨this.1, (progW_like _ _ _).trans this.2⟩
theorem clrF_ok {c : CV} (b : Int) (h : chipOk c = true) : chipOk (clrF c b).1 = true ∧ Like c (clrF c b).1 := clrTo_ok _ b h
theorem progWE_zero {c : CV} {b : Int} {p : List UInt8} (h : progWE c b p = 0) : progOk c b (blkAt c b).used p = true ∧ c.off = false ∧ (blkAt c b).bad = false ∧ (strikesF c).2 = false ∧ progW c b p = progC c b (blkAt c b).used p := by
 have h0 := h
 rw [progWE, progE] at h
 by_cases h1 : progOk c b (blkAt c b).used p = true
 ·
  rw [if_pos h1] at h
  by_cases h2 : c.off = true
  ·
   rw [if_pos h2] at h; cases h
  ·
   rw [if_neg h2] at h
   by_cases h3 : (blkAt c b).bad = true ∨ (blkAt c b).used ≠ (blkAt c b).used
   ·
    rw [if_pos h3] at h; cases h
   ·
    rw [if_neg h3] at h
    have h3' : (blkAt c b).bad = false := by
     cases hb : (blkAt c b).bad with
     | false => rfl
     | true => exact absurd (.inl hb) h3
    by_cases h4 : (strikesF c).2 = true
    ·
     rw [if_pos h4, struckE] at h
     split at h <;> cases h
    ·
     refine ⟨h1, by simpa using h2, h3', by simpa using h4, ?_⟩
     rw [progW, markW, h0, if_neg (by decide), programF, if_pos ⟨h1, by simpa using h2, h3', rfl⟩]
 ·
  rw [if_neg h1] at h; cases h
theorem blkAt_set {c : CV} {b : Int} (h : hasF c b = true) {o : Int} {f : Bool} {B : BV} : blkAt { c with ops := o, off := f, blocks := c.blocks.set b.toNat B } b = B := by
 obtain ⟨_, h2, h3⟩ := hasF_iff.1 h
 simp only [blkAt, List.getD, List.getElem?_set_self (show b.toNat < c.blocks.length by omega), Option.getD_some]
theorem progC_free {c : CV} {b : Int} {p : List UInt8} (h : progWE c b p = 0) : freeF (progW c b p) b = freeF c b - 1 := by
 obtain ⟨h1, h2, h3, h4, h5⟩ := progWE_zero h
 have hh := (progOk_iff.1 h1).1
 rw [h5, freeF, freeF, progC, blkAt_set hh]
 simp only [h3]
 simp only [Bool.false_eq_true, if_false]; omega
theorem clrF_step {c : CV} {b : Int} (h : 0 < freeF c b) : clrF c b = if progWE c b (clrPg c) ≠ 0 then (progW c b (clrPg c), progWE c b (clrPg c)) else clrF (progW c b (clrPg c)) b := by
 obtain ⟨n, hn⟩ : ∃ n, (freeF c b).toNat = n + 1 := ⟨(freeF c b).toNat - 1, by omega⟩
 rw [clrF, hn, clrTo]
 split
 ·
  rfl
 ·
  rename_i h0
  have h0' : progWE c b (clrPg c) = 0 := by simpa using h0
  rw [clrF, progC_free h0', show (freeF c b - 1).toNat = n by omega]
theorem clrF_end {c : CV} {b : Int} (h : ¬ 0 < freeF c b) : clrF c b = (erasW c b, eraseE c b) := by
 rw [clrF, show (freeF c b).toNat = 0 by omega]; rfl
/-! How many operations there were. -/
theorem ops_mark (c : CV) (b e : Int) : (markW c b e).ops = c.ops := by
 rw [markW]; split
 ·
  rw [markF]; split <;> rfl
 ·
  rfl
theorem ops_prog (c : CV) (b g : Int) (p : List UInt8) : c.ops ≤ (programF c b g p).ops := by
 rw [programF]; split
 ·
  simp only [progC]; omega
 ·
  omega
theorem ops_erase (c : CV) (b : Int) : c.ops ≤ (eraseF c b).ops := by
 rw [eraseF]; split
 ·
  simp only [eraseC]; omega
 ·
  omega
theorem ops_progW {c : CV} {b : Int} {p : List UInt8} (hb : (blkAt c b).bad = false) (he : progWE c b p = 9 ∨ progWE c b p = 0) : (progW c b p).ops = c.ops + 1 := by
 rw [progW, ops_mark, programF]
 rw [progWE, progE] at he
 by_cases h1 : progOk c b (blkAt c b).used p = true
 ·
  rw [if_pos h1] at he
  by_cases h2 : c.off = true
  ·
   rw [if_pos h2] at he; omega
  ·
   rw [if_pos ⟨h1, by simpa using h2, hb, rfl⟩]; rfl
 ·
  rw [if_neg h1] at he; omega
theorem ops_erasW {c : CV} {b : Int} (hb : (blkAt c b).bad = false) (he : eraseE c b = 9 ∨ eraseE c b = 0) : (erasW c b).ops = c.ops + 1 := by
 rw [erasW, ops_mark, eraseF]
 rw [eraseE] at he
 by_cases h1 : eraseOk c b = true
 ·
  rw [if_pos h1] at he
  by_cases h2 : c.off = true
  ·
   rw [if_pos h2] at he; omega
  ·
   rw [if_pos ⟨h1, by simpa using h2, hb⟩]; rfl
 ·
  rw [if_neg h1] at he; omega
theorem progW_bad0 {c : CV} {b : Int} {p : List UInt8} (h : progWE c b p = 0) : (blkAt (progW c b p) b).bad = false := by
 obtain ⟨h1, h2, h3, h4, h5⟩ := progWE_zero h
 rw [h5, progC, blkAt_set (progOk_iff.1 h1).1]; exact h3
theorem ops_progW_le (c : CV) (b : Int) (p : List UInt8) : c.ops ≤ (progW c b p).ops := by rw [progW, ops_mark]; exact ops_prog _ _ _ _
theorem ops_erasW_le (c : CV) (b : Int) : c.ops ≤ (erasW c b).ops := by rw [erasW, ops_mark]; exact ops_erase _ _
theorem ops_clrTo_le : ∀ (n : Nat) (c : CV) (b : Int), c.ops ≤ (clrTo n c b).1.ops
 | 0, c, b => ops_erasW_le c b
 | n + 1, c, b => by
  rw [clrTo]; split
  ·
   exact ops_progW_le _ _ _
  ·
   have := ops_clrTo_le n (progW c b (clrPg c)) b
   have := ops_progW_le c b (clrPg c)
   omega
theorem ops_clrTo : ∀ (n : Nat) {c : CV} {b : Int}, (blkAt c b).bad = false → (clrTo n c b).2 = 9 ∨ (clrTo n c b).2 = 0 → c.ops < (clrTo n c b).1.ops
 | 0, c, b, hb, he => by have := ops_erasW hb he; simp only [clrTo]; omega
 | n + 1, c, b, hb, he => by
  rw [clrTo] at he ⊢
  by_cases h0 : progWE c b (clrPg c) ≠ 0
  ·
   rw [if_pos h0] at he ⊢
   have := ops_progW hb (p := clrPg c) (he.imp id fun h => h)
   simp only; omega
  ·
   rw [if_neg h0] at he ⊢
   have h0' : progWE c b (clrPg c) = 0 := by simpa using h0
   have := ops_clrTo n (progW_bad0 h0') he
   have := ops_progW_le c b (clrPg c)
   omega
theorem ops_clrF {c : CV} {b : Int} (hb : (blkAt c b).bad = false) (he : (clrF c b).2 = 9 ∨ (clrF c b).2 = 0) : c.ops < (clrF c b).1.ops := ops_clrTo _ hb he
/-! What is told of blocks. -/
def badWea : Wea := ⟨0, 0, 0, true⟩
def tellW (x : Wea) : Wea := if x.bad = true then badWea else x
def blksF (c : CV) (fl : List Int) : List Wea := (knownF c fl).map tellW
def onlyT (R : Wea → Bool) (x : Wea) : Wea := if x.bad = true ∨ R x = false then badWea else x
def onlyF (R : Wea → Bool) (l : List Wea) : List Wea := l.map (onlyT R)
theorem blksF_len (c : CV) (fl : List Int) : (blksF c fl).length = c.blocks.length - 2 := by rw [blksF, List.length_map, knownF, knownTo_len]
theorem onlyF_len (R : Wea → Bool) (l : List Wea) : (onlyF R l).length = l.length := by simp [onlyF]
end Go.Kb

/- A volume's writer: its roots, its blocks; what makes room. No program in sight. -/
namespace Go.Kb
open Go.Eng
structure WV where
 v : VV
 beyond : Bool
 deriving DecidableEq
def WV.on (x : WV) (c : CV) : WV := { x with v := { x.v with chip := c } }
theorem blk_of {c : Cp} {b : Int} {B : Bk} (h : c.blocks.xs[b.toNat]? = some B) : blkAt (cv c) b = bv B := by
 rw [← blkAt_eq]; simp [List.getD, h]
def badsF (c : CV) : Nat := (c.blocks.filter fun b => b.bad).length
def rootG (p : List UInt8) : Nat := if (rreadF p).2 = 0 then (rreadF p).1.gen else 0
def greatL (l : List (List UInt8)) : Nat := l.foldl (fun m p => max m (rootG p)) 0
def greatF (c : CV) (b : Int) : Nat := greatL (blkAt c b).pages
theorem greatL_snoc {l : List (List UInt8)} {i : Nat} {p : List UInt8} (h : l[i]? = some p) : greatL (l.take (i + 1)) = max (greatL (l.take i)) (rootG p) := by
 rw [greatL, List.take_add_one, h]; simp [greatL]
theorem readF_gen (b : List UInt8) : (readF b).1.gen < 281474976710656 := by
 have := headP_lt b
 rw [readF]
 split
 ·
  simp [zPV]
 ·
  split
  ·
   simp [zPV]
  ·
   split
   ·
    simp [zPV]
   ·
    split
    ·
     simp [zPV]
    ·
     split
     ·
      simp [zPV]
     ·
      exact this
theorem rootG_lt (p : List UInt8) : rootG p < 281474976710656 := by
 rw [rootG]; split
 ·
  rw [rreadF]; split
  ·
   simp [zRV]
  ·
   split
   ·
    simp [zRV]
   ·
    split
    ·
     simp [zRV]
    ·
     exact readF_gen p
 ·
  omega
theorem greatL_lt (l : List (List UInt8)) : greatL l < 281474976710656 := by
 have : ∀ (l : List (List UInt8)) (m : Nat), m < 281474976710656 → l.foldl (fun m p => max m (rootG p)) m < 281474976710656 := by
  intro l
  induction l with
  | nil => intro m h; exact h
  | cons p r ih =>
   intro m h
   have := rootG_lt p
   exact ih _ (Nat.max_lt.2 ⟨h, this⟩)
 exact this l 0 (by omega)
def staleF (c : CV) (b : Int) : Bool := !(blkAt c b).bad && (decide (0 < (blkAt c b).used) || (decide (b < 2) && decide (0 < greatF c b)))
def firstG (c : CV) (b : Int) : Nat := max 1 (greatF c (1 - b) + (1 - b).toNat)
def placesF (c : CV) (last : Int) : Int := if (blkAt c (1 - last)).bad = true then freeF c last else if (blkAt c last).bad = true ∧ 0 < freeF c (1 - last) then freeF c (1 - last) else c.pages
def finalF (g : Nat) : Bool := decide (281474976710656 ≤ g + 2)
def settF (e : Int) : Int := if e = 9 then 0 else e
theorem map_step {f : Wea → Wea} {l : List Wea} {i : Nat} {x : Wea} (h : l[i]? = some x) : ((l.take i).map f ++ l.drop i).set i (f x) = (l.take (i + 1)).map f ++ l.drop (i + 1) := by
 have hi := (List.getElem?_eq_some_iff.1 h).1
 have hl : ((l.take i).map f).length = i := by rw [List.length_map, List.length_take]; omega
 rw [List.set_append_right _ _ (by omega), hl, Nat.sub_self, drop_at h, List.set_cons_zero, List.take_add_one, h]
 simp
theorem map_skip {f : Wea → Wea} {l : List Wea} {i : Nat} {x : Wea} (h : l[i]? = some x) (hf : f x = x) : (l.take i).map f ++ l.drop i = (l.take (i + 1)).map f ++ l.drop (i + 1) := by
 rw [drop_at h, List.take_add_one, h]
 simp [hf]
theorem map_get {f : Wea → Wea} {l : List Wea} {i : Nat} {x : Wea} (h : l[i]? = some x) : ((l.take i).map f ++ l.drop i)[i]? = some x := by
 have hi := (List.getElem?_eq_some_iff.1 h).1
 have hl : ((l.take i).map f).length = i := by rw [List.length_map, List.length_take]; omega
 rw [List.getElem?_append_right (by omega), hl, Nat.sub_self, List.getElem?_drop, Nat.add_zero, h]
theorem bads_snoc {l : List BV} {i : Nat} {x : BV} (h : l[i]? = some x) : ((l.take (i + 1)).filter fun b => b.bad).length = ((l.take i).filter fun b => b.bad).length + (if x.bad = true then 1 else 0) := by
 rw [List.take_add_one, h, List.filter_append, List.length_append]
 congr 1
 simp only [Option.toList_some, List.filter_cons, List.filter_nil]
 split <;> simp_all
end Go.Kb

/- A volume's writer: where the next page goes. No program in sight. -/
namespace Go.Kb
open Go.Eng
def NmOk (c : CV) (l : List Int) : Prop := ∀ n ∈ l, n = 0 ∨ (1 ≤ n ∧ 2 ≤ (n - 1) / c.pages ∧ (n - 1) / c.pages < (c.blocks.length : Int))
theorem NmOk.like {c d : CV} {l : List Int} (h : NmOk c l) (g : Like c d) : NmOk d l := fun n hn => by
  rcases h n hn with h | h
  · exact .inl h
  · exact .inr (by rw [g.pages, g.len]; exact h)
theorem NmOk.append {c : CV} {a b : List Int} (h : NmOk c a) (g : NmOk c b) : NmOk c (a ++ b) := fun n hn => (List.mem_append.1 hn).elim (h n) (g n)
theorem chip_dims {c : CV} (h : chipOk c = true) : 1 ≤ (c.blocks.length : Int) ∧ (c.blocks.length : Int) ≤ 32 ∧ 1 ≤ c.pages ∧ c.pages ≤ 16 ∧ 1 ≤ c.size ∧ c.size ≤ 256 := soundF_iff.1 (chipOk_iff.1 h).1
theorem num_le {n p b : Int} (hp : 1 ≤ p) (hp2 : p ≤ 16) (hb : b ≤ 32) (h : (n - 1) / p < b) : n ≤ 512 := by
  have h1 : n - 1 = p * ((n - 1) / p) + (n - 1) % p := (Int.mul_ediv_add_emod (n - 1) p).symm
  have h2 := Int.emod_lt_of_pos (n - 1) (show 0 < p by omega)
  have h3 : (n - 1) / p ≤ 31 := by omega
  have h4 : p * ((n - 1) / p) ≤ p * 31 := Int.mul_le_mul_of_nonneg_left h3 (by omega)
  omega
theorem NmOk.kn {c : CV} {l : List Int} (h : NmOk c l) (hk : chipOk c = true) (h2 : 2 ≤ c.blocks.length) (hl : l.length ≤ 1000000) : KnOk c l :=
  ⟨⟨hk, hl⟩, h2, fun n hn => by
    rcases h n hn with h | h
    · exact .inl h
    · have hd := chip_dims hk
      have := num_le (n := n) hd.2.2.1 hd.2.2.2.1 hd.2.1 h.2.2
      exact .inr ⟨h.1, by omega, h.2.1, h.2.2⟩⟩
/-! What is told of blocks. -/
theorem blks_get {c : CV} {fl : List Int} {i : Nat} (hi : i < c.blocks.length - 2) : (blksF c fl)[i]? = some (tellW (wearOf (blkAt c ((i : Int) + 2)) (liveF c.pages fl fl.length i))) := by
  rw [blksF, knownF, knownTo, List.getElem?_map, List.getElem?_map, List.getElem?_range hi]; rfl
theorem blks_bad {c : CV} {fl : List Int} {i : Nat} {x : Wea} (h : (blksF c fl)[i]? = some x) : x.bad = (blkAt c ((i : Int) + 2)).bad := by
  have hi := (List.getElem?_eq_some_iff.1 h).1
  rw [blksF_len] at hi
  rw [blks_get hi] at h
  obtain rfl := Option.some.inj h
  rw [tellW]; split
  · rename_i hb; exact hb.symm
  · rfl
theorem blkAt_okN {c : CV} (hk : chipOk c = true) {b : Int} (h0 : 0 ≤ b) (h1 : b < c.blocks.length) : bkOk c.pages c.size (blkAt c b) = true := blkAt_ok (hasF_iff.2 ⟨hk, h0, h1⟩)
structure TellB (c : CV) (n : Nat) (x : Wea) : Prop where
  live0 : 0 ≤ x.live
  live1 : x.live ≤ n
  used0 : 0 ≤ x.used
  used1 : x.used ≤ c.pages
  worn0 : 0 ≤ x.worn
  worn1 : x.worn ≤ ctop
theorem blks_told {c : CV} {fl : List Int} (hk : chipOk c = true) {x : Wea} (h : x ∈ blksF c fl) : TellB c fl.length x := by
  obtain ⟨i, hi⟩ := List.getElem?_of_mem h
  have hil := (List.getElem?_eq_some_iff.1 hi).1
  rw [blksF_len] at hil
  rw [blks_get hil] at hi
  obtain rfl := Option.some.inj hi
  have hd := chip_dims hk
  have hct : ctop = 1099511627776 := rfl
  rw [tellW]; split
  · exact ⟨by simp [badWea], by simp [badWea], by simp [badWea], by simp only [badWea]; omega, by simp [badWea], by simp only [badWea]; omega⟩
  · have ho := bkOk_iff.1 (blkAt_okN hk (b := (i : Int) + 2) (by omega) (by omega))
    have := liveF_le c.pages fl fl.length i
    exact ⟨by simp only [wearOf]; omega, by simp only [wearOf]; omega, ho.2.1, ho.2.2.1, ho.2.2.2.1, ho.2.2.2.2.1⟩
theorem only_get {R : Wea → Bool} {l : List Wea} {i : Nat} {x : Wea} (h : (onlyF R l)[i]? = some x) : ∃ y, l[i]? = some y ∧ x = onlyT R y := by
  rw [onlyF, List.getElem?_map, Option.map_eq_some_iff] at h
  obtain ⟨y, hy, rfl⟩ := h
  exact ⟨y, hy, rfl⟩
theorem only_nb {R : Wea → Bool} {y : Wea} (h : (onlyT R y).bad = false) : onlyT R y = y ∧ y.bad = false ∧ R y = true := by
  unfold onlyT at h ⊢
  split at h
  · cases h
  · rename_i hn
    rw [if_neg hn]
    refine ⟨rfl, h, ?_⟩
    cases hR : R y with
    | true => rfl
    | false => exact absurd (.inr hR) hn
theorem wfree_nb {p : Int} {x : Wea} (h : wfreeF p x = true) : x.bad = false ∧ x.used < p := by
  simpa [wfreeF] using h
theorem wdead_nb {x : Wea} (h : wdeadF x = true) : x.bad = false ∧ x.live = 0 ∧ 0 < x.used := by
  simpa [wdeadF, and_assoc] using h
theorem first_only {R : Wea → Bool} {l : List Wea} {p : Int} {rule : Wea → Bool} {os : List (Wea → Wea → Int)} (hr : ∀ x, rule x = true → x.bad = false) (h : (firstF (onlyF R l) p rule os).2 = true) :
    ∃ x, l[(firstF (onlyF R l) p rule os).1.toNat]? = some x ∧ x.bad = false ∧ R x = true ∧ rule x = true ∧ 0 ≤ (firstF (onlyF R l) p rule os).1 ∧ (firstF (onlyF R l) p rule os).1 < l.length := by
  obtain ⟨h1, h2, h3, h4⟩ := firstF_ok h
  rw [onlyF_len] at h3
  have hi : (onlyF R l)[(firstF (onlyF R l) p rule os).1.toNat]? = some ((onlyF R l).getD (firstF (onlyF R l) p rule os).1.toNat zWea) := get_getD (by rw [onlyF_len]; omega)
  obtain ⟨y, hy, he⟩ := only_get hi
  rw [he] at h4
  obtain ⟨k1, k2, k3⟩ := only_nb (hr _ h4)
  rw [k1] at h4
  exact ⟨y, hy, k2, k3, h4, h2, h3⟩
/-! The block for the next page. -/
def livF (x : Wea) : Bool := decide (0 < x.live)
def dedF (x : Wea) : Bool := decide (x.live = 0)
def idleF (l : List Wea) : Nat := (l.filter fun x => !x.bad && decide (x.live = 0)).length
def frontA (c : CV) (fl : List Int) : Int × Bool := frontW (onlyF livF (blksF c fl)) c.pages
def frontB (c : CV) (fl : List Int) : Int × Bool := frontW (onlyF dedF (blksF c fl)) c.pages
def frontD (c : CV) (fl : List Int) : Int := (deadW (onlyF dedF (blksF c fl)) c.pages).1
def frontF (c : CV) (fl : List Int) (by_ : Bool) : CV × Int × Int :=
  if (frontA c fl).2 = true then (c, (frontA c fl).1 + 2, 0)
  else if idleF (blksF c fl) = 0 ∨ (idleF (blksF c fl) = 1 ∧ by_ = false) then (c, 0, 5)
  else if (frontB c fl).2 = true then (c, (frontB c fl).1 + 2, 0)
  else ((clrF c (frontD c fl + 2)).1, frontD c fl + 2, (clrF c (frontD c fl + 2)).2)
theorem idle_snoc {l : List Wea} {i : Nat} {x : Wea} (h : l[i]? = some x) : ((l.take (i + 1)).filter fun z => !z.bad && decide (z.live = 0)).length = ((l.take i).filter fun z => !z.bad && decide (z.live = 0)).length + (if x.bad = false ∧ x.live = 0 then 1 else 0) := by
  rw [List.take_add_one, h, List.filter_append, List.length_append]
  congr 1
  simp only [Option.toList_some, List.filter_cons, List.filter_nil]
  split <;> simp_all
theorem idle_le (l : List Wea) : (l.filter fun z => !z.bad && decide (z.live = 0)).length ≤ l.length := List.length_filter_le _ _
theorem frontD_ok {c : CV} {fl : List Int} (hk : chipOk c = true) (h2 : 3 ≤ c.blocks.length) (hi : idleF (blksF c fl) ≠ 0) (hb : ¬ (frontB c fl).2 = true) : 0 ≤ frontD c fl ∧ frontD c fl < (c.blocks.length : Int) - 2 ∧ (blkAt c (frontD c fl + 2)).bad = false := by
  have hd := chip_dims hk
  have hbl := blksF_len c fl
  have hw : wearsOk (onlyF dedF (blksF c fl)) c.pages = true := wearsOk_iff.2 ⟨by rw [onlyF_len]; omega, by rw [onlyF_len]; omega, by omega, by omega, fun x hx => by
    obtain ⟨i, hi⟩ := List.getElem?_of_mem hx
    obtain ⟨y, hy, rfl⟩ := only_get hi
    have t := blks_told hk (List.mem_of_getElem? hy)
    have hct : ctop = 1099511627776 := rfl
    unfold onlyT
    split
    · exact weaOk_iff.2 (by simp only [badWea]; omega)
    · rename_i hn
      have hl : y.live = 0 := by
        cases hR : dedF y with
        | true => simpa [dedF] using hR
        | false => exact absurd (.inr hR) hn
      exact weaOk_iff.2 ⟨by omega, by have := t.used0; omega, t.used1, t.worn0, t.worn1⟩⟩
  have hnb : (frontB c fl).2 = false := by simpa using hb
  have hnone := firstF_none hw (show (firstF _ _ _ _).2 = false from hnb)
  have hpos : 0 < ((blksF c fl).filter fun x => !x.bad && decide (x.live = 0)).length := by rw [idleF] at hi; omega
  obtain ⟨x, hx⟩ := List.exists_mem_of_length_pos hpos
  obtain ⟨hx1, hx2⟩ := List.mem_filter.1 hx
  simp only [Bool.and_eq_true, Bool.not_eq_true', decide_eq_true_eq] at hx2
  have hxo : onlyT dedF x = x := by
    unfold onlyT
    rw [if_neg]
    rintro (g | g)
    · rw [hx2.1] at g; cases g
    · rw [show dedF x = true by simp [dedF, hx2.2]] at g; cases g
  have hxm : x ∈ onlyF dedF (blksF c fl) := by
    rw [← hxo]; exact List.mem_map_of_mem hx1
  have hnf := hnone x hxm
  have t := blks_told hk hx1
  have hdead : wdeadF x = true := by
    have : ¬ x.used < c.pages := fun h => by
      rw [wfreeF, hx2.1, decide_eq_true h] at hnf; cases hnf
    simp only [wdeadF, hx2.1, Bool.not_false, Bool.true_and, Bool.and_eq_true, decide_eq_true_eq]
    omega
  have hf : (deadW (onlyF dedF (blksF c fl)) c.pages).2 = true := by
    cases hq : (deadW (onlyF dedF (blksF c fl)) c.pages).2 with
    | true => rfl
    | false => have := firstF_none hw hq x hxm; rw [hdead] at this; cases this
  obtain ⟨y, hy, k1, _, _, k4, k5⟩ := first_only (fun x h => (wdead_nb h).1) hf
  have hb2 := blks_bad hy
  change 0 ≤ frontD c fl at k4
  change frontD c fl < _ at k5
  refine ⟨k4, by omega, ?_⟩
  rw [← k1, hb2]
  congr 2
  change _ = ((frontD c fl).toNat : Int) + 2
  omega
theorem frontA_ok {c : CV} {fl : List Int} (h : (frontA c fl).2 = true) : 0 ≤ (frontA c fl).1 ∧ (frontA c fl).1 < ((c.blocks.length - 2 : Nat) : Int) ∧ (blkAt c ((frontA c fl).1 + 2)).bad = false := by
  obtain ⟨y, hy, k1, _, _, k4, k5⟩ := first_only (fun x h => (wfree_nb h).1) h
  have hb2 := blks_bad hy
  rw [blksF_len] at k5
  refine ⟨k4, k5, ?_⟩
  rw [← k1, hb2]
  congr 2
  change _ = ((frontA c fl).1.toNat : Int) + 2
  change 0 ≤ (frontA c fl).1 at k4
  omega
theorem frontB_ok {c : CV} {fl : List Int} (h : (frontB c fl).2 = true) : 0 ≤ (frontB c fl).1 ∧ (frontB c fl).1 < ((c.blocks.length - 2 : Nat) : Int) ∧ (blkAt c ((frontB c fl).1 + 2)).bad = false := by
  obtain ⟨y, hy, k1, _, _, k4, k5⟩ := first_only (fun x h => (wfree_nb h).1) h
  have hb2 := blks_bad hy
  rw [blksF_len] at k5
  refine ⟨k4, k5, ?_⟩
  rw [← k1, hb2]
  congr 2
  change _ = ((frontB c fl).1.toNat : Int) + 2
  change 0 ≤ (frontB c fl).1 at k4
  omega
theorem eraseE_zero {c : CV} {b : Int} (h : eraseE c b = 0) : eraseOk c b = true ∧ c.off = false ∧ (blkAt c b).bad = false ∧ (strikesF c).2 = false ∧ erasW c b = eraseC c b := by
  have h0 := h
  rw [eraseE] at h
  by_cases h1 : eraseOk c b = true
  · rw [if_pos h1] at h
    by_cases h2 : c.off = true
    · rw [if_pos h2] at h; cases h
    · rw [if_neg h2] at h
      by_cases h3 : (blkAt c b).bad = true
      · rw [if_pos h3] at h; cases h
      · rw [if_neg h3] at h
        by_cases h4 : (strikesF c).2 = true
        · rw [if_pos h4, struckE] at h
          split at h <;> cases h
        · refine ⟨h1, by simpa using h2, by simpa using h3, by simpa using h4, ?_⟩
          rw [erasW, markW, h0, if_neg (by decide), eraseF, if_pos ⟨h1, by simpa using h2, by simpa using h3⟩]
  · rw [if_neg h1] at h; cases h
theorem erasW_bad0 {c : CV} {b : Int} (h : eraseE c b = 0) : (blkAt (erasW c b) b).bad = false := by
  obtain ⟨h1, h2, h3, h4, h5⟩ := eraseE_zero h
  rw [h5, eraseC, blkAt_set (eraseOk_iff.1 h1).1]; exact h3
theorem clrTo_bad0 : ∀ (n : Nat) {c : CV} {b : Int}, (clrTo n c b).2 = 0 → (blkAt (clrTo n c b).1 b).bad = false
  | 0, c, b, h => erasW_bad0 h
  | n + 1, c, b, h => by
    rw [clrTo] at h ⊢
    by_cases h0 : progWE c b (clrPg c) ≠ 0
    · rw [if_pos h0] at h; exact absurd h h0
    · rw [if_neg h0] at h ⊢; exact clrTo_bad0 n h
theorem frontF_ok {c : CV} {fl : List Int} {by_ : Bool} (hk : chipOk c = true) (h2 : 3 ≤ c.blocks.length) : chipOk (frontF c fl by_).1 = true ∧ Like c (frontF c fl by_).1 ∧ c.ops ≤ (frontF c fl by_).1.ops ∧
    ((frontF c fl by_).2.2 = 0 → 2 ≤ (frontF c fl by_).2.1 ∧ (frontF c fl by_).2.1 < c.blocks.length ∧ (blkAt (frontF c fl by_).1 (frontF c fl by_).2.1).bad = false) ∧ ((frontF c fl by_).2.2 = 9 → c.ops < (frontF c fl by_).1.ops) := by
  rw [frontF]
  by_cases h1 : (frontA c fl).2 = true
  · rw [if_pos h1]
    have := frontA_ok h1
    exact ⟨hk, .rfl' c, Int.le_refl _, fun _ => ⟨by simp only; omega, by simp only; omega, this.2.2⟩, fun h => absurd (show (0 : Int) = 9 from h) (by decide)⟩
  · rw [if_neg h1]
    by_cases h3 : idleF (blksF c fl) = 0 ∨ (idleF (blksF c fl) = 1 ∧ by_ = false)
    · rw [if_pos h3]
      exact ⟨hk, .rfl' c, Int.le_refl _, fun h => absurd (show (5 : Int) = 0 from h) (by decide), fun h => absurd (show (5 : Int) = 9 from h) (by decide)⟩
    · rw [if_neg h3]
      by_cases h4 : (frontB c fl).2 = true
      · rw [if_pos h4]
        have := frontB_ok h4
        exact ⟨hk, .rfl' c, Int.le_refl _, fun _ => ⟨by simp only; omega, by simp only; omega, this.2.2⟩, fun h => absurd (show (0 : Int) = 9 from h) (by decide)⟩
      · rw [if_neg h4]
        obtain ⟨d1, d2, d3⟩ := frontD_ok hk h2 (fun e => h3 (.inl e)) h4
        have hc := clrF_ok (frontD c fl + 2) hk
        exact ⟨hc.1, hc.2, ops_clrTo_le _ _ _, fun h => ⟨by simp only; omega, by simp only; omega, clrTo_bad0 _ h⟩, fun h => ops_clrF d3 (.inl h)⟩
/-! A page placed. -/
def placeTo : Nat → CV → List Int → Bool → List UInt8 → CV × Int × Int
  | 0, c, _, _, _ => (c, 0, 0)
  | n + 1, c, fl, by_, b =>
    if (frontF c fl by_).2.2 = 0 then
      (if progWE (frontF c fl by_).1 (frontF c fl by_).2.1 b = 0 then (progW (frontF c fl by_).1 (frontF c fl by_).2.1 b, (frontF c fl by_).2.1 * c.pages + (blkAt (frontF c fl by_).1 (frontF c fl by_).2.1).used + 1, 0)
       else if progWE (frontF c fl by_).1 (frontF c fl by_).2.1 b ≠ 9 then (progW (frontF c fl by_).1 (frontF c fl by_).2.1 b, 0, progWE (frontF c fl by_).1 (frontF c fl by_).2.1 b)
       else placeTo n (progW (frontF c fl by_).1 (frontF c fl by_).2.1 b) fl by_ b)
    else if (frontF c fl by_).2.2 ≠ 9 then ((frontF c fl by_).1, 0, (frontF c fl by_).2.2)
    else placeTo n (frontF c fl by_).1 fl by_ b
def placeF (c : CV) (fl : List Int) (by_ : Bool) (p : PV) : CV × Int × Int :=
  if (putF p c.size).2 ≠ 0 then (c, 0, (putF p c.size).2) else placeTo ((ctop - c.ops).toNat + 1) c fl by_ (putF p c.size).1
theorem ops_le {c : CV} (h : chipOk c = true) : c.ops ≤ ctop := (chipOk_iff.1 h).2.2.1
theorem placeTo_ok : ∀ (n : Nat) {c : CV} {fl : List Int} {by_ : Bool} {b : List UInt8}, chipOk c = true → 3 ≤ c.blocks.length → (ctop - c.ops).toNat < n →
    chipOk (placeTo n c fl by_ b).1 = true ∧ Like c (placeTo n c fl by_ b).1 ∧ c.ops ≤ (placeTo n c fl by_ b).1.ops ∧ ((placeTo n c fl by_ b).2.2 = 0 → 1 ≤ (placeTo n c fl by_ b).2.1 ∧ 2 ≤ ((placeTo n c fl by_ b).2.1 - 1) / c.pages ∧ ((placeTo n c fl by_ b).2.1 - 1) / c.pages < c.blocks.length)
  | 0, c, fl, by_, b, _, _, hn => by omega
  | n + 1, c, fl, by_, b, hk, h2, hn => by
    obtain ⟨f1, f2, f3, f4, f5⟩ := frontF_ok (fl := fl) (by_ := by_) hk h2
    have hd := chip_dims hk
    rw [placeTo]
    by_cases h0 : (frontF c fl by_).2.2 = 0
    · rw [if_pos h0]
      obtain ⟨g1, g2, g3⟩ := f4 h0
      by_cases h1 : progWE (frontF c fl by_).1 (frontF c fl by_).2.1 b = 0
      · rw [if_pos h1]
        have hl := f2.trans (progW_like (frontF c fl by_).1 (frontF c fl by_).2.1 b)
        have hp := progOk_iff.1 (progWE_zero h1).1
        rw [f2.pages] at hp
        have hu : 0 ≤ (blkAt (frontF c fl by_).1 (frontF c fl by_).2.1).used := hp.2.1
        have hu2 := hp.2.2.1
        have hq : ((frontF c fl by_).2.1 * c.pages + (blkAt (frontF c fl by_).1 (frontF c fl by_).2.1).used + 1 - 1) / c.pages = (frontF c fl by_).2.1 := by
          rw [Int.add_sub_cancel, Int.add_comm, Int.add_mul_ediv_right _ _ (by omega), Int.ediv_eq_zero_of_lt hu hu2, Int.zero_add]
        refine ⟨progW_ok f1 _ _, hl, ?_, fun _ => ⟨?_, by simp only; rw [hq]; exact g1, by simp only; rw [hq]; exact g2⟩⟩
        · have := ops_progW_le (frontF c fl by_).1 (frontF c fl by_).2.1 b; simp only; omega
        · have : 0 ≤ (frontF c fl by_).2.1 * c.pages := Int.mul_nonneg (by omega) (by omega)
          simp only; omega
      · rw [if_neg h1]
        by_cases h9 : progWE (frontF c fl by_).1 (frontF c fl by_).2.1 b ≠ 9
        · rw [if_pos h9]
          exact ⟨progW_ok f1 _ _, f2.trans (progW_like _ _ _), by have := ops_progW_le (frontF c fl by_).1 (frontF c fl by_).2.1 b; simp only; omega, fun h => absurd h h1⟩
        · rw [if_neg h9]
          have ho := ops_progW g3 (p := b) (.inl (by simpa using h9))
          have hok := progW_ok f1 (frontF c fl by_).2.1 b
          have hl := f2.trans (progW_like (frontF c fl by_).1 (frontF c fl by_).2.1 b)
          have hle := ops_le hok
          have := placeTo_ok n (fl := fl) (by_ := by_) (b := b) hok (by rw [hl.len]; exact h2) (by omega)
          refine ⟨this.1, hl.trans this.2.1, by omega, fun h => ?_⟩
          have g := this.2.2.2 h
          rw [hl.pages, hl.len] at g
          exact g
    · rw [if_neg h0]
      by_cases h9 : (frontF c fl by_).2.2 ≠ 9
      · rw [if_pos h9]
        exact ⟨f1, f2, f3, fun h => absurd h h0⟩
      · rw [if_neg h9]
        have ho := f5 (by simpa using h9)
        have hle := ops_le f1
        have := placeTo_ok n (fl := fl) (by_ := by_) (b := b) f1 (by rw [f2.len]; exact h2) (by omega)
        refine ⟨this.1, f2.trans this.2.1, by omega, fun h => ?_⟩
        have g := this.2.2.2 h
        rw [f2.pages, f2.len] at g
        exact g
theorem placeF_ok {c : CV} {fl : List Int} {by_ : Bool} {p : PV} (hk : chipOk c = true) (h2 : 3 ≤ c.blocks.length) :
    chipOk (placeF c fl by_ p).1 = true ∧ Like c (placeF c fl by_ p).1 ∧ c.ops ≤ (placeF c fl by_ p).1.ops ∧ ((placeF c fl by_ p).2.2 = 0 → 1 ≤ (placeF c fl by_ p).2.1 ∧ 2 ≤ ((placeF c fl by_ p).2.1 - 1) / c.pages ∧ ((placeF c fl by_ p).2.1 - 1) / c.pages < c.blocks.length) := by
  rw [placeF]; split
  · rename_i h; exact ⟨hk, .rfl' c, Int.le_refl _, fun h' => absurd h' h⟩
  · exact placeTo_ok _ hk h2 (by omega)
/-! Room for pages. -/
def roomN (p : Int) (x : Wea) : Int := if x.live = 0 ∧ p - x.used = 0 then p else p - x.used
def roomStep (p : Int) (s : Int × Int) (x : Wea) : Int × Int := if x.bad = true then s else (s.1 + roomN p x, if x.live = 0 then max s.2 (roomN p x) else s.2)
def roomL (p : Int) (l : List Wea) : Int × Int := l.foldl (roomStep p) (0, 0)
def roomsF (c : CV) (fl : List Int) : Int × Int := ((roomL c.pages (blksF c fl)).1 - (roomL c.pages (blksF c fl)).2, (roomL c.pages (blksF c fl)).1)
theorem roomL_snoc {p : Int} {l : List Wea} {i : Nat} {x : Wea} (h : l[i]? = some x) : roomL p (l.take (i + 1)) = roomStep p (roomL p (l.take i)) x := by
  rw [roomL, List.take_add_one, h]; simp [roomL]
theorem roomN_le {c : CV} {n : Nat} {x : Wea} (h : TellB c n x) (hk : chipOk c = true) : 0 ≤ roomN c.pages x ∧ roomN c.pages x ≤ c.pages := by
  have hd := chip_dims hk
  have := h.used0; have := h.used1
  rw [roomN]; split <;> omega
theorem roomL_le {c : CV} {n : Nat} (hk : chipOk c = true) (l : List Wea) (h : ∀ x ∈ l, TellB c n x) : ∀ i, i ≤ l.length → 0 ≤ (roomL c.pages (l.take i)).1 ∧ (roomL c.pages (l.take i)).1 ≤ 16 * (i : Int) ∧ 0 ≤ (roomL c.pages (l.take i)).2 ∧ (roomL c.pages (l.take i)).2 ≤ 16
  | 0, _ => by simp [roomL]
  | i + 1, hi => by
    obtain ⟨x, hx⟩ := get_some (xs := l) (i := i) (by omega)
    have ih := roomL_le hk l h i (by omega)
    have hr := roomN_le (h x (List.mem_of_getElem? hx)) hk
    have hd := chip_dims hk
    rw [roomL_snoc hx, roomStep]
    split
    · omega
    · refine ⟨by simp only; omega, by simp only; omega, ?_, ?_⟩
      · simp only; split <;> omega
      · simp only; split <;> omega
end Go.Kb

/- A volume's writer: roots written, a volume begun. No program in sight. -/
namespace Go.Kb
open Go.Eng
structure WrOk (x : WV) : Prop where
 chip : chipOk x.v.chip = true
 len : 4 ≤ (x.v.chip.blocks.length : Int)
 pages : 2 ≤ x.v.chip.pages
 size : 24 ≤ x.v.chip.size
 last : x.v.last = 0 ∨ x.v.last = 1
 gen : x.v.gen < 281474976710656
 nums : NmOk x.v.chip x.v.at_
 few : x.v.at_.length ≤ 64
theorem WrOk.on {x : WV} (h : WrOk x) {c : CV} (hk : chipOk c = true) (hl : Like x.v.chip c) : WrOk (x.on c) :=
 ⟨hk, by simp only [WV.on]; rw [hl.len]; exact h.len, by simp only [WV.on]; rw [hl.pages]; exact h.pages, by simp only [WV.on]; rw [hl.size]; exact h.size, h.last, h.gen, h.nums.like hl, h.few⟩
theorem WrOk.len' {x : WV} (h : WrOk x) : 4 ≤ x.v.chip.blocks.length := by have := h.len; omega
def rootBlkF (c : CV) (last : Int) : CV × Int × Int :=
 if 0 < freeF c last then (c, last, 0)
 else if 0 < freeF c (1 - last) then (c, 1 - last, 0)
 else if (blkAt c (1 - last)).bad = true then (c, 0, 9)
 else (erasW c (1 - last), 1 - last, eraseE c (1 - last))
theorem free_nb {c : CV} {b : Int} (h : 0 < freeF c b) : (blkAt c b).bad = false := by
 rw [freeF] at h; split at h
 ·
  omega
 ·
  rename_i hn; simpa using hn
theorem rootBlk_ok {c : CV} {last : Int} (hk : chipOk c = true) (hl : last = 0 ∨ last = 1) : chipOk (rootBlkF c last).1 = true ∧ Like c (rootBlkF c last).1 ∧ c.ops ≤ (rootBlkF c last).1.ops ∧
  ((rootBlkF c last).2.2 = 0 → ((rootBlkF c last).2.1 = 0 ∨ (rootBlkF c last).2.1 = 1) ∧ (blkAt (rootBlkF c last).1 (rootBlkF c last).2.1).bad = false) := by
 rw [rootBlkF]
 by_cases h1 : 0 < freeF c last
 ·
  rw [if_pos h1]; exact ⟨hk, .rfl' c, Int.le_refl _, fun _ => ⟨hl, free_nb h1⟩⟩
 ·
  rw [if_neg h1]
  by_cases h2 : 0 < freeF c (1 - last)
  ·
   rw [if_pos h2]; exact ⟨hk, .rfl' c, Int.le_refl _, fun _ => ⟨by simp only; omega, free_nb h2⟩⟩
  ·
   rw [if_neg h2]
   by_cases h3 : (blkAt c (1 - last)).bad = true
   ·
    rw [if_pos h3]; exact ⟨hk, .rfl' c, Int.le_refl _, fun h => absurd (show (9 : Int) = 0 from h) (by decide)⟩
   ·
    rw [if_neg h3]; exact ⟨erasW_ok hk _, erasW_like _ _, ops_erasW_le _ _, fun h => ⟨by simp only; omega, erasW_bad0 h⟩⟩
def writeTo : Nat → WV → List Int → List UInt8 → WV × Int
 | 0, x, _, _ => (x, 0)
 | n + 1, x, a, b =>
  if (rootBlkF x.v.chip x.v.last).2.2 ≠ 0 then (x.on (rootBlkF x.v.chip x.v.last).1, (rootBlkF x.v.chip x.v.last).2.2)
  else if progWE (rootBlkF x.v.chip x.v.last).1 (rootBlkF x.v.chip x.v.last).2.1 b = 0 then
   (⟨⟨progW (rootBlkF x.v.chip x.v.last).1 (rootBlkF x.v.chip x.v.last).2.1 b, a, x.v.gen + 1, if greatF (progW (rootBlkF x.v.chip x.v.last).1 (rootBlkF x.v.chip x.v.last).2.1 b) 1 = x.v.gen + 1 then 1 else (rootBlkF x.v.chip x.v.last).2.1⟩, x.beyond⟩, 0)
  else if progWE (rootBlkF x.v.chip x.v.last).1 (rootBlkF x.v.chip x.v.last).2.1 b ≠ 9 then
   (x.on (progW (rootBlkF x.v.chip x.v.last).1 (rootBlkF x.v.chip x.v.last).2.1 b), progWE (rootBlkF x.v.chip x.v.last).1 (rootBlkF x.v.chip x.v.last).2.1 b)
  else writeTo n (x.on (progW (rootBlkF x.v.chip x.v.last).1 (rootBlkF x.v.chip x.v.last).2.1 b)) a b
def writeF (x : WV) (a : List Int) : WV × Int :=
 if (rputF ⟨x.v.gen + 1, a⟩ x.v.chip.size).2 ≠ 0 then (x, (rputF ⟨x.v.gen + 1, a⟩ x.v.chip.size).2)
 else writeTo ((ctop - x.v.chip.ops).toNat + 1) x a (rputF ⟨x.v.gen + 1, a⟩ x.v.chip.size).1
structure Wnx (x y : WV) : Prop where
 ok : WrOk y
 like : Like x.v.chip y.v.chip
 ops : x.v.chip.ops ≤ y.v.chip.ops
 atl : y.v.at_.length = x.v.at_.length
theorem Wnx.rfl' {x : WV} (h : WrOk x) : Wnx x x := ⟨h, .rfl' _, Int.le_refl _, rfl⟩
theorem Wnx.trans {x y z : WV} (h : Wnx x y) (g : Wnx y z) : Wnx x z := ⟨g.ok, h.like.trans g.like, Int.le_trans h.ops g.ops, g.atl.trans h.atl⟩
theorem Wnx.on {x : WV} (h : WrOk x) {c : CV} (hk : chipOk c = true) (hl : Like x.v.chip c) (ho : x.v.chip.ops ≤ c.ops) : Wnx x (x.on c) := ⟨h.on hk hl, hl, ho, rfl⟩
theorem rput_gen {r : RV} {n : Int} (h : (rputF r n).2 = 0) : r.gen < 281474976710656 ∧ (r.at_.length : Int) ≤ mostF n := by
 rw [rputF] at h; split at h
 ·
  rename_i hm; have := rmayF_iff.1 hm; exact ⟨this.2.1, this.2.2.1⟩
 ·
  cases h
theorem mostF_le (n : Int) : mostF n ≤ 64 := by rw [mostF]; omega
theorem writeTo_ok : ∀ (n : Nat) {x : WV} {a : List Int} {b : List UInt8}, WrOk x → NmOk x.v.chip a → a.length = x.v.at_.length → x.v.gen + 1 < 281474976710656 → (ctop - x.v.chip.ops).toNat < n → Wnx x (writeTo n x a b).1 ∧ ((writeTo n x a b).2 = 0 → x.v.chip.ops < (writeTo n x a b).1.v.chip.ops)
 | 0, x, a, b, _, _, _, _, hn => by omega
 | n + 1, x, a, b, hx, ha, hal, hg, hn => by
  obtain ⟨r1, r2, r3, r4⟩ := rootBlk_ok (c := x.v.chip) (last := x.v.last) hx.chip hx.last
  rw [writeTo]
  by_cases h0 : (rootBlkF x.v.chip x.v.last).2.2 ≠ 0
  ·
   rw [if_pos h0]; exact ⟨.on hx r1 r2 r3, fun h => absurd h h0⟩
  ·
   rw [if_neg h0]
   obtain ⟨r5, r6⟩ := r4 (by simpa using h0)
   have hpo := progW_ok r1 (rootBlkF x.v.chip x.v.last).2.1 b
   have hpl := r2.trans (progW_like (rootBlkF x.v.chip x.v.last).1 (rootBlkF x.v.chip x.v.last).2.1 b)
   have hpp := ops_progW_le (rootBlkF x.v.chip x.v.last).1 (rootBlkF x.v.chip x.v.last).2.1 b
   by_cases h1 : progWE (rootBlkF x.v.chip x.v.last).1 (rootBlkF x.v.chip x.v.last).2.1 b = 0
   ·
    rw [if_pos h1]
    have ho := ops_progW r6 (p := b) (.inr h1)
    have hon := hx.on hpo hpl
    refine ⟨⟨⟨hpo, hon.len, hon.pages, hon.size, ?_, hg, ha.like hpl, by simp only; rw [hal]; exact hx.few⟩, hpl, by simp only; omega, hal⟩, fun _ => by simp only; omega⟩
    simp only; split
    ·
     exact .inr rfl
    ·
     exact r5
   ·
    rw [if_neg h1]
    by_cases h9 : progWE (rootBlkF x.v.chip x.v.last).1 (rootBlkF x.v.chip x.v.last).2.1 b ≠ 9
    ·
     rw [if_pos h9]; exact ⟨.on hx hpo hpl (by omega), fun h => absurd h h1⟩
    ·
     rw [if_neg h9]
     have ho := ops_progW r6 (p := b) (.inl (by simpa using h9))
     have hle := ops_le hpo
     have hon := hx.on hpo hpl
     have := writeTo_ok n (x := x.on (progW (rootBlkF x.v.chip x.v.last).1 (rootBlkF x.v.chip x.v.last).2.1 b)) (a := a) (b := b) hon (ha.like hpl) hal hg (by simp only [WV.on]; omega)
     exact ⟨(Wnx.on hx hpo hpl (by omega)).trans this.1, fun h => by
      have h2 : (progW (rootBlkF x.v.chip x.v.last).1 (rootBlkF x.v.chip x.v.last).2.1 b).ops < _ := this.2 h
      omega⟩
theorem write_ok {x : WV} {a : List Int} (hx : WrOk x) (ha : NmOk x.v.chip a) (hal : a.length = x.v.at_.length) : Wnx x (writeF x a).1 ∧ ((writeF x a).2 = 0 → x.v.chip.ops < (writeF x a).1.v.chip.ops) := by
 rw [writeF]; split
 ·
  rename_i h; exact ⟨.rfl' hx, fun h' => absurd h' h⟩
 ·
  rename_i h
  have := rput_gen (r := ⟨x.v.gen + 1, a⟩) (n := x.v.chip.size) (by simpa using h)
  exact writeTo_ok _ hx ha hal this.1 (by omega)
/-! A volume begun. -/
def wipeTo : Nat → Int → CV → CV × Int
 | 0, _, c => (c, 0)
 | n + 1, b, c => if staleF c b = false then wipeTo n (b + 1) c
  else if eraseE c b ≠ 0 ∧ eraseE c b ≠ 9 then (erasW c b, eraseE c b) else wipeTo n (b + 1) (erasW c b)
def rootP (c : CV) (b : Int) (ids : Nat) : List UInt8 × Int := rputF ⟨firstG c b, List.replicate ids 0⟩ c.size
def newVol (c : CV) (b : Int) (ids : Nat) (g : Nat) : VV := ⟨c, List.replicate ids 0, g, b⟩
def rootsTo : Nat → Int → WV → Nat → WV × Int
 | 0, _, x, _ => (x, 9)
 | n + 1, b, x, ids =>
  if (rootP x.v.chip b ids).2 ≠ 0 ∨ freeF x.v.chip b = 0 then rootsTo n (b + 1) x ids
  else if progWE x.v.chip b (rootP x.v.chip b ids).1 = 0 then (⟨newVol (progW x.v.chip b (rootP x.v.chip b ids).1) b ids (firstG x.v.chip b), x.beyond⟩, 0)
  else if progWE x.v.chip b (rootP x.v.chip b ids).1 ≠ 9 then (x.on (progW x.v.chip b (rootP x.v.chip b ids).1), progWE x.v.chip b (rootP x.v.chip b ids).1)
  else rootsTo n (b + 1) (x.on (progW x.v.chip b (rootP x.v.chip b ids).1)) ids
def beginF (x : WV) (ids : Nat) : WV × Int :=
 if (wipeTo x.v.chip.blocks.length 0 x.v.chip).2 ≠ 0 then (x.on (wipeTo x.v.chip.blocks.length 0 x.v.chip).1, (wipeTo x.v.chip.blocks.length 0 x.v.chip).2)
 else rootsTo 2 0 (x.on (wipeTo x.v.chip.blocks.length 0 x.v.chip).1) ids
end Go.Kb

/- A volume's writer: pages moved, room made, items written. No program in sight. -/
namespace Go.Kb
open Go.Eng
/-! The block whose pages are moved. -/
def vicStep (s : Int × Int) (i : Nat) (x : Wea) : Int × Int :=
 if x.bad = true ∨ x.live = 0 ∨ ctop ≤ x.worn then s else if s.2 < x.used - x.live then ((i : Int), x.used - x.live) else s
def vicTo (l : List Wea) : Nat → Int × Int
 | 0 => (0, 0)
 | k + 1 => vicStep (vicTo l k) k (l.getD k zWea)
def vicF (l : List Wea) (p : Int) : Int × Bool := if (victimW l p).2 = true then ((victimW l p).1, true) else ((vicTo l l.length).1, decide (0 < (vicTo l l.length).2))
theorem vicTo_le (l : List Wea) : ∀ k, 0 ≤ (vicTo l k).1 ∧ 0 ≤ (vicTo l k).2 ∧ (0 < (vicTo l k).2 → (vicTo l k).1 < k)
 | 0 => by simp [vicTo]
 | k + 1 => by
  have := vicTo_le l k
  rw [vicTo, vicStep]
  split
  ·
   exact ⟨this.1, this.2.1, fun h => by have := this.2.2 h; omega⟩
  ·
   split
   ·
    exact ⟨by simp only; omega, by simp only; omega, fun _ => by simp only; omega⟩
   ·
    exact ⟨this.1, this.2.1, fun h => by have := this.2.2 h; omega⟩
theorem vicF_ok {l : List Wea} {p : Int} (h : (vicF l p).2 = true) : 0 ≤ (vicF l p).1 ∧ (vicF l p).1 < l.length := by
 rw [vicF] at h ⊢
 split
 ·
  rename_i hv
  have := firstF_ok hv
  exact ⟨this.2.1, this.2.2.1⟩
 ·
  rename_i hv
  rw [if_neg hv] at h
  have := vicTo_le l l.length
  exact ⟨this.1, this.2.2 (by simpa using h)⟩
/-! Where pages are moved to. -/
def emptyT (x : Wea) : Bool := decide (x.used = 0)
def fullT (p : Int) (x : Wea) : Bool := decide (x.used = p)
def begunT (x : Wea) : Bool := decide (x.worn < ctop)
def targA (c : CV) (l : List Wea) : Int × Bool := frontW (onlyF emptyT l) c.pages
def targB (c : CV) (l : List Wea) : Int × Bool := deadW (onlyF (fullT c.pages) l) c.pages
def targD (c : CV) (l : List Wea) : Int × Bool := deadW (onlyF begunT l) c.pages
def targetF (c : CV) (l : List Wea) : CV × Int × Int :=
 if (targA c l).2 = true then (c, (targA c l).1 + 2, 0)
 else if (targB c l).2 = true then ((clrF c ((targB c l).1 + 2)).1, (targB c l).1 + 2, (clrF c ((targB c l).1 + 2)).2)
 else if (targD c l).2 = true then ((clrF c ((targD c l).1 + 2)).1, (targD c l).1 + 2, (clrF c ((targD c l).1 + 2)).2)
 else (c, 0, 6)
def TrueTo (c : CV) (l : List Wea) : Prop := l.length = c.blocks.length - 2 ∧ ∀ (i : Nat) (x : Wea), l[i]? = some x → x.bad = false → (blkAt c ((i : Int) + 2)).bad = false
theorem trueTo_blks (c : CV) (fl : List Int) : TrueTo c (blksF c fl) := ⟨blksF_len c fl, fun i x hx hb => by rw [← blks_bad hx]; exact hb⟩
theorem TrueTo.set {c : CV} {l : List Wea} (h : TrueTo c l) (i : Nat) : TrueTo c (l.set i badWea) := ⟨by rw [List.length_set]; exact h.1, fun j x hx hb => by
 rw [List.getElem?_set] at hx
 split at hx
 ·
  split at hx
  ·
   obtain rfl := Option.some.inj hx; cases hb
  ·
   cases hx
 ·
  exact h.2 j x hx hb⟩
theorem first_true {c : CV} {R : Wea → Bool} {l : List Wea} {rule : Wea → Bool} {os : List (Wea → Wea → Int)} (ht : TrueTo c l) (hr : ∀ x, rule x = true → x.bad = false) (h : (firstF (onlyF R l) c.pages rule os).2 = true) :
  0 ≤ (firstF (onlyF R l) c.pages rule os).1 ∧ (firstF (onlyF R l) c.pages rule os).1 < ((c.blocks.length - 2 : Nat) : Int) ∧ (blkAt c ((firstF (onlyF R l) c.pages rule os).1 + 2)).bad = false := by
 obtain ⟨x, hx, k1, _, _, k4, k5⟩ := first_only hr h
 rw [ht.1] at k5
 refine ⟨k4, k5, ?_⟩
 have := ht.2 _ x hx k1
 rwa [show (((firstF (onlyF R l) c.pages rule os).1.toNat : Nat) : Int) = (firstF (onlyF R l) c.pages rule os).1 by omega] at this
theorem target_ok {c : CV} {l : List Wea} (hk : chipOk c = true) (ht : TrueTo c l) : chipOk (targetF c l).1 = true ∧ Like c (targetF c l).1 ∧ c.ops ≤ (targetF c l).1.ops ∧
  ((targetF c l).2.2 = 0 → 2 ≤ (targetF c l).2.1 ∧ (targetF c l).2.1 < c.blocks.length ∧ (blkAt (targetF c l).1 (targetF c l).2.1).bad = false) ∧ ((targetF c l).2.2 = 9 → c.ops < (targetF c l).1.ops) ∧ ((targetF c l).2.2 = 6 → (targetF c l).1 = c) := by
 rw [targetF]
 have e6 : ∀ {b : Int}, (clrF c b).2 ≠ 6 := fun {b} => by
  have : ∀ n {c : CV}, (clrTo n c b).2 ≠ 6 := by
   intro n
   induction n with
   | zero =>
    intro c
    simp only [clrTo, eraseE]
    split
    ·
     split
     ·
      decide
     ·
      split
      ·
       decide
      ·
       split
       ·
        rw [struckE]; split <;> decide
       ·
        decide
    ·
     decide
   | succ n ih =>
    intro c
    rw [clrTo]; split
    ·
     simp only [progWE, progE]
     split
     ·
      split
      ·
       decide
      ·
       split
       ·
        decide
       ·
        split
        ·
         rw [struckE]; split <;> decide
        ·
         decide
     ·
      decide
    ·
     exact ih
  exact this _
 by_cases h1 : (targA c l).2 = true
 ·
  rw [if_pos h1]
  have := first_true ht (fun x h => (wfree_nb h).1) h1
  change 0 ≤ (targA c l).1 ∧ (targA c l).1 < _ ∧ (blkAt c ((targA c l).1 + 2)).bad = false at this
  exact ⟨hk, .rfl' c, Int.le_refl _, fun _ => ⟨by simp only; omega, by simp only; omega, this.2.2⟩, fun h => absurd (show (0 : Int) = 9 from h) (by decide), fun h => absurd (show (0 : Int) = 6 from h) (by decide)⟩
 ·
  rw [if_neg h1]
  by_cases h2 : (targB c l).2 = true
  ·
   rw [if_pos h2]
   have := first_true ht (fun x h => (wdead_nb h).1) h2
   change 0 ≤ (targB c l).1 ∧ (targB c l).1 < _ ∧ (blkAt c ((targB c l).1 + 2)).bad = false at this
   have hc := clrF_ok ((targB c l).1 + 2) hk
   exact ⟨hc.1, hc.2, ops_clrTo_le _ _ _, fun h => ⟨by simp only; omega, by simp only; omega, clrTo_bad0 _ h⟩, fun h => ops_clrF this.2.2 (.inl h), fun h => absurd h e6⟩
  ·
   rw [if_neg h2]
   by_cases h3 : (targD c l).2 = true
   ·
    rw [if_pos h3]
    have := first_true ht (fun x h => (wdead_nb h).1) h3
    change 0 ≤ (targD c l).1 ∧ (targD c l).1 < _ ∧ (blkAt c ((targD c l).1 + 2)).bad = false at this
    have hc := clrF_ok ((targD c l).1 + 2) hk
    exact ⟨hc.1, hc.2, ops_clrTo_le _ _ _, fun h => ⟨by simp only; omega, by simp only; omega, clrTo_bad0 _ h⟩, fun h => ops_clrF this.2.2 (.inl h), fun h => absurd h e6⟩
   ·
    rw [if_neg h3]
    exact ⟨hk, .rfl' c, Int.le_refl _, fun h => absurd (show (6 : Int) = 0 from h) (by decide), fun h => absurd (show (6 : Int) = 9 from h) (by decide), fun _ => rfl⟩
/-! Pages moved. -/
def mvBlk (c : CV) (a0 a : List Int) (src to : Int) : Int × Bool :=
 if to < 0 then (if (frontW ((blksF c (a0 ++ a)).set (src - 2).toNat badWea) c.pages).2 = true then ((frontW ((blksF c (a0 ++ a)).set (src - 2).toNat badWea) c.pages).1 + 2, true) else (0, false)) else (to, true)
def mvPg (c : CV) (g id n : Int) : List UInt8 × Int := putF ⟨1, id, g.toNat, bodyF c n⟩ c.size
structure MV where
 c : CV
 a : List Int
 e : Option Int
def moveTo (v : VV) (src to : Int) : List Int → Nat → CV → List Int → MV
 | [], _, c, a => ⟨c, a, none⟩
 | n :: r, id, c, a =>
  if n = 0 ∨ (n - 1) / v.chip.pages ≠ src then moveTo v src to r (id + 1) c a
  else if (mvBlk c v.at_ a src to).2 = false then ⟨c, a, some 6⟩
  else if (mvPg c ((v.gen : Int) + 1) id n).2 ≠ 0 then ⟨c, a, some (mvPg c ((v.gen : Int) + 1) id n).2⟩
  else if progWE c (mvBlk c v.at_ a src to).1 (mvPg c ((v.gen : Int) + 1) id n).1 ≠ 0 then
   ⟨progW c (mvBlk c v.at_ a src to).1 (mvPg c ((v.gen : Int) + 1) id n).1, a, some (settF (progWE c (mvBlk c v.at_ a src to).1 (mvPg c ((v.gen : Int) + 1) id n).1))⟩
  else moveTo v src to r (id + 1) (progW c (mvBlk c v.at_ a src to).1 (mvPg c ((v.gen : Int) + 1) id n).1) (a.set id ((mvBlk c v.at_ a src to).1 * v.chip.pages + (blkAt c (mvBlk c v.at_ a src to).1).used + 1))
def moveF (x : WV) (src to : Int) : WV × Bool × Int :=
 match (moveTo x.v src to x.v.at_ 0 x.v.chip x.v.at_).e with
 | some e => (x.on (moveTo x.v src to x.v.at_ 0 x.v.chip x.v.at_).c, false, e)
 | none => ((writeF (x.on (moveTo x.v src to x.v.at_ 0 x.v.chip x.v.at_).c) (moveTo x.v src to x.v.at_ 0 x.v.chip x.v.at_).a).1, decide ((writeF (x.on (moveTo x.v src to x.v.at_ 0 x.v.chip x.v.at_).c) (moveTo x.v src to x.v.at_ 0 x.v.chip x.v.at_).a).2 = 0), (writeF (x.on (moveTo x.v src to x.v.at_ 0 x.v.chip x.v.at_).c) (moveTo x.v src to x.v.at_ 0 x.v.chip x.v.at_).a).2)
theorem moveF_some {x : WV} {src to : Int} {c : CV} {a : List Int} {e : Int} (h : moveTo x.v src to x.v.at_ 0 x.v.chip x.v.at_ = ⟨c, a, some e⟩) : moveF x src to = (x.on c, false, e) := by
 rw [moveF, h]
theorem moveF_none {x : WV} {src to : Int} {c : CV} {a : List Int} (h : moveTo x.v src to x.v.at_ 0 x.v.chip x.v.at_ = ⟨c, a, none⟩) : moveF x src to = ((writeF (x.on c) a).1, decide ((writeF (x.on c) a).2 = 0), (writeF (x.on c) a).2) := by
 rw [moveF, h]
theorem mvBlk_ok {c : CV} {a0 a : List Int} {src to : Int} (h : (mvBlk c a0 a src to).2 = true) (ht : 0 ≤ to → 2 ≤ to ∧ to < c.blocks.length ∧ (blkAt c to).bad = false) :
  2 ≤ (mvBlk c a0 a src to).1 ∧ (mvBlk c a0 a src to).1 < c.blocks.length ∧ (blkAt c (mvBlk c a0 a src to).1).bad = false := by
 rw [mvBlk] at h ⊢
 by_cases h1 : to < 0
 ·
  rw [if_pos h1] at h ⊢
  by_cases h2 : (frontW ((blksF c (a0 ++ a)).set (src - 2).toNat badWea) c.pages).2 = true
  ·
   rw [if_pos h2]
   have hT := (trueTo_blks c (a0 ++ a)).set (src - 2).toNat
   obtain ⟨k1, k2, k3, k4⟩ := firstF_ok h2
   change 0 ≤ (frontW ((blksF c (a0 ++ a)).set (src - 2).toNat badWea) c.pages).1 at k2
   change (frontW ((blksF c (a0 ++ a)).set (src - 2).toNat badWea) c.pages).1 < _ at k3
   change wfreeF _ (List.getD _ (frontW ((blksF c (a0 ++ a)).set (src - 2).toNat badWea) c.pages).1.toNat _) = true at k4
   rw [hT.1] at k3
   have hi : ((blksF c (a0 ++ a)).set (src - 2).toNat badWea)[(frontW ((blksF c (a0 ++ a)).set (src - 2).toNat badWea) c.pages).1.toNat]? = some _ := get_getD (d := zWea) (by rw [hT.1]; omega)
   have := hT.2 _ _ hi (wfree_nb k4).1
   rw [show (((frontW ((blksF c (a0 ++ a)).set (src - 2).toNat badWea) c.pages).1.toNat : Nat) : Int) = (frontW ((blksF c (a0 ++ a)).set (src - 2).toNat badWea) c.pages).1 by omega] at this
   exact ⟨by simp only; omega, by simp only; omega, this⟩
  ·
   rw [if_neg h2] at h; cases h
 ·
  rw [if_neg h1]
  exact ht (by omega)
theorem progE_cases (c : CV) (b g : Int) (p : List UInt8) : progE c b g p = 0 ∨ progE c b g p = 1 ∨ progE c b g p = 7 ∨ progE c b g p = 9 := by
 rw [progE]; split
 ·
  split
  ·
   omega
  ·
   split
   ·
    omega
   ·
    split
    ·
     rw [struckE]; split <;> omega
    ·
     omega
 ·
  omega
theorem putF_cases (p : PV) (n : Int) : (putF p n).2 = 0 ∨ (putF p n).2 = 1 := by
 rw [putF]; split <;> simp
theorem bad_progC {c : CV} {b : Int} {p : List UInt8} (h : progWE c b p = 0) (b' : Int) : (blkAt (progW c b p) b').bad = (blkAt c b').bad := by
 obtain ⟨h1, h2, h3, h4, h5⟩ := progWE_zero h
 have hh := (progOk_iff.1 h1).1
 obtain ⟨_, g2, g3⟩ := hasF_iff.1 hh
 rw [h5, progC]
 simp only [blkAt, List.getD, List.getElem?_set]
 by_cases e : b.toNat = b'.toNat
 ·
  rw [if_pos e, if_pos (by omega), e]
  simp
 ·
  rw [if_neg e]
theorem moveTo_ok {v : VV} {src to : Int} : ∀ (l : List Int) (id : Nat) {c : CV} {a : List Int}, chipOk c = true → Like v.chip c → v.chip.ops ≤ c.ops → NmOk v.chip a → (0 ≤ to → 2 ≤ to ∧ to < c.blocks.length ∧ (blkAt c to).bad = false) →
  chipOk (moveTo v src to l id c a).c = true ∧ Like v.chip (moveTo v src to l id c a).c ∧ c.ops ≤ (moveTo v src to l id c a).c.ops ∧ NmOk v.chip (moveTo v src to l id c a).a ∧ (moveTo v src to l id c a).a.length = a.length ∧
   ((moveTo v src to l id c a).e = some 0 → c.ops < (moveTo v src to l id c a).c.ops) ∧ ((moveTo v src to l id c a).e = some 6 → ∀ b, (blkAt (moveTo v src to l id c a).c b).bad = (blkAt c b).bad)
 | [], id, c, a, hk, hl, ho, ha, ht => ⟨hk, hl, Int.le_refl _, ha, rfl, fun h => by simp [moveTo] at h, fun h => by simp [moveTo] at h⟩
 | n :: r, id, c, a, hk, hl, ho, ha, ht => by
  rw [moveTo]
  by_cases h1 : n = 0 ∨ (n - 1) / v.chip.pages ≠ src
  ·
   rw [if_pos h1]; exact moveTo_ok r (id + 1) hk hl ho ha ht
  ·
   rw [if_neg h1]
   by_cases h2 : (mvBlk c v.at_ a src to).2 = false
   ·
    rw [if_pos h2]; exact ⟨hk, hl, Int.le_refl _, ha, rfl, fun h => by simp at h, fun _ _ => rfl⟩
   ·
    rw [if_neg h2]
    obtain ⟨m1, m2, m3⟩ := mvBlk_ok (by simpa using h2) ht
    by_cases h3 : (mvPg c ((v.gen : Int) + 1) id n).2 ≠ 0
    ·
     rw [if_pos h3]
     have hpc : (mvPg c ((v.gen : Int) + 1) id n).2 = 1 := (putF_cases _ _).resolve_left h3
     exact ⟨hk, hl, Int.le_refl _, ha, rfl, fun h => absurd (Option.some.inj h) h3, fun h => absurd (hpc.symm.trans (Option.some.inj h)) (by decide)⟩
    ·
     rw [if_neg h3]
     by_cases h4 : progWE c (mvBlk c v.at_ a src to).1 (mvPg c ((v.gen : Int) + 1) id n).1 ≠ 0
     ·
      rw [if_pos h4]
      have hcs : progWE c (mvBlk c v.at_ a src to).1 (mvPg c ((v.gen : Int) + 1) id n).1 = 1 ∨ progWE c (mvBlk c v.at_ a src to).1 (mvPg c ((v.gen : Int) + 1) id n).1 = 7 ∨ progWE c (mvBlk c v.at_ a src to).1 (mvPg c ((v.gen : Int) + 1) id n).1 = 9 := (progE_cases _ _ _ _).resolve_left h4
      refine ⟨progW_ok hk _ _, hl.trans (progW_like _ _ _), ops_progW_le _ _ _, ha, rfl, fun h => ?_, fun h => ?_⟩
      ·
       have h := Option.some.inj h
       rw [settF] at h
       split at h
       ·
        rename_i h9
        have := ops_progW m3 (.inl h9)
        simp only; omega
       ·
        exact absurd h h4
      ·
       have h := Option.some.inj h
       rw [settF] at h
       split at h
       ·
        cases h
       ·
        omega
     ·
      rw [if_neg h4]
      have h4' : progWE c (mvBlk c v.at_ a src to).1 (mvPg c ((v.gen : Int) + 1) id n).1 = 0 := by simpa using h4
      have hpo := progOk_iff.1 (progWE_zero h4').1
      have hd := chip_dims hk
      have hll := hl.trans (progW_like c (mvBlk c v.at_ a src to).1 (mvPg c ((v.gen : Int) + 1) id n).1)
      have hop := ops_progW m3 (p := (mvPg c ((v.gen : Int) + 1) id n).1) (.inr h4')
      have hvp : v.chip.pages = c.pages := hl.pages.symm
      have ih := moveTo_ok r (id + 1) (src := src) (to := to) (progW_ok hk (mvBlk c v.at_ a src to).1 (mvPg c ((v.gen : Int) + 1) id n).1) hll (by omega) (a := a.set id ((mvBlk c v.at_ a src to).1 * v.chip.pages + (blkAt c (mvBlk c v.at_ a src to).1).used + 1)) (fun y hy => by
       rcases List.mem_or_eq_of_mem_set hy with hy | rfl
       ·
        exact ha y hy
       ·
        have hq : ((mvBlk c v.at_ a src to).1 * v.chip.pages + (blkAt c (mvBlk c v.at_ a src to).1).used + 1 - 1) / v.chip.pages = (mvBlk c v.at_ a src to).1 := by
         rw [hvp, Int.add_sub_cancel, Int.add_comm, Int.add_mul_ediv_right _ _ (by omega), Int.ediv_eq_zero_of_lt hpo.2.1 hpo.2.2.1, Int.zero_add]
        have h0 : 0 ≤ (mvBlk c v.at_ a src to).1 * v.chip.pages := Int.mul_nonneg (by omega) (by omega)
        have := hpo.2.1
        exact .inr ⟨by omega, by rw [hq]; exact m1, by rw [hq, ← hl.len]; exact m2⟩) (fun h => by
       have := ht h
       rw [(progW_like c _ _).len, bad_progC h4']
       exact this)
      obtain ⟨i1, i2, i3, i4, i5, i6, i7⟩ := ih
      refine ⟨i1, i2, by omega, i4, by rw [i5, List.length_set], fun h => by have := i6 h; omega, fun h b => ?_⟩
      rw [i7 h b, bad_progC h4']
theorem eraseE_cases (c : CV) (b : Int) : eraseE c b = 0 ∨ eraseE c b = 1 ∨ eraseE c b = 7 ∨ eraseE c b = 9 := by
 rw [eraseE]; split
 ·
  split
  ·
   omega
  ·
   split
   ·
    omega
   ·
    split
    ·
     rw [struckE]; split <;> omega
    ·
     omega
 ·
  omega
theorem rootBlk_cases (c : CV) (l : Int) : (rootBlkF c l).2.2 = 0 ∨ (rootBlkF c l).2.2 = 1 ∨ (rootBlkF c l).2.2 = 7 ∨ (rootBlkF c l).2.2 = 9 := by
 rw [rootBlkF]
 split
 ·
  exact .inl rfl
 ·
  split
  ·
   exact .inl rfl
  ·
   split
   ·
    exact .inr (.inr (.inr rfl))
   ·
    exact eraseE_cases _ _
theorem writeTo_ne6 : ∀ (n : Nat) (y : WV) (a : List Int) (b : List UInt8), (writeTo n y a b).2 ≠ 6
 | 0, y, a, b => by simp [writeTo]
 | n + 1, y, a, b => by
  rw [writeTo]
  split
  ·
   have := rootBlk_cases y.v.chip y.v.last
   simp only; omega
  ·
   split
   ·
    simp
   ·
    split
    ·
     have := progE_cases (rootBlkF y.v.chip y.v.last).1 (rootBlkF y.v.chip y.v.last).2.1 (blkAt (rootBlkF y.v.chip y.v.last).1 (rootBlkF y.v.chip y.v.last).2.1).used b
     simp only [progWE]; omega
    ·
     exact writeTo_ne6 n _ _ _
theorem writeF_ne6 (y : WV) (a : List Int) : (writeF y a).2 ≠ 6 := by
 rw [writeF]
 split
 ·
  rw [rputF]
  split
  ·
   have := putF_cases ⟨2, max 0 ((a.length : Int) - 1), y.v.gen + 1, numsB a⟩ y.v.chip.size
   simp only; omega
  ·
   simp
 ·
  exact writeTo_ne6 _ _ _ _
theorem move_ok {x : WV} {src to : Int} (hx : WrOk x) (ht : 0 ≤ to → 2 ≤ to ∧ to < x.v.chip.blocks.length ∧ (blkAt x.v.chip to).bad = false) :
  Wnx x (moveF x src to).1 ∧ ((moveF x src to).2.2 = 0 → x.v.chip.ops < (moveF x src to).1.v.chip.ops) ∧ ((moveF x src to).2.1 = true → (moveF x src to).2.2 = 0) ∧ ((moveF x src to).2.1 = false ∧ (moveF x src to).2.2 = 6 → ∀ b, (blkAt (moveF x src to).1.v.chip b).bad = (blkAt x.v.chip b).bad) := by
 obtain ⟨h1, h2, h3, h4, h5, h6, h7⟩ := moveTo_ok x.v.at_ 0 (src := src) hx.chip (.rfl' _) (Int.le_refl _) hx.nums ht
 rw [moveF]
 split
 ·
  rename_i e he
  refine ⟨.on hx h1 h2 h3, fun h => h6 (by rw [he]; exact congrArg some h), fun h => absurd (show false = true from h) (by simp), fun h b => h7 (by rw [he]; exact congrArg some h.2) b⟩
 ·
  rename_i he
  have hon := hx.on h1 h2
  have hw := write_ok hon (a := (moveTo x.v src to x.v.at_ 0 x.v.chip x.v.at_).a) (h4.like h2) h5
  refine ⟨(Wnx.on hx h1 h2 h3).trans hw.1, fun h => ?_, fun h => by simpa using h, fun h => ?_⟩
  ·
   have g : (moveTo x.v src to x.v.at_ 0 x.v.chip x.v.at_).c.ops < _ := hw.2 h
   simp only; omega
  ·
   exact absurd h.2 (writeF_ne6 _ _)
end Go.Kb

/- A volume's writer: room made, items written; volumes written and formatted. No program in sight. -/
namespace Go.Kb
open Go.Eng
theorem clrTo_ne6 : ∀ (n : Nat) (c : CV) (b : Int), (clrTo n c b).2 ≠ 6
 | 0, c, b => by have := eraseE_cases c b; simp only [clrTo]; omega
 | n + 1, c, b => by
  rw [clrTo]; split
  ·
   have := progE_cases c b (blkAt c b).used (clrPg c); simp only [progWE]; omega
  ·
   exact clrTo_ne6 n _ _
theorem clrF_ne6 (c : CV) (b : Int) : (clrF c b).2 ≠ 6 := clrTo_ne6 _ _ _
/-! A block relieved. -/
def relAlt (c : CV) (l : List Wea) (i : Int) : Bool := decide ((targetF c (l.set i.toNat badWea)).2.2 = 6) && decide ((l.getD i.toNat zWea).live ≤ wroomF (l.set i.toNat badWea) c.pages)
def relTo (c : CV) (l : List Wea) (i : Int) : Int × Int := if relAlt c l i = true then (-1, 0) else (targetF c (l.set i.toNat badWea)).2
def relieveF (x : WV) (l : List Wea) (i : Int) : WV × Int :=
 if (relTo x.v.chip l i).2 ≠ 0 then (x.on (targetF x.v.chip (l.set i.toNat badWea)).1, settF (relTo x.v.chip l i).2)
 else if (moveF (x.on (targetF x.v.chip (l.set i.toNat badWea)).1) (i + 2) (relTo x.v.chip l i).1).2.1 = false ∨ (l.getD i.toNat zWea).used = x.v.chip.pages then
  ((moveF (x.on (targetF x.v.chip (l.set i.toNat badWea)).1) (i + 2) (relTo x.v.chip l i).1).1, (moveF (x.on (targetF x.v.chip (l.set i.toNat badWea)).1) (i + 2) (relTo x.v.chip l i).1).2.2)
 else ((moveF (x.on (targetF x.v.chip (l.set i.toNat badWea)).1) (i + 2) (relTo x.v.chip l i).1).1.on (clrF (moveF (x.on (targetF x.v.chip (l.set i.toNat badWea)).1) (i + 2) (relTo x.v.chip l i).1).1.v.chip (i + 2)).1,
  settF (clrF (moveF (x.on (targetF x.v.chip (l.set i.toNat badWea)).1) (i + 2) (relTo x.v.chip l i).1).1.v.chip (i + 2)).2)
theorem settF_zero {e : Int} (h : settF e = 0) : e = 0 ∨ e = 9 := by
 rw [settF] at h; split at h
 ·
  exact .inr (by assumption)
 ·
  exact .inl h
theorem settF_six {e : Int} (h : settF e = 6) : e = 6 := by
 rw [settF] at h; split at h
 ·
  cases h
 ·
  exact h
theorem relTo_ok {c : CV} {l : List Wea} {i : Int} (hk : chipOk c = true) (ht : TrueTo c l) : (relTo c l i).2 = 0 → 0 ≤ (relTo c l i).1 → 2 ≤ (relTo c l i).1 ∧ (relTo c l i).1 < c.blocks.length ∧ (blkAt (targetF c (l.set i.toNat badWea)).1 (relTo c l i).1).bad = false := by
 intro h h0
 rw [relTo] at h h0 ⊢
 split at h
 ·
  rename_i ha; rw [if_pos ha] at h0; exact absurd (show (0 : Int) ≤ -1 from h0) (by decide)
 ·
  rename_i ha; rw [if_neg ha]; exact (target_ok hk (ht.set i.toNat)).2.2.2.1 h
theorem move_okL {x : WV} {src to : Int} (hx : WrOk x) (ht : 0 ≤ to → 2 ≤ to ∧ to < x.v.chip.blocks.length ∧ (blkAt x.v.chip to).bad = false) : WrOk (moveF x src to).1 ∧ Like x.v.chip (moveF x src to).1.v.chip :=
 ⟨(move_ok hx ht).1.ok, (move_ok hx ht).1.like⟩
theorem relieve_ok {x : WV} {l : List Wea} {i : Int} (hx : WrOk x) (ht : TrueTo x.v.chip l) :
  Wnx x (relieveF x l i).1 ∧ ((relieveF x l i).2 = 0 → x.v.chip.ops < (relieveF x l i).1.v.chip.ops) ∧ ((relieveF x l i).2 = 6 → ∀ b, (blkAt (relieveF x l i).1.v.chip b).bad = (blkAt x.v.chip b).bad) := by
 obtain ⟨t1, t2, t3, t4, t5, t6⟩ := target_ok hx.chip (ht.set i.toNat)
 have hn := Wnx.on hx t1 t2 t3
 rw [relieveF]
 by_cases h0 : (relTo x.v.chip l i).2 ≠ 0
 ·
  rw [if_pos h0]
  have he : (relTo x.v.chip l i).2 = (targetF x.v.chip (l.set i.toNat badWea)).2.2 := by
   rw [relTo] at h0 ⊢
   split at h0
   ·
    exact absurd rfl h0
   ·
    rename_i ha; rw [if_neg ha]
  refine ⟨hn, fun h => ?_, fun h b => ?_⟩
  ·
   rcases settF_zero h with g | g
   ·
    exact absurd g h0
   ·
    exact t5 (he ▸ g)
  ·
   have := t6 (he ▸ settF_six h)
   simp only [WV.on]; rw [this]
 ·
  rw [if_neg h0]
  have h0' : (relTo x.v.chip l i).2 = 0 := by simpa using h0
  have hr := relTo_ok (i := i) hx.chip ht h0'
  obtain ⟨m1, m2, m3, m4⟩ := move_ok (x := x.on (targetF x.v.chip (l.set i.toNat badWea)).1) (src := i + 2) (to := (relTo x.v.chip l i).1) hn.ok (fun h => by
   have := hr h
   exact ⟨this.1, by simp only [WV.on]; rw [t2.len]; exact this.2.1, this.2.2⟩)
  have hb : (relTo x.v.chip l i).2 = 0 → (targetF x.v.chip (l.set i.toNat badWea)).2.2 = 6 → (targetF x.v.chip (l.set i.toNat badWea)).1 = x.v.chip := fun _ h => t6 h
  by_cases h1 : (moveF (x.on (targetF x.v.chip (l.set i.toNat badWea)).1) (i + 2) (relTo x.v.chip l i).1).2.1 = false ∨ (l.getD i.toNat zWea).used = x.v.chip.pages
  ·
   rw [if_pos h1]
   refine ⟨hn.trans m1, fun h => ?_, fun h b => ?_⟩
   ·
    have g : (targetF x.v.chip (l.set i.toNat badWea)).1.ops < _ := m2 h
    simp only; omega
   ·
    have hf : (moveF (x.on (targetF x.v.chip (l.set i.toNat badWea)).1) (i + 2) (relTo x.v.chip l i).1).2.1 = false := by
     cases hq : (moveF (x.on (targetF x.v.chip (l.set i.toNat badWea)).1) (i + 2) (relTo x.v.chip l i).1).2.1 with
     | false => rfl
     | true => have := m3 hq; exact absurd (this.symm.trans h) (by decide)
    rw [m4 ⟨hf, h⟩ b]
    by_cases ha : relAlt x.v.chip l i = true
    ·
     simp only [relAlt, Bool.and_eq_true, decide_eq_true_eq] at ha
     simp only [WV.on]; rw [t6 ha.1]
    ·
     exact absurd h (moveF_ne6 (by
      have : (relTo x.v.chip l i).1 = (targetF x.v.chip (l.set i.toNat badWea)).2.1 := by rw [relTo, if_neg ha]
      have g : (targetF x.v.chip (l.set i.toNat badWea)).2.2 = 0 := by
       rw [relTo, if_neg ha] at h0'; exact h0'
      have := (t4 g).1
      omega))
  ·
   rw [if_neg h1]
   have hm : (moveF (x.on (targetF x.v.chip (l.set i.toNat badWea)).1) (i + 2) (relTo x.v.chip l i).1).2.1 = true := by
    cases hq : (moveF (x.on (targetF x.v.chip (l.set i.toNat badWea)).1) (i + 2) (relTo x.v.chip l i).1).2.1 with
    | true => rfl
    | false => exact absurd (.inl hq) h1
   have hz := m2 (m3 hm)
   have hc := clrF_ok (i + 2) m1.ok.chip
   have ho := ops_clrTo_le (freeF (moveF (x.on (targetF x.v.chip (l.set i.toNat badWea)).1) (i + 2) (relTo x.v.chip l i).1).1.v.chip (i + 2)).toNat (moveF (x.on (targetF x.v.chip (l.set i.toNat badWea)).1) (i + 2) (relTo x.v.chip l i).1).1.v.chip (i + 2)
   refine ⟨(hn.trans m1).trans (.on m1.ok hc.1 hc.2 ho), fun _ => ?_, fun h => absurd (settF_six h) (clrF_ne6 _ _)⟩
   have g : (targetF x.v.chip (l.set i.toNat badWea)).1.ops < _ := hz
   have g2 : (moveF (x.on (targetF x.v.chip (l.set i.toNat badWea)).1) (i + 2) (relTo x.v.chip l i).1).1.v.chip.ops ≤ (clrF (moveF (x.on (targetF x.v.chip (l.set i.toNat badWea)).1) (i + 2) (relTo x.v.chip l i).1).1.v.chip (i + 2)).1.ops := ho
   simp only [WV.on] at *; omega
where
 moveF_ne6 {x : WV} {src to : Int} (h : 0 ≤ to) : (moveF x src to).2.2 ≠ 6 := by
  have key : ∀ (l : List Int) (id : Nat) (c : CV) (a : List Int), (moveTo x.v src to l id c a).e ≠ some 6 := by
   intro l
   induction l with
   | nil => intro id c a; simp [moveTo]
   | cons n r ih =>
    intro id c a
    rw [moveTo]
    split
    ·
     exact ih _ _ _
    ·
     split
     ·
      rename_i h2; rw [mvBlk, if_neg (by omega)] at h2; cases h2
     ·
      split
      ·
       rename_i h3
       have := (putF_cases ⟨1, id, ((x.v.gen : Int) + 1).toNat, bodyF c n⟩ c.size).resolve_left h3
       intro h; have h := Option.some.inj h; rw [mvPg] at h; omega
      ·
       split
       ·
        intro h
        have h := settF_six (Option.some.inj h)
        have := progE_cases c (mvBlk c x.v.at_ a src to).1 (blkAt c (mvBlk c x.v.at_ a src to).1).used (mvPg c ((x.v.gen : Int) + 1) id n).1
        rw [progWE] at h; omega
       ·
        exact ih _ _ _
  rw [moveF]
  split
  ·
   rename_i e he
   intro h
   exact key _ _ _ _ (by rw [he]; exact congrArg some h)
  ·
   exact writeF_ne6 _ _
/-! What doesn't count collected. -/
def begT (p : Int) (x : Wea) : Bool := decide (x.used < p) && decide (x.worn < ctop)
def colD (c : CV) (l : List Wea) : Int × Bool := deadW (onlyF (begT c.pages) l) c.pages
def tailF (x : WV) (l : List Wea) : WV × Int :=
 if (colD x.v.chip l).2 = false then (x, 6) else (x.on (clrF x.v.chip ((colD x.v.chip l).1 + 2)).1, settF (clrF x.v.chip ((colD x.v.chip l).1 + 2)).2)
def colL (x : WV) : List Wea := blksF x.v.chip x.v.at_
def colV (x : WV) : Int × Bool := vicF (colL x) x.v.chip.pages
def collectF (x : WV) : WV × Int :=
 if (colV x).2 = true ∧ finalF x.v.gen = false then
  (if (relieveF x (colL x) (colV x).1).2 ≠ 6 then relieveF x (colL x) (colV x).1 else tailF (relieveF x (colL x) (colV x).1).1 (colL x))
 else tailF x (colL x)
theorem TrueTo.like {c d : CV} {l : List Wea} (h : TrueTo c l) (hl : Like c d) (hb : ∀ b, (blkAt d b).bad = (blkAt c b).bad) : TrueTo d l := ⟨by rw [h.1, hl.len], fun i x hx hx2 => by rw [hb]; exact h.2 i x hx hx2⟩
theorem tail_ok {x : WV} {l : List Wea} (hx : WrOk x) (ht : TrueTo x.v.chip l) : Wnx x (tailF x l).1 ∧ ((tailF x l).2 = 0 → x.v.chip.ops < (tailF x l).1.v.chip.ops) := by
 rw [tailF]; split
 ·
  exact ⟨.rfl' hx, fun h => absurd (show (6 : Int) = 0 from h) (by decide)⟩
 ·
  rename_i h
  have hd := first_true ht (fun x h => (wdead_nb h).1) (show (colD x.v.chip l).2 = true by simpa using h)
  change 0 ≤ (colD x.v.chip l).1 ∧ (colD x.v.chip l).1 < _ ∧ (blkAt x.v.chip ((colD x.v.chip l).1 + 2)).bad = false at hd
  have hc := clrF_ok ((colD x.v.chip l).1 + 2) hx.chip
  exact ⟨.on hx hc.1 hc.2 (ops_clrTo_le _ _ _), fun h => ops_clrF hd.2.2 (settF_zero h).symm⟩
theorem collect_ok {x : WV} (hx : WrOk x) : Wnx x (collectF x).1 ∧ ((collectF x).2 = 0 → x.v.chip.ops < (collectF x).1.v.chip.ops) := by
 have ht : TrueTo x.v.chip (colL x) := trueTo_blks _ _
 rw [collectF]; split
 ·
  obtain ⟨r1, r2, r3⟩ := relieve_ok (i := (colV x).1) hx ht
  split
  ·
   exact ⟨r1, r2⟩
  ·
   rename_i h6
   have h6' : (relieveF x (colL x) (colV x).1).2 = 6 := by simpa using h6
   have := tail_ok r1.ok (ht.like r1.like (r3 h6'))
   exact ⟨r1.trans this.1, fun h => by have := this.2 h; have := r1.ops; omega⟩
 ·
  exact tail_ok hx ht
/-! Room for some pages. -/
def spaceTo : Nat → WV → Int → WV × Int
 | 0, x, _ => (x, 0)
 | n + 1, x, need =>
  if need ≤ (roomsF x.v.chip x.v.at_).1 then (x, 0)
  else if need ≤ (roomsF x.v.chip x.v.at_).2 ∧ placesF x.v.chip x.v.last < 2 then ({ x with beyond := true }, 0)
  else if (collectF x).2 = 0 then spaceTo n (collectF x).1 need
  else if (collectF x).2 ≠ 6 then collectF x
  else if need ≤ (roomsF x.v.chip x.v.at_).2 then ({ (collectF x).1 with beyond := true }, 0)
  else ((collectF x).1, 5)
def spaceF (x : WV) (need : Int) : WV × Int := spaceTo ((ctop - x.v.chip.ops).toNat + 1) x need
theorem WrOk.by {x : WV} (h : WrOk x) (b : Bool) : WrOk { x with beyond := b } := ⟨h.chip, h.len, h.pages, h.size, h.last, h.gen, h.nums, h.few⟩
theorem Wnx.by {x y : WV} (h : Wnx x y) (b : Bool) : Wnx x { y with beyond := b } := ⟨h.ok.by b, h.like, h.ops, h.atl⟩
theorem spaceTo_ok : ∀ (n : Nat) {x : WV} {need : Int}, WrOk x → Wnx x (spaceTo n x need).1
 | 0, x, need, hx => .rfl' hx
 | n + 1, x, need, hx => by
  have hc := collect_ok hx
  rw [spaceTo]
  split
  ·
   exact .rfl' hx
  ·
   split
   ·
    exact (Wnx.rfl' hx).by true
   ·
    split
    ·
     exact hc.1.trans (spaceTo_ok n hc.1.ok)
    ·
     split
     ·
      exact hc.1
     ·
      split
      ·
       exact hc.1.by true
      ·
       exact hc.1
theorem space_ok {x : WV} {need : Int} (hx : WrOk x) : Wnx x (spaceF x need).1 := spaceTo_ok _ hx
/-! Items written. -/
def itv (x : It) : Int × List UInt8 := (x.id, x.body.xs)
def needF (l : List (Int × List UInt8)) : Nat := (l.filter fun x => decide (0 < x.2.length)).length
theorem need_snoc {l : List (Int × List UInt8)} {i : Nat} {x : Int × List UInt8} (h : l[i]? = some x) : ((l.take (i + 1)).filter fun x => decide (0 < x.2.length)).length = ((l.take i).filter fun x => decide (0 < x.2.length)).length + (if 0 < x.2.length then 1 else 0) := by
 rw [List.take_add_one, h, List.filter_append, List.length_append]
 congr 1
 simp only [Option.toList_some, List.filter_cons, List.filter_nil]
 split <;> simp_all
def itPg (v : VV) (x : Int × List UInt8) : PV := ⟨1, x.1, v.gen + 1, x.2⟩
def itemsTo (v : VV) (by_ : Bool) : List (Int × List UInt8) → CV → List Int → CV × List Int × Int
 | [], c, a => (c, a, 0)
 | x :: r, c, a =>
  if x.2.length = 0 then itemsTo v by_ r c (a.set x.1.toNat 0)
  else if (placeF c (v.at_ ++ a) by_ (itPg v x)).2.2 ≠ 0 then ((placeF c (v.at_ ++ a) by_ (itPg v x)).1, a, (placeF c (v.at_ ++ a) by_ (itPg v x)).2.2)
  else itemsTo v by_ r (placeF c (v.at_ ++ a) by_ (itPg v x)).1 (a.set x.1.toNat (placeF c (v.at_ ++ a) by_ (itPg v x)).2.1)
def batS (x : WV) (l : List (Int × List UInt8)) : WV × Int := spaceF { x with beyond := false } (needF l)
def batI (x : WV) (l : List (Int × List UInt8)) : CV × List Int × Int := itemsTo (batS x l).1.v (batS x l).1.beyond l (batS x l).1.v.chip (batS x l).1.v.at_
def batchF (x : WV) (l : List (Int × List UInt8)) : WV × Int :=
 if (batS x l).2 ≠ 0 then batS x l
 else if (batI x l).2.2 ≠ 0 then ((batS x l).1.on (batI x l).1, (batI x l).2.2)
 else writeF ((batS x l).1.on (batI x l).1) (batI x l).2.1
theorem itemsTo_ok {v : VV} {by_ : Bool} : ∀ (l : List (Int × List UInt8)) {c : CV} {a : List Int}, chipOk c = true → 3 ≤ c.blocks.length → NmOk c a →
  chipOk (itemsTo v by_ l c a).1 = true ∧ Like c (itemsTo v by_ l c a).1 ∧ c.ops ≤ (itemsTo v by_ l c a).1.ops ∧ NmOk c (itemsTo v by_ l c a).2.1 ∧ (itemsTo v by_ l c a).2.1.length = a.length
 | [], c, a, hk, h2, ha => ⟨hk, .rfl' c, Int.le_refl _, ha, rfl⟩
 | x :: r, c, a, hk, h2, ha => by
  rw [itemsTo]
  split
  ·
   have := itemsTo_ok r (v := v) (by_ := by_) hk h2 (a := a.set x.1.toNat 0) (fun y hy => by
    rcases List.mem_or_eq_of_mem_set hy with hy | rfl
    ·
     exact ha y hy
    ·
     exact .inl rfl)
   rwa [List.length_set] at this
  ·
   obtain ⟨p1, p2, p3, p4⟩ := placeF_ok (fl := v.at_ ++ a) (by_ := by_) (p := itPg v x) hk h2
   split
   ·
    exact ⟨p1, p2, p3, ha, rfl⟩
   ·
    rename_i h0
    have p5 := p4 (by simpa using h0)
    have := itemsTo_ok r (v := v) (by_ := by_) p1 (by rw [p2.len]; exact h2) (a := a.set x.1.toNat (placeF c (v.at_ ++ a) by_ (itPg v x)).2.1) (fun y hy => by
     rw [p2.pages, p2.len]
     rcases List.mem_or_eq_of_mem_set hy with hy | rfl
     ·
      exact ha y hy
     ·
      exact .inr p5)
    obtain ⟨i1, i2, i3, i4, i5⟩ := this
    refine ⟨i1, p2.trans i2, by omega, fun y hy => ?_, by rw [i5, List.length_set]⟩
    have := i4 y hy
    rwa [p2.pages, p2.len] at this
theorem batS_ok {x : WV} {l : List (Int × List UInt8)} (hx : WrOk x) : Wnx x (batS x l).1 := by
 have := space_ok (need := needF l) (hx.by false)
 exact ⟨this.ok, this.like, this.ops, this.atl⟩
theorem batch_ok {x : WV} {l : List (Int × List UInt8)} (hx : WrOk x) : Wnx x (batchF x l).1 := by
 have hs := batS_ok (l := l) hx
 rw [batchF]; split
 ·
  exact hs
 ·
  have hl := hs.ok.len'
  obtain ⟨i1, i2, i3, i4, i5⟩ := itemsTo_ok (v := (batS x l).1.v) (by_ := (batS x l).1.beyond) l hs.ok.chip (by omega) hs.ok.nums
  have hon := hs.trans (.on hs.ok i1 i2 i3)
  split
  ·
   exact hon
  ·
   exact hon.trans (write_ok hon.ok (i4.like i2) i5).1
def tryTo : Nat → WV → List (Int × List UInt8) → WV × Int
 | 0, x, _ => (x, 0)
 | n + 1, x, l => if (batchF x l).2 = 5 ∧ badsF x.v.chip < badsF (batchF x l).1.v.chip then tryTo n (batchF x l).1 l else batchF x l
theorem bads_le (c : CV) : badsF c ≤ c.blocks.length := List.length_filter_le _ _
def fitIt (v : VV) (x : Int × List UInt8) : Bool := decide (0 ≤ x.1) && decide (x.1 < (v.at_.length : Int)) && decide ((x.2.length : Int) ≤ roomF v.chip.size)
def fitAt (v : VV) (l : List (Int × List UInt8)) (i : Nat) : Bool := fitIt v (l.getD i (0, [])) && !((l.take i).map Prod.fst).contains (l.getD i (0, [])).1
def fitOk (v : VV) (l : List (Int × List UInt8)) : Bool := (List.range l.length).all (fitAt v l)
theorem fitOk_iff {v : VV} {l : List (Int × List UInt8)} : fitOk v l = true ↔ ∀ i, i < l.length → fitAt v l i = true := by simp only [fitOk, List.all_eq_true, List.mem_range]
def idsF (l : List Int) (i : Nat) : Int → Option Unit := fun x => if x ∈ l.take i then some () else none
theorem idsF_some {l : List Int} {i : Nat} {x : Int} : (idsF l i x).isSome = decide (x ∈ l.take i) := by
 unfold idsF; split <;> simp_all
theorem idsF_zero {l : List Int} : (fun _ => none) = idsF l 0 := by
 funext x; simp [idsF]
theorem idsF_next {l : List Int} {i : Nat} {y : Int} (h : l[i]? = some y) : (fun z => if z = y then some () else idsF l i z) = idsF l (i + 1) := by
 funext x
 unfold idsF
 rw [List.take_add_one, h]
 by_cases hx : x = y
 ·
  subst hx; simp
 ·
  simp [hx]
def knownV (v : VV) : List Wea := if rightF v = true then knownF v.chip v.at_ else []
def volWrite (v : VV) (l : List (Int × List UInt8)) : VV × Int :=
 if ¬ (rightF v = true ∧ v.gen < 281474976710655 ∧ fitOk v l = true) then (v, 1)
 else if v.chip.off = true then (v, 7)
 else ((tryTo (v.chip.blocks.length + 1) ⟨v, false⟩ l).1.v, (tryTo (v.chip.blocks.length + 1) ⟨v, false⟩ l).2)
def limitF (b p : Int) : Int := if b < 4 ∨ 32 < b ∨ p < 1 ∨ 16 < p then 0 else (b - 4) * p
def fmtW (c : CV) (ids : Int) : WV × Int := beginF ⟨⟨c, [], 0, 0⟩, false⟩ ids.toNat
def volFormat (c : CV) (ids : Int) : VV × Int :=
 if ¬ (bearsF c = true ∧ 1 ≤ ids ∧ ids ≤ mostF c.size) then (⟨c, [], 0, 0⟩, 1)
 else if c.off = true then (⟨c, [], 0, 0⟩, 7)
 else if (fmtW c ids).2 ≠ 0 then (⟨(fmtW c ids).1.v.chip, [], 0, 0⟩, (fmtW c ids).2)
 else ((fmtW c ids).1.v, 0)
/-! What a right volume is. -/
theorem rread_few {b : List UInt8} : (rreadF b).1.at_.length ≤ 64 ∧ (rreadF b).1.gen < 281474976710656 := by
 rw [rreadF]
 split
 ·
  simp [zRV]
 ·
  rename_i h1
  split
  ·
   simp [zRV]
  ·
   rename_i h2
   split
   ·
    simp [zRV]
   ·
    rename_i h3
    have hf : rformF (readF b).1 = true := by simpa using h3
    simp only [rformF, Bool.and_eq_true, decide_eq_true_eq] at hf
    refine ⟨?_, readF_gen b⟩
    have hid : (readF b).1.id < 64 := by
     have h10 : (readF b).2 = 0 := by simpa using h1
     rw [readF] at h10 h2 ⊢
     by_cases g1 : fitsF b.length = false
     ·
      rw [if_pos g1] at h10; cases h10
     ·
      rw [if_neg g1] at h10 h2 ⊢
      by_cases g2 : blankF b = true
      ·
       rw [if_pos g2] at h2; exact absurd rfl h2
      ·
       rw [if_neg g2] at h10 h2 ⊢
       by_cases g3 : de (endP b) ≠ crc (innerP b)
       ·
        rw [if_pos g3] at h10; cases h10
       ·
        rw [if_neg g3] at h10 h2 ⊢
        by_cases g4 : formF b = false
        ·
         rw [if_pos g4] at h10; cases h10
        ·
         rw [if_neg g4] at h10 h2 ⊢
         have g5 : formF b = true := by simpa using g4
         simp only [formF, Bool.and_eq_true] at g5
         have := (mayF_iff.1 g5.2).2.2.2.1
         split
         ·
          simp [zPV]
         ·
          exact this
    simp only [numsF_len]
    omega
theorem newS_few (l : List (List UInt8)) : ∀ k, (newS l k).new.at_.length ≤ 64 ∧ (newS l k).new.gen < 281474976710656
 | 0 => by simp [newS, zRV]
 | k + 1 => by
  rw [newS, newStep]
  split
  ·
   exact rread_few
  ·
   exact newS_few l k
theorem nwF_few (l : List (List UInt8)) : (nwF l).2.1.at_.length ≤ 64 ∧ (nwF l).2.1.gen < 281474976710656 := by
 rw [nwF]
 split
 ·
  exact newS_few _ _
 ·
  split <;> simp [zRV]
theorem right_wr {v : VV} {b : Bool} (h : rightF v = true) : WrOk ⟨v, b⟩ := by
 have hr := right_ok h
 have ha := @right_at v h
 simp only [rightF, Bool.and_eq_true, decide_eq_true_eq] at h
 obtain ⟨⟨⟨h1, h2⟩, h3⟩, h4⟩ := h
 obtain ⟨hb, hl, hf⟩ := foundF_ok h1
 obtain ⟨b1, b2, b3, b4⟩ := bearsF_iff.1 hb
 have hfw := nwF_few ((blkAt { v.chip with off := false } 0).pages ++ (blkAt { v.chip with off := false } 1).pages)
 rw [hf] at h2 h3 h4
 simp only at h2 h3 h4
 have hd := chip_dims hr.1
 have hb2 : 4 ≤ (v.chip.blocks.length : Int) := b2
 refine ⟨hr.1, b2, b3, b4, ?_, by rw [← h2]; exact hfw.2, fun n hn => ?_, by rw [← h4]; exact hfw.1⟩
 ·
  rw [← h3]
  have ho0 := bkOk_iff.1 (blkAt_okN hr.1 (b := 0) (by omega) (by omega))
  have ho1 := bkOk_iff.1 (blkAt_okN hr.1 (b := 1) (by omega) (by omega))
  have hlen : ((blkAt v.chip 0).pages ++ (blkAt v.chip 1).pages).length = (blkAt v.chip 0).pages.length + (blkAt v.chip 1).pages.length := List.length_append
  have hat := nwF_at (l := (blkAt v.chip 0).pages ++ (blkAt v.chip 1).pages) (by rw [hlen]; omega)
  change 0 ≤ (rootsAt { v.chip with off := false }).1 ∧ (rootsAt { v.chip with off := false }).1 < _ at hat
  rw [hlen] at hat
  have g0 : 0 ≤ (rootsAt { v.chip with off := false }).1 / v.chip.pages := Int.ediv_nonneg hat.1 (by omega)
  have g1 : (rootsAt { v.chip with off := false }).1 / v.chip.pages < 2 := Int.ediv_lt_of_lt_mul (by omega) (by
   have h9 : (rootsAt { v.chip with off := false }).1 < (((blkAt v.chip 0).pages.length + (blkAt v.chip 1).pages.length : Nat) : Int) := hat.2
   omega)
  change (rootsAt { v.chip with off := false }).1 / v.chip.pages = 0 ∨ (rootsAt { v.chip with off := false }).1 / v.chip.pages = 1
  omega
 ·
  by_cases h0 : n = 0
  ·
   exact .inl h0
  ·
   obtain ⟨i, hi⟩ := List.getElem?_of_mem hn
   have := ha hi h0
   have hp := placeOk_iff.1 this.2.2
   exact .inr ⟨this.1, hp.1, hp.2.1⟩
end Go.Kb

/- What the references tell of chips, roots and volumes. No program in sight. -/
namespace Go.Kb
open Go.Eng
def shortB (b : BV) : Bool := decide (b.pages.length ≤ 20) && b.pages.all fun p => decide (p.length ≤ 300)
def shortF (c : CV) : Bool := decide (c.blocks.length ≤ 40) && decide (c.faults.length ≤ 80) && c.blocks.all shortB
theorem shortF_iff {c : CV} : shortF c = true ↔ c.blocks.length ≤ 40 ∧ c.faults.length ≤ 80 ∧ ∀ b ∈ c.blocks, b.pages.length ≤ 20 ∧ ∀ p ∈ b.pages, p.length ≤ 300 := by
 simp only [shortF, shortB, Bool.and_eq_true, decide_eq_true_eq, List.all_eq_true, and_assoc]
theorem bv_eq {a b : BV} : a = b ↔ a.used = b.used ∧ a.worn = b.worn ∧ a.bad = b.bad ∧ a.pages = b.pages := by
 constructor
 ·
  rintro rfl; exact ⟨rfl, rfl, rfl, rfl⟩
 ·
  rintro ⟨h1, h2, h3, h4⟩
  obtain ⟨a1, a2, a3, a4⟩ := a
  obtain ⟨b1, b2, b3, b4⟩ := b
  simp only at h1 h2 h3 h4
  subst h1 h2 h3 h4; rfl
theorem cv_eq {a b : CV} : a = b ↔ a.pages = b.pages ∧ a.size = b.size ∧ a.ops = b.ops ∧ a.off = b.off ∧ a.blocks = b.blocks ∧ a.faults = b.faults := by
 constructor
 ·
  rintro rfl; exact ⟨rfl, rfl, rfl, rfl, rfl, rfl⟩
 ·
  rintro ⟨h1, h2, h3, h4, h5, h6⟩
  obtain ⟨a1, a2, a3, a4, a5, a6⟩ := a
  obtain ⟨b1, b2, b3, b4, b5, b6⟩ := b
  simp only at h1 h2 h3 h4 h5 h6
  subst h1 h2 h3 h4 h5 h6; rfl
theorem list_eqI {α : Type} {a b : List α} (hl : a.length = b.length) (h : ∀ j, j < a.length → a[j]? = b[j]?) : a = b := List.ext_getElem? fun j => by
 rcases Nat.lt_or_ge j a.length with hj | hj
 ·
  exact h j hj
 ·
  rw [List.getElem?_eq_none hj, List.getElem?_eq_none (by omega)]
/-! Pages. -/
theorem readF_id {b : List UInt8} (h : (readF b).2 = 0) (hk : (readF b).1.kind ≠ 0) : (readF b).1.id < 64 := by
 rw [readF] at h hk ⊢
 by_cases g1 : fitsF b.length = false
 ·
  rw [if_pos g1] at h; cases h
 ·
  rw [if_neg g1] at h hk ⊢
  by_cases g2 : blankF b = true
  ·
   rw [if_pos g2] at hk; exact absurd rfl hk
  ·
   rw [if_neg g2] at h hk ⊢
   by_cases g3 : de (endP b) ≠ crc (innerP b)
   ·
    rw [if_pos g3] at h; cases h
   ·
    rw [if_neg g3] at h hk ⊢
    by_cases g4 : formF b = false
    ·
     rw [if_pos g4] at h; cases h
    ·
     rw [if_neg g4] at h hk ⊢
     have g5 : formF b = true := by simpa using g4
     simp only [formF, Bool.and_eq_true] at g5
     have := (mayF_iff.1 g5.2).2.2.2.1
     split
     ·
      simp [zPV]
     ·
      exact this
theorem many_de {b : List UInt8} (h : 10 ≤ b.length) : de ((b.drop 8).take (10 - 8)) = 256 * (b.getD 8 0).toNat + (b.getD 9 0).toNat := by
 have e : (b.drop 8).take (10 - 8) = [b.getD 8 0, b.getD 9 0] := by
  refine List.ext_getElem? fun j => ?_
  rw [List.getElem?_take]
  match j with
  | 0 => rw [if_pos (by omega), List.getElem?_drop]; simp [List.getD, List.getElem?_eq_getElem (show 8 < b.length by omega)]
  | 1 => rw [if_pos (by omega), List.getElem?_drop]; simp [List.getD, List.getElem?_eq_getElem (show 9 < b.length by omega)]
  | j + 2 => rw [if_neg (by omega)]; simp
 rw [e]
 simp only [de, List.foldl_cons, List.foldl_nil]; omega
theorem rest_zero {b : List UInt8} (h : 10 + manyP b ≤ b.length - 4) : zerosF (restP b) = true ↔ ∀ j, 10 + manyP b ≤ j → j < b.length - 4 → b.getD j 0 = 0 := by
 have hin : innerP b = b.take (b.length - 4) := by rw [innerP]; simp
 have hil := innerP_len b
 have hr : restP b = (innerP b).drop (10 + manyP b) := List.take_of_length_le (by simp)
 rw [zerosF_iff, hr]
 have key : ∀ j, j < b.length - 4 → (innerP b)[j]? = some (b.getD j 0) := fun j hj => by
  rw [hin, List.getElem?_take, if_pos hj]; exact get_getD (by omega)
 constructor
 ·
  intro hz j h1 h2
  refine hz _ (List.mem_of_getElem? (i := j - (10 + manyP b)) ?_)
  rw [List.getElem?_drop, show 10 + manyP b + (j - (10 + manyP b)) = j by omega]
  exact key j h2
 ·
  intro hz x hx
  obtain ⟨k, hk⟩ := List.getElem?_of_mem hx
  have hkl := (List.getElem?_eq_some_iff.1 hk).1
  rw [List.length_drop] at hkl
  rw [List.getElem?_drop, key _ (by omega)] at hk
  rw [← Option.some.inj hk]
  exact hz _ (by omega) (by omega)
def isPg (b : List UInt8) : Bool := decide ((readF b).2 = 0) && !blankF b
def refPg (s : Sv) (b : List UInt8) : Pge := if isPg b = true then ⟨(b.getD 0 0).toNat, (b.getD 1 0).toNat, UInt64.ofNat (de ((b.drop 2).take (8 - 2))), ⟨s.sub 1 10 (10 + manyP b), (b.drop 10).take (10 + manyP b - 10)⟩⟩ else zPge
theorem readF_err {b : List UInt8} (h : (readF b).2 ≠ 0) : (readF b).1 = zPV := by
 unfold readF at h ⊢
 repeat' split at h
 all_goals first
  | (rename_i h1; simp only [*, if_true, if_false]; done)
  | skip
 all_goals simp_all
theorem refPg_pv (s : Sv) (b : List UInt8) : pvv (refPg s b) = (readF b).1 := by
 unfold refPg isPg
 by_cases h : (readF b).2 = 0
 ·
  by_cases hb : blankF b = true
  ·
   rw [if_neg (by rw [hb]; simp)]
   rw [readF] at h ⊢
   by_cases g1 : fitsF b.length = false
   ·
    rw [if_pos g1] at h; cases h
   ·
    rw [if_neg g1, if_pos hb]; rfl
  ·
   rw [if_pos (by rw [h]; simpa using hb)]
   have h' := h
   rw [readF] at h ⊢
   by_cases g1 : fitsF b.length = false
   ·
    rw [if_pos g1] at h; cases h
   ·
    rw [if_neg g1] at h ⊢
    rw [if_neg hb] at h ⊢
    by_cases g3 : de (endP b) ≠ crc (innerP b)
    ·
     rw [if_pos g3] at h; cases h
    ·
     rw [if_neg g3] at h ⊢
     by_cases g4 : formF b = false
     ·
      rw [if_pos g4] at h; cases h
     ·
      rw [if_neg g4] at h ⊢
      by_cases g5 : zerosF (restP b) = false
      ·
       rw [if_pos g5] at h; cases h
      ·
       rw [if_neg g5]
       exact headG_pv b (s.sub 1 10 (10 + manyP b)) ((b.drop 10).take (10 + manyP b - 10))
 ·
  rw [if_neg (by simp [h]), readF_err h]; rfl
theorem readF_many {b : List UInt8} (h : isPg b = true) : 10 + manyP b ≤ b.length := by
 simp only [isPg, Bool.and_eq_true, decide_eq_true_eq, Bool.not_eq_true'] at h
 obtain ⟨h, hb⟩ := h
 rw [readF] at h
 by_cases g1 : fitsF b.length = false
 ·
  rw [if_pos g1] at h; cases h
 ·
  have g1' : fitsF b.length = true := by simpa using g1
  rw [if_neg g1, if_neg (by rw [hb]; simp)] at h
  by_cases g3 : de (endP b) ≠ crc (innerP b)
  ·
   rw [if_pos g3] at h; cases h
  ·
   rw [if_neg g3] at h
   by_cases g4 : formF b = false
   ·
    rw [if_pos g4] at h; cases h
   ·
    have g5 : formF b = true := by simpa using g4
    simp only [formF, Bool.and_eq_true, decide_eq_true_eq, roomF, g1', if_true] at g5
    have := fitsF_iff.1 g1'
    omega
instance HdD.refPg {w0 : World} {L : List Ent} {s : Sv} {b : List UInt8} [q : HdE w0 L benc 1 s b] : HdD w0 L (refPg s b) := ⟨fun w hw => by
 unfold Kb.refPg
 split
 ·
  rename_i h
  have hm := readF_many h
  have hl := (q.h w hw).sub (show 10 ≤ 10 + manyP b by omega) hm
  exact ⟨hl, fun _ _ => trivial⟩
 ·
  exact ⟨Lies.nil _ _ _, fun x hx => by cases hx⟩⟩
/-! The newest root, as the reference tells it. -/
def bestR (l : List (List UInt8)) (i : Nat) : Bool := decide ((rreadF (l.getD i [])).2 = 0) && (List.range l.length).all fun k => !(decide ((rreadF (l.getD k [])).2 = 0) && (decide ((rreadF (l.getD i [])).1.gen < (rreadF (l.getD k [])).1.gen) || (decide ((rreadF (l.getD k [])).1.gen = (rreadF (l.getD i [])).1.gen) && decide (i < k))))
def bestP (l : List (List UInt8)) (i : Nat) : Nat → Bool
 | 0 => decide ((rreadF (l.getD i [])).2 = 0)
 | k + 1 => if (rreadF (l.getD k [])).2 = 0 ∧ ((rreadF (l.getD i [])).1.gen < (rreadF (l.getD k [])).1.gen ∨ ((rreadF (l.getD k [])).1.gen = (rreadF (l.getD i [])).1.gen ∧ i < k)) then false else bestP l i k
theorem bestP_succ {l : List (List UInt8)} {i k : Nat} : bestP l i (k + 1) = if (rreadF (l.getD k [])).2 = 0 ∧ ((rreadF (l.getD i [])).1.gen < (rreadF (l.getD k [])).1.gen ∨ ((rreadF (l.getD k [])).1.gen = (rreadF (l.getD i [])).1.gen ∧ i < k)) then false else bestP l i k := rfl
theorem bestP_iff {l : List (List UInt8)} {i : Nat} : ∀ {k}, bestP l i k = true ↔ (rreadF (l.getD i [])).2 = 0 ∧ ∀ j, j < k → (rreadF (l.getD j [])).2 = 0 → ¬ ((rreadF (l.getD i [])).1.gen < (rreadF (l.getD j [])).1.gen ∨ ((rreadF (l.getD j [])).1.gen = (rreadF (l.getD i [])).1.gen ∧ i < j))
 | 0 => by simp [bestP]
 | k + 1 => by
  rw [bestP_succ]
  split
  ·
   rename_i h
   exact ⟨(fun g => by cases g), (fun g => absurd h.2 (g.2 k (by omega) h.1))⟩
  ·
   rename_i h
   rw [bestP_iff (k := k)]
   refine and_congr_right fun _ => ⟨fun g j hj hv => ?_, fun g j hj => g j (by omega)⟩
   by_cases e : j = k
   ·
    subst e; exact fun c => h ⟨hv, c⟩
   ·
    exact g j (by omega) hv
theorem de_twoW {b : List UInt8} {i : Nat} (h : 2 * i + 2 ≤ b.length) : de ((b.drop (2 * i)).take (2 * i + 2 - 2 * i)) = (hop16 (b.getD (2 * i) 0) (b.getD (2 * i + 1) 0)).toNat := by
 have e : (b.drop (2 * i)).take (2 * i + 2 - 2 * i) = [b.getD (2 * i) 0, b.getD (2 * i + 1) 0] := by
  refine List.ext_getElem? fun j => ?_
  rw [List.getElem?_take]
  match j with
  | 0 => rw [if_pos (by omega), List.getElem?_drop]; simp [List.getD, List.getElem?_eq_getElem (show 2 * i < b.length by omega)]
  | 1 => rw [if_pos (by omega), List.getElem?_drop]; simp [List.getD, List.getElem?_eq_getElem (show 2 * i + 1 < b.length by omega)]
  | j + 2 => rw [if_neg (by omega)]; simp
 rw [e, hop16_toNat]
 simp only [de, List.foldl_cons, List.foldl_nil]; omega
theorem newS_spec (l : List (List UInt8)) : ∀ k, k ≤ l.length →
  ((newS l k).found = true → ∃ i, i < k ∧ (newS l k).at_ = (i : Int) ∧ (rreadF (l.getD i [])).2 = 0 ∧ (newS l k).new = (rreadF (l.getD i [])).1 ∧ ∀ j, j < k → (rreadF (l.getD j [])).2 = 0 → (rreadF (l.getD j [])).1.gen < (rreadF (l.getD i [])).1.gen ∨ ((rreadF (l.getD j [])).1.gen = (rreadF (l.getD i [])).1.gen ∧ j ≤ i)) ∧
  ((newS l k).found = false → ∀ j, j < k → (rreadF (l.getD j [])).2 ≠ 0) ∧ (newS l k).blank = (l.take k).all blankF
 | 0, _ => ⟨fun h => by simp [newS] at h, fun _ j hj => by omega, by simp [newS]⟩
 | k + 1, hk => by
  obtain ⟨h1, h2, h3⟩ := newS_spec l k (by omega)
  obtain ⟨b, hb⟩ := get_some (xs := l) (i := k) (by omega)
  have hg : l.getD k [] = b := by simp [List.getD, hb]
  have hbl : (l.take (k + 1)).all blankF = ((l.take k).all blankF && blankF b) := by rw [List.take_add_one, hb]; simp
  by_cases hq : (rreadF b).2 = 0 ∧ ((newS l k).found = false ∨ (newS l k).new.gen ≤ (rreadF b).1.gen)
  ·
   rw [newS_pos hb hq, h3, hbl]
   refine ⟨fun _ => ⟨k, by omega, rfl, by rw [hg]; exact hq.1, by rw [hg], fun j hj hv => ?_⟩, fun h => by simp at h, rfl⟩
   rw [hg]
   by_cases e : j = k
   ·
    subst e; rw [hg]; exact .inr ⟨rfl, Nat.le_refl _⟩
   ·
    have hjk : j < k := by omega
    rcases hq.2 with hf | hf
    ·
     exact absurd hv (h2 hf j hjk)
    ·
     cases hfo : (newS l k).found with
     | false => exact absurd hv (h2 hfo j hjk)
     | true =>
      obtain ⟨i, hi, ha, hv2, hn, hall⟩ := h1 hfo
      rw [hn] at hf
      rcases hall j hjk hv with g | g
      ·
       exact .inl (by omega)
      ·
       by_cases hlt : (rreadF (l.getD j [])).1.gen < (rreadF b).1.gen
       ·
        exact .inl hlt
       ·
        exact .inr ⟨by omega, by omega⟩
  ·
   rw [newS_neg hb hq]
   refine ⟨fun hfo => ?_, fun hfo j hj => ?_, by simp only [h3, hbl]⟩
   ·
    obtain ⟨i, hi, ha, hv2, hn, hall⟩ := h1 hfo
    refine ⟨i, by omega, ha, hv2, hn, fun j hj hv => ?_⟩
    by_cases e : j = k
    ·
     subst e
     rw [hg] at hv ⊢
     have : ¬ (newS l j).new.gen ≤ (rreadF b).1.gen := fun h => hq ⟨hv, .inr h⟩
     rw [hn] at this
     exact .inl (by omega)
    ·
     exact hall j (by omega) hv
   ·
    by_cases e : j = k
    ·
     subst e; rw [hg]; exact fun hv => hq ⟨hv, .inl hfo⟩
    ·
     exact h2 hfo j (by omega)
theorem bestR_iff {l : List (List UInt8)} {i : Nat} : bestR l i = true ↔ (rreadF (l.getD i [])).2 = 0 ∧ ∀ k, k < l.length → (rreadF (l.getD k [])).2 = 0 → ¬ ((rreadF (l.getD i [])).1.gen < (rreadF (l.getD k [])).1.gen ∨ ((rreadF (l.getD k [])).1.gen = (rreadF (l.getD i [])).1.gen ∧ i < k)) := by
 simp only [bestR, Bool.and_eq_true, decide_eq_true_eq, List.all_eq_true, List.mem_range, Bool.not_eq_true', Bool.and_eq_false_iff, Bool.or_eq_false_iff, decide_eq_false_iff_not]
 constructor
 ·
  rintro ⟨h1, h2⟩
  refine ⟨h1, fun k hk hv hc => ?_⟩
  rcases h2 k hk with g | g
  ·
   exact g hv
  ·
   rcases hc with c | c
   ·
    exact g.1 c
   ·
    rcases g.2 with g | g
    ·
     exact g c.1
    ·
     exact g c.2
 ·
  rintro ⟨h1, h2⟩
  refine ⟨h1, fun k hk => ?_⟩
  by_cases hv : (rreadF (l.getD k [])).2 = 0
  ·
   have := h2 k hk hv
   refine .inr ⟨fun c => this (.inl c), ?_⟩
   by_cases e : (rreadF (l.getD k [])).1.gen = (rreadF (l.getD i [])).1.gen
   ·
    exact .inr fun c => this (.inr ⟨e, c⟩)
   ·
    exact .inl e
  ·
   exact .inl hv
theorem bestP_all {l : List (List UInt8)} {i : Nat} : bestR l i = bestP l i l.length := by
 rw [Bool.eq_iff_iff, bestR_iff, bestP_iff]
theorem nw_best {l : List (List UInt8)} {i : Nat} (hi : i < l.length) (h : bestR l i = true) : nwF l = ((i : Int), (rreadF (l.getD i [])).1, 0) := by
 obtain ⟨h1, h2⟩ := bestR_iff.1 h
 obtain ⟨s1, s2, s3⟩ := newS_spec l l.length (Nat.le_refl _)
 cases hf : (newS l l.length).found with
 | false => exact absurd h1 (s2 hf i hi)
 | true =>
  obtain ⟨j, hj, ha, hv, hn, hall⟩ := s1 hf
  have e : j = i := by
   have g1 := hall i hi h1
   have g2 := h2 j hj hv
   omega
  subst e
  rw [nwF, if_pos hf, ha, hn]
theorem nw_none {l : List (List UInt8)} (h : ∀ i, i < l.length → bestR l i = false) : nwF l = (0, zRV, if l.all blankF = true then 6 else 2) := by
 obtain ⟨s1, s2, s3⟩ := newS_spec l l.length (Nat.le_refl _)
 rw [List.take_length] at s3
 cases hf : (newS l l.length).found with
 | false =>
  rw [nwF, if_neg (by rw [hf]; simp), s3]
  split <;> rfl
 | true =>
  obtain ⟨j, hj, ha, hv, hn, hall⟩ := s1 hf
  have : bestR l j = true := bestR_iff.2 ⟨hv, fun k hk hvk hc => by have := hall k hk hvk; omega⟩
  rw [h j hj] at this; cases this
/-! Volumes. -/
def foundR (c : CV) : VV × Int :=
 if (rootsAt c).2.2 ≠ 0 then (zVV, (rootsAt c).2.2) else if lastOk c = false then (zVV, 2) else (⟨c, (rootsAt c).2.1.at_, (rootsAt c).2.1.gen, (rootsAt c).1 / c.pages⟩, 0)
theorem plcAt_def {c : CV} {l : List Int} {i : Nat} {y : Int} (h : l.getD i 0 = y) : plcAt c l i = (decide (y = 0) || (!(l.take i).contains y && namesF c (i : Int) y)) := by rw [plcAt, h]
theorem vv_eq {a b : VV} : a = b ↔ a.chip = b.chip ∧ a.at_ = b.at_ ∧ a.gen = b.gen ∧ a.last = b.last := by
 constructor
 ·
  rintro rfl; exact ⟨rfl, rfl, rfl, rfl⟩
 ·
  obtain ⟨a1, a2, a3, a4⟩ := a
  obtain ⟨b1, b2, b3, b4⟩ := b
  rintro ⟨h1, h2, h3, h4⟩
  simp only at h1 h2 h3 h4
  subst h1 h2 h3 h4; rfl
theorem foundF_R (c : CV) : foundF c = if bearsF c = false then (zVV, 1) else if c.off = true then (zVV, 7) else foundR c := rfl
theorem right_R (x : VV) : rightF x = (bearsF x.chip && (decide ((foundR x.chip).2 = 0) && decide (x.at_ = (foundR x.chip).1.at_) && decide (x.gen = (foundR x.chip).1.gen) && decide (x.last = (foundR x.chip).1.last))) := by
 have hb : bearsF { x.chip with off := false } = bearsF x.chip := rfl
 have hlk : lastOk { x.chip with off := false } = lastOk x.chip := rfl
 have hra : rootsAt { x.chip with off := false } = rootsAt x.chip := rfl
 rw [rightF, foundF_R, hb]
 cases h : bearsF x.chip with
 | false => rw [if_pos rfl]; rfl
 | true =>
  rw [if_neg (by simp), if_neg (by simp), foundR, foundR, hra, hlk]
  by_cases h1 : (rootsAt x.chip).2.2 ≠ 0
  ·
   rw [if_pos h1, if_pos h1, decide_eq_false h1]; rfl
  ·
   rw [if_neg h1, if_neg h1]
   by_cases h2 : lastOk x.chip = false
   ·
    rw [if_pos h2, if_pos h2]; rfl
   ·
    rw [if_neg h2, if_neg h2]
    rw [Bool.eq_iff_iff]; simp only [Bool.and_eq_true, decide_eq_true_eq, true_and, Bool.true_and]
    constructor
    ·
     rintro ⟨⟨g1, g2⟩, g3⟩; exact ⟨⟨g3.symm, g1.symm⟩, g2.symm⟩
    ·
     rintro ⟨⟨g1, g2⟩, g3⟩; exact ⟨⟨g2.symm, g3.symm⟩, g1.symm⟩
end Go.Kb

/- References: sums, pages. -/
namespace Go.Proofs.YtaipiecplldinaaGreat
open Go.Eng Go.Kb
open Go.RowKit
instance get_i {w0 : World} {L : List Ent} {s : Sv} {ss : List UInt8} [h : HdE w0 L benc 1 s ss] : FnQ Tryz.prog 99 w0 L [s.val] (.int .u64 (de ss : Nat)) (ss.length ≤ 7) := ⟨fun hp w hw => get_c w s ss (h.h w hw) hp⟩
instance put_i {w0 : World} {L : List Ent} {n many : Nat} : FnC Tryz.prog 156 w0 L [.int .u64 (n : Nat), .int .i64 (many : Nat)] Sv (fun s => s.val) (fun s => own benc 1 s (be n many) :: L) (fun _ => True) (n < 2 ^ 64 ∧ 1 ≤ many ∧ many ≤ 8) := ⟨fun hp w hw => (put_c w n many hp.1 hp.2).mono fun e w' ⟨s, h1, h2, h3, h4⟩ => ⟨s, h1, trivial, hw.call h4⟩⟩
theorem refOf_c (w : World) (b : Sv) (bs : List UInt8) (hb : Lies benc 1 (hp w) b bs) : Calls Tryz.prog 157 #[b.val] w fun e w' => e = .returned (.int .u32 (crc bs : Nat)) ∧ Mem w [] w' := by
 have ghb : Gv w b benc 1 bs := ⟨hb⟩
 have hbd := hb.bd
 refine calls_of (args := [_]) Tryz.func157 rfl Tryz.ntmps157 rfl ?_
 change Cw _ _ _ _ _ [(0, b.val)] []
 refine cw_seq ?_
 refine cw_region ?_
 refine sq_r (ry_assign rfl) ?_
 refine sq_nil ?_
 refine ex_then ?_
 refine cw_seq ?_
 refine cw_region ?_
 refine sq_r (ry_assign rfl) ?_
 refine sq_nil ?_
 refine ex_then ?_
 refine cw_seq ?_
 refine cw_seq ?_
 refine cw_region ?_
 refine sq_r (ry_assign rfl) ?_
 refine sq_nil ?_
 refine ex_then ?_
 refine cw_block ?_
 refine cw_loop (X := Nat) (fun zz => [(4, .int .i64 (zz : Nat)), (3, .int .u32 (crcS 4294967295 (bs.take zz) : Nat)), (0, b.val)]) (fun zz => []) (fun zz => zz ≤ bs.length) (fun zz => bs.length - zz) 0 (Nat.zero_le _) (Sub.cons rfl (Sub.cons rfl (Sub.cons rfl (Sub.nil _)))) (fun w hw => Keep.mem hw) ?_
 rintro i hi
 have hlt : crcS 4294967295 (bs.take i) < 2 ^ 32 := crcS_lt (by decide) _
 refine cw_seq ?_
 refine cw_seq ?_
 refine cw_region ?_
 refine sq_r (ry_move rfl) ?_
 refine sq_r (ry_move rfl) ?_
 refine sq_r (ry_lenH rfl) ?_
 refine sq_r (ry_int rfl rfl rfl) ?_
 refine sq_nil ?_
 refine ex_then ?_
 refine cw_cond rfl (fun h0 => ?_) (fun h0 => ?_)
 ·
  try simp only [Z0, Z1, Z2, Z3, Z4, Z5, Z6, Z7, Z8, Z9] at h0
  obtain ⟨y, he⟩ := get_some (xs := bs) (i := i) (by omega)
  have hy := y.toNat_lt
  have hx0 : crcS 4294967295 (bs.take i) ^^^ y.toNat < 2 ^ 32 := Nat.xor_lt_two_pow (crcS_lt (by decide) _) (by omega)
  refine cw_skip ?_
  refine ex_then ?_
  refine cw_seq ?_
  refine cw_block ?_
  refine cw_seq ?_
  refine cw_region ?_
  refine sq_r (ry_move rfl) ?_
  refine sq_r (ry_move rfl) ?_
  refine sq_r (ry_move rfl) ?_
  refine sq_r (ry_idxH rfl rfl i rfl (by omega)) ?_
  refine sq_r (ry_elemcH (j := 0) rfl i he rfl (by decide)) ?_
  refine sq_r (ry_convn rfl (by simp only [nb]; omega)) ?_
  refine sq_r (ry_bxor rfl rfl rfl rfl (by simp only [nb]; omega) (by simp only [nb]; omega)) ?_
  refine sq_r (ry_assign rfl) ?_
  refine sq_nil ?_
  refine ex_then ?_
  refine cw_seq ?_
  refine cw_region ?_
  refine sq_r (ry_assign rfl) ?_
  refine sq_nil ?_
  refine ex_then ?_
  refine cw_block ?_
  refine cw_loop (X := Nat) (fun zz => [(5, .int .i64 (zz : Nat)), (3, .int .u32 ((crcN (crcS 4294967295 (bs.take i) ^^^ y.toNat) zz) : Nat)), (0, b.val), (4, .int .i64 (i : Nat))]) (fun zz => []) (fun zz => zz ≤ 8) (fun zz => 8 - zz) 0 (Nat.zero_le _) (Sub.cons rfl (Sub.cons rfl (Sub.cons rfl (Sub.cons rfl (Sub.nil _))))) (fun w hw => Keep.mem hw) ?_
  rintro k hk
  refine cw_seq ?_
  refine cw_seq ?_
  refine cw_region ?_
  refine sq_r (ry_move rfl) ?_
  refine sq_r (ry_int rfl rfl rfl) ?_
  refine sq_nil ?_
  refine ex_then ?_
  refine cw_cond rfl (fun h1 => ?_) (fun h1 => ?_)
  ·
   try simp only [Z0, Z1, Z2, Z3, Z4, Z5, Z6, Z7, Z8, Z9] at h1
   have hk0 : (crcN (crcS 4294967295 (bs.take i) ^^^ y.toNat) k) < 2 ^ 32 := crcN_lt hx0 k
   have hk1 : (crcN (crcS 4294967295 (bs.take i) ^^^ y.toNat) k) / 2 < 2 ^ 32 := by omega
   refine cw_skip ?_
   refine ex_then ?_
   refine cw_seq ?_
   refine cw_block ?_
   refine cw_seq ?_
   refine cw_region ?_
   refine sq_r (ry_move rfl) ?_
   refine sq_r (ry_remn (p := (crcN (crcS 4294967295 (bs.take i) ^^^ y.toNat) k)) (q := 2) rfl rfl rfl rfl (by decide)) ?_
   refine sq_r (ry_int rfl rfl rfl) ?_
   refine sq_r (ry_assign rfl) ?_
   refine sq_nil ?_
   refine ex_then ?_
   refine cw_seq ?_
   refine cw_region ?_
   refine sq_r (ry_move rfl) ?_
   refine sq_r (ry_quon (p := (crcN (crcS 4294967295 (bs.take i) ^^^ y.toNat) k)) (q := 2) rfl rfl rfl rfl (by simp only [nb]; omega) (by decide)) ?_
   refine sq_r (ry_assign rfl) ?_
   refine sq_nil ?_
   refine ex_then ?_
   refine cw_seq ?_
   refine cw_region ?_
   refine sq_r (ry_move rfl) ?_
   refine sq_nil ?_
   refine ex_then ?_
   refine cw_cond rfl (fun h2 => ?_) (fun h2 => ?_)
   ·
    try simp only [Z0, Z1, Z2, Z3, Z4, Z5, Z6, Z7, Z8, Z9] at h2
    have hod : (crcN (crcS 4294967295 (bs.take i) ^^^ y.toNat) k) % 2 = 1 := by omega
    refine cw_region ?_
    refine sq_r (ry_move rfl) ?_
    refine sq_r (ry_bxor (p := (crcN (crcS 4294967295 (bs.take i) ^^^ y.toNat) k) / 2) (q := 3988292384) rfl rfl rfl rfl (by simp only [nb]; omega) (by decide)) ?_
    refine sq_r (ry_assign rfl) ?_
    refine sq_nil ?_
    refine ex_block ?_
    refine ex_then ?_
    refine cw_region ?_
    refine sq_r (ry_move rfl) ?_
    refine sq_r (ry_add rfl rfl (by omega)) ?_
    refine sq_r (ry_assign rfl) ?_
    refine sq_nil ?_
    exact ex_again (x := (k)) (k + 1) (by first | omega | (simp only []; omega)) (by first | omega | (simp only []; omega)) (Sub.cons rfl (Sub.cons (look_eq rfl (by rw [crcN, crcT, if_pos hod]; rfl)) (Sub.cons rfl (Sub.cons rfl (Sub.nil _))))) (fun w hw => Keep.mem hw)
   ·
    try simp only [Z0, Z1, Z2, Z3, Z4, Z5, Z6, Z7, Z8, Z9] at h2
    have hod : ¬ (crcN (crcS 4294967295 (bs.take i) ^^^ y.toNat) k) % 2 = 1 := by omega
    refine cw_skip ?_
    refine ex_block ?_
    refine ex_then ?_
    refine cw_region ?_
    refine sq_r (ry_move rfl) ?_
    refine sq_r (ry_add rfl rfl (by omega)) ?_
    refine sq_r (ry_assign rfl) ?_
    refine sq_nil ?_
    exact ex_again (x := (k)) (k + 1) (by first | omega | (simp only []; omega)) (by first | omega | (simp only []; omega)) (Sub.cons rfl (Sub.cons (look_eq rfl (by rw [crcN, crcT, if_neg hod, Nat.xor_zero])) (Sub.cons rfl (Sub.cons rfl (Sub.nil _))))) (fun w hw => Keep.mem hw)
  ·
   try simp only [Z0, Z1, Z2, Z3, Z4, Z5, Z6, Z7, Z8, Z9] at h1
   obtain rfl : k = 8 := by omega
   refine cw_exit ?_
   refine ex_pass_exit ?_
   refine ex_pass_exit ?_
   refine ex_block_hit ?_
   refine ex_block ?_
   refine ex_then ?_
   refine cw_region ?_
   refine sq_r (ry_move rfl) ?_
   refine sq_r (ry_add rfl rfl (by omega)) ?_
   refine sq_r (ry_assign rfl) ?_
   refine sq_nil ?_
   exact ex_again (x := (i)) (i + 1) (by first | omega | (simp only []; omega)) (by first | omega | (simp only []; omega)) (Sub.cons rfl (Sub.cons (look_eq rfl (by rw [crcS_snoc he]; rfl)) (Sub.cons rfl (Sub.nil _)))) (fun w hw => Keep.mem hw)
 ·
  try simp only [Z0, Z1, Z2, Z3, Z4, Z5, Z6, Z7, Z8, Z9] at h0
  obtain rfl : i = bs.length := by omega
  have hlt0 : crcS 4294967295 (bs.take bs.length) < 2 ^ 32 := crcS_lt (by decide) _
  refine cw_exit ?_
  refine ex_pass_exit ?_
  refine ex_pass_exit ?_
  refine ex_block_hit ?_
  refine ex_then ?_
  refine cw_seq ?_
  refine cw_region ?_
  refine sq_r (ry_move rfl) ?_
  refine sq_r (Ry.to (v' := .int .u32 ((4294967295 - crcS 4294967295 (bs.take bs.length) : Nat) : Int)) (ry_int rfl rfl rfl) (by rw [show (4294967295 : Int) - ((crcS 4294967295 (bs.take bs.length) : Nat) : Int) = ((4294967295 - crcS 4294967295 (bs.take bs.length) : Nat) : Int) by omega, wrap_nat (k := .u32) (by simp only [nb]; omega)])) ?_
  refine sq_r (ry_assign rfl) ?_
  refine sq_nil ?_
  refine ex_then ?_
  refine cw_ret ?_
  refine ex_ret (.inl rfl) (res_1 rfl (rv_tmp rfl)) (fun w1 hw => ?_)
  exact ⟨(by rw [List.take_length]; rfl), Keep.mem hw⟩
instance refOf_i {w0 : World} {L : List Ent} {b : Sv} {bs : List UInt8} [hb : HdE w0 L benc 1 b bs] : FnQ Tryz.prog 157 w0 L [b.val] (.int .u32 (crc bs : Nat)) (True) := ⟨fun hp w hw => refOf_c w b bs (hb.h w hw)⟩
theorem refSealed_c (w : World) (b : Sv) (bs : List UInt8) (hb : Lies benc 1 (hp w) b bs) (hpre : bs.length ≤ 900000) : Calls Tryz.prog 138 #[b.val] w fun e w' => ∃ zz : Sv, e = .returned (zz.val) ∧ (True) ∧ Mem w [own benc 1 zz (sealed bs)] w' := by
 have ghb : Gv w b benc 1 bs := ⟨hb⟩
 have hcl := crc_lt bs
 refine calls_of (args := [_]) Tryz.func138 rfl Tryz.ntmps138 rfl ?_
 change Cw _ _ _ _ _ [(0, b.val)] []
 refine cw_seq ?_
 refine cw_region ?_
 refine sq_r (ry_assign rfl) ?_
 refine sq_nil ?_
 refine ex_then ?_
 refine cw_seq ?_
 refine cw_region ?_
 refine sq_build0 benc fun b3 => ?_
 refine sq_r (ry_move rfl) ?_
 refine sq_append (s := ⟨false, b3, 0, 0, 0, none⟩) (ys := bs) rfl rfl (by decide) (fun w hw => src_rows (s := b) Tryz.underlying38 (by decide) ((inferInstance : Hd _ _ b benc 1 bs).h w hw)) (by simp only [List.length_nil]; omega) (by simp only [List.length_nil]; omega) fun s5 hs5 hl5 => ?_
 refine sq_r (ry_move rfl) ?_
 refine sq_y (yl_callC rfl trivial) ?_
 refine sq_r (ry_convn rfl (by simp only [nb]; omega)) ?_
 refine sq_callC (vs := [_, .int .i64 ((4 : Nat) : Int)]) rfl ⟨by omega, by omega⟩ fun x9 hp9 => ?_
 refine sq_append (s := s5) (ys := (be (crc bs) 4)) rfl rfl (by decide) (fun w hw => src_rows (s := x9) Tryz.underlying38 (by decide) ((inferInstance : Hd _ _ x9 benc 1 (be (crc bs) 4)).h w hw)) (by simp only [List.nil_append, be_length]; omega) (by simp only [List.nil_append, be_length]; omega) fun s10 hs10 hl10 => ?_
 refine sq_r (ry_assign rfl) ?_
 refine sq_nil ?_
 refine ex_then ?_
 refine cw_ret ?_
 refine ex_ret (.inl rfl) (res_1 rfl (rv_tmp rfl)) (fun w1 hw => ?_)
 exact ⟨s10, rfl, trivial, by rw [sealed]; rw [List.nil_append] at hw; exact Keep.mem hw⟩
instance refSealed_i {w0 : World} {L : List Ent} {b : Sv} {bs : List UInt8} [hb : HdE w0 L benc 1 b bs] : FnC Tryz.prog 138 w0 L [b.val] (Sv) (fun zz => zz.val) (fun zz => own benc 1 zz (sealed bs) :: L) (fun zz => True) (bs.length ≤ 900000) := ⟨fun hp w hw => (refSealed_c w b bs (hb.h w hw) hp).mono fun e w' ⟨x, h1, h2, h3⟩ => ⟨x, h1, h2, hw.call h3⟩⟩
theorem refOpen_c (w : World) (b : Sv) (bs : List UInt8) (hb : Lies benc 1 (hp w) b bs) (hpre : bs.length ≤ 900000) : Calls Tryz.prog 98 #[b.val] w fun e w' => e = .returned (.tuple #[(openS b bs).val, .int .i64 (openE bs)]) ∧ Mem w [] w' := by
 have ghb : Gv w b benc 1 bs := ⟨hb⟩
 refine calls_of (args := [_]) Tryz.func98 rfl Tryz.ntmps98 rfl ?_
 change Cw _ _ _ _ _ [(0, b.val)] []
 refine cw_seq ?_
 refine cw_region ?_
 refine sq_r (ry_assign rfl) ?_
 refine sq_r (ry_assign rfl) ?_
 refine sq_nil ?_
 refine ex_then ?_
 refine cw_seq ?_
 refine cw_seq ?_
 refine cw_region ?_
 refine sq_r (ry_move rfl) ?_
 refine sq_r (ry_lenH rfl) ?_
 refine sq_r (ry_int rfl rfl rfl) ?_
 refine sq_nil ?_
 refine ex_then ?_
 refine cw_cond rfl (fun h0 => ?_) (fun h0 => ?_)
 ·
  try simp only [Z0, Z1, Z2, Z3, Z4, Z5, Z6, Z7, Z8, Z9] at h0
  have he : openE bs = 3 := if_pos (by omega)
  refine cw_seq ?_
  refine cw_region ?_
  refine sq_r (ry_assign rfl) ?_
  refine sq_r (ry_assign rfl) ?_
  refine sq_nil ?_
  refine ex_then ?_
  refine cw_ret ?_
  refine ex_pass_ret ?_
  refine ex_ret (.inl rfl) (res_2 rfl (rv_tmp rfl) (rv_tmp rfl)) (fun w1 hw => ?_)
  exact ⟨(by rw [openS, if_neg (by rw [he]; decide), he]; rfl), Keep.mem hw⟩
 ·
  try simp only [Z0, Z1, Z2, Z3, Z4, Z5, Z6, Z7, Z8, Z9] at h0
  have hlen : ¬ bs.length < 4 := by omega
  have ht : ((bs.drop 0).take (bs.length - 4 - 0)) = bs.take (bs.length - 4) := by simp
  refine cw_skip ?_
  refine ex_then ?_
  refine cw_seq ?_
  refine cw_seq ?_
  refine cw_lin [5] [[], [], [], [], [], [], [5], [], [], [5]] [0, 1, 2, 3, 4, 7, 8, 5, 6, 9] _ (fun _ hw => hw) (by kernel_rfl) (by kernel_rfl) ?_
  refine ln_r rfl (ry_move rfl) ?_
  refine ln_r rfl (ry_move rfl) ?_
  refine ln_r rfl (ry_lenH rfl) ?_
  refine ln_r rfl (ry_sub rfl rfl (by omega)) ?_
  have rg11 : Rg 0 (bs.length - 4) bs.length := ⟨by omega⟩
  refine ln_r rfl (ry_subH_hi rfl rfl (bs.length - 4) (by omega) rg11.h.2) ?_
  refine ln_r rfl (ry_move rfl) ?_
  refine ln_r rfl (ry_bstrH Tryz.underlying38 Tryz.underlying5 Tryz.underlying9 rfl) ?_
  refine ln_st' rfl (st_callC rfl (by rw [ht, List.length_take]; omega) fun x12 hp12 => ⟨_, fun _ h => h, fun _ hw => Keep.mem hw, ?_⟩)
  refine ln_r rfl (ry_bstrH Tryz.underlying38 Tryz.underlying5 Tryz.underlying9 rfl) ?_
  refine ln_r rfl (ry_strneL rfl rfl) ?_
  refine ln_nil ?_
  refine ex_then ?_
  refine cw_cond rfl (fun h1 => ?_) (fun h1 => ?_)
  ·
   try simp only [Z0, Z1, Z2, Z3, Z4, Z5, Z6, Z7, Z8, Z9] at h1
   have he : openE bs = 4 := by rw [openE, if_neg hlen, if_neg]; rw [← open_iff hlen, ← ht]; exact h1
   refine cw_seq ?_
   refine cw_region ?_
   refine sq_r (ry_assign rfl) ?_
   refine sq_r (ry_assign rfl) ?_
   refine sq_nil ?_
   refine ex_then ?_
   refine cw_ret ?_
   refine ex_pass_ret ?_
   refine ex_ret (.inl rfl) (res_2 rfl (rv_tmp rfl) (rv_tmp rfl)) (fun w1 hw => ?_)
   exact ⟨(by rw [openS, if_neg (by rw [he]; decide), he]; rfl), Keep.mem hw⟩
  ·
   try simp only [Z0, Z1, Z2, Z3, Z4, Z5, Z6, Z7, Z8, Z9] at h1
   have he : openE bs = 0 := by rw [openE, if_neg hlen, if_pos]; rw [← open_iff hlen, ← ht]; exact h1
   refine cw_skip ?_
   refine ex_then ?_
   refine cw_seq ?_
   refine cw_region ?_
   refine sq_r (ry_move rfl) ?_
   refine sq_r (ry_move rfl) ?_
   refine sq_r (ry_lenH rfl) ?_
   refine sq_r (ry_sub rfl rfl (by omega)) ?_
   have rg21 : Rg 0 (bs.length - 4) bs.length := ⟨by omega⟩
   refine sq_r (ry_subH_hi rfl rfl (bs.length - 4) (by omega) rg21.h.2) ?_
   refine sq_r (ry_assign rfl) ?_
   refine sq_r (ry_assign rfl) ?_
   refine sq_nil ?_
   refine ex_then ?_
   refine cw_ret ?_
   refine ex_ret (.inl rfl) (res_2 rfl (rv_tmp rfl) (rv_tmp rfl)) (fun w1 hw => ?_)
   exact ⟨(by rw [openS, if_pos he, he]), Keep.mem hw⟩
instance refOpen_i {w0 : World} {L : List Ent} {b : Sv} {bs : List UInt8} [hb : HdE w0 L benc 1 b bs] : FnQ Tryz.prog 98 w0 L [b.val] (.tuple #[(openS b bs).val, .int .i64 (openE bs)]) (bs.length ≤ 900000) := ⟨fun hp w hw => refOpen_c w b bs (hb.h w hw) hp⟩
theorem rblank_c (w : World) (b : Sv) (bs : List UInt8) (hb : Lies benc 1 (hp w) b bs) : Calls Tryz.prog 97 #[b.val] w fun e w' => e = .returned (.bool (blankF bs)) ∧ Mem w [] w' := by
 have ghb : Gv w b benc 1 bs := ⟨hb⟩
 have hbd := hb.bd
 refine calls_of (args := [_]) Tryz.func97 rfl Tryz.ntmps97 rfl ?_
 change Cw _ _ _ _ _ [(0, b.val)] []
 refine cw_seq ?_
 refine cw_region ?_
 refine sq_r (ry_assign rfl) ?_
 refine sq_nil ?_
 refine ex_then ?_
 refine cw_seq ?_
 refine cw_seq ?_
 refine cw_region ?_
 refine sq_r (ry_assign rfl) ?_
 refine sq_nil ?_
 refine ex_then ?_
 refine cw_block ?_
 refine cw_loop (X := Nat) (fun zz => [(3, .int .i64 (zz : Nat)), (0, b.val)]) (fun zz => []) (fun zz => zz ≤ bs.length ∧ ∀ j x, j < zz → bs[j]? = Option.some x → x = 255) (fun zz => bs.length - zz) 0 ⟨Nat.zero_le _, fun j x hj => by first | omega | (simp only []; omega)⟩ (Sub.cons rfl (Sub.cons rfl (Sub.nil _))) (fun w hw => Keep.mem hw) ?_
 rintro i ⟨hi1, hi2⟩
 refine cw_seq ?_
 refine cw_seq ?_
 refine cw_region ?_
 refine sq_r (ry_move rfl) ?_
 refine sq_r (ry_move rfl) ?_
 refine sq_r (ry_lenH rfl) ?_
 refine sq_r (ry_int rfl rfl rfl) ?_
 refine sq_nil ?_
 refine ex_then ?_
 refine cw_cond rfl (fun h0 => ?_) (fun h0 => ?_)
 ·
  try simp only [Z0, Z1, Z2, Z3, Z4, Z5, Z6, Z7, Z8, Z9] at h0
  refine cw_skip ?_
  refine ex_then ?_
  refine cw_seq ?_
  refine cw_block ?_
  refine cw_seq ?_
  refine cw_region ?_
  refine sq_r (ry_move rfl) ?_
  refine sq_r (ry_move rfl) ?_
  obtain ⟨y, hy⟩ := get_some (xs := bs) (i := i) (by omega)
  refine sq_r (ry_idxH rfl rfl i rfl (by omega)) ?_
  refine sq_r (ry_elemcH (j := 0) rfl i hy rfl (by decide)) ?_
  refine sq_r (ry_int rfl rfl rfl) ?_
  refine sq_nil ?_
  refine ex_then ?_
  refine cw_cond rfl (fun h1 => ?_) (fun h1 => ?_)
  ·
   try simp only [Z0, Z1, Z2, Z3, Z4, Z5, Z6, Z7, Z8, Z9] at h1
   have hz : blankF bs = false := by
    cases hk : blankF bs with
    | false => rfl
    | true => exact absurd (congrArg UInt8.toNat (blankF_iff.1 hk y (List.mem_of_getElem? hy))) (by have : (255 : UInt8).toNat = 255 := rfl; omega)
   refine cw_seq ?_
   refine cw_region ?_
   refine sq_r (ry_assign rfl) ?_
   refine sq_nil ?_
   refine ex_then ?_
   refine cw_ret ?_
   refine ex_block_ret ?_
   refine ex_pass_ret ?_
   refine ex_pass_ret ?_
   refine ex_block_ret ?_
   refine ex_pass_ret ?_
   refine ex_ret (.inl rfl) (res_1 rfl (rv_tmp rfl)) (fun w1 hw => ?_)
   exact ⟨congrArg (fun b => Ending.returned (Value.bool b)) (hz.symm), Keep.mem hw⟩
  ·
   try simp only [Z0, Z1, Z2, Z3, Z4, Z5, Z6, Z7, Z8, Z9] at h1
   have hy1 : y = 255 := UInt8.toNat_inj.1 (by have : (255 : UInt8).toNat = 255 := rfl; omega)
   refine cw_skip ?_
   refine ex_block ?_
   refine ex_then ?_
   refine cw_region ?_
   refine sq_r (ry_move rfl) ?_
   refine sq_r (ry_add rfl rfl (by omega)) ?_
   refine sq_r (ry_assign rfl) ?_
   refine sq_nil ?_
   exact ex_again (x := (i)) (i + 1) ⟨by first | omega | (simp only []; omega), fun j x hj hx => if e : j = i then (by subst e; rw [hy] at hx; cases hx; exact hy1) else hi2 j x (by first | omega | (simp only []; omega)) hx⟩ (by first | omega | (simp only []; omega)) (Sub.cons rfl (Sub.cons rfl (Sub.nil _))) (fun w hw => Keep.mem hw)
 ·
  try simp only [Z0, Z1, Z2, Z3, Z4, Z5, Z6, Z7, Z8, Z9] at h0
  obtain rfl : i = bs.length := by omega
  have hz : blankF bs = true := blankF_iff.2 fun x hx => by
   obtain ⟨j, hj⟩ := List.getElem?_of_mem hx
   exact hi2 j x (List.getElem?_eq_some_iff.1 hj).1 hj
  refine cw_exit ?_
  refine ex_pass_exit ?_
  refine ex_pass_exit ?_
  refine ex_block_hit ?_
  refine ex_then ?_
  refine cw_seq ?_
  refine cw_region ?_
  refine sq_r (ry_assign rfl) ?_
  refine sq_nil ?_
  refine ex_then ?_
  refine cw_ret ?_
  refine ex_ret (.inl rfl) (res_1 rfl (rv_tmp rfl)) (fun w1 hw => ?_)
  exact ⟨congrArg (fun b => Ending.returned (Value.bool b)) (hz.symm), Keep.mem hw⟩
instance rblank_i {w0 : World} {L : List Ent} {b : Sv} {bs : List UInt8} [hb : HdE w0 L benc 1 b bs] : FnQ Tryz.prog 97 w0 L [b.val] (.bool (blankF bs)) (True) := ⟨fun hp w hw => rblank_c w b bs (hb.h w hw)⟩
theorem pg_build2 (k i : Int) (g : UInt64) (s : Sv) (xs : List UInt8) (w : World) : (Instr.build 110 #[(0, .int .i64 k), (1, .int .i64 i), (2, .int .u64 (g.toNat : Int)), (3, s.val)]).run Tryz.prog w = .ok (.agg (pgcells ⟨k, i, g, ⟨s, xs⟩⟩)) w := by
 obtain ⟨e, b, o, l, c, p⟩ := s
 unfold pgcells
 cases e <;> kernel_rfl
theorem rpread_c (w : World) (b : Sv) (bs : List UInt8) (hb : Lies benc 1 (hp w) b bs) : Calls Tryz.prog 50 #[b.val] w fun e w' => e = .returned (.tuple #[.agg (pgcells (refPg b bs)), .int .i64 ((readF bs).2)]) ∧ Mem w [] w' := by
 have ghb : Gv w b benc 1 bs := ⟨hb⟩
 have hbd := hb.bd
 have hml := manyP_lt bs
 have hgl := headP_lt bs
 have hfl : fitsF bs.length = true ↔ 24 ≤ bs.length ∧ bs.length ≤ 256 := by rw [fitsF_iff]; omega
 refine calls_of (args := [_]) Tryz.func50 rfl Tryz.ntmps50 rfl ?_
 change Cw _ _ _ _ _ [(0, b.val)] []
 refine cw_seq ?_
 refine cw_region ?_
 refine sq_allocA fun b2 => ?_
 refine sq_r (ry_assign rfl) ?_
 refine sq_nil ?_
 refine ex_then ?_
 refine cw_seq ?_
 refine cw_region ?_
 refine sq_r (ry_build (v := .agg (pgcells zPge)) rfl (fun w => by kernel_rfl)) ?_
 refine sq_allocA fun b4 => ?_
 refine sq_storeW rfl rfl ?_
 refine sq_nil ?_
 refine ex_then ?_
 refine cw_seq ?_
 refine cw_seq ?_
 refine cw_region ?_
 refine sq_r (ry_move rfl) ?_
 refine sq_r (ry_lenH rfl) ?_
 refine sq_r (ry_int rfl rfl rfl) ?_
 refine sq_r (ry_move rfl) ?_
 refine sq_gf rfl rfl rfl (fun hg => (Ry.yl (ry_move rfl))) ?_
 refine sq_gf rfl rfl rfl (fun hg => (Ry.yl (ry_lenH (ev_c hg rfl)))) ?_
 refine sq_gf rfl rfl rfl (fun hg => (Ry.yl (ry_int (ev_c hg rfl) rfl rfl))) ?_
 refine sq_r (ry_or rfl rfl rfl) ?_
 refine sq_nil ?_
 refine ex_then ?_
 refine cw_cond rfl (fun h0 => ?_) (fun h0 => ?_)
 ·
  try simp only [Z0, Z1, Z2, Z3, Z4, Z5, Z6, Z7, Z8, Z9] at h0
  have hE : readF bs = (zPV, 3) := by rw [readF, if_pos (by
   cases hk : fitsF bs.length with
   | false => rfl
   | true => have := hfl.1 hk; omega)]
  refine cw_seq ?_
  refine cw_region ?_
  refine sq_r (ry_whole rfl) ?_
  refine sq_storeW rfl rfl ?_
  refine sq_r (ry_assign rfl) ?_
  refine sq_nil ?_
  refine ex_then ?_
  refine cw_ret ?_
  refine ex_pass_ret ?_
  refine ex_ret (.inl rfl) (res_2 rfl (rv_agg rfl) (rv_tmp rfl)) (fun w1 hw => ?_)
  exact ⟨(by rw [refPg, if_neg (by rw [isPg, hE]; simp), hE]), Keep.mem hw⟩
 ·
  try simp only [Z0, Z1, Z2, Z3, Z4, Z5, Z6, Z7, Z8, Z9] at h0
  have hf : fitsF bs.length = true := hfl.2 ⟨by omega, by omega⟩
  have hf24 := hfl.1 hf
  have hfn : ¬ fitsF bs.length = false := by rw [hf]; simp
  have hin : innerP bs = bs.take (bs.length - 4) := by rw [innerP]; simp
  have hen : endP bs = bs.drop (bs.length - 4) := List.take_of_length_le (by simp)
  refine cw_skip ?_
  refine ex_then ?_
  refine cw_seq ?_
  refine cw_seq ?_
  refine cw_region ?_
  refine sq_r (ry_move rfl) ?_
  refine sq_y (yl_callC rfl trivial) ?_
  refine sq_nil ?_
  refine ex_then ?_
  refine cw_cond rfl (fun h1 => ?_) (fun h1 => ?_)
  ·
   try simp only [Z0, Z1, Z2, Z3, Z4, Z5, Z6, Z7, Z8, Z9] at h1
   have hE : readF bs = (zPV, 0) := by rw [readF, if_neg hfn, if_pos h1]
   have hip : isPg bs = false := by rw [isPg, h1]; simp
   refine cw_seq ?_
   refine cw_region ?_
   refine sq_r (ry_whole rfl) ?_
   refine sq_storeW rfl rfl ?_
   refine sq_r (ry_assign rfl) ?_
   refine sq_nil ?_
   refine ex_then ?_
   refine cw_ret ?_
   refine ex_pass_ret ?_
   refine ex_ret (.inl rfl) (res_2 rfl (rv_agg rfl) (rv_tmp rfl)) (fun w1 hw => ?_)
   exact ⟨(by rw [refPg, if_neg (by rw [hip]; simp), hE]), Keep.mem hw⟩
  ·
   try simp only [Z0, Z1, Z2, Z3, Z4, Z5, Z6, Z7, Z8, Z9] at h1
   have hbl : ¬ blankF bs = true := by rw [h1]; simp
   have hop : openE bs = 0 ↔ de (endP bs) = crc (innerP bs) := by
    rw [openE, if_neg (by omega), hin, hen]
    split
    ·
     rename_i h; exact ⟨fun _ => h.symm, fun _ => rfl⟩
    ·
     rename_i h; exact ⟨fun g => absurd g (by decide), fun g => absurd g.symm h⟩
   refine cw_skip ?_
   refine ex_then ?_
   refine cw_seq ?_
   refine cw_region ?_
   refine sq_r (ry_move rfl) ?_
   refine sq_y (yl_callC rfl (by omega)) ?_
   refine sq_r (ry_move rfl) ?_
   refine sq_r (ry_extract (v := (openS b bs).val) rfl rfl) ?_
   refine sq_r (ry_extract (v := .int .i64 (openE bs)) rfl rfl) ?_
   refine sq_r (ry_assign rfl) ?_
   refine sq_r (ry_assign rfl) ?_
   refine sq_nil ?_
   refine ex_then ?_
   refine cw_seq ?_
   refine cw_seq ?_
   refine cw_region ?_
   refine sq_r (ry_move rfl) ?_
   refine sq_r (ry_int rfl rfl rfl) ?_
   refine sq_nil ?_
   refine ex_then ?_
   refine cw_cond rfl (fun h2 => ?_) (fun h2 => ?_)
   ·
    try simp only [Z0, Z1, Z2, Z3, Z4, Z5, Z6, Z7, Z8, Z9] at h2
    have hE : readF bs = (zPV, 4) := by rw [readF, if_neg hfn, if_neg hbl, if_pos (fun g => h2 (hop.2 g))]
    refine cw_seq ?_
    refine cw_region ?_
    refine sq_r (ry_whole rfl) ?_
    refine sq_storeW rfl rfl ?_
    refine sq_r (ry_assign rfl) ?_
    refine sq_nil ?_
    refine ex_then ?_
    refine cw_ret ?_
    refine ex_pass_ret ?_
    refine ex_ret (.inl rfl) (res_2 rfl (rv_agg rfl) (rv_tmp rfl)) (fun w1 hw => ?_)
    exact ⟨(by rw [refPg, if_neg (by rw [isPg, hE]; simp), hE]), Keep.mem hw⟩
   ·
    try simp only [Z0, Z1, Z2, Z3, Z4, Z5, Z6, Z7, Z8, Z9] at h2
    have hs : ¬ de (endP bs) ≠ crc (innerP bs) := fun g => g (hop.1 h2)
    have hmn : 256 * (bs.getD 8 0).toNat + (bs.getD 9 0).toNat = manyP bs := by rw [manyP, many_de (by omega)]
    have hrm : roomF bs.length = bs.length - 16 := by rw [roomF, if_pos hf]
    have hform : formF bs = true ↔ manyP bs + 16 ≤ bs.length ∧ ((bs.getD 0 0).toNat = 1 ∨ (bs.getD 0 0).toNat = 2) ∧ (bs.getD 1 0).toNat < 64 := by
     rw [formF, Bool.and_eq_true, decide_eq_true_eq, hrm, mayF_iff, hrm]
     simp only [headP, List.length_nil]
     constructor
     ·
      rintro ⟨g1, _, g2, _, g3, _⟩; exact ⟨by omega, by omega, by omega⟩
     ·
      rintro ⟨g1, g2, g3⟩; exact ⟨by omega, hf, by omega, by omega, by omega, hgl, by omega⟩
    have hz1 : (bs.getD 0 0).toNat < 256 := UInt8.toNat_lt _
    have hz2 : (bs.getD 1 0).toNat < 256 := UInt8.toNat_lt _
    refine cw_skip ?_
    refine ex_then ?_
    refine cw_seq ?_
    refine cw_quiet (by kernel_rfl) (by kernel_rfl) ?_
    refine qt_r (ry_move rfl) ?_
    refine qt_r (ry_idxH rfl rfl 8 rfl (by omega)) ?_
    refine qt_r (ry_elemcH (j := 0) rfl 8 (get_getD (xs := bs) (i := 8) (d := 0) (by omega)) rfl (by decide)) ?_
    refine qt_r (ry_conv_u8 rfl) ?_
    refine qt_r (ry_mul rfl rfl (by omega)) ?_
    refine qt_r (ry_move rfl) ?_
    refine qt_r (ry_idxH rfl rfl 9 rfl (by omega)) ?_
    refine qt_r (ry_elemcH (j := 0) rfl 9 (get_getD (xs := bs) (i := 9) (d := 0) (by omega)) rfl (by decide)) ?_
    refine qt_r (ry_conv_u8 rfl) ?_
    refine qt_r (ry_add rfl rfl (by omega)) ?_
    refine qt_r (ry_assign rfl) ?_
    refine qt_nil ?_
    refine ex_then ?_
    refine cw_seq ?_
    refine cw_seq ?_
    refine cw_region ?_
    refine sq_r (ry_move rfl) ?_
    refine sq_r (ry_idxH rfl rfl 0 rfl (by omega)) ?_
    refine sq_r (ry_elemcH (j := 0) rfl 0 (get_getD (xs := bs) (i := 0) (d := 0) (by omega)) rfl (by decide)) ?_
    refine sq_r (ry_int rfl rfl rfl) ?_
    refine sq_r (ry_move rfl) ?_
    refine sq_gt rfl rfl rfl (fun hg => (Ry.yl (ry_move rfl))) ?_
    refine sq_gt rfl rfl rfl (fun hg => (Ry.yl (ry_idxH (ev_c hg rfl) rfl 0 rfl (by simp only [Z0, Z1, Z2, Z3, Z4, Z5, Z6, Z7, Z8, Z9] at hg; omega)))) ?_
    refine sq_gt rfl rfl rfl (fun hg => (Ry.yl (ry_elemcH (j := 0) (ev_c hg rfl) 0 (get_getD (xs := bs) (i := 0) (d := 0) (by omega)) rfl (by decide)))) ?_
    refine sq_gt rfl rfl rfl (fun hg => (Ry.yl (ry_int (ev_c hg rfl) rfl rfl))) ?_
    refine sq_r (ry_and rfl rfl rfl) ?_
    refine sq_r (ry_move rfl) ?_
    refine sq_gf rfl rfl rfl (fun hg => (Ry.yl (ry_move rfl))) ?_
    refine sq_gf rfl rfl rfl (fun hg => (Ry.yl (ry_idxH (ev_c hg rfl) rfl 1 rfl (by simp only [Z0, Z1, Z2, Z3, Z4, Z5, Z6, Z7, Z8, Z9] at hg; omega)))) ?_
    refine sq_gf rfl rfl rfl (fun hg => (Ry.yl (ry_elemcH (j := 0) (ev_c hg rfl) 1 (get_getD (xs := bs) (i := 1) (d := 0) (by omega)) rfl (by decide)))) ?_
    refine sq_gf rfl rfl rfl (fun hg => (Ry.yl (ry_int (ev_c hg rfl) rfl rfl))) ?_
    refine sq_r (ry_or rfl rfl rfl) ?_
    refine sq_r (ry_move rfl) ?_
    refine sq_gf rfl rfl rfl (fun hg => (Ry.yl (ry_move rfl))) ?_
    refine sq_gf rfl rfl rfl (fun hg => (Ry.yl (ry_move rfl))) ?_
    refine sq_gf rfl rfl rfl (fun hg => (Ry.yl (ry_lenH (ev_c hg rfl)))) ?_
    refine sq_gf rfl rfl rfl (fun hg => (Ry.yl (ry_sub (ev_c hg rfl) rfl (by simp only [Z0, Z1, Z2, Z3, Z4, Z5, Z6, Z7, Z8, Z9] at hg; omega)))) ?_
    refine sq_gf rfl rfl rfl (fun hg => (Ry.yl (ry_int (ev_c hg rfl) (ev_c hg rfl) rfl))) ?_
    refine sq_r (ry_or rfl rfl rfl) ?_
    refine sq_nil ?_
    refine ex_then ?_
    refine cw_cond rfl (fun h3 => ?_) (fun h3 => ?_)
    ·
     try simp only [Z0, Z1, Z2, Z3, Z4, Z5, Z6, Z7, Z8, Z9] at h3
     have hE : readF bs = (zPV, 2) := by
      rw [readF, if_neg hfn, if_neg hbl, if_neg hs, if_pos]
      cases hk : formF bs with
      | false => rfl
      | true => have := hform.1 hk; omega
     refine cw_seq ?_
     refine cw_region ?_
     refine sq_r (ry_whole rfl) ?_
     refine sq_storeW rfl rfl ?_
     refine sq_r (ry_assign rfl) ?_
     refine sq_nil ?_
     refine ex_then ?_
     refine cw_ret ?_
     refine ex_pass_ret ?_
     refine ex_ret (.inl rfl) (res_2 rfl (rv_agg rfl) (rv_tmp rfl)) (fun w1 hw => ?_)
     exact ⟨(by rw [refPg, if_neg (by rw [isPg, hE]; simp), hE]), Keep.mem hw⟩
    ·
     try simp only [Z0, Z1, Z2, Z3, Z4, Z5, Z6, Z7, Z8, Z9] at h3
     have hfo : formF bs = true := hform.2 ⟨by omega, by omega, by omega⟩
     have hfon : ¬ formF bs = false := by rw [hfo]; simp
     have hil := innerP_len bs
     have hmb := (hform.1 hfo).1
     have hzr : zerosF (restP bs) = true ↔ ∀ j, 10 + manyP bs ≤ j → j < bs.length - 4 → bs.getD j 0 = 0 := rest_zero (by omega)
     refine cw_skip ?_
     refine ex_then ?_
     refine cw_seq ?_
     refine cw_seq ?_
     refine cw_region ?_
     refine sq_r (ry_move rfl) ?_
     refine sq_r (ry_add rfl rfl (by omega)) ?_
     refine sq_r (ry_assign rfl) ?_
     refine sq_nil ?_
     refine ex_then ?_
     refine cw_block ?_
     refine cw_loop (X := Nat) (fun zz => [(8, .int .i64 (zz : Nat)), (0, b.val), (2, .pointer (some ⟨b2, 0, none⟩)), (4, .pointer (some ⟨b4, 0, none⟩)), (7, .int .i64 ((256 * (bs.getD 8 0).toNat + (bs.getD 9 0).toNat) : Nat))]) (fun zz => [blk b4 (pgcells zPge) 110, blk b2 (pgcells zPge) 110]) (fun zz => 10 + manyP bs ≤ zz ∧ zz ≤ bs.length - 4 ∧ ∀ j, 10 + manyP bs ≤ j → j < zz → bs.getD j 0 = 0) (fun zz => bs.length - zz) (10 + manyP bs) ⟨Nat.le_refl _, by first | omega | (simp only []; omega), fun j h1 h2 => by first | omega | (simp only []; omega)⟩ (Sub.cons (look_eq rfl (by rw [← hmn]; rfl)) (Sub.cons rfl (Sub.cons rfl (Sub.cons rfl (Sub.cons rfl (Sub.nil _)))))) (fun w hw => Keep.mem hw) ?_
     rintro i ⟨hi1, hi2, hi3⟩
     refine cw_seq ?_
     refine cw_seq ?_
     refine cw_region ?_
     refine sq_r (ry_move rfl) ?_
     refine sq_r (ry_move rfl) ?_
     refine sq_r (ry_lenH rfl) ?_
     refine sq_r (ry_sub rfl rfl (by omega)) ?_
     refine sq_r (ry_int rfl rfl rfl) ?_
     refine sq_nil ?_
     refine ex_then ?_
     refine cw_cond rfl (fun h4 => ?_) (fun h4 => ?_)
     ·
      try simp only [Z0, Z1, Z2, Z3, Z4, Z5, Z6, Z7, Z8, Z9] at h4
      have hyz : i < bs.length - 4 := by omega
      refine cw_skip ?_
      refine ex_then ?_
      refine cw_seq ?_
      refine cw_block ?_
      refine cw_seq ?_
      refine cw_region ?_
      refine sq_r (ry_move rfl) ?_
      refine sq_r (ry_move rfl) ?_
      obtain ⟨y, hy⟩ := get_some (xs := bs) (i := i) (by omega)
      refine sq_r (ry_idxH rfl rfl i rfl (by omega)) ?_
      refine sq_r (ry_elemcH (j := 0) rfl i hy rfl (by decide)) ?_
      have hgy : bs.getD i 0 = y := by simp [List.getD, hy]
      refine sq_r (ry_int rfl rfl rfl) ?_
      refine sq_nil ?_
      refine ex_then ?_
      refine cw_cond rfl (fun h5 => ?_) (fun h5 => ?_)
      ·
       try simp only [Z0, Z1, Z2, Z3, Z4, Z5, Z6, Z7, Z8, Z9] at h5
       have hE : readF bs = (zPV, 2) := by
        rw [readF, if_neg hfn, if_neg hbl, if_neg hs, if_neg hfon, if_pos]
        cases hk : zerosF (restP bs) with
        | false => rfl
        | true => have := hzr.1 hk i (by omega) hyz; rw [hgy] at this; rw [this] at h5; exact absurd rfl h5
       refine cw_seq ?_
       refine cw_region ?_
       refine sq_r (ry_whole rfl) ?_
       refine sq_storeW rfl rfl ?_
       refine sq_r (ry_assign rfl) ?_
       refine sq_nil ?_
       refine ex_then ?_
       refine cw_ret ?_
       refine ex_block_ret ?_
       refine ex_pass_ret ?_
       refine ex_pass_ret ?_
       refine ex_block_ret ?_
       refine ex_pass_ret ?_
       refine ex_ret (.inl rfl) (res_2 rfl (rv_agg rfl) (rv_tmp rfl)) (fun w1 hw => ?_)
       exact ⟨(by rw [refPg, if_neg (by rw [isPg, hE]; simp), hE]), Keep.mem hw⟩
      ·
       try simp only [Z0, Z1, Z2, Z3, Z4, Z5, Z6, Z7, Z8, Z9] at h5
       have hy0 : y = 0 := UInt8.toNat_inj.1 (by have : (0 : UInt8).toNat = 0 := rfl; omega)
       refine cw_skip ?_
       refine ex_block ?_
       refine ex_then ?_
       refine cw_region ?_
       refine sq_r (ry_move rfl) ?_
       refine sq_r (ry_add rfl rfl (by omega)) ?_
       refine sq_r (ry_assign rfl) ?_
       refine sq_nil ?_
       exact ex_again (x := (i)) (i + 1) ⟨by first | omega | (simp only []; omega), by first | omega | (simp only []; omega), fun j h1 h2 => if e : j = i then (by subst e; rw [hgy, hy0]) else hi3 j h1 (by first | omega | (simp only []; omega))⟩ (by first | omega | (simp only []; omega)) (Sub.cons rfl (Sub.cons rfl (Sub.cons rfl (Sub.cons rfl (Sub.cons rfl (Sub.nil _)))))) (fun w hw => Keep.mem hw)
     ·
      try simp only [Z0, Z1, Z2, Z3, Z4, Z5, Z6, Z7, Z8, Z9] at h4
      have hz9 : zerosF (restP bs) = true := hzr.2 fun j h1 h2 => hi3 j h1 (by omega)
      have hE : readF bs = ({ headP bs with body := (bs.drop 10).take (10 + manyP bs - 10) }, 0) := by rw [readF, if_neg hfn, if_neg hbl, if_neg hs, if_neg hfon, if_neg (by rw [hz9]; simp)]
      have hip : isPg bs = true := by rw [isPg, hE]; simpa using hbl
      refine cw_exit ?_
      refine ex_pass_exit ?_
      refine ex_pass_exit ?_
      refine ex_block_hit ?_
      refine ex_then ?_
      refine cw_seq ?_
      refine cw_lin [16] [[], [], [], [], [], [], [], [], [], [], [], [], [], [], [], [], [], [16]] [0, 1, 2, 3, 4, 5, 6, 7, 8, 9, 10, 11, 12, 13, 14, 15, 16, 17] [] (fun _ hw => Keep.mem hw) (by kernel_rfl) (by kernel_rfl) ?_
      refine ln_r rfl (ry_move rfl) ?_
      refine ln_r rfl (ry_idxH rfl rfl 0 rfl (by omega)) ?_
      refine ln_r rfl (ry_elemcH (j := 0) rfl 0 (get_getD (xs := bs) (i := 0) (d := 0) (by omega)) rfl (by decide)) ?_
      refine ln_r rfl (ry_conv_u8 rfl) ?_
      refine ln_r rfl (ry_move rfl) ?_
      refine ln_r rfl (ry_idxH rfl rfl 1 rfl (by omega)) ?_
      refine ln_r rfl (ry_elemcH (j := 0) rfl 1 (get_getD (xs := bs) (i := 1) (d := 0) (by omega)) rfl (by decide)) ?_
      refine ln_r rfl (ry_conv_u8 rfl) ?_
      refine ln_r rfl (ry_move rfl) ?_
      have rg88 : Rg 2 8 bs.length := ⟨by omega⟩
      refine ln_r rfl (ry_subH rfl rfl rfl 2 8 rfl rfl rg88.h.1 rg88.h.2) ?_
      refine ln_y rfl (yl_callC rfl (by simp; omega)) ?_
      refine ln_r rfl (ry_move rfl) ?_
      refine ln_r rfl (ry_move rfl) ?_
      refine ln_r rfl (ry_add rfl rfl (by omega)) ?_
      have rg93 : Rg 10 (10 + (256 * (bs.getD 8 0).toNat + (bs.getD 9 0).toNat)) bs.length := ⟨by omega⟩
      refine ln_r rfl (Ry.to (v' := (b.sub 1 10 (10 + manyP bs)).val) (ry_subH rfl rfl rfl 10 (10 + (256 * (bs.getD 8 0).toNat + (bs.getD 9 0).toNat)) rfl rfl (by omega) (by omega)) (by rw [hmn])) ?_
      refine ln_r rfl (ry_build (v := .agg (pgcells (⟨((bs.getD 0 0).toNat : Int), ((bs.getD 1 0).toNat : Int), UInt64.ofNat (de ((bs.drop 2).take (8 - 2))), ⟨b.sub 1 10 (10 + manyP bs), (bs.drop 10).take (10 + manyP bs - 10)⟩⟩ : Pge))) rfl (by
       intro w
       have := pg_build2 ((bs.getD 0 0).toNat : Int) ((bs.getD 1 0).toNat : Int) (UInt64.ofNat (de ((bs.drop 2).take (8 - 2)))) (b.sub 1 10 (10 + manyP bs)) ((bs.drop 10).take (10 + manyP bs - 10)) w
       rw [headG_gen] at this
       exact this)) ?_
      refine ln_st rfl (st_storeW rfl rfl ⟨fun _ hw => Keep.mem hw, ?_⟩)
      refine ln_r rfl (ry_assign rfl) ?_
      refine ln_nil ?_
      refine ex_then ?_
      refine cw_ret ?_
      refine ex_ret (.inl rfl) (res_2 rfl (rv_agg rfl) (rv_tmp rfl)) (fun w1 hw => ?_)
      exact ⟨(by rw [refPg, if_pos hip, hE]), Keep.mem hw⟩
instance rpread_i {w0 : World} {L : List Ent} {b : Sv} {bs : List UInt8} [hb : HdE w0 L benc 1 b bs] : FnQ Tryz.prog 50 w0 L [b.val] (.tuple #[.agg (pgcells (refPg b bs)), .int .i64 ((readF bs).2)]) (True) := ⟨fun hp w hw => rpread_c w b bs (hb.h w hw)⟩

end Go.Proofs.YtaipiecplldinaaGreat

/- A block marked; power on again. -/
namespace Go.Proofs.YtaipiecplldinaaGreat
open Go.Eng Go.Kb
open Go.RowKit
theorem cmark_c (w : World) (c : Cp) (b : Int) (hc : Deep.good (hp w) c) (hpre : smallC c) : Calls Tryz.prog 162 #[.agg (cpcells c), .int .i64 b] w fun e w' => ∃ zz : Cp, e = .returned (.tuple #[.agg (cpcells zz), .int .i64 (markE (cv c) b)]) ∧ (cv zz = markF (cv c) b) ∧ Mem w [fz zz] w' := by
 have ghc : GvD w c := ⟨hc⟩
 have hsm : smallC c := hpre
 obtain ⟨hp1, hp2, hp3⟩ := hpre
 refine calls_of (args := [_, _]) Tryz.func162 rfl Tryz.ntmps162 rfl ?_
 change Cw _ _ _ _ _ [(0, .agg (cpcells c)), (1, .int .i64 b)] []
 refine cw_seq ?_
 refine cw_region ?_
 refine sq_boxA rfl fun b2 => ?_
 refine sq_allocA fun b4 => ?_
 refine sq_r (ry_assign rfl) ?_
 refine sq_nil ?_
 refine ex_then ?_
 refine cw_seq ?_
 refine cw_region ?_
 refine sq_r (ry_whole rfl) ?_
 refine sq_callC rfl (by assumption) fun x8 hp8 => ?_
 refine sq_allocA fun b6 => ?_
 refine sq_storeW rfl rfl ?_
 refine sq_nil ?_
 refine ex_then ?_
 refine cw_seq ?_
 refine cw_seq ?_
 refine cw_region ?_
 refine sq_r (ry_whole rfl) ?_
 refine sq_r (ry_move rfl) ?_
 refine sq_y (yl_callC rfl trivial) ?_
 refine sq_r (ry_not rfl) ?_
 refine sq_nil ?_
 refine ex_then ?_
 refine cw_cond rfl (fun h0 => ?_) (fun h0 => ?_)
 ·
  try simp only [Z0, Z1, Z2, Z3, Z4, Z5, Z6, Z7, Z8, Z9] at h0
  have hE : markE (cv c) b = 1 := by rw [markE, if_neg (by rw [h0]; simp)]
  refine cw_seq ?_
  refine cw_region ?_
  refine sq_r (ry_whole rfl) ?_
  refine sq_storeW rfl rfl ?_
  refine sq_r (ry_assign rfl) ?_
  refine sq_nil ?_
  refine ex_then ?_
  refine cw_ret ?_
  refine ex_pass_ret ?_
  refine ex_ret (.inl rfl) (res_2 rfl (rv_agg rfl) (rv_tmp rfl)) (fun w1 hw => ?_)
  exact ⟨x8, by rw [hE], by rw [hp8, markF, if_neg (by rw [hE]; decide)], frzAll x8 (Keep.mem hw)⟩
 ·
  try simp only [Z0, Z1, Z2, Z3, Z4, Z5, Z6, Z7, Z8, Z9] at h0
  have hk : hasF (cv c) b = true := h0
  have hh := hk
  have hbb := (hasF_iff.1 hh).2
  have hbl : x8.blocks.xs.length = c.blocks.xs.length := by have := congrArg (fun v : CV => v.blocks.length) hp8; simpa only [cv, bvs_length] using this
  have hol : x8.ops = c.ops := congrArg CV.ops hp8
  have hcb : (cv c).blocks.length = c.blocks.xs.length := bvs_length _
  obtain ⟨B, hB⟩ := get_some (xs := x8.blocks.xs) (i := b.toNat) (by omega)
  have hBl : b.toNat < x8.blocks.xs.length := (List.getElem?_eq_some_iff.1 hB).1
  have hBv : bv B = blkAt (cv c) b := by
   have h1 := blkAt_get hh
   have h2 := bvs_get hB
   rw [show bvs x8.blocks.xs = (cv c).blocks from congrArg CV.blocks hp8, h1] at h2
   exact (Option.some.inj h2).symm
  have hBo : bkOk c.pages c.size (bv B) = true := by rw [hBv]; exact blkAt_ok hh
  obtain ⟨o1, o2, o3, o4, o5, o6⟩ := bkOk_iff.1 hBo
  have hso := soundF_iff.1 (chipOk_iff.1 (hasF_iff.1 hh).1).1
  have hog := (chipOk_iff.1 (hasF_iff.1 hh).1).2.1
  simp only [bv, cv] at o1 o2 o3 o4 o5 o6 hso hog
  have hTl := txs_length B.pages.xs
  refine cw_skip ?_
  refine ex_then ?_
  refine cw_seq ?_
  refine cw_seq ?_
  refine cw_region ?_
  refine sq_r (ry_field (o' := 4) rfl rfl) ?_
  refine sq_r (ry_cellc rfl) ?_
  refine sq_nil ?_
  refine ex_then ?_
  refine cw_cond rfl (fun h1 => ?_) (fun h1 => ?_)
  ·
   try simp only [Z0, Z1, Z2, Z3, Z4, Z5, Z6, Z7, Z8, Z9] at h1
   have hE : markE (cv c) b = 7 := by rw [markE, if_pos hk, if_pos (show (cv c).off = true from h1)]
   refine cw_seq ?_
   refine cw_region ?_
   refine sq_r (ry_whole rfl) ?_
   refine sq_storeW rfl rfl ?_
   refine sq_r (ry_assign rfl) ?_
   refine sq_nil ?_
   refine ex_then ?_
   refine cw_ret ?_
   refine ex_pass_ret ?_
   refine ex_ret (.inl rfl) (res_2 rfl (rv_agg rfl) (rv_tmp rfl)) (fun w1 hw => ?_)
   exact ⟨x8, by rw [hE], by rw [hp8, markF, if_neg (by rw [hE]; decide)], frzAll x8 (Keep.mem hw)⟩
  ·
   try simp only [Z0, Z1, Z2, Z3, Z4, Z5, Z6, Z7, Z8, Z9] at h1
   have hE : markE (cv c) b = 0 := by rw [markE, if_pos hk, if_neg (by rw [show (cv c).off = false from h1]; simp)]
   refine cw_skip ?_
   refine ex_then ?_
   refine cw_seq ?_
   refine cw_region ?_
   refine sq_r (ry_field (o' := 2) rfl rfl) ?_
   refine sq_r (ry_cellc rfl) ?_
   refine sq_r (ry_move rfl) ?_
   refine sq_r (ry_idxH rfl rfl b.toNat (by omega) hBl) ?_
   refine sq_r (ry_field rfl rfl) ?_
   refine sq_storeS (s := x8.blocks.sv) (n := 1) (k := b.toNat) (j := 3) (a := B) (a' := (⟨B.pages, B.used, B.worn, true⟩ : Bk)) (xs := x8.blocks.xs) (enc := bkcells) (c := 4) (v := .bool true) (by kernel_rfl) rfl rfl rfl hB (by simp [Value.cells, Value.oneCell']) (by rfl) (by decide) (by rfl) ?_
   refine sq_nil ?_
   refine ex_then ?_
   refine cw_seq ?_
   refine cw_region ?_
   refine sq_r (ry_whole rfl) ?_
   refine sq_storeW rfl rfl ?_
   refine sq_r (ry_assign rfl) ?_
   refine sq_nil ?_
   refine ex_then ?_
   refine cw_ret ?_
   refine ex_ret (.inl rfl) (res_2 rfl (rv_agg rfl) (rv_tmp rfl)) (fun w1 hw => ?_)
   exact ⟨(⟨x8.pages, x8.size, ⟨x8.blocks.sv, x8.blocks.xs.set b.toNat (⟨B.pages, B.used, B.worn, true⟩ : Bk)⟩, x8.ops, x8.off, x8.faults⟩ : Cp), by rw [hE]; rfl, by rw [mark_cv hp8 hBv, markF, if_pos hE], frzAll (⟨x8.pages, x8.size, ⟨x8.blocks.sv, x8.blocks.xs.set b.toNat (⟨B.pages, B.used, B.worn, true⟩ : Bk)⟩, x8.ops, x8.off, x8.faults⟩ : Cp) (by
    simp only [bag_same hB (B' := (⟨B.pages, B.used, B.worn, true⟩ : Bk)) rfl]
    exact Keep.mem hw)⟩
instance cmark_i {w0 : World} {L : List Ent} {c : Cp} {b : Int} [hc : HdD w0 L c] : FnC Tryz.prog 162 w0 L [.agg (cpcells c), .int .i64 b] (Cp) (fun zz => .tuple #[.agg (cpcells zz), .int .i64 (markE (cv c) b)]) (fun zz => fz zz :: L) (fun zz => cv zz = markF (cv c) b) (smallC c) := ⟨fun hp w hw => (cmark_c w c b (hc.h w hw) hp).mono fun e w' ⟨x, h1, h2, h3⟩ => ⟨x, h1, h2, hw.call h3⟩⟩
theorem con_c (w : World) (c : Cp) (fs : Sv) (fss : List Ft) (hc : Deep.good (hp w) c) (hfs : Lies ftcells 4 (hp w) fs fss) (hpre : smallC c) : Calls Tryz.prog 32 #[.agg (cpcells c), fs.val] w fun e w' => ∃ zz : Cp, e = .returned (.tuple #[.agg (cpcells zz), .int .i64 (onE (cv c) fss)]) ∧ (cv zz = onF (cv c) fss) ∧ Mem w [fz zz] w' := by
 have ghc : GvD w c := ⟨hc⟩
 have ghfs : Gv w fs ftcells 4 fss := ⟨hfs⟩
 have hsm : smallC c := hpre
 obtain ⟨hp1, hp2, hp3⟩ := hpre
 refine calls_of (args := [_, _]) Tryz.func32 rfl Tryz.ntmps32 rfl ?_
 change Cw _ _ _ _ _ [(0, .agg (cpcells c)), (1, fs.val)] []
 refine cw_seq ?_
 refine cw_region ?_
 refine sq_boxA rfl fun b2 => ?_
 refine sq_allocA fun b4 => ?_
 refine sq_r (ry_assign rfl) ?_
 refine sq_nil ?_
 refine ex_then ?_
 refine cw_seq ?_
 refine cw_region ?_
 refine sq_r (ry_whole rfl) ?_
 refine sq_callC rfl (by assumption) fun x8 hp8 => ?_
 refine sq_allocA fun b6 => ?_
 refine sq_storeW rfl rfl ?_
 refine sq_nil ?_
 refine ex_then ?_
 refine cw_seq ?_
 refine cw_seq ?_
 refine cw_region ?_
 refine sq_r (ry_whole rfl) ?_
 refine sq_y (yl_callC rfl trivial) ?_
 refine sq_r (ry_not rfl) ?_
 refine sq_r (ry_move rfl) ?_
 refine sq_gf rfl rfl rfl (fun hg => (Ry.yl (ry_move rfl))) ?_
 refine sq_gf rfl rfl rfl (fun hg => (Ry.yl (ry_lenH (ev_c hg rfl)))) ?_
 refine sq_gf rfl rfl rfl (fun hg => (Ry.yl (ry_int (ev_c hg rfl) rfl rfl))) ?_
 refine sq_r (ry_or rfl rfl rfl) ?_
 refine sq_nil ?_
 refine ex_then ?_
 refine cw_cond rfl (fun h0 => ?_) (fun h0 => ?_)
 ·
  try simp only [Z0, Z1, Z2, Z3, Z4, Z5, Z6, Z7, Z8, Z9] at h0
  have hE : onE (cv c) fss = 1 := by rw [onE, if_neg (fun h => by rw [h.1] at h0; simp only [Bool.true_eq_false, false_or] at h0; omega)]
  refine cw_seq ?_
  refine cw_region ?_
  refine sq_r (ry_whole rfl) ?_
  refine sq_storeW rfl rfl ?_
  refine sq_r (ry_assign rfl) ?_
  refine sq_nil ?_
  refine ex_then ?_
  refine cw_ret ?_
  refine ex_pass_ret ?_
  refine ex_ret (.inl rfl) (res_2 rfl (rv_agg rfl) (rv_tmp rfl)) (fun w1 hw => ?_)
  exact ⟨x8, by rw [hE], by rw [hp8, onF, if_neg (by rw [hE]; decide)], frzAll x8 (Keep.mem hw)⟩
 ·
  try simp only [Z0, Z1, Z2, Z3, Z4, Z5, Z6, Z7, Z8, Z9] at h0
  have hE : onE (cv c) fss = 0 := by
   rw [onE, if_pos]
   cases hk : chipOk (cv c) with
   | false => rw [hk] at h0; simp at h0
   | true => exact ⟨rfl, by rw [hk] at h0; simp only [Bool.true_eq_false, not_false_eq_true, true_and] at h0; omega⟩
  have hfl : fss.length ≤ 64 := by
   by_cases h9 : chipOk (cv c) = true ∧ fss.length ≤ 64
   ·
    exact h9.2
   ·
    rw [onE, if_neg h9] at hE; cases hE
  refine cw_skip ?_
  refine ex_then ?_
  refine cw_seq ?_
  refine cw_region ?_
  refine sq_r (ry_field (o' := 4) rfl rfl) ?_
  refine sq_store (cs' := cpcells (⟨x8.pages, x8.size, x8.blocks, x8.ops, false, x8.faults⟩ : Cp)) rfl rfl (by show 4 < 6; decide) (by first | rfl | exact Sv.one _) rfl ?_
  refine sq_nil ?_
  refine ex_then ?_
  refine cw_seq ?_
  refine cw_region ?_
  refine sq_r (ry_move rfl) ?_
  refine sq_callC rfl (by omega) fun x20 hp20 => ?_
  refine sq_r (ry_field (o' := 5) rfl rfl) ?_
  refine sq_store (cs' := cpcells (⟨x8.pages, x8.size, x8.blocks, x8.ops, false, ⟨x20, fss⟩⟩ : Cp)) rfl rfl (by show 5 < 6; decide) (by first | rfl | exact Sv.one _) rfl ?_
  refine sq_nil ?_
  refine ex_then ?_
  refine cw_seq ?_
  refine cw_region ?_
  refine sq_r (ry_whole rfl) ?_
  refine sq_storeW rfl rfl ?_
  refine sq_r (ry_assign rfl) ?_
  refine sq_nil ?_
  refine ex_then ?_
  refine cw_ret ?_
  refine ex_ret (.inl rfl) (res_2 rfl (rv_agg rfl) (rv_tmp rfl)) (fun w1 hw => ?_)
  exact ⟨(⟨x8.pages, x8.size, x8.blocks, x8.ops, false, ⟨x20, fss⟩⟩ : Cp), by rw [hE], by rw [onF, if_pos hE, ← hp8]; rfl, frzAll (⟨x8.pages, x8.size, x8.blocks, x8.ops, false, ⟨x20, fss⟩⟩ : Cp) (Keep.mem hw)⟩
instance con_i {w0 : World} {L : List Ent} {c : Cp} {fs : Sv} {fss : List Ft} [hc : HdD w0 L c] [hfs : HdE w0 L ftcells 4 fs fss] : FnC Tryz.prog 32 w0 L [.agg (cpcells c), fs.val] (Cp) (fun zz => .tuple #[.agg (cpcells zz), .int .i64 (onE (cv c) fss)]) (fun zz => fz zz :: L) (fun zz => cv zz = onF (cv c) fss) (smallC c) := ⟨fun hp w hw => (con_c w c fs fss (hc.h w hw) (hfs.h w hw) hp).mono fun e w' ⟨x, h1, h2, h3⟩ => ⟨x, h1, h2, hw.call h3⟩⟩

end Go.Proofs.YtaipiecplldinaaGreat

/- Roots: what fits. -/
namespace Go.Proofs.YtaipiecplldinaaGreat
open Go.Eng Go.Kb
open Go.RowKit
instance : ZeroT Tryz.prog 147 (.agg (rtcells zRts)) := ⟨by kernel_rfl⟩
theorem rtmost_c (w : World) (n : Int)  : Calls Tryz.prog 83 #[.int .i64 n] w fun e w' => e = .returned (.int .i64 (mostF n)) ∧ Mem w [] w' := by
 have hrr : fitsF n = true → 24 ≤ n ∧ n ≤ 256 := fun h => fitsF_iff.1 h
 have hrb : 0 ≤ roomF n ∧ roomF n ≤ 240 := by
  
  by_cases h : fitsF n = true
  ·
   have := hrr h; rw [roomF, if_pos h]; omega
  ·
   rw [roomF, if_neg h]; omega
 refine calls_of (args := [_]) Tryz.func83 rfl Tryz.ntmps83 rfl ?_
 change Cw _ _ _ _ _ [(0, .int .i64 n)] []
 refine cw_seq ?_
 refine cw_region ?_
 refine sq_r (ry_assign rfl) ?_
 refine sq_nil ?_
 refine ex_then ?_
 refine cw_seq ?_
 refine cw_region ?_
 refine sq_r (ry_move rfl) ?_
 refine sq_y (yl_callC rfl trivial) ?_
 refine sq_r (ry_quo rfl rfl (by omega) (by omega)) ?_
 refine sq_r (ry_min rfl rfl) ?_
 refine sq_r (ry_assign rfl) ?_
 refine sq_nil ?_
 refine ex_then ?_
 refine cw_ret ?_
 refine ex_ret (.inl rfl) (res_1 rfl (rv_tmp rfl)) (fun w1 hw => ?_)
 exact ⟨congrArg (fun b => Ending.returned (Value.int .i64 b)) (rfl), Keep.mem hw⟩
instance rtmost_i {w0 : World} {L : List Ent} {n : Int}  : FnQ Tryz.prog 83 w0 L [.int .i64 n] (.int .i64 (mostF n)) (True) := ⟨fun hp w hw => rtmost_c w n ⟩
theorem rtmay_c (w : World) (r : Rts) (n : Int) (hr : Deep.good (hp w) r) : Calls Tryz.prog 147 #[.agg (rtcells r), .int .i64 n] w fun e w' => e = .returned (.bool (rmayF (rvv r) n)) ∧ Mem w [] w' := by
 have ghr : GvD w r := ⟨hr⟩
 have hbd := hr.1.bd
 refine calls_of (args := [_, _]) Tryz.func147 rfl Tryz.ntmps147 rfl ?_
 change Cw _ _ _ _ _ [(0, .agg (rtcells r)), (1, .int .i64 n)] []
 refine cw_seq ?_
 refine cw_region ?_
 refine sq_boxA rfl fun b2 => ?_
 refine sq_r (ry_assign rfl) ?_
 refine sq_nil ?_
 refine ex_then ?_
 refine cw_seq ?_
 refine cw_seq ?_
 refine cw_quiet (by kernel_rfl) (by kernel_rfl) ?_
 refine qt_r (ry_move rfl) ?_
 refine qt_y (yl_callC rfl trivial) ?_
 refine qt_r (ry_int rfl rfl rfl) ?_
 refine qt_r (ry_move rfl) ?_
 refine qt_gf rfl rfl rfl (fun hg => (Ry.yl (ry_field (o' := 0) rfl rfl))) ?_
 refine qt_gf rfl rfl rfl (fun hg => (Ry.yl (ry_cellc (ev_c hg rfl)))) ?_
 refine qt_gf rfl rfl rfl (fun hg => (Ry.yl (ry_int (ev_c hg rfl) rfl rfl))) ?_
 refine qt_r (ry_or rfl rfl rfl) ?_
 refine qt_r (ry_move rfl) ?_
 refine qt_gf rfl rfl rfl (fun hg => (Ry.yl (ry_field (o' := 1) rfl rfl))) ?_
 refine qt_gf rfl rfl rfl (fun hg => (Ry.yl (ry_cellc (ev_c hg rfl)))) ?_
 refine qt_gf rfl rfl rfl (fun hg => (Ry.yl (ry_lenH (ev_c hg rfl)))) ?_
 refine qt_gf rfl rfl rfl (fun hg => (Ry.yl (ry_move rfl))) ?_
 refine qt_gf rfl rfl rfl (fun hg => yl_callC (evl_cons (ev_c hg rfl) evl_nil) trivial) ?_
 refine qt_gf rfl rfl rfl (fun hg => (Ry.yl (ry_int (ev_c hg rfl) (ev_c hg rfl) rfl))) ?_
 refine qt_r (ry_or rfl rfl rfl) ?_
 refine qt_nil ?_
 refine ex_then ?_
 refine cw_cond rfl (fun h0 => ?_) (fun h0 => ?_)
 ·
  try simp only [Z0, Z1, Z2, Z3, Z4, Z5, Z6, Z7, Z8, Z9] at h0
  have hz : rmayF (rvv r) n = false := by
   cases hk : rmayF (rvv r) n with
   | false => rfl
   | true =>
    obtain ⟨g1, g2, g3, g4⟩ := rmayF_iff.1 hk
    simp only [rvv] at g2 g3
    omega
  refine cw_seq ?_
  refine cw_region ?_
  refine sq_r (ry_assign rfl) ?_
  refine sq_nil ?_
  refine ex_then ?_
  refine cw_ret ?_
  refine ex_pass_ret ?_
  refine ex_ret (.inl rfl) (res_1 rfl (rv_tmp rfl)) (fun w1 hw => ?_)
  exact ⟨congrArg (fun b => Ending.returned (Value.bool b)) (hz.symm), Keep.mem hw⟩
 ·
  try simp only [Z0, Z1, Z2, Z3, Z4, Z5, Z6, Z7, Z8, Z9] at h0
  have g0 : roomF n ≠ 0 ∧ r.gen.toNat < 281474976710656 ∧ (r.at_.xs.length : Int) ≤ mostF n := ⟨by omega, by omega, by omega⟩
  refine cw_skip ?_
  refine ex_then ?_
  refine cw_seq ?_
  refine cw_seq ?_
  refine cw_region ?_
  refine sq_r (ry_field (o' := 1) rfl rfl) ?_
  refine sq_r (ry_cellc rfl) ?_
  refine sq_r (ry_lenH rfl) ?_
  refine sq_r (ry_move rfl) ?_
  refine sq_nil ?_
  refine ex_then ?_
  refine cw_block ?_
  refine cw_loop (X := Nat) (fun zz => [(26, .int .i64 (zz : Nat)), (24, r.at_.sv.val), (25, .int .i64 (r.at_.xs.length : Nat))]) (fun zz => [blk b2 (rtcells r) 147]) (fun zz => zz ≤ r.at_.xs.length ∧ ∀ j x, j < zz → r.at_.xs[j]? = Option.some x → numOk x = true) (fun zz => r.at_.xs.length - zz) 0 ⟨Nat.zero_le _, fun j x hj => by first | omega | (simp only []; omega)⟩ (Sub.cons rfl (Sub.cons rfl (Sub.cons rfl (Sub.nil _)))) (fun w hw => Keep.mem hw) ?_
  rintro i ⟨hi1, hi2⟩
  refine cw_seq ?_
  refine cw_region ?_
  refine sq_r (ry_int rfl rfl rfl) ?_
  refine sq_nil ?_
  refine ex_then ?_
  refine cw_seq ?_
  refine cw_cond rfl (fun h1 => ?_) (fun h1 => ?_)
  ·
   try simp only [Z0, Z1, Z2, Z3, Z4, Z5, Z6, Z7, Z8, Z9] at h1
   refine cw_skip ?_
   refine ex_then ?_
   refine cw_seq ?_
   refine cw_block ?_
   refine cw_seq ?_
   refine cw_region ?_
   obtain ⟨y, hy⟩ := get_some (xs := r.at_.xs) (i := i) (by omega)
   refine sq_r (ry_idxH rfl rfl i rfl (by omega)) ?_
   refine sq_r (ry_elemcH (j := 0) rfl i hy rfl (by decide)) ?_
   refine sq_r (ry_assign rfl) ?_
   refine sq_nil ?_
   refine ex_then ?_
   refine cw_seq ?_
   refine cw_region ?_
   refine sq_r (ry_move rfl) ?_
   refine sq_r (ry_int rfl rfl rfl) ?_
   refine sq_r (ry_move rfl) ?_
   refine sq_gf rfl rfl rfl (fun hg => (Ry.yl (ry_move rfl))) ?_
   refine sq_gf rfl rfl rfl (fun hg => (Ry.yl (ry_int (ev_c hg rfl) rfl rfl))) ?_
   refine sq_r (ry_or rfl rfl rfl) ?_
   refine sq_nil ?_
   refine ex_then ?_
   refine cw_cond rfl (fun h2 => ?_) (fun h2 => ?_)
   ·
    try simp only [Z0, Z1, Z2, Z3, Z4, Z5, Z6, Z7, Z8, Z9] at h2
    have hz : rmayF (rvv r) n = false := by
     cases hk : rmayF (rvv r) n with
     | false => rfl
     | true =>
      have g := numOk_iff.1 ((rmayF_iff.1 hk).2.2.2 y (List.mem_of_getElem? hy))
      omega
    refine cw_seq ?_
    refine cw_region ?_
    refine sq_r (ry_assign rfl) ?_
    refine sq_nil ?_
    refine ex_then ?_
    refine cw_ret ?_
    refine ex_block_ret ?_
    refine ex_pass_ret ?_
    refine ex_pass_ret ?_
    refine ex_block_ret ?_
    refine ex_pass_ret ?_
    refine ex_ret (.inl rfl) (res_1 rfl (rv_tmp rfl)) (fun w1 hw => ?_)
    exact ⟨congrArg (fun b => Ending.returned (Value.bool b)) (hz.symm), Keep.mem hw⟩
   ·
    try simp only [Z0, Z1, Z2, Z3, Z4, Z5, Z6, Z7, Z8, Z9] at h2
    have hyo : numOk y = true := numOk_iff.2 ⟨by omega, by omega⟩
    refine cw_skip ?_
    refine ex_block ?_
    refine ex_then ?_
    refine cw_region ?_
    refine sq_r (ry_add rfl rfl (by omega)) ?_
    refine sq_r (ry_move rfl) ?_
    refine sq_nil ?_
    exact ex_again (x := (i)) (i + 1) ⟨by first | omega | (simp only []; omega), fun j x hj hx => if e : j = i then (by subst e; rw [hy] at hx; cases hx; exact hyo) else hi2 j x (by first | omega | (simp only []; omega)) hx⟩ (by first | omega | (simp only []; omega)) (Sub.cons rfl (Sub.cons rfl (Sub.cons rfl (Sub.nil _)))) (fun w hw => Keep.mem hw)
  ·
   try simp only [Z0, Z1, Z2, Z3, Z4, Z5, Z6, Z7, Z8, Z9] at h1
   obtain rfl : i = r.at_.xs.length := by omega
   have hz : rmayF (rvv r) n = true := rmayF_iff.2 ⟨g0.1, g0.2.1, g0.2.2, fun x hx => by
    obtain ⟨j, hj⟩ := List.getElem?_of_mem hx
    exact hi2 j x (List.getElem?_eq_some_iff.1 hj).1 hj⟩
   refine cw_exit ?_
   refine ex_pass_exit ?_
   refine ex_pass_exit ?_
   refine ex_block_hit ?_
   refine ex_then ?_
   refine cw_seq ?_
   refine cw_region ?_
   refine sq_r (ry_assign rfl) ?_
   refine sq_nil ?_
   refine ex_then ?_
   refine cw_ret ?_
   refine ex_ret (.inl rfl) (res_1 rfl (rv_tmp rfl)) (fun w1 hw => ?_)
   exact ⟨congrArg (fun b => Ending.returned (Value.bool b)) (hz.symm), Keep.mem hw⟩
instance rtmay_i {w0 : World} {L : List Ent} {r : Rts} {n : Int} [hr : HdD w0 L r] : FnQ Tryz.prog 147 w0 L [.agg (rtcells r), .int .i64 n] (.bool (rmayF (rvv r) n)) (True) := ⟨fun hp w hw => rtmay_c w r n (hr.h w hw)⟩

end Go.Proofs.YtaipiecplldinaaGreat

/- Volumes apart. -/
namespace Go.Proofs.YtaipiecplldinaaGreat
open Go.Eng Go.Kb
open Go.RowKit
instance : ZeroT Tryz.prog 29 (.agg (vlcells zVol)) := ⟨by kernel_rfl⟩
theorem fbears_c (w : World) (c : Cp) (hc : Deep.good (hp w) c) : Calls Tryz.prog 82 #[.agg (cpcells c)] w fun e w' => e = .returned (.bool (bearsF (cv c))) ∧ Mem w [] w' := by
 have ghc : GvD w c := ⟨hc⟩
 refine calls_of (args := [_]) Tryz.func82 rfl Tryz.ntmps82 rfl ?_
 change Cw _ _ _ _ _ [(0, .agg (cpcells c))] []
 refine cw_seq ?_
 refine cw_region ?_
 refine sq_boxA rfl fun b1 => ?_
 refine sq_r (ry_assign rfl) ?_
 refine sq_nil ?_
 refine ex_then ?_
 refine cw_seq ?_
 refine cw_region ?_
 refine sq_r (ry_whole rfl) ?_
 refine sq_y (yl_callC rfl trivial) ?_
 refine sq_r (ry_move rfl) ?_
 refine sq_gt rfl rfl rfl (fun hg => (Ry.yl (ry_field (o' := 2) rfl rfl))) ?_
 refine sq_gt rfl rfl rfl (fun hg => (Ry.yl (ry_cellc (ev_c hg rfl)))) ?_
 refine sq_gt rfl rfl rfl (fun hg => (Ry.yl (ry_lenH (ev_c hg rfl)))) ?_
 refine sq_gt rfl rfl rfl (fun hg => (Ry.yl (ry_int (ev_c hg rfl) rfl rfl))) ?_
 refine sq_r (ry_and rfl rfl rfl) ?_
 refine sq_r (ry_move rfl) ?_
 refine sq_gt rfl rfl rfl (fun hg => (Ry.yl (ry_field (o' := 0) rfl rfl))) ?_
 refine sq_gt rfl rfl rfl (fun hg => (Ry.yl (ry_cellc (ev_c hg rfl)))) ?_
 refine sq_gt rfl rfl rfl (fun hg => (Ry.yl (ry_int (ev_c hg rfl) rfl rfl))) ?_
 refine sq_r (ry_and rfl rfl rfl) ?_
 refine sq_r (ry_move rfl) ?_
 refine sq_gt rfl rfl rfl (fun hg => (Ry.yl (ry_field (o' := 1) rfl rfl))) ?_
 refine sq_gt rfl rfl rfl (fun hg => (Ry.yl (ry_cellc (ev_c hg rfl)))) ?_
 refine sq_gt rfl rfl rfl (fun hg => (Ry.yl (ry_int (ev_c hg rfl) rfl rfl))) ?_
 refine sq_r (ry_and rfl rfl rfl) ?_
 refine sq_r (ry_assign rfl) ?_
 refine sq_nil ?_
 refine ex_then ?_
 refine cw_ret ?_
 refine ex_ret (.inl rfl) (res_1 rfl (rv_tmp rfl)) (fun w1 hw => ?_)
 exact ⟨congrArg (fun b => Ending.returned (Value.bool b)) ((by simp only [bearsF, cv, bvs_length]; rfl)), Keep.mem hw⟩
instance fbears_i {w0 : World} {L : List Ent} {c : Cp} [hc : HdD w0 L c] : FnQ Tryz.prog 82 w0 L [.agg (cpcells c)] (.bool (bearsF (cv c))) (True) := ⟨fun hp w hw => fbears_c w c (hc.h w hw)⟩
theorem fown_c (w : World) (c : Cp) (hc : Deep.good (hp w) c) (hpre : smallC c) : Calls Tryz.prog 84 #[.agg (cpcells c)] w fun e w' => ∃ zz : Cp, e = .returned (.agg (cpcells zz)) ∧ (cv zz = cv c) ∧ Mem w [fz zz] w' := by
 have ghc : GvD w c := ⟨hc⟩
 refine calls_of (args := [_]) Tryz.func84 rfl Tryz.ntmps84 rfl ?_
 change Cw _ _ _ _ _ [(0, .agg (cpcells c))] []
 refine cw_seq ?_
 refine cw_region ?_
 refine sq_boxA rfl fun b1 => ?_
 refine sq_allocA fun b2 => ?_
 refine sq_nil ?_
 refine ex_then ?_
 refine cw_seq ?_
 refine cw_region ?_
 refine sq_r (ry_whole rfl) ?_
 refine sq_r (ry_field (o' := 5) rfl rfl) ?_
 refine sq_r (ry_cellc rfl) ?_
 refine sq_callC rfl (by assumption) fun x9 hp9 => ?_
 refine sq_r (ry_move rfl) ?_
 refine sq_r (ry_extract (v := .agg (cpcells x9)) rfl rfl) ?_
 refine sq_r (ry_extract (v := .int .i64 (onE (cv c) c.faults.xs)) rfl rfl) ?_
 refine sq_allocA fun b3 => ?_
 refine sq_storeW rfl rfl ?_
 refine sq_r (ry_assign rfl) ?_
 refine sq_nil ?_
 refine ex_then ?_
 refine cw_seq ?_
 refine cw_region ?_
 refine sq_r (ry_field (o' := 4) rfl rfl) ?_
 refine sq_r (ry_cellc rfl) ?_
 refine sq_r (ry_field (o' := 4) rfl rfl) ?_
 refine sq_store (cs' := cpcells (⟨x9.pages, x9.size, x9.blocks, x9.ops, c.off, x9.faults⟩ : Cp)) rfl rfl (by show 4 < 6; decide) (by first | rfl | exact Sv.one _) rfl ?_
 refine sq_nil ?_
 refine ex_then ?_
 refine cw_seq ?_
 refine cw_region ?_
 refine sq_r (ry_whole rfl) ?_
 refine sq_storeW rfl rfl ?_
 refine sq_nil ?_
 refine ex_then ?_
 refine cw_ret ?_
 refine ex_ret (.inl rfl) (res_1 rfl (rv_agg rfl)) (fun w1 hw => ?_)
 exact ⟨(⟨x9.pages, x9.size, x9.blocks, x9.ops, c.off, x9.faults⟩ : Cp), rfl, by
  have h9 : cv (⟨x9.pages, x9.size, x9.blocks, x9.ops, c.off, x9.faults⟩ : Cp) = { cv x9 with off := (cv c).off } := rfl
  rw [h9, hp9]; exact onF_self (cv c), by
  have h9 : Mem w [fz x9] _ := Keep.mem hw
  exact h9⟩
instance fown_i {w0 : World} {L : List Ent} {c : Cp} [hc : HdD w0 L c] : FnC Tryz.prog 84 w0 L [.agg (cpcells c)] (Cp) (fun zz => .agg (cpcells zz)) (fun zz => fz zz :: L) (fun zz => cv zz = cv c) (smallC c) := ⟨fun hp w hw => (fown_c w c (hc.h w hw) hp).mono fun e w' ⟨x, h1, h2, h3⟩ => ⟨x, h1, h2, hw.call h3⟩⟩
theorem cloneN_c (w : World) (s : Sv) (ss : List Int) (hs : Lies iec 1 (hp w) s ss) (hpre : ss.length ≤ 1000000) : Calls Tryz.prog 92 #[s.val] w fun e w' => ∃ zz : Sv, e = .returned (zz.val) ∧ (True) ∧ Mem w [own iec 1 zz ss] w' := by
 have ghs : Gv w s iec 1 ss := ⟨hs⟩
 refine calls_of (args := [_]) Tryz.func92 rfl Tryz.ntmps92 rfl ?_
 change Cw _ _ _ _ _ [(0, s.val)] []
 refine cw_seq ?_
 refine cw_region ?_
 refine sq_r (ry_assign rfl) ?_
 refine sq_nil ?_
 refine ex_then ?_
 refine cw_seq ?_
 refine cw_seq ?_
 refine cw_region ?_
 refine sq_r (ry_move rfl) ?_
 refine sq_r (ry_nilS Tryz.underlying26 rfl) ?_
 refine sq_nil ?_
 refine ex_then ?_
 refine cw_cond rfl (fun h0 => ?_) (fun h0 => ?_)
 ·
  try simp only [Z0, Z1, Z2, Z3, Z4, Z5, Z6, Z7, Z8, Z9] at h0
  have e0 : ss = [] := List.length_eq_zero_iff.1 (by have := hs.ok.nil h0; have := hs.len; omega)
  refine cw_seq ?_
  refine cw_region ?_
  refine sq_r (ry_assign rfl) ?_
  refine sq_nil ?_
  refine ex_then ?_
  refine cw_ret ?_
  refine ex_pass_ret ?_
  refine ex_ret (.inl rfl) (res_1 rfl (rv_tmp rfl)) (fun w1 hw => ?_)
  exact ⟨Sv.none, rfl, trivial, by rw [e0]; exact (Keep.mem hw : Mem w [] _).nilOwn iec 1⟩
 ·
  try simp only [Z0, Z1, Z2, Z3, Z4, Z5, Z6, Z7, Z8, Z9] at h0
  refine cw_skip ?_
  refine ex_then ?_
  refine cw_seq ?_
  refine cw_region ?_
  refine sq_build0 iec fun b5 => ?_
  refine sq_r (ry_move rfl) ?_
  refine sq_append (s := ⟨false, b5, 0, 0, 0, none⟩) (enc := iec) (ys := ss) rfl rfl (by decide) (fun w hw => src_rows (s := s) Tryz.underlying26 (by decide) ((inferInstance : HdE _ _ iec 1 s ss).h w hw)) (by simp only [List.length_nil]; omega) (by simp only [List.length_nil]; omega) fun s7 hs7 hl7 => ?_
  refine sq_r (ry_assign rfl) ?_
  refine sq_nil ?_
  refine ex_then ?_
  refine cw_ret ?_
  refine ex_ret (.inl rfl) (res_1 rfl (rv_tmp rfl)) (fun w1 hw => ?_)
  exact ⟨s7, rfl, trivial, by rw [List.nil_append] at hw; exact Keep.mem hw⟩
instance cloneN_i {w0 : World} {L : List Ent} {s : Sv} {ss : List Int} [hs : HdE w0 L iec 1 s ss] : FnC Tryz.prog 92 w0 L [s.val] (Sv) (fun zz => zz.val) (fun zz => own iec 1 zz ss :: L) (fun zz => True) (ss.length ≤ 1000000) := ⟨fun hp w hw => (cloneN_c w s ss (hs.h w hw) hp).mono fun e w' ⟨x, h1, h2, h3⟩ => ⟨x, h1, h2, hw.call h3⟩⟩
theorem fapart_c (w : World) (v : Vol) (hv : Deep.good (hp w) v) (hpre : smallC v.chip ∧ v.at_.xs.length ≤ 1000000) : Calls Tryz.prog 44 #[.agg (vlcells v)] w fun e w' => ∃ zz : Cp × Sv, e = .returned (.agg (vlcells (⟨zz.1, ⟨zz.2, v.at_.xs⟩, v.gen, v.last⟩ : Vol))) ∧ (cv zz.1 = cv v.chip) ∧ Mem w [fz zz.1, own iec 1 zz.2 v.at_.xs] w' := by
 have ghv : GvD w v := ⟨hv⟩
 obtain ⟨hp1, hp2⟩ := hpre
 refine calls_of (args := [_]) Tryz.func44 rfl Tryz.ntmps44 rfl ?_
 change Cw _ _ _ _ _ [(0, .agg (vlcells v))] []
 refine cw_seq ?_
 refine cw_region ?_
 refine sq_boxA rfl fun b1 => ?_
 refine sq_allocA fun b2 => ?_
 refine sq_nil ?_
 refine ex_then ?_
 refine cw_seq ?_
 refine cw_linE [2, 5, 7, 9, 1001, 1004, 5002, 5005] [[], [], [1], [], [], [1, 2, 4], [1, 2, 4], [1, 2, 4, 5], [1, 2, 4, 5, 7], [1, 2, 4, 5, 7]] [0, 1, 3, 4, 2, 6, 5, 7, 8, 9] [] [] (by kernel_rfl) (fun _ hw => Keep.mem hw) (by kernel_rfl) (by kernel_rfl) ?_
 refine ln_r rfl (ry_field (o' := 0) rfl rfl) ?_
 refine lt_r rfl (ry_part rfl) ?_
 refine ln_r rfl (ry_field (o' := 6) rfl rfl) ?_
 refine lt_r rfl (ry_cellc rfl) ?_
 refine ln_stA rfl (st_callC rfl (by assumption) fun x5 hp5 => ⟨fun _ hw => Keep.mem hw, fun _ hw => Keep.mem hw, ?_⟩)
 refine ln_r rfl (ry_field (o' := 0) rfl rfl) ?_
 refine ln_stA rfl (st_callC rfl (by omega) fun x8 hp8 => ⟨fun _ hw => Keep.mem hw, fun _ hw => Keep.mem hw, ?_⟩)
 refine ln_st rfl (st_storeN (cs' := vlcells ({ v with chip := x5 } : Vol)) rfl rfl (by show 0 + 6 ≤ 9; decide) rfl ⟨fun _ hw => Keep.mem hw, ?_⟩)
 refine ln_r rfl (ry_field (o' := 6) rfl rfl) ?_
 refine ln_st rfl (st_store (cs' := vlcells (⟨x5, ⟨x8, v.at_.xs⟩, v.gen, v.last⟩ : Vol)) rfl rfl (by show 6 < 9; decide) (by first | rfl | exact Sv.one _) rfl ⟨fun _ hw => Keep.mem hw, ?_⟩)
 refine ln_nil ?_
 refine ex_then ?_
 refine cw_seq ?_
 refine cw_region ?_
 refine sq_r (ry_whole rfl) ?_
 refine sq_storeW rfl rfl ?_
 refine sq_nil ?_
 refine ex_then ?_
 refine cw_ret ?_
 refine ex_ret (.inl rfl) (res_1 rfl (rv_agg rfl)) (fun w1 hw => ?_)
 exact ⟨(x5, x8), rfl, hp5, Keep.mem hw⟩
instance fapart_i {w0 : World} {L : List Ent} {v : Vol} [hv : HdD w0 L v] : FnC Tryz.prog 44 w0 L [.agg (vlcells v)] (Cp × Sv) (fun zz => .agg (vlcells (⟨zz.1, ⟨zz.2, v.at_.xs⟩, v.gen, v.last⟩ : Vol))) (fun zz => fz zz.1 :: own iec 1 zz.2 v.at_.xs :: L) (fun zz => cv zz.1 = cv v.chip) (smallC v.chip ∧ v.at_.xs.length ≤ 1000000) := ⟨fun hp w hw => (fapart_c w v (hv.h w hw) hp).mono fun e w' ⟨x, h1, h2, h3⟩ => ⟨x, h1, h2, hw.call h3⟩⟩

end Go.Proofs.YtaipiecplldinaaGreat

/- Pages read. -/
namespace Go.Proofs.YtaipiecplldinaaGreat
open Go.Eng Go.Kb
open Go.RowKit
theorem pg_build (b : List UInt8) (w : World) : (Instr.build 110 #[(0, .int .i64 ((b.getD 0 0).toNat : Int)), (1, .int .i64 ((b.getD 1 0).toNat : Int)), (2, .int .u64 ((de ((b.drop 2).take (8 - 2)) : Nat) : Int))]).run Tryz.prog w = .ok (.agg (pgcells (headG b))) w := by
 rw [← headG_gen]
 unfold pgcells headG
 generalize UInt64.ofNat (de ((b.drop 2).take (8 - 2))) = g
 kernel_rfl
theorem pread_c (w : World) (b : Sv) (bs : List UInt8) (hb : Lies benc 1 (hp w) b bs) : Calls Tryz.prog 96 #[b.val] w fun e w' => ∃ zz : Pge, e = .returned (.tuple #[.agg (pgcells zz), .int .i64 ((readF bs).2)]) ∧ (pvv zz = (readF bs).1) ∧ Mem w [own benc 1 zz.body.sv zz.body.xs] w' := by
 have ghb : Gv w b benc 1 bs := ⟨hb⟩
 have hbd := hb.bd
 have ghd : GvD w (headG bs) := ⟨⟨Lies.nil _ _ _, fun x hx => by cases hx⟩⟩
 have hml := manyP_lt bs
 have hgl := headP_lt bs
 have hcl := crc_lt (innerP bs)
 have hil := innerP_len bs
 refine calls_of (args := [_]) Tryz.func96 rfl Tryz.ntmps96 rfl ?_
 change Cw _ _ _ _ _ [(0, b.val)] []
 refine cw_seq ?_
 refine cw_region ?_
 refine sq_allocA fun b2 => ?_
 refine sq_r (ry_assign rfl) ?_
 refine sq_nil ?_
 refine ex_then ?_
 refine cw_seq ?_
 refine cw_seq ?_
 refine cw_region ?_
 refine sq_r (ry_move rfl) ?_
 refine sq_r (ry_lenH rfl) ?_
 refine sq_y (yl_callC rfl trivial) ?_
 refine sq_r (ry_not rfl) ?_
 refine sq_nil ?_
 refine ex_then ?_
 refine cw_cond rfl (fun h0 => ?_) (fun h0 => ?_)
 ·
  try simp only [Z0, Z1, Z2, Z3, Z4, Z5, Z6, Z7, Z8, Z9] at h0
  have hE : readF bs = (zPV, 3) := by rw [readF, if_pos h0]
  refine cw_seq ?_
  refine cw_region ?_
  refine sq_r (ry_build (v := .agg (pgcells zPge)) rfl (fun w => by kernel_rfl)) ?_
  refine sq_storeW rfl rfl ?_
  refine sq_r (ry_assign rfl) ?_
  refine sq_nil ?_
  refine ex_then ?_
  refine cw_ret ?_
  refine ex_pass_ret ?_
  refine ex_ret (.inl rfl) (res_2 rfl (rv_agg rfl) (rv_tmp rfl)) (fun w1 hw => ?_)
  exact ⟨zPge, by rw [hE], by rw [hE]; rfl, Mem.nilOwn benc 1 (Keep.mem hw : Mem w [] _)⟩
 ·
  try simp only [Z0, Z1, Z2, Z3, Z4, Z5, Z6, Z7, Z8, Z9] at h0
  have hft := fitsF_iff.1 h0
  have hrm : roomF bs.length = bs.length - 16 := by rw [roomF, if_pos h0]
  refine cw_skip ?_
  refine ex_then ?_
  refine cw_seq ?_
  refine cw_seq ?_
  refine cw_region ?_
  refine sq_r (ry_move rfl) ?_
  refine sq_y (yl_callC rfl trivial) ?_
  refine sq_nil ?_
  refine ex_then ?_
  refine cw_cond rfl (fun h1 => ?_) (fun h1 => ?_)
  ·
   try simp only [Z0, Z1, Z2, Z3, Z4, Z5, Z6, Z7, Z8, Z9] at h1
   have hE : readF bs = (zPV, 0) := by rw [readF, if_neg (by rw [h0]; simp), if_pos h1]
   refine cw_seq ?_
   refine cw_region ?_
   refine sq_r (ry_build (v := .agg (pgcells zPge)) rfl (fun w => by kernel_rfl)) ?_
   refine sq_storeW rfl rfl ?_
   refine sq_r (ry_assign rfl) ?_
   refine sq_nil ?_
   refine ex_then ?_
   refine cw_ret ?_
   refine ex_pass_ret ?_
   refine ex_ret (.inl rfl) (res_2 rfl (rv_agg rfl) (rv_tmp rfl)) (fun w1 hw => ?_)
   exact ⟨zPge, by rw [hE], by rw [hE]; rfl, Mem.nilOwn benc 1 (Keep.mem hw : Mem w [] _)⟩
  ·
   try simp only [Z0, Z1, Z2, Z3, Z4, Z5, Z6, Z7, Z8, Z9] at h1
   refine cw_skip ?_
   refine ex_then ?_
   refine cw_seq ?_
   refine cw_quiet (by kernel_rfl) (by kernel_rfl) ?_
   refine qt_r (ry_move rfl) ?_
   refine qt_r (ry_move rfl) ?_
   refine qt_r (ry_lenH rfl) ?_
   refine qt_r (ry_sub rfl rfl (by omega)) ?_
   have rg22 : Rg 0 (bs.length - 4) bs.length := ⟨by omega⟩
   refine qt_r (ry_subH_hi rfl rfl (bs.length - 4) (by omega) rg22.h.2) ?_
   refine qt_r (ry_move rfl) ?_
   refine qt_r (ry_move rfl) ?_
   refine qt_r (ry_lenH rfl) ?_
   refine qt_r (ry_sub rfl rfl (by omega)) ?_
   have rg27 : Rg (bs.length - 4) bs.length bs.length := ⟨by omega⟩
   refine qt_r (ry_subH_lo rfl rfl (bs.length - 4) (by omega) rg27.h.1) ?_
   refine qt_r (ry_assign rfl) ?_
   refine qt_r (ry_assign rfl) ?_
   refine qt_nil ?_
   refine ex_then ?_
   refine cw_seq ?_
   refine cw_seq ?_
   refine cw_region ?_
   refine sq_r (ry_move rfl) ?_
   refine sq_y (yl_callC (v := .int .u64 ((de (endP bs) : Nat) : Int)) rfl (by rw [List.length_take, List.length_drop]; omega)) ?_
   refine sq_r (ry_move rfl) ?_
   refine sq_y (yl_callC (v := .int .u32 ((crc (innerP bs) : Nat) : Int)) rfl trivial) ?_
   refine sq_r (ry_convn rfl (by simp only [nb]; omega)) ?_
   refine sq_r (ry_int rfl rfl rfl) ?_
   refine sq_nil ?_
   refine ex_then ?_
   refine cw_cond rfl (fun h2 => ?_) (fun h2 => ?_)
   ·
    try simp only [Z0, Z1, Z2, Z3, Z4, Z5, Z6, Z7, Z8, Z9] at h2
    have hE : readF bs = (zPV, 4) := by rw [readF, if_neg (by rw [h0]; simp), if_neg (by rw [h1]; simp), if_pos (fun e => h2 (by rw [e]))]
    refine cw_seq ?_
    refine cw_region ?_
    refine sq_r (ry_build (v := .agg (pgcells zPge)) rfl (fun w => by kernel_rfl)) ?_
    refine sq_storeW rfl rfl ?_
    refine sq_r (ry_assign rfl) ?_
    refine sq_nil ?_
    refine ex_then ?_
    refine cw_ret ?_
    refine ex_pass_ret ?_
    refine ex_ret (.inl rfl) (res_2 rfl (rv_agg rfl) (rv_tmp rfl)) (fun w1 hw => ?_)
    exact ⟨zPge, by rw [hE], by rw [hE]; rfl, Mem.nilOwn benc 1 (Keep.mem hw : Mem w [] _)⟩
   ·
    try simp only [Z0, Z1, Z2, Z3, Z4, Z5, Z6, Z7, Z8, Z9] at h2
    have he2 : ¬ de (endP bs) ≠ crc (innerP bs) := fun e => e (by omega)
    refine cw_skip ?_
    refine ex_then ?_
    refine cw_seq ?_
    refine cw_lin [12, 13] [[], [], [], [], [], [], [], [], [], [], [], [], [], [12]] [0, 1, 2, 3, 4, 5, 6, 7, 8, 9, 10, 11, 12, 13] [] (fun _ hw => Keep.mem hw) (by kernel_rfl) (by kernel_rfl) ?_
    refine ln_r rfl (ry_move rfl) ?_
    refine ln_r rfl (ry_idxH rfl rfl 0 rfl (by omega)) ?_
    refine ln_r rfl (ry_elemcH (j := 0) rfl 0 (get_getD (xs := bs) (i := 0) (d := 0) (by omega)) rfl (by decide)) ?_
    refine ln_r rfl (ry_conv_u8 rfl) ?_
    refine ln_r rfl (ry_move rfl) ?_
    refine ln_r rfl (ry_idxH rfl rfl 1 rfl (by omega)) ?_
    refine ln_r rfl (ry_elemcH (j := 0) rfl 1 (get_getD (xs := bs) (i := 1) (d := 0) (by omega)) rfl (by decide)) ?_
    refine ln_r rfl (ry_conv_u8 rfl) ?_
    refine ln_r rfl (ry_move rfl) ?_
    have rg44 : Rg 2 8 bs.length := ⟨by omega⟩
    refine ln_r rfl (ry_subH rfl rfl rfl 2 8 rfl rfl rg44.h.1 rg44.h.2) ?_
    refine ln_y rfl (yl_callC rfl (by simp; omega)) ?_
    refine ln_r rfl (ry_build (v := .agg (pgcells (headG bs))) rfl (pg_build bs)) ?_
    refine ln_st rfl (st_allocA fun b6 => ⟨fun _ hw => Keep.mem hw, ?_⟩)
    refine ln_st rfl (st_storeW rfl rfl ⟨fun _ hw => Keep.mem hw, ?_⟩)
    refine ln_nil ?_
    refine ex_then ?_
    refine cw_seq ?_
    refine cw_region ?_
    refine sq_r (ry_move rfl) ?_
    have rg48 : Rg 8 10 bs.length := ⟨by omega⟩
    refine sq_r (ry_subH rfl rfl rfl 8 10 rfl rfl rg48.h.1 rg48.h.2) ?_
    refine sq_y (yl_callC (v := .int .u64 ((manyP bs : Nat) : Int)) rfl (by rw [List.length_take]; omega)) ?_
    refine sq_r (ry_convn rfl (by simp only [nb]; omega)) ?_
    refine sq_r (ry_assign rfl) ?_
    refine sq_nil ?_
    refine ex_then ?_
    refine cw_seq ?_
    refine cw_seq ?_
    refine cw_region ?_
    refine sq_r (ry_move rfl) ?_
    refine sq_r (ry_move rfl) ?_
    refine sq_r (ry_lenH rfl) ?_
    refine sq_y (yl_callC rfl trivial) ?_
    refine sq_r (ry_int rfl rfl rfl) ?_
    refine sq_r (ry_move rfl) ?_
    refine sq_gf rfl rfl rfl (fun hg => (Ry.yl (ry_whole rfl))) ?_
    refine sq_gf rfl rfl rfl (fun hg => (Ry.yl (ry_move rfl))) ?_
    refine sq_gf rfl rfl rfl (fun hg => (Ry.yl (ry_lenH (ev_c hg rfl)))) ?_
    refine sq_gf rfl rfl rfl (fun hg => yl_callC (evl_cons (ev_c hg rfl) (evl_cons (ev_c hg rfl) evl_nil)) trivial) ?_
    refine sq_gf rfl rfl rfl (fun hg => (Ry.yl (ry_not (ev_c hg rfl)))) ?_
    refine sq_r (ry_or rfl rfl rfl) ?_
    refine sq_nil ?_
    refine ex_then ?_
    refine cw_cond rfl (fun h3 => ?_) (fun h3 => ?_)
    ·
     try simp only [Z0, Z1, Z2, Z3, Z4, Z5, Z6, Z7, Z8, Z9] at h3
     have hfo : formF bs = false := by
      rw [headG_pv0] at h3
      cases hk : formF bs with
      | false => rfl
      | true =>
       simp only [formF, Bool.and_eq_true, decide_eq_true_eq] at hk
       rw [hk.2] at h3
       simp only [Bool.true_eq_false, or_false] at h3
       omega
     have hE : readF bs = (zPV, 2) := by rw [readF, if_neg (by rw [h0]; simp), if_neg (by rw [h1]; simp), if_neg he2, if_pos hfo]
     refine cw_seq ?_
     refine cw_region ?_
     refine sq_r (ry_build (v := .agg (pgcells zPge)) rfl (fun w => by kernel_rfl)) ?_
     refine sq_storeW rfl rfl ?_
     refine sq_r (ry_assign rfl) ?_
     refine sq_nil ?_
     refine ex_then ?_
     refine cw_ret ?_
     refine ex_pass_ret ?_
     refine ex_ret (.inl rfl) (res_2 rfl (rv_agg rfl) (rv_tmp rfl)) (fun w1 hw => ?_)
     exact ⟨zPge, by rw [hE], by rw [hE]; rfl, Mem.nilOwn benc 1 (Keep.mem hw : Mem w [] _)⟩
    ·
     try simp only [Z0, Z1, Z2, Z3, Z4, Z5, Z6, Z7, Z8, Z9] at h3
     have hfo : formF bs = true := by
      rw [headG_pv0] at h3
      simp only [formF, Bool.and_eq_true, decide_eq_true_eq]
      exact ⟨by omega, h3.2⟩
     have hmr : (manyP bs : Int) ≤ roomF bs.length := by simp only [formF, Bool.and_eq_true, decide_eq_true_eq] at hfo; exact hfo.1
     have hrl : (restP bs).length = (innerP bs).length - (10 + manyP bs) := by rw [restP, List.length_take, List.length_drop]; omega
     have gr : Gv w ((b.sub 1 0 (bs.length - 4)).sub 1 (10 + manyP bs) (innerP bs).length) benc 1 (restP bs) := ⟨(hb.sub (lo := 0) (hi := bs.length - 4) (by omega) (by omega)).sub (lo := 10 + manyP bs) (hi := (innerP bs).length) (by omega) (Nat.le_refl _)⟩
     refine cw_skip ?_
     refine ex_then ?_
     refine cw_seq ?_
     refine cw_seq ?_
     refine cw_region ?_
     refine sq_r (ry_move rfl) ?_
     refine sq_r (ry_move rfl) ?_
     refine sq_r (ry_add rfl rfl (by omega)) ?_
     have rg67 : Rg (10 + manyP bs) ((innerP bs).length) (innerP bs).length := ⟨by omega⟩
     refine sq_r (ry_subH_lo rfl rfl (10 + manyP bs) rfl rg67.h.1) ?_
     refine sq_r (ry_lenH rfl) ?_
     refine sq_r (ry_move rfl) ?_
     refine sq_nil ?_
     refine ex_then ?_
     refine cw_block ?_
     refine cw_loop (X := Nat) (fun zz => [(69, .int .i64 (zz : Nat)), (0, b.val), (2, .pointer (some ⟨b2, 0, none⟩)), (6, .pointer (some ⟨b6, 0, none⟩)), (7, .int .i64 (manyP bs : Nat)), (67, ((b.sub 1 0 (bs.length - 4)).sub 1 (10 + manyP bs) (innerP bs).length).val), (68, .int .i64 ((restP bs).length : Nat))]) (fun zz => [blk b6 (pgcells (headG bs)) 110, blk b2 (pgcells zPge) 110]) (fun zz => zz ≤ (restP bs).length ∧ ∀ j x, j < zz → (restP bs)[j]? = Option.some x → x = 0) (fun zz => (restP bs).length - zz) 0 ⟨Nat.zero_le _, fun j x hj => by first | omega | (simp only []; omega)⟩ (Sub.cons rfl (Sub.cons rfl (Sub.cons rfl (Sub.cons rfl (Sub.cons rfl (Sub.cons rfl (Sub.cons rfl (Sub.nil _)))))))) (fun w hw => Keep.mem hw) ?_
     rintro i ⟨hi1, hi2⟩
     refine cw_seq ?_
     refine cw_region ?_
     refine sq_r (ry_int rfl rfl rfl) ?_
     refine sq_nil ?_
     refine ex_then ?_
     refine cw_seq ?_
     refine cw_cond rfl (fun h4 => ?_) (fun h4 => ?_)
     ·
      try simp only [Z0, Z1, Z2, Z3, Z4, Z5, Z6, Z7, Z8, Z9] at h4
      refine cw_skip ?_
      refine ex_then ?_
      refine cw_seq ?_
      refine cw_block ?_
      refine cw_seq ?_
      refine cw_region ?_
      obtain ⟨y, hy⟩ := get_some (xs := (restP bs)) (i := i) (by omega)
      refine sq_r (ry_idxH rfl rfl i rfl (by omega)) ?_
      refine sq_r (ry_elemcH (j := 0) rfl i hy rfl (by decide)) ?_
      refine sq_r (ry_assign rfl) ?_
      refine sq_nil ?_
      refine ex_then ?_
      refine cw_seq ?_
      refine cw_region ?_
      refine sq_r (ry_move rfl) ?_
      refine sq_r (ry_int rfl rfl rfl) ?_
      refine sq_nil ?_
      refine ex_then ?_
      refine cw_cond rfl (fun h5 => ?_) (fun h5 => ?_)
      ·
       try simp only [Z0, Z1, Z2, Z3, Z4, Z5, Z6, Z7, Z8, Z9] at h5
       have hzr : zerosF (restP bs) = false := by
        cases hk : zerosF (restP bs) with
        | false => rfl
        | true => exact absurd (congrArg UInt8.toNat (zerosF_iff.1 hk y (List.mem_of_getElem? hy))) (by intro e; exact h5 (by rw [e]; rfl))
       have hE : readF bs = (zPV, 2) := by rw [readF, if_neg (by rw [h0]; simp), if_neg (by rw [h1]; simp), if_neg he2, if_neg (by rw [hfo]; simp), if_pos hzr]
       refine cw_seq ?_
       refine cw_region ?_
       refine sq_r (ry_build (v := .agg (pgcells zPge)) rfl (fun w => by kernel_rfl)) ?_
       refine sq_storeW rfl rfl ?_
       refine sq_r (ry_assign rfl) ?_
       refine sq_nil ?_
       refine ex_then ?_
       refine cw_ret ?_
       refine ex_block_ret ?_
       refine ex_pass_ret ?_
       refine ex_pass_ret ?_
       refine ex_block_ret ?_
       refine ex_pass_ret ?_
       refine ex_ret (.inl rfl) (res_2 rfl (rv_agg rfl) (rv_tmp rfl)) (fun w1 hw => ?_)
       exact ⟨zPge, by rw [hE], by rw [hE]; rfl, Mem.nilOwn benc 1 (Keep.mem hw : Mem w [] _)⟩
      ·
       try simp only [Z0, Z1, Z2, Z3, Z4, Z5, Z6, Z7, Z8, Z9] at h5
       have hy5 : y = 0 := UInt8.toNat_inj.1 (show y.toNat = 0 by omega)
       refine cw_skip ?_
       refine ex_block ?_
       refine ex_then ?_
       refine cw_region ?_
       refine sq_r (ry_add rfl rfl (by omega)) ?_
       refine sq_r (ry_move rfl) ?_
       refine sq_nil ?_
       exact ex_again (x := (i)) (i + 1) ⟨by first | omega | (simp only []; omega), fun j x hj hx => if e : j = i then (by subst e; rw [hy] at hx; cases hx; exact hy5) else hi2 j x (by first | omega | (simp only []; omega)) hx⟩ (by first | omega | (simp only []; omega)) (Sub.cons rfl (Sub.cons rfl (Sub.cons rfl (Sub.cons rfl (Sub.cons rfl (Sub.cons rfl (Sub.cons rfl (Sub.nil _)))))))) (fun w hw => Keep.mem hw)
     ·
      try simp only [Z0, Z1, Z2, Z3, Z4, Z5, Z6, Z7, Z8, Z9] at h4
      obtain rfl : i = (restP bs).length := by omega
      have hzr : zerosF (restP bs) = true := zerosF_iff.2 fun x hx => by
       obtain ⟨j, hj⟩ := List.getElem?_of_mem hx
       exact hi2 j x (List.getElem?_eq_some_iff.1 hj).1 hj
      have hE : readF bs = ({ headP bs with body := ((bs.drop 10).take (10 + manyP bs - 10)) }, 0) := by rw [readF, if_neg (by rw [h0]; simp), if_neg (by rw [h1]; simp), if_neg he2, if_neg (by rw [hfo]; simp), if_neg (by rw [hzr]; simp)]
      refine cw_exit ?_
      refine ex_pass_exit ?_
      refine ex_pass_exit ?_
      refine ex_block_hit ?_
      refine ex_then ?_
      refine cw_seq ?_
      refine cw_seq ?_
      refine cw_region ?_
      refine sq_r (ry_move rfl) ?_
      refine sq_r (ry_int rfl rfl rfl) ?_
      refine sq_nil ?_
      refine ex_then ?_
      refine cw_cond rfl (fun h6 => ?_) (fun h6 => ?_)
      ·
       try simp only [Z0, Z1, Z2, Z3, Z4, Z5, Z6, Z7, Z8, Z9] at h6
       refine cw_region ?_
       refine sq_r (ry_move rfl) ?_
       refine sq_r (ry_move rfl) ?_
       refine sq_r (ry_add rfl rfl (by omega)) ?_
       have rg82 : Rg 10 (10 + manyP bs) bs.length := ⟨by omega⟩
       refine sq_r (ry_subH rfl rfl rfl 10 (10 + manyP bs) rfl rfl rg82.h.1 rg82.h.2) ?_
       refine sq_callC rfl (by simp only [List.length_take, List.length_drop]; omega) fun x83 hp83 => ?_
       refine sq_r (ry_field (o' := 3) rfl rfl) ?_
       refine sq_store (cs' := pgcells (⟨((bs.getD 0 0).toNat : Int), ((bs.getD 1 0).toNat : Int), (UInt64.ofNat (de ((bs.drop 2).take (8 - 2)))), ⟨x83, ((bs.drop 10).take ((10 + manyP bs) - 10))⟩⟩ : Pge)) rfl rfl (by show 3 < 4; decide) (by first | rfl | exact Sv.one _) rfl ?_
       refine sq_nil ?_
       refine ex_then ?_
       refine cw_seq ?_
       refine cw_region ?_
       refine sq_r (ry_whole rfl) ?_
       refine sq_storeW rfl rfl ?_
       refine sq_r (ry_assign rfl) ?_
       refine sq_nil ?_
       refine ex_then ?_
       refine cw_ret ?_
       refine ex_ret (.inl rfl) (res_2 rfl (rv_agg rfl) (rv_tmp rfl)) (fun w1 hw => ?_)
       exact ⟨⟨((bs.getD 0 0).toNat : Int), ((bs.getD 1 0).toNat : Int), UInt64.ofNat (de ((bs.drop 2).take (8 - 2))), ⟨x83, ((bs.drop 10).take (10 + manyP bs - 10))⟩⟩, by rw [hE], by rw [hE]; exact headG_pv bs x83 ((bs.drop 10).take (10 + manyP bs - 10)), Keep.mem hw⟩
      ·
       try simp only [Z0, Z1, Z2, Z3, Z4, Z5, Z6, Z7, Z8, Z9] at h6
       have hm0 : manyP bs = 0 := by omega
       refine cw_skip ?_
       refine ex_then ?_
       refine cw_seq ?_
       refine cw_region ?_
       refine sq_r (ry_whole rfl) ?_
       refine sq_storeW rfl rfl ?_
       refine sq_r (ry_assign rfl) ?_
       refine sq_nil ?_
       refine ex_then ?_
       refine cw_ret ?_
       refine ex_ret (.inl rfl) (res_2 rfl (rv_agg rfl) (rv_tmp rfl)) (fun w1 hw => ?_)
       exact ⟨headG bs, by rw [hE], by rw [hE, headG_pv0, hm0]; simp [headP], Mem.nilOwn benc 1 (Keep.mem hw : Mem w [] _)⟩
instance pread_i {w0 : World} {L : List Ent} {b : Sv} {bs : List UInt8} [hb : HdE w0 L benc 1 b bs] : FnC Tryz.prog 96 w0 L [b.val] (Pge) (fun zz => .tuple #[.agg (pgcells zz), .int .i64 ((readF bs).2)]) (fun zz => own benc 1 zz.body.sv zz.body.xs :: L) (fun zz => pvv zz = (readF bs).1) (True) := ⟨fun hp w hw => (pread_c w b bs (hb.h w hw)).mono fun e w' ⟨x, h1, h2, h3⟩ => ⟨x, h1, h2, hw.call h3⟩⟩

end Go.Proofs.YtaipiecplldinaaGreat

/- Names of pages. -/
namespace Go.Proofs.YtaipiecplldinaaGreat
open Go.Eng Go.Kb
open Go.RowKit
theorem fnames_c (w : World) (c : Cp) (id : Int) (n : Int) (hc : Deep.good (hp w) c) (hpre : chipOk (cv c) = true ∧ 1 ≤ n ∧ n ≤ 1000000) : Calls Tryz.prog 132 #[.agg (cpcells c), .int .i64 id, .int .i64 n] w fun e w' => e = .returned (.bool (namesF (cv c) id n)) ∧ Mem w [] w' := by
 have ghc : GvD w c := ⟨hc⟩
 obtain ⟨hk, hn1, hn2⟩ := hpre
 have hbl := bvs_length c.blocks.xs
 have hso := soundF_iff.1 (chipOk_iff.1 hk).1
 simp only [cv, hbl] at hso
 have hq0 : 0 ≤ ((n - 1) / c.pages) := Int.ediv_nonneg (by omega) (by omega)
 have hq1 : ((n - 1) / c.pages) ≤ n - 1 := Int.ediv_le_self _ (by omega)
 have hm0 : 0 ≤ ((n - 1) % c.pages) := Int.emod_nonneg _ (by omega)
 have hm1 : ((n - 1) % c.pages) < c.pages := Int.emod_lt_of_pos _ (by omega)
 have hbe := blkAt_eq (c := c) (b := ((n - 1) / c.pages))
 have hue : (c.blocks.xs.getD ((n - 1) / c.pages).toNat zBk).used = (blkAt (cv c) ((n - 1) / c.pages)).used := congrArg BV.used hbe
 refine calls_of (args := [_, _, _]) Tryz.func132 rfl Tryz.ntmps132 rfl ?_
 change Cw _ _ _ _ _ [(0, .agg (cpcells c)), (1, .int .i64 id), (2, .int .i64 n)] []
 refine cw_seq ?_
 refine cw_region ?_
 refine sq_boxA rfl fun b3 => ?_
 refine sq_r (ry_assign rfl) ?_
 refine sq_nil ?_
 refine ex_then ?_
 refine cw_seq ?_
 refine cw_quiet (by kernel_rfl) (by kernel_rfl) ?_
 refine qt_r (ry_move rfl) ?_
 refine qt_r (ry_sub rfl rfl (by omega)) ?_
 refine qt_r (ry_field (o' := 0) rfl rfl) ?_
 refine qt_r (ry_cellc rfl) ?_
 refine qt_r (ry_quo rfl rfl (by omega) (by omega)) ?_
 refine qt_r (ry_move rfl) ?_
 refine qt_r (ry_sub rfl rfl (by omega)) ?_
 refine qt_r (ry_field (o' := 0) rfl rfl) ?_
 refine qt_r (ry_cellc rfl) ?_
 refine qt_r (ry_rem rfl rfl (by omega) (by omega)) ?_
 refine qt_r (ry_assign rfl) ?_
 refine qt_r (ry_assign rfl) ?_
 refine qt_nil ?_
 refine ex_then ?_
 refine cw_seq ?_
 refine cw_seq ?_
 refine cw_region ?_
 refine sq_r (ry_move rfl) ?_
 refine sq_r (ry_int rfl rfl rfl) ?_
 refine sq_r (ry_move rfl) ?_
 refine sq_gf rfl rfl rfl (fun hg => (Ry.yl (ry_move rfl))) ?_
 refine sq_gf rfl rfl rfl (fun hg => (Ry.yl (ry_field (o' := 2) rfl rfl))) ?_
 refine sq_gf rfl rfl rfl (fun hg => (Ry.yl (ry_cellc (ev_c hg rfl)))) ?_
 refine sq_gf rfl rfl rfl (fun hg => (Ry.yl (ry_lenH (ev_c hg rfl)))) ?_
 refine sq_gf rfl rfl rfl (fun hg => (Ry.yl (ry_int (ev_c hg rfl) (ev_c hg rfl) rfl))) ?_
 refine sq_r (ry_or rfl rfl rfl) ?_
 refine sq_r (ry_move rfl) ?_
 refine sq_gf rfl rfl rfl (fun hg => (Ry.yl (ry_move rfl))) ?_
 refine sq_gf rfl rfl rfl (fun hg => (Ry.yl (ry_field (o' := 2) rfl rfl))) ?_
 refine sq_gf rfl rfl rfl (fun hg => (Ry.yl (ry_cellc (ev_c hg rfl)))) ?_
 refine sq_gf rfl rfl rfl (fun hg => (Ry.yl (ry_move rfl))) ?_
 refine sq_gf rfl rfl rfl (fun hg => (Ry.yl (ry_idxH (ev_c hg rfl) (ev_c hg rfl) (((n - 1) / c.pages).toNat) (by simp only [Z0, Z1, Z2, Z3, Z4, Z5, Z6, Z7, Z8, Z9] at hg; omega) (by simp only [Z0, Z1, Z2, Z3, Z4, Z5, Z6, Z7, Z8, Z9] at hg; omega)))) ?_
 refine sq_gf rfl rfl rfl (fun hg => (Ry.yl (ry_field (ev_c hg rfl) rfl))) ?_
 refine sq_gf rfl rfl rfl (fun hg => (Ry.yl (ry_elemcH (j := 1) (ev_c hg rfl) (((n - 1) / c.pages).toNat) (get_getD (xs := c.blocks.xs) (i := ((n - 1) / c.pages).toNat) (d := zBk) (by simp only [Z0, Z1, Z2, Z3, Z4, Z5, Z6, Z7, Z8, Z9] at hg; omega)) rfl (by decide)))) ?_
 refine sq_gf rfl rfl rfl (fun hg => (Ry.yl (ry_int (ev_c hg rfl) (ev_c hg rfl) rfl))) ?_
 refine sq_r (ry_or rfl rfl rfl) ?_
 refine sq_nil ?_
 refine ex_then ?_
 refine cw_cond rfl (fun h0 => ?_) (fun h0 => ?_)
 ·
  try simp only [Z0, Z1, Z2, Z3, Z4, Z5, Z6, Z7, Z8, Z9] at h0
  have hz : namesF (cv c) id n = false := by
   cases hk9 : placeOk (cv c) (n - 1) with
   | false => rw [namesF, hk9]; rfl
   | true =>
    obtain ⟨g1, g2, g3⟩ := placeOk_iff.1 hk9
    change 2 ≤ ((n - 1) / c.pages) at g1
    change ((n - 1) / c.pages) < ((bvs c.blocks.xs).length : Int) at g2
    change ((n - 1) % c.pages) < (blkAt (cv c) ((n - 1) / c.pages)).used at g3
    rw [hbl] at g2
    omega
  refine cw_seq ?_
  refine cw_region ?_
  refine sq_r (ry_assign rfl) ?_
  refine sq_nil ?_
  refine ex_then ?_
  refine cw_ret ?_
  refine ex_pass_ret ?_
  refine ex_ret (.inl rfl) (res_1 rfl (rv_tmp rfl)) (fun w1 hw => ?_)
  exact ⟨congrArg (fun b => Ending.returned (Value.bool b)) (hz.symm), Keep.mem hw⟩
 ·
  try simp only [Z0, Z1, Z2, Z3, Z4, Z5, Z6, Z7, Z8, Z9] at h0
  have hpl : placeOk (cv c) (n - 1) = true := placeOk_iff.2 ⟨show 2 ≤ ((n - 1) / c.pages) by omega, by simp only [cv, hbl]; omega, show ((n - 1) % c.pages) < (blkAt (cv c) ((n - 1) / c.pages)).used by omega⟩
  obtain ⟨B, hB⟩ := get_some (xs := c.blocks.xs) (i := ((n - 1) / c.pages).toNat) (by omega)
  have mbB : Mb B c.blocks := ⟨List.mem_of_getElem? hB⟩
  have hBv : bv B = blkAt (cv c) ((n - 1) / c.pages) := by rw [← hbe]; simp [List.getD, hB]
  have hBo := bkOk_iff.1 ((chipOk_iff.1 hk).2.2.2.2 (bv B) (List.mem_of_getElem? (bvs_get hB)))
  have htl := txs_length B.pages.xs
  have hpl2 : (B.pages.xs.length : Int) = c.pages := by have := hBo.1; simp only [bv, cv, htl] at this; exact this
  obtain ⟨y, hy⟩ := get_some (xs := B.pages.xs) (i := ((n - 1) % c.pages).toNat) (by omega)
  have mby : Mb y B.pages := ⟨List.mem_of_getElem? hy⟩
  have hpa : pageAt (cv c) (n - 1) = y.xs := by
   show (blkAt (cv c) ((n - 1) / c.pages)).pages.getD ((n - 1) % c.pages).toNat [] = y.xs
   rw [← hBv]
   simp [bv, List.getD, txs_get hy]
  refine cw_skip ?_
  refine ex_then ?_
  refine cw_seq ?_
  refine cw_region ?_
  refine sq_r (ry_field (o' := 2) rfl rfl) ?_
  refine sq_r (ry_cellc rfl) ?_
  refine sq_r (ry_move rfl) ?_
  refine sq_r (ry_idxH rfl rfl (((n - 1) / c.pages).toNat) (by omega) (by omega)) ?_
  refine sq_r (ry_field rfl rfl) ?_
  refine sq_r (ry_elemcH (j := 0) rfl (((n - 1) / c.pages).toNat) hB rfl (by decide)) ?_
  have mb46 : Mb B _ := ⟨List.mem_of_getElem? hB⟩
  refine sq_r (ry_move rfl) ?_
  refine sq_r (ry_idxH rfl rfl (((n - 1) % c.pages).toNat) (by omega) (by omega)) ?_
  refine sq_r (ry_elemcH (j := 0) rfl (((n - 1) % c.pages).toNat) hy rfl (by decide)) ?_
  have mb49 : Mb y _ := ⟨List.mem_of_getElem? hy⟩
  refine sq_callC rfl trivial fun x50 hp50 => ?_
  have e1 : x50.kind = (readF y.xs).1.kind := congrArg PV.kind hp50
  have e2 : x50.id = (readF y.xs).1.id := congrArg PV.id hp50
  refine sq_r (ry_move rfl) ?_
  refine sq_r (ry_extract (v := .agg (pgcells x50)) rfl rfl) ?_
  refine sq_r (ry_extract (v := .int .i64 ((readF y.xs).2)) rfl rfl) ?_
  refine sq_allocA fun b9 => ?_
  refine sq_storeW rfl rfl ?_
  refine sq_r (ry_assign rfl) ?_
  refine sq_nil ?_
  refine ex_then ?_
  refine cw_seq ?_
  refine cw_region ?_
  refine sq_r (ry_move rfl) ?_
  refine sq_r (ry_int rfl rfl rfl) ?_
  refine sq_r (ry_move rfl) ?_
  refine sq_gt rfl rfl rfl (fun hg => (Ry.yl (ry_field (o' := 0) rfl rfl))) ?_
  refine sq_gt rfl rfl rfl (fun hg => (Ry.yl (ry_cellc (ev_c hg rfl)))) ?_
  refine sq_gt rfl rfl rfl (fun hg => (Ry.yl (ry_int (ev_c hg rfl) rfl rfl))) ?_
  refine sq_r (ry_and rfl rfl rfl) ?_
  refine sq_r (ry_move rfl) ?_
  refine sq_gt rfl rfl rfl (fun hg => (Ry.yl (ry_field (o' := 1) rfl rfl))) ?_
  refine sq_gt rfl rfl rfl (fun hg => (Ry.yl (ry_cellc (ev_c hg rfl)))) ?_
  refine sq_gt rfl rfl rfl (fun hg => (Ry.yl (ry_move rfl))) ?_
  refine sq_gt rfl rfl rfl (fun hg => (Ry.yl (ry_int (ev_c hg rfl) (ev_c hg rfl) rfl))) ?_
  refine sq_r (ry_and rfl rfl rfl) ?_
  refine sq_r (ry_assign rfl) ?_
  refine sq_nil ?_
  refine ex_then ?_
  refine cw_ret ?_
  refine ex_ret (.inl rfl) (res_1 rfl (rv_tmp rfl)) (fun w1 hw => ?_)
  exact ⟨congrArg (fun b => Ending.returned (Value.bool b)) ((by rw [namesF, hpl, hpa, dataF, ← e1, ← e2]; rfl)), Keep.mem hw⟩
instance fnames_i {w0 : World} {L : List Ent} {c : Cp} {id : Int} {n : Int} [hc : HdD w0 L c] : FnQ Tryz.prog 132 w0 L [.agg (cpcells c), .int .i64 id, .int .i64 n] (.bool (namesF (cv c) id n)) (chipOk (cv c) = true ∧ 1 ≤ n ∧ n ≤ 1000000) := ⟨fun hp w hw => fnames_c w c id n (hc.h w hw) hp⟩

end Go.Proofs.YtaipiecplldinaaGreat

/- Pages that a root names. -/
namespace Go.Proofs.YtaipiecplldinaaGreat
open Go.Eng Go.Kb
open Go.RowKit
def kInt (n : Int) : Value := .int .i64 n
def vUnit (_ : Unit) : Value := .agg #[]
instance : InjE kInt := ⟨fun h => by simpa [kInt] using h⟩
instance : KeyT Tryz.prog 3 := ⟨Maps.int_keyed Tryz.underlying3⟩
instance : MapT Tryz.prog 162 3 163 := ⟨Tryz.underlying162⟩
instance : ZeroT Tryz.prog 163 (.agg #[]) := ⟨by kernel_rfl⟩
instance : SizeIs (#[] : Array Value) 0 := ⟨rfl, by simp⟩
theorem key_int {n : Int} (h : -9223372036854775808 ≤ n ∧ n ≤ 9223372036854775807) : ∃ l, keyOf Tryz.prog 3 (kInt n) = some l := ⟨_, Maps.keyOf_int_mk Tryz.underlying3 (by simp [Lit.wf, IntKind.min, IntKind.max, IntKind.signed, IntKind.bits]; omega)⟩
theorem fplaced_c (w : World) (c : Cp) (t : Sv) (ts : List Int) (hc : Deep.good (hp w) c) (ht : Lies iec 1 (hp w) t ts) (hpre : chipOk (cv c) = true ∧ ∀ x ∈ ts, 0 ≤ x ∧ x ≤ 65535) : Calls Tryz.prog 91 #[.agg (cpcells c), t.val] w fun e w' => e = .returned (.bool (placedF (cv c) ts)) ∧ Mem w [] w' := by
 have ghc : GvD w c := ⟨hc⟩
 have ght : Gv w t iec 1 ts := ⟨ht⟩
 obtain ⟨hk, hrg⟩ := hpre
 have hbd := ht.bd
 refine calls_of (args := [_, _]) Tryz.func91 rfl Tryz.ntmps91 rfl ?_
 change Cw _ _ _ _ _ [(0, .agg (cpcells c)), (1, t.val)] []
 refine cw_seq ?_
 refine cw_region ?_
 refine sq_boxA rfl fun b2 => ?_
 refine sq_r (ry_assign rfl) ?_
 refine sq_nil ?_
 refine ex_then ?_
 refine cw_seq ?_
 refine cw_region ?_
 refine sq_r (ry_move rfl) ?_
 refine sq_r (ry_lenH rfl) ?_
 refine sq_makeMap kInt vUnit rfl fun b12 => ?_
 refine sq_r (ry_assign rfl) ?_
 refine sq_nil ?_
 refine ex_then ?_
 refine cw_seq ?_
 refine cw_seq ?_
 refine cw_region ?_
 refine sq_r (ry_move rfl) ?_
 refine sq_r (ry_lenH rfl) ?_
 refine sq_r (ry_move rfl) ?_
 refine sq_nil ?_
 refine ex_then ?_
 refine cw_block ?_
 refine cw_loop (X := Nat) (fun zz => [(15, .int .i64 (zz : Nat)), (5, .map (some b12)), (2, .pointer (some ⟨b2, 0, none⟩)), (13, t.val), (14, .int .i64 (ts.length : Nat))]) (fun zz => [omap Tryz.prog 3 kInt vUnit b12 (seenF ts zz), blk b2 (cpcells c) 25]) (fun zz => zz ≤ ts.length ∧ ∀ j, j < zz → plcAt (cv c) ts j = true) (fun zz => ts.length - zz) 0 ⟨Nat.zero_le _, fun j hj => by first | omega | (simp only []; omega)⟩ (Sub.cons rfl (Sub.cons rfl (Sub.cons rfl (Sub.cons rfl (Sub.cons rfl (Sub.nil _)))))) (fun w hw => by
  rw [← seenF_zero]; exact Keep.mem hw) ?_
 rintro i ⟨hi1, hi2⟩
 refine cw_seq ?_
 refine cw_region ?_
 refine sq_r (ry_int rfl rfl rfl) ?_
 refine sq_nil ?_
 refine ex_then ?_
 refine cw_seq ?_
 refine cw_cond rfl (fun h0 => ?_) (fun h0 => ?_)
 ·
  try simp only [Z0, Z1, Z2, Z3, Z4, Z5, Z6, Z7, Z8, Z9] at h0
  obtain ⟨y, hy⟩ := get_some (xs := ts) (i := i) (by omega)
  have hyr := hrg y (List.mem_of_getElem? hy)
  have hyg := getD_of hy
  have hyk := key_int (n := y) (by omega)
  refine cw_skip ?_
  refine ex_then ?_
  refine cw_seq ?_
  refine cw_block ?_
  refine cw_seq ?_
  refine cw_region ?_
  refine sq_r (ry_move rfl) ?_
  refine sq_r (ry_idxH rfl rfl i rfl (by omega)) ?_
  refine sq_r (ry_elemcH (j := 0) rfl i hy rfl (by decide)) ?_
  refine sq_r (ry_assign rfl) ?_
  refine sq_r (ry_assign rfl) ?_
  refine sq_nil ?_
  refine ex_then ?_
  refine cw_seq ?_
  refine cw_seq ?_
  refine cw_region ?_
  refine sq_r (ry_move rfl) ?_
  refine sq_r (ry_int rfl rfl rfl) ?_
  refine sq_nil ?_
  refine ex_then ?_
  refine cw_cond rfl (fun h1 => ?_) (fun h1 => ?_)
  ·
   try simp only [Z0, Z1, Z2, Z3, Z4, Z5, Z6, Z7, Z8, Z9] at h1
   subst h1
   have hok : plcAt (cv c) ts i = true := by rw [plcAt, hyg]; rfl
   refine cw_exit ?_
   refine ex_pass_exit ?_
   refine ex_block_hit ?_
   refine ex_then ?_
   refine cw_region ?_
   refine sq_r (ry_add rfl rfl (by omega)) ?_
   refine sq_r (ry_move rfl) ?_
   refine sq_nil ?_
   exact ex_again (x := (i)) (i + 1) ⟨by first | omega | (simp only []; omega), fun j hj => if e : j = i then e ▸ hok else hi2 j (by first | omega | (simp only []; omega))⟩ (by first | omega | (simp only []; omega)) (Sub.cons rfl (Sub.cons rfl (Sub.cons rfl (Sub.cons rfl (Sub.cons rfl (Sub.nil _)))))) (fun w hw => by
    rw [seenF_skip hy]; exact Keep.mem hw)
  ·
   try simp only [Z0, Z1, Z2, Z3, Z4, Z5, Z6, Z7, Z8, Z9] at h1
   refine cw_skip ?_
   refine ex_then ?_
   refine cw_seq ?_
   refine cw_seq ?_
   refine cw_region ?_
   refine sq_r (ry_move rfl) ?_
   refine sq_r (ry_move rfl) ?_
   refine sq_r (ry_lookupOk (kenc := kInt) (venc := vUnit) (f := seenF ts i) (v := y) (z := ()) rfl rfl hyk) ?_
   refine sq_r (ry_move rfl) ?_
   refine sq_r (ry_extract (v := .agg #[]) rfl rfl) ?_
   refine sq_r (ry_extract (v := .bool ((seenF ts i y).isSome)) rfl rfl) ?_
   refine sq_allocA fun b8 => ?_
   refine sq_storeW rfl rfl ?_
   refine sq_r (ry_assign rfl) ?_
   refine sq_nil ?_
   refine ex_then ?_
   refine cw_seq ?_
   refine cw_region ?_
   refine sq_r (ry_move rfl) ?_
   refine sq_r (ry_move rfl) ?_
   refine sq_gf rfl rfl rfl (fun hg => (Ry.yl (ry_whole rfl))) ?_
   refine sq_gf rfl rfl rfl (fun hg => (Ry.yl (ry_move rfl))) ?_
   refine sq_gf rfl rfl rfl (fun hg => (Ry.yl (ry_move rfl))) ?_
   refine sq_gf rfl rfl rfl (fun hg => yl_callC (evl_cons (ev_c hg rfl) (evl_cons (ev_c hg rfl) (evl_cons (ev_c hg rfl) evl_nil))) ⟨hk, by omega, by omega⟩) ?_
   refine sq_gf rfl rfl rfl (fun hg => (Ry.yl (ry_not (ev_c hg rfl)))) ?_
   refine sq_r (ry_or rfl rfl rfl) ?_
   refine sq_nil ?_
   refine ex_then ?_
   refine cw_cond rfl (fun h2 => ?_) (fun h2 => ?_)
   ·
    try simp only [Z0, Z1, Z2, Z3, Z4, Z5, Z6, Z7, Z8, Z9] at h2
    have hz : placedF (cv c) ts = false := by
     cases hk9 : placedF (cv c) ts with
     | false => rfl
     | true =>
      have g := placedF_iff.1 hk9 i (by omega)
      rw [plcAt, hyg] at g
      rw [seenF_some] at h2
      simp only [Bool.or_eq_true, Bool.and_eq_true, decide_eq_true_eq, Bool.not_eq_true', List.contains_eq_mem, decide_eq_false_iff_not] at g h2
      rcases g with g | g
      ·
       exact absurd g h1
      ·
       rcases h2 with h2 | h2
       ·
        exact absurd h2.2 g.1
       ·
        rw [g.2] at h2; cases h2
    refine cw_seq ?_
    refine cw_region ?_
    refine sq_r (ry_assign rfl) ?_
    refine sq_nil ?_
    refine ex_then ?_
    refine cw_ret ?_
    refine ex_pass_ret ?_
    refine ex_block_ret ?_
    refine ex_pass_ret ?_
    refine ex_pass_ret ?_
    refine ex_block_ret ?_
    refine ex_pass_ret ?_
    refine ex_ret (.inl rfl) (res_1 rfl (rv_tmp rfl)) (fun w1 hw => ?_)
    exact ⟨congrArg (fun b => Ending.returned (Value.bool b)) (hz.symm), Keep.mem hw⟩
   ·
    try simp only [Z0, Z1, Z2, Z3, Z4, Z5, Z6, Z7, Z8, Z9] at h2
    have hok : plcAt (cv c) ts i = true := by
     rw [seenF_some] at h2
     rw [plcAt, hyg]
     simp only [Bool.or_eq_true, Bool.and_eq_true, decide_eq_true_eq, Bool.not_eq_true', List.contains_eq_mem, decide_eq_false_iff_not] at h2 ⊢
     exact .inr ⟨fun hm => h2.1 ⟨h1, hm⟩, h2.2⟩
    have hsn := seenF_next hy h1
    refine cw_skip ?_
    refine ex_then ?_
    refine cw_region ?_
    refine sq_r (ry_move rfl) ?_
    refine sq_r (ry_move rfl) ?_
    refine sq_r (ry_build (v := .agg #[]) rfl (fun w => by kernel_rfl)) ?_
    refine sq_mapUpdate (kenc := kInt) (venc := vUnit) (v := y) (u := ()) rfl rfl rfl hyk ?_
    refine sq_nil ?_
    refine ex_block ?_
    refine ex_then ?_
    refine cw_region ?_
    refine sq_r (ry_add rfl rfl (by omega)) ?_
    refine sq_r (ry_move rfl) ?_
    refine sq_nil ?_
    exact ex_again (x := (i)) (i + 1) ⟨by first | omega | (simp only []; omega), fun j hj => if e : j = i then e ▸ hok else hi2 j (by first | omega | (simp only []; omega))⟩ (by first | omega | (simp only []; omega)) (Sub.cons rfl (Sub.cons rfl (Sub.cons rfl (Sub.cons rfl (Sub.cons rfl (Sub.nil _)))))) (fun w hw => by
     rw [← hsn]; exact Keep.mem hw)
 ·
  try simp only [Z0, Z1, Z2, Z3, Z4, Z5, Z6, Z7, Z8, Z9] at h0
  obtain rfl : i = ts.length := by omega
  have hz : placedF (cv c) ts = true := placedF_iff.2 fun j hj => hi2 j hj
  refine cw_exit ?_
  refine ex_pass_exit ?_
  refine ex_pass_exit ?_
  refine ex_block_hit ?_
  refine ex_then ?_
  refine cw_seq ?_
  refine cw_region ?_
  refine sq_r (ry_assign rfl) ?_
  refine sq_nil ?_
  refine ex_then ?_
  refine cw_ret ?_
  refine ex_ret (.inl rfl) (res_1 rfl (rv_tmp rfl)) (fun w1 hw => ?_)
  exact ⟨congrArg (fun b => Ending.returned (Value.bool b)) (hz.symm), Keep.mem hw⟩
instance fplaced_i {w0 : World} {L : List Ent} {c : Cp} {t : Sv} {ts : List Int} [hc : HdD w0 L c] [ht : HdE w0 L iec 1 t ts] : FnQ Tryz.prog 91 w0 L [.agg (cpcells c), t.val] (.bool (placedF (cv c) ts)) (chipOk (cv c) = true ∧ ∀ x ∈ ts, 0 ≤ x ∧ x ≤ 65535) := ⟨fun hp w hw => fplaced_c w c t ts (hc.h w hw) (ht.h w hw) hp⟩

end Go.Proofs.YtaipiecplldinaaGreat

/- Known blocks. -/
namespace Go.Proofs.YtaipiecplldinaaGreat
open Go.Eng Go.Kb
open Go.RowKit
instance : ZeroT Tryz.prog 50 (.agg (weacells zWea)) := ⟨by kernel_rfl⟩
theorem wea_build (u v : Int) (b : Bool) (w : World) : (Instr.build 50 #[(1, .int .i64 u), (2, .int .i64 v), (3, .bool b)]).run Tryz.prog w = .ok (.agg (weacells ⟨0, u, v, b⟩)) w := by
 unfold weacells
 kernel_rfl
theorem fknown_c (w : World) (c : Cp) (l : Sl (Sl Int)) (hc : Deep.good (hp w) c) (hl : Deep.good (hp w) l) (hpre : KnOk (cv c) (flatI l.xs)) : Calls Tryz.prog 51 #[.agg (cpcells c), l.sv.val] w fun e w' => ∃ zz : Sv, e = .returned (zz.val) ∧ (True) ∧ Mem w [own weacells 4 zz (knownF (cv c) (flatI l.xs))] w' := by
 have ghc : GvD w c := ⟨hc⟩
 have ghl : GvD w l := ⟨hl⟩
 obtain ⟨⟨hk, hll⟩, hb2, hall⟩ := hpre
 have hbd := hl.1.bd
 have hbl := bvs_length c.blocks.xs
 have hcb : (cv c).blocks.length = c.blocks.xs.length := hbl
 have hso := soundF_iff.1 (chipOk_iff.1 hk).1
 simp only [cv, hbl] at hso
 have hk0 := knownTo_len (cv c) (flatI l.xs)
 rw [hcb] at hk0
 have hrl : (List.replicate (c.blocks.xs.length - 2) zWea).length = c.blocks.xs.length - 2 := List.length_replicate
 refine calls_of (args := [_, _]) Tryz.func51 rfl Tryz.ntmps51 rfl ?_
 change Cw _ _ _ _ _ [(0, .agg (cpcells c)), (1, l.sv.val)] []
 refine cw_seq ?_
 refine cw_region ?_
 refine sq_boxA rfl fun b2 => ?_
 refine sq_r (ry_assign rfl) ?_
 refine sq_nil ?_
 refine ex_then ?_
 refine cw_seq ?_
 refine cw_region ?_
 refine sq_r (ry_field (o' := 2) rfl rfl) ?_
 refine sq_r (ry_cellc rfl) ?_
 refine sq_r (ry_lenH rfl) ?_
 refine sq_r (ry_sub rfl rfl (by omega)) ?_
 refine sq_makeS (enc := weacells) (n := (c.blocks.xs.length - 2)) (cap := (c.blocks.xs.length - 2)) zWea rfl rfl rfl (by omega) (by omega) (by omega) (by omega) (by omega) fun b19 => ?_
 refine sq_r (ry_assign rfl) ?_
 refine sq_nil ?_
 refine ex_then ?_
 refine cw_seq ?_
 refine cw_seq ?_
 refine cw_region ?_
 refine sq_r (ry_move rfl) ?_
 refine sq_r (ry_lenH rfl) ?_
 refine sq_r (ry_move rfl) ?_
 refine sq_nil ?_
 refine ex_then ?_
 refine cw_block ?_
 refine cw_loop (X := Nat × List Wea) (fun zz => [(22, .int .i64 (zz.1 : Nat)), (5, (⟨false, b19, 0, c.blocks.xs.length - 2, c.blocks.xs.length - 2, none⟩ : Sv).val), (1, l.sv.val), (2, .pointer (some ⟨b2, 0, none⟩)), (21, .int .i64 ((List.replicate (c.blocks.xs.length - 2) zWea).length : Nat))]) (fun zz => [own weacells 4 ⟨false, b19, 0, c.blocks.xs.length - 2, c.blocks.xs.length - 2, none⟩ zz.2, blk b2 (cpcells c) 25]) (fun zz => zz.1 ≤ c.blocks.xs.length - 2 ∧ zz.2.length = c.blocks.xs.length - 2 ∧ zz.2.take zz.1 = (knownTo (cv c) (flatI l.xs) 0).take zz.1) (fun zz => c.blocks.xs.length - 2 - zz.1) (0, List.replicate (c.blocks.xs.length - 2) zWea) ⟨Nat.zero_le _, by simp, by simp⟩ (Sub.cons rfl (Sub.cons rfl (Sub.cons rfl (Sub.cons rfl (Sub.cons rfl (Sub.nil _)))))) (fun w hw => Keep.mem hw) ?_
 rintro ⟨i, zs⟩ ⟨hi1, hi2, hi3⟩
 dsimp only
 simp only at hi1 hi2 hi3
 refine cw_seq ?_
 refine cw_region ?_
 refine sq_r (ry_int rfl rfl rfl) ?_
 refine sq_nil ?_
 refine ex_then ?_
 refine cw_seq ?_
 refine cw_cond rfl (fun h0 => ?_) (fun h0 => ?_)
 ·
  try simp only [Z0, Z1, Z2, Z3, Z4, Z5, Z6, Z7, Z8, Z9] at h0
  obtain ⟨B, hB⟩ := get_some (xs := c.blocks.xs) (i := i + 2) (by omega)
  have mbB : Mb B c.blocks := ⟨List.mem_of_getElem? hB⟩
  obtain ⟨z, hz⟩ := get_some (xs := zs) (i := i) (by omega)
  have hts : (zs.set i (⟨0, B.used, B.worn, B.bad⟩ : Wea)).take (i + 1) = (knownTo (cv c) (flatI l.xs) 0).take (i + 1) := by
   have e1 := take_next (f := id) (z' := (⟨0, B.used, B.worn, B.bad⟩ : Wea)) hz
   simp only [List.map_id] at e1
   rw [e1, hi3, List.take_add_one, knownTo_zero, List.getElem?_map, List.getElem?_range (by omega), Option.map_some, show blkAt (cv c) ((i : Int) + 2) = bv B from blkAt_of (i := i + 2) hB]
   rfl
  refine cw_skip ?_
  refine ex_then ?_
  refine cw_seq ?_
  refine cw_block ?_
  refine cw_seq ?_
  refine cw_region ?_
  refine sq_r (ry_move rfl) ?_
  refine sq_r (ry_assign rfl) ?_
  refine sq_nil ?_
  refine ex_then ?_
  refine cw_seq ?_
  refine cw_region ?_
  refine sq_r (ry_field (o' := 2) rfl rfl) ?_
  refine sq_r (ry_cellc rfl) ?_
  refine sq_r (ry_move rfl) ?_
  refine sq_r (ry_add rfl rfl (by omega)) ?_
  refine sq_r (ry_idxH rfl rfl (i + 2) rfl (by omega)) ?_
  refine sq_r (ry_elemH rfl (i + 2) hB rfl) ?_
  have mb30 : Mb B c.blocks := ⟨List.mem_of_getElem? hB⟩
  refine sq_allocA fun b7 => ?_
  refine sq_storeW rfl rfl ?_
  refine sq_nil ?_
  refine ex_then ?_
  refine cw_region ?_
  refine sq_r (ry_move rfl) ?_
  refine sq_r (ry_move rfl) ?_
  refine sq_r (ry_field (o' := 1) rfl rfl) ?_
  refine sq_r (ry_cellc rfl) ?_
  refine sq_r (ry_field (o' := 2) rfl rfl) ?_
  refine sq_r (ry_cellc rfl) ?_
  refine sq_r (ry_field (o' := 3) rfl rfl) ?_
  refine sq_r (ry_cellc rfl) ?_
  refine sq_r (ry_build (v := .agg (weacells (⟨0, B.used, B.worn, B.bad⟩ : Wea))) rfl (wea_build B.used B.worn B.bad)) ?_
  refine sq_r (ry_idxH rfl rfl i rfl (by omega)) ?_
  refine sq_storeS (s := ⟨false, b19, 0, c.blocks.xs.length - 2, c.blocks.xs.length - 2, none⟩) (n := 4) (k := i) (j := 0) (a := z) (a' := (⟨0, B.used, B.worn, B.bad⟩ : Wea)) (xs := zs) (enc := weacells) (c := 4) (v := .agg (weacells (⟨0, B.used, B.worn, B.bad⟩ : Wea))) (by kernel_rfl) rfl rfl rfl hz (Enc.one (enc := weacells) (c := 4) _) rfl (by decide) (by rfl) ?_
  refine sq_nil ?_
  refine ex_block ?_
  refine ex_then ?_
  refine cw_region ?_
  refine sq_r (ry_add rfl rfl (by omega)) ?_
  refine sq_r (ry_move rfl) ?_
  refine sq_nil ?_
  exact ex_again (x := (i, zs)) (i + 1, zs.set i (⟨0, B.used, B.worn, B.bad⟩ : Wea)) ⟨by first | omega | (simp only []; omega), by rw [List.length_set]; exact hi2, hts⟩ (by simp only; omega) (Sub.cons rfl (Sub.cons rfl (Sub.cons rfl (Sub.cons rfl (Sub.cons rfl (Sub.nil _)))))) (fun w hw => Keep.mem hw)
 ·
  try simp only [Z0, Z1, Z2, Z3, Z4, Z5, Z6, Z7, Z8, Z9] at h0
  obtain rfl : i = zs.length := by omega
  rw [List.take_length, List.take_of_length_le (by rw [hk0]; omega)] at hi3
  subst hi3
  refine cw_exit ?_
  refine ex_pass_exit ?_
  refine ex_pass_exit ?_
  refine ex_block_hit ?_
  refine ex_then ?_
  refine cw_seq ?_
  refine cw_region ?_
  refine sq_makeMap0 kInt vUnit fun b42 => ?_
  refine sq_r (ry_assign rfl) ?_
  refine sq_nil ?_
  refine ex_then ?_
  refine cw_seq ?_
  refine cw_seq ?_
  refine cw_region ?_
  refine sq_r (ry_move rfl) ?_
  refine sq_r (ry_lenH rfl) ?_
  refine sq_r (ry_move rfl) ?_
  refine sq_nil ?_
  refine ex_then ?_
  refine cw_block ?_
  refine cw_loop (X := Nat) (fun zz => [(45, .int .i64 (zz : Nat)), (5, (⟨false, b19, 0, c.blocks.xs.length - 2, c.blocks.xs.length - 2, none⟩ : Sv).val), (8, .map (some b42)), (2, .pointer (some ⟨b2, 0, none⟩)), (43, l.sv.val), (44, .int .i64 (l.xs.length : Nat))]) (fun zz => [omap Tryz.prog 3 kInt vUnit b42 (seenF (flatI l.xs) (flatI (l.xs.take zz)).length), own weacells 4 ⟨false, b19, 0, c.blocks.xs.length - 2, c.blocks.xs.length - 2, none⟩ (knownTo (cv c) (flatI l.xs) (flatI (l.xs.take zz)).length), blk b2 (cpcells c) 25]) (fun zz => zz ≤ l.xs.length) (fun zz => l.xs.length - zz) 0 (Nat.zero_le _) (Sub.cons rfl (Sub.cons rfl (Sub.cons rfl (Sub.cons rfl (Sub.cons rfl (Sub.cons rfl (Sub.nil _))))))) (fun w hw => by
   have e0 : (flatI (l.xs.take 0)).length = 0 := by simp [flatI]
   simp only [e0]; rw [← seenF_zero]; exact Keep.mem hw) ?_
  rintro a ha1
  refine cw_seq ?_
  refine cw_region ?_
  refine sq_r (ry_int rfl rfl rfl) ?_
  refine sq_nil ?_
  refine ex_then ?_
  refine cw_seq ?_
  refine cw_cond rfl (fun h1 => ?_) (fun h1 => ?_)
  ·
   try simp only [Z0, Z1, Z2, Z3, Z4, Z5, Z6, Z7, Z8, Z9] at h1
   obtain ⟨x, hx⟩ := get_some (xs := l.xs) (i := a) (by omega)
   have mbx : Mb x l := ⟨List.mem_of_getElem? hx⟩
   have hxb := (hl.2 x mbx.h).1.bd
   refine cw_skip ?_
   refine ex_then ?_
   refine cw_seq ?_
   refine cw_block ?_
   refine cw_seq ?_
   refine cw_region ?_
   refine sq_r (ry_idxH rfl rfl a rfl (by omega)) ?_
   refine sq_r (ry_elemcH (j := 0) rfl a hx rfl (by decide)) ?_
   have mb48 : Mb x _ := ⟨List.mem_of_getElem? hx⟩
   refine sq_r (ry_assign rfl) ?_
   refine sq_nil ?_
   refine ex_then ?_
   refine cw_seq ?_
   refine cw_region ?_
   refine sq_r (ry_move rfl) ?_
   refine sq_r (ry_lenH rfl) ?_
   refine sq_r (ry_move rfl) ?_
   refine sq_nil ?_
   refine ex_then ?_
   refine cw_block ?_
   refine cw_loop (X := Nat) (fun zz => [(51, .int .i64 (zz : Nat)), (5, (⟨false, b19, 0, c.blocks.xs.length - 2, c.blocks.xs.length - 2, none⟩ : Sv).val), (8, .map (some b42)), (2, .pointer (some ⟨b2, 0, none⟩)), (43, l.sv.val), (44, .int .i64 (l.xs.length : Nat)), (45, .int .i64 (a : Nat)), (49, x.sv.val), (50, .int .i64 (x.xs.length : Nat))]) (fun zz => [omap Tryz.prog 3 kInt vUnit b42 (seenF (flatI l.xs) ((flatI (l.xs.take a)).length + zz)), own weacells 4 ⟨false, b19, 0, c.blocks.xs.length - 2, c.blocks.xs.length - 2, none⟩ (knownTo (cv c) (flatI l.xs) ((flatI (l.xs.take a)).length + zz)), blk b2 (cpcells c) 25]) (fun zz => zz ≤ x.xs.length) (fun zz => x.xs.length - zz) 0 (Nat.zero_le _) (Sub.cons rfl (Sub.cons rfl (Sub.cons rfl (Sub.cons rfl (Sub.cons rfl (Sub.cons rfl (Sub.cons rfl (Sub.cons rfl (Sub.cons rfl (Sub.nil _)))))))))) (fun w hw => Keep.mem hw) ?_
   rintro j hj1
   refine cw_seq ?_
   refine cw_region ?_
   refine sq_r (ry_int rfl rfl rfl) ?_
   refine sq_nil ?_
   refine ex_then ?_
   refine cw_seq ?_
   refine cw_cond rfl (fun h2 => ?_) (fun h2 => ?_)
   ·
    try simp only [Z0, Z1, Z2, Z3, Z4, Z5, Z6, Z7, Z8, Z9] at h2
    obtain ⟨y, hy⟩ := get_some (xs := x.xs) (i := j) (by omega)
    have hyf := flatI_at hx hy
    have hya := hall y (List.mem_of_getElem? hyf)
    have hyg := getD_of hyf
    have hyk := key_int (n := y) (by omega)
    refine cw_skip ?_
    refine ex_then ?_
    refine cw_seq ?_
    refine cw_block ?_
    refine cw_seq ?_
    refine cw_region ?_
    refine sq_r (ry_idxH rfl rfl j rfl (by omega)) ?_
    refine sq_r (ry_elemcH (j := 0) rfl j hy rfl (by decide)) ?_
    refine sq_r (ry_assign rfl) ?_
    refine sq_nil ?_
    refine ex_then ?_
    refine cw_seq ?_
    refine cw_seq ?_
    refine cw_region ?_
    refine sq_r (ry_move rfl) ?_
    refine sq_r (ry_move rfl) ?_
    refine sq_r (ry_lookupOk (kenc := kInt) (venc := vUnit) (f := seenF (flatI l.xs) ((flatI (l.xs.take a)).length + j)) (v := y) (z := ()) rfl rfl hyk) ?_
    refine sq_r (ry_move rfl) ?_
    refine sq_r (ry_extract (v := .agg #[]) rfl rfl) ?_
    refine sq_r (ry_extract (v := .bool ((seenF (flatI l.xs) ((flatI (l.xs.take a)).length + j) y).isSome)) rfl rfl) ?_
    refine sq_allocA fun b13 => ?_
    refine sq_storeW rfl rfl ?_
    refine sq_r (ry_assign rfl) ?_
    refine sq_nil ?_
    refine ex_then ?_
    refine cw_seq ?_
    refine cw_region ?_
    refine sq_r (ry_move rfl) ?_
    refine sq_r (ry_int rfl rfl rfl) ?_
    refine sq_r (ry_move rfl) ?_
    refine sq_gf rfl rfl rfl (fun hg => (Ry.yl (ry_move rfl))) ?_
    refine sq_r (ry_or rfl rfl rfl) ?_
    refine sq_nil ?_
    refine ex_then ?_
    refine cw_cond rfl (fun h3 => ?_) (fun h3 => ?_)
    ·
     try simp only [Z0, Z1, Z2, Z3, Z4, Z5, Z6, Z7, Z8, Z9] at h3
     have hfr : freshN (flatI l.xs) ((flatI (l.xs.take a)).length + j) = false := by
      rw [freshN, hyg]
      rw [seenF_some] at h3
      rcases h3 with h | h
      ·
       simp [h]
      ·
       simp only [decide_eq_true_eq] at h; simp [h.2]
     have hsk : seenF (flatI l.xs) (((flatI (l.xs.take a)).length + j) + 1) = seenF (flatI l.xs) ((flatI (l.xs.take a)).length + j) := by
      rw [seenF_some] at h3
      rcases h3 with h | h
      ·
       exact seenF_skip (h ▸ hyf)
      ·
       exact seenF_twice hyf (by simpa using h)
     refine cw_exit ?_
     refine ex_pass_exit ?_
     refine ex_block_hit ?_
     refine ex_then ?_
     refine cw_region ?_
     refine sq_r (ry_add rfl rfl (by omega)) ?_
     refine sq_r (ry_move rfl) ?_
     refine sq_nil ?_
     exact ex_again (x := (j)) (j + 1) (by first | omega | (simp only []; omega)) (by first | omega | (simp only []; omega)) (Sub.cons rfl (Sub.cons rfl (Sub.cons rfl (Sub.cons rfl (Sub.cons rfl (Sub.cons rfl (Sub.cons rfl (Sub.cons rfl (Sub.cons rfl (Sub.nil _)))))))))) (fun w hw => by
      rw [← Nat.add_assoc, hsk, knownTo_skip hfr]; exact Keep.mem hw)
    ·
     try simp only [Z0, Z1, Z2, Z3, Z4, Z5, Z6, Z7, Z8, Z9] at h3
     have hy0 : y ≠ 0 := h3.1
     obtain ⟨b1, b2, b3, b4⟩ := hya.resolve_left hy0
     change 2 ≤ ((y - 1) / c.pages) at b3
     change ((y - 1) / c.pages) < ((bvs c.blocks.xs).length : Int) at b4
     rw [hbl] at b4
     have hfr : freshN (flatI l.xs) ((flatI (l.xs.take a)).length + j) = true := by
      rw [freshN, hyg]
      have h9 := h3.2
      rw [seenF_some] at h9
      simp only [decide_eq_false_iff_not] at h9
      simp only [Bool.and_eq_true, decide_eq_true_eq, Bool.not_eq_true', List.contains_eq_mem, decide_eq_false_iff_not]
      exact ⟨hy0, fun hm => h9 ⟨hy0, hm⟩⟩
     have hsn := seenF_next hyf hy0
     have hkl := knownTo_len (cv c) (flatI l.xs) ((flatI (l.xs.take a)).length + j)
     rw [hcb] at hkl
     obtain ⟨z, hz⟩ := get_some (xs := knownTo (cv c) (flatI l.xs) ((flatI (l.xs.take a)).length + j)) (i := (((y - 1) / c.pages) - 2).toNat) (by omega)
     have hkn := knownTo_next hfr (i := (((y - 1) / c.pages) - 2).toNat) (by rw [hyg]; show ((y - 1) / c.pages) = _; omega) hz
     have hzl := knownTo_live hz
     have hpl := (List.getElem?_eq_some_iff.1 hyf).1
     refine cw_skip ?_
     refine ex_then ?_
     refine cw_seq ?_
     refine cw_region ?_
     refine sq_r (ry_move rfl) ?_
     refine sq_r (ry_move rfl) ?_
     refine sq_r (ry_build (v := .agg #[]) rfl (fun w => by kernel_rfl)) ?_
     refine sq_mapUpdate (kenc := kInt) (venc := vUnit) (v := y) (u := ()) rfl rfl rfl hyk ?_
     refine sq_nil ?_
     refine ex_then ?_
     refine cw_region ?_
     refine sq_r (ry_move rfl) ?_
     refine sq_r (ry_move rfl) ?_
     refine sq_r (ry_sub rfl rfl (by omega)) ?_
     refine sq_r (ry_field (o' := 0) rfl rfl) ?_
     refine sq_r (ry_cellc rfl) ?_
     refine sq_r (ry_quo rfl rfl (by omega) (by omega)) ?_
     refine sq_r (ry_sub rfl rfl (by omega)) ?_
     refine sq_r (ry_idxH rfl rfl ((((y - 1) / c.pages) - 2).toNat) (by omega) (by omega)) ?_
     refine sq_r (ry_field rfl rfl) ?_
     refine sq_r (ry_elemcH (j := 0) rfl ((((y - 1) / c.pages) - 2).toNat) hz rfl (by decide)) ?_
     refine sq_r (ry_add rfl rfl (by omega)) ?_
     refine sq_r (ry_idxH rfl rfl ((((y - 1) / c.pages) - 2).toNat) (by omega) (by omega)) ?_
     refine sq_r (ry_field rfl rfl) ?_
     refine sq_storeS (s := ⟨false, b19, 0, c.blocks.xs.length - 2, c.blocks.xs.length - 2, none⟩) (n := 1) (k := (((y - 1) / c.pages) - 2).toNat) (j := 0) (a := z) (a' := { z with live := z.live + 1 }) (xs := (knownTo (cv c) (flatI l.xs) ((flatI (l.xs.take a)).length + j))) (enc := weacells) (c := 4) (v := .int .i64 (z.live + 1)) (by kernel_rfl) rfl rfl rfl hz (by simp [Value.cells, Value.oneCell']) (by rfl) (by decide) (by rfl) ?_
     refine sq_nil ?_
     refine ex_block ?_
     refine ex_then ?_
     refine cw_region ?_
     refine sq_r (ry_add rfl rfl (by omega)) ?_
     refine sq_r (ry_move rfl) ?_
     refine sq_nil ?_
     exact ex_again (x := (j)) (j + 1) (by first | omega | (simp only []; omega)) (by first | omega | (simp only []; omega)) (Sub.cons rfl (Sub.cons rfl (Sub.cons rfl (Sub.cons rfl (Sub.cons rfl (Sub.cons rfl (Sub.cons rfl (Sub.cons rfl (Sub.cons rfl (Sub.nil _)))))))))) (fun w hw => by
      rw [← Nat.add_assoc, ← hsn, hkn]; exact Keep.mem hw)
   ·
    try simp only [Z0, Z1, Z2, Z3, Z4, Z5, Z6, Z7, Z8, Z9] at h2
    obtain rfl : j = x.xs.length := by omega
    refine cw_exit ?_
    refine ex_pass_exit ?_
    refine ex_pass_exit ?_
    refine ex_block_hit ?_
    refine ex_block ?_
    refine ex_then ?_
    refine cw_region ?_
    refine sq_r (ry_add rfl rfl (by omega)) ?_
    refine sq_r (ry_move rfl) ?_
    refine sq_nil ?_
    exact ex_again (x := (a)) (a + 1) (by first | omega | (simp only []; omega)) (by first | omega | (simp only []; omega)) (Sub.cons rfl (Sub.cons rfl (Sub.cons rfl (Sub.cons rfl (Sub.cons rfl (Sub.cons rfl (Sub.nil _))))))) (fun w hw => by
     rw [flatI_snoc hx, List.length_append]; exact Keep.mem hw)
  ·
   try simp only [Z0, Z1, Z2, Z3, Z4, Z5, Z6, Z7, Z8, Z9] at h1
   obtain rfl : a = l.xs.length := by omega
   rw [List.take_length]
   refine cw_exit ?_
   refine ex_pass_exit ?_
   refine ex_pass_exit ?_
   refine ex_block_hit ?_
   refine ex_then ?_
   refine cw_seq ?_
   refine cw_region ?_
   refine sq_r (ry_move rfl) ?_
   refine sq_r (ry_assign rfl) ?_
   refine sq_nil ?_
   refine ex_then ?_
   refine cw_ret ?_
   refine ex_ret (.inl rfl) (res_1 rfl (rv_tmp rfl)) (fun w1 hw => ?_)
   exact ⟨⟨false, b19, 0, c.blocks.xs.length - 2, c.blocks.xs.length - 2, none⟩, rfl, trivial, by rw [knownF]; exact Keep.mem hw⟩
instance fknown_i {w0 : World} {L : List Ent} {c : Cp} {l : Sl (Sl Int)} [hc : HdD w0 L c] [hl : HdD w0 L l] : FnC Tryz.prog 51 w0 L [.agg (cpcells c), l.sv.val] (Sv) (fun zz => zz.val) (fun zz => own weacells 4 zz (knownF (cv c) (flatI l.xs)) :: L) (fun zz => True) (KnOk (cv c) (flatI l.xs)) := ⟨fun hp w hw => (fknown_c w c l (hc.h w hw) (hl.h w hw) hp).mono fun e w' ⟨x, h1, h2, h3⟩ => ⟨x, h1, h2, hw.call h3⟩⟩

end Go.Proofs.YtaipiecplldinaaGreat

/- References: numbers. -/
namespace Go.Proofs.YtaipiecplldinaaGreat
open Go.Eng Go.Kb
open Go.RowKit
theorem rhas_c (w : World) (x : Sv) (xs : List Int) (n : Int) (hx : Lies iec 1 (hp w) x xs) : Calls Tryz.prog 95 #[x.val, .int .i64 n] w fun e w' => e = .returned (.bool (xs.contains n)) ∧ Mem w [] w' := by
 have ghx : Gv w x iec 1 xs := ⟨hx⟩
 have hbd := hx.bd
 refine calls_of (args := [_, _]) Tryz.func95 rfl Tryz.ntmps95 rfl ?_
 change Cw _ _ _ _ _ [(0, x.val), (1, .int .i64 n)] []
 refine cw_seq ?_
 refine cw_region ?_
 refine sq_r (ry_assign rfl) ?_
 refine sq_nil ?_
 refine ex_then ?_
 refine cw_seq ?_
 refine cw_seq ?_
 refine cw_region ?_
 refine sq_r (ry_assign rfl) ?_
 refine sq_nil ?_
 refine ex_then ?_
 refine cw_block ?_
 refine cw_loop (X := Nat) (fun zz => [(5, .int .i64 (zz : Nat)), (0, x.val), (1, .int .i64 n)]) (fun zz => []) (fun zz => zz ≤ xs.length ∧ ∀ j y, j < zz → xs[j]? = Option.some y → y ≠ n) (fun zz => xs.length - zz) 0 ⟨Nat.zero_le _, fun j y hj => by first | omega | (simp only []; omega)⟩ (Sub.cons rfl (Sub.cons rfl (Sub.cons rfl (Sub.nil _)))) (fun w hw => Keep.mem hw) ?_
 rintro i ⟨hi1, hi2⟩
 refine cw_seq ?_
 refine cw_seq ?_
 refine cw_region ?_
 refine sq_r (ry_move rfl) ?_
 refine sq_r (ry_move rfl) ?_
 refine sq_r (ry_lenH rfl) ?_
 refine sq_r (ry_int rfl rfl rfl) ?_
 refine sq_nil ?_
 refine ex_then ?_
 refine cw_cond rfl (fun h0 => ?_) (fun h0 => ?_)
 ·
  try simp only [Z0, Z1, Z2, Z3, Z4, Z5, Z6, Z7, Z8, Z9] at h0
  refine cw_skip ?_
  refine ex_then ?_
  refine cw_seq ?_
  refine cw_block ?_
  refine cw_seq ?_
  refine cw_region ?_
  refine sq_r (ry_move rfl) ?_
  refine sq_r (ry_move rfl) ?_
  obtain ⟨y, hy⟩ := get_some (xs := xs) (i := i) (by omega)
  refine sq_r (ry_idxH rfl rfl i rfl (by omega)) ?_
  refine sq_r (ry_elemcH (j := 0) rfl i hy rfl (by decide)) ?_
  refine sq_r (ry_move rfl) ?_
  refine sq_r (ry_int rfl rfl rfl) ?_
  refine sq_nil ?_
  refine ex_then ?_
  refine cw_cond rfl (fun h1 => ?_) (fun h1 => ?_)
  ·
   try simp only [Z0, Z1, Z2, Z3, Z4, Z5, Z6, Z7, Z8, Z9] at h1
   have hz : xs.contains n = true := by rw [List.contains_eq_mem, decide_eq_true_eq, ← h1]; exact List.mem_of_getElem? hy
   refine cw_seq ?_
   refine cw_region ?_
   refine sq_r (ry_assign rfl) ?_
   refine sq_nil ?_
   refine ex_then ?_
   refine cw_ret ?_
   refine ex_block_ret ?_
   refine ex_pass_ret ?_
   refine ex_pass_ret ?_
   refine ex_block_ret ?_
   refine ex_pass_ret ?_
   refine ex_ret (.inl rfl) (res_1 rfl (rv_tmp rfl)) (fun w1 hw => ?_)
   exact ⟨congrArg (fun b => Ending.returned (Value.bool b)) (hz.symm), Keep.mem hw⟩
  ·
   try simp only [Z0, Z1, Z2, Z3, Z4, Z5, Z6, Z7, Z8, Z9] at h1
   refine cw_skip ?_
   refine ex_block ?_
   refine ex_then ?_
   refine cw_region ?_
   refine sq_r (ry_move rfl) ?_
   refine sq_r (ry_add rfl rfl (by omega)) ?_
   refine sq_r (ry_assign rfl) ?_
   refine sq_nil ?_
   exact ex_again (x := (i)) (i + 1) ⟨by first | omega | (simp only []; omega), fun j z hj hz => if e : j = i then (by subst e; rw [hy] at hz; cases hz; exact h1) else hi2 j z (by first | omega | (simp only []; omega)) hz⟩ (by first | omega | (simp only []; omega)) (Sub.cons rfl (Sub.cons rfl (Sub.cons rfl (Sub.nil _)))) (fun w hw => Keep.mem hw)
 ·
  try simp only [Z0, Z1, Z2, Z3, Z4, Z5, Z6, Z7, Z8, Z9] at h0
  obtain rfl : i = xs.length := by omega
  have hz : xs.contains n = false := by
   rw [List.contains_eq_mem, decide_eq_false_iff_not]
   intro hm
   obtain ⟨j, hj⟩ := List.getElem?_of_mem hm
   exact hi2 j n (List.getElem?_eq_some_iff.1 hj).1 hj rfl
  refine cw_exit ?_
  refine ex_pass_exit ?_
  refine ex_pass_exit ?_
  refine ex_block_hit ?_
  refine ex_then ?_
  refine cw_seq ?_
  refine cw_region ?_
  refine sq_r (ry_assign rfl) ?_
  refine sq_nil ?_
  refine ex_then ?_
  refine cw_ret ?_
  refine ex_ret (.inl rfl) (res_1 rfl (rv_tmp rfl)) (fun w1 hw => ?_)
  exact ⟨congrArg (fun b => Ending.returned (Value.bool b)) (hz.symm), Keep.mem hw⟩
instance rhas_i {w0 : World} {L : List Ent} {x : Sv} {xs : List Int} {n : Int} [hx : HdE w0 L iec 1 x xs] : FnQ Tryz.prog 95 w0 L [x.val, .int .i64 n] (.bool (xs.contains n)) (True) := ⟨fun hp w hw => rhas_c w x xs n (hx.h w hw)⟩
theorem rints_c (w : World) (x : Sv) (xs : List Int) (y : Sv) (ys : List Int) (hx : Lies iec 1 (hp w) x xs) (hy : Lies iec 1 (hp w) y ys) : Calls Tryz.prog 48 #[x.val, y.val] w fun e w' => e = .returned (.bool (decide (xs = ys))) ∧ Mem w [] w' := by
 have ghx : Gv w x iec 1 xs := ⟨hx⟩
 have ghy : Gv w y iec 1 ys := ⟨hy⟩
 have hbx := hx.bd
 refine calls_of (args := [_, _]) Tryz.func48 rfl Tryz.ntmps48 rfl ?_
 change Cw _ _ _ _ _ [(0, x.val), (1, y.val)] []
 refine cw_seq ?_
 refine cw_region ?_
 refine sq_r (ry_assign rfl) ?_
 refine sq_nil ?_
 refine ex_then ?_
 refine cw_seq ?_
 refine cw_seq ?_
 refine cw_region ?_
 refine sq_r (ry_move rfl) ?_
 refine sq_r (ry_lenH rfl) ?_
 refine sq_r (ry_move rfl) ?_
 refine sq_r (ry_lenH rfl) ?_
 refine sq_r (ry_int rfl rfl rfl) ?_
 refine sq_nil ?_
 refine ex_then ?_
 refine cw_cond rfl (fun h0 => ?_) (fun h0 => ?_)
 ·
  try simp only [Z0, Z1, Z2, Z3, Z4, Z5, Z6, Z7, Z8, Z9] at h0
  have hz : decide (xs = ys) = false := decide_eq_false fun e => h0 (by rw [e])
  refine cw_seq ?_
  refine cw_region ?_
  refine sq_r (ry_assign rfl) ?_
  refine sq_nil ?_
  refine ex_then ?_
  refine cw_ret ?_
  refine ex_pass_ret ?_
  refine ex_ret (.inl rfl) (res_1 rfl (rv_tmp rfl)) (fun w1 hw => ?_)
  exact ⟨congrArg (fun b => Ending.returned (Value.bool b)) (hz.symm), Keep.mem hw⟩
 ·
  try simp only [Z0, Z1, Z2, Z3, Z4, Z5, Z6, Z7, Z8, Z9] at h0
  have hll : xs.length = ys.length := by omega
  refine cw_skip ?_
  refine ex_then ?_
  refine cw_seq ?_
  refine cw_seq ?_
  refine cw_region ?_
  refine sq_r (ry_assign rfl) ?_
  refine sq_nil ?_
  refine ex_then ?_
  refine cw_block ?_
  refine cw_loop (X := Nat) (fun zz => [(5, .int .i64 (zz : Nat)), (0, x.val), (1, y.val)]) (fun zz => []) (fun zz => zz ≤ xs.length ∧ ∀ j, j < zz → xs[j]? = ys[j]?) (fun zz => xs.length - zz) 0 ⟨Nat.zero_le _, fun j hj => by first | omega | (simp only []; omega)⟩ (Sub.cons rfl (Sub.cons rfl (Sub.cons rfl (Sub.nil _)))) (fun w hw => Keep.mem hw) ?_
  rintro i ⟨hi1, hi2⟩
  refine cw_seq ?_
  refine cw_seq ?_
  refine cw_region ?_
  refine sq_r (ry_move rfl) ?_
  refine sq_r (ry_move rfl) ?_
  refine sq_r (ry_lenH rfl) ?_
  refine sq_r (ry_int rfl rfl rfl) ?_
  refine sq_nil ?_
  refine ex_then ?_
  refine cw_cond rfl (fun h1 => ?_) (fun h1 => ?_)
  ·
   try simp only [Z0, Z1, Z2, Z3, Z4, Z5, Z6, Z7, Z8, Z9] at h1
   obtain ⟨p, hpx⟩ := get_some (xs := xs) (i := i) (by omega)
   obtain ⟨q, hqy⟩ := get_some (xs := ys) (i := i) (by omega)
   refine cw_skip ?_
   refine ex_then ?_
   refine cw_seq ?_
   refine cw_block ?_
   refine cw_seq ?_
   refine cw_quiet (by kernel_rfl) (by kernel_rfl) ?_
   refine qt_r (ry_move rfl) ?_
   refine qt_r (ry_move rfl) ?_
   refine qt_r (ry_idxH rfl rfl i rfl (by omega)) ?_
   refine qt_r (ry_elemcH (j := 0) rfl i hpx rfl (by decide)) ?_
   refine qt_r (ry_move rfl) ?_
   refine qt_r (ry_move rfl) ?_
   refine qt_r (ry_idxH rfl rfl i rfl (by omega)) ?_
   refine qt_r (ry_elemcH (j := 0) rfl i hqy rfl (by decide)) ?_
   refine qt_r (ry_int rfl rfl rfl) ?_
   refine qt_nil ?_
   refine ex_then ?_
   refine cw_cond rfl (fun h2 => ?_) (fun h2 => ?_)
   ·
    try simp only [Z0, Z1, Z2, Z3, Z4, Z5, Z6, Z7, Z8, Z9] at h2
    have hz : decide (xs = ys) = false := decide_eq_false fun e => h2 (by rw [e] at hpx; rw [hpx] at hqy; cases hqy; rfl)
    refine cw_seq ?_
    refine cw_region ?_
    refine sq_r (ry_assign rfl) ?_
    refine sq_nil ?_
    refine ex_then ?_
    refine cw_ret ?_
    refine ex_block_ret ?_
    refine ex_pass_ret ?_
    refine ex_pass_ret ?_
    refine ex_block_ret ?_
    refine ex_pass_ret ?_
    refine ex_ret (.inl rfl) (res_1 rfl (rv_tmp rfl)) (fun w1 hw => ?_)
    exact ⟨congrArg (fun b => Ending.returned (Value.bool b)) (hz.symm), Keep.mem hw⟩
   ·
    try simp only [Z0, Z1, Z2, Z3, Z4, Z5, Z6, Z7, Z8, Z9] at h2
    refine cw_skip ?_
    refine ex_block ?_
    refine ex_then ?_
    refine cw_region ?_
    refine sq_r (ry_move rfl) ?_
    refine sq_r (ry_add rfl rfl (by omega)) ?_
    refine sq_r (ry_assign rfl) ?_
    refine sq_nil ?_
    exact ex_again (x := (i)) (i + 1) ⟨by first | omega | (simp only []; omega), fun j hj => if e : j = i then (by subst e; rw [hpx, hqy, h2]) else hi2 j (by first | omega | (simp only []; omega))⟩ (by first | omega | (simp only []; omega)) (Sub.cons rfl (Sub.cons rfl (Sub.cons rfl (Sub.nil _)))) (fun w hw => Keep.mem hw)
  ·
   try simp only [Z0, Z1, Z2, Z3, Z4, Z5, Z6, Z7, Z8, Z9] at h1
   obtain rfl : i = xs.length := by omega
   have hz : decide (xs = ys) = true := decide_eq_true (list_eqI hll hi2)
   refine cw_exit ?_
   refine ex_pass_exit ?_
   refine ex_pass_exit ?_
   refine ex_block_hit ?_
   refine ex_then ?_
   refine cw_seq ?_
   refine cw_region ?_
   refine sq_r (ry_assign rfl) ?_
   refine sq_nil ?_
   refine ex_then ?_
   refine cw_ret ?_
   refine ex_ret (.inl rfl) (res_1 rfl (rv_tmp rfl)) (fun w1 hw => ?_)
   exact ⟨congrArg (fun b => Ending.returned (Value.bool b)) (hz.symm), Keep.mem hw⟩
instance rints_i {w0 : World} {L : List Ent} {x : Sv} {xs : List Int} {y : Sv} {ys : List Int} [hx : HdE w0 L iec 1 x xs] [hy : HdE w0 L iec 1 y ys] : FnQ Tryz.prog 48 w0 L [x.val, y.val] (.bool (decide (xs = ys))) (True) := ⟨fun hp w hw => rints_c w x xs y ys (hx.h w hw) (hy.h w hw)⟩

end Go.Proofs.YtaipiecplldinaaGreat

/- References: chips. -/
namespace Go.Proofs.YtaipiecplldinaaGreat
open Go.Eng Go.Kb
open Go.RowKit
theorem rcright_c (w : World) (c : Cp) (hc : Deep.good (hp w) c) : Calls Tryz.prog 93 #[.agg (cpcells c)] w fun e w' => e = .returned (.bool (chipOk (cv c))) ∧ Mem w [] w' := by
 have ghc : GvD w c := ⟨hc⟩
 have hbl := bvs_length c.blocks.xs
 have hok : chipOk (cv c) = true ↔ soundF c.blocks.xs.length c.pages c.size = true ∧ 0 ≤ c.ops ∧ c.ops ≤ ctop ∧ c.faults.xs.length ≤ 64 ∧ ∀ b ∈ bvs c.blocks.xs, bkOk c.pages c.size b = true := by rw [chipOk_iff]; simp only [cv, hbl]
 have hct : ctop = 1099511627776 := rfl
 refine calls_of (args := [_]) Tryz.func93 rfl Tryz.ntmps93 rfl ?_
 change Cw _ _ _ _ _ [(0, .agg (cpcells c))] []
 refine cw_seq ?_
 refine cw_region ?_
 refine sq_boxA rfl fun b1 => ?_
 refine sq_r (ry_assign rfl) ?_
 refine sq_nil ?_
 refine ex_then ?_
 refine cw_seq ?_
 refine cw_seq ?_
 refine cw_region ?_
 refine sq_r (ry_field (o' := 0) rfl rfl) ?_
 refine sq_r (ry_cellc rfl) ?_
 refine sq_r (ry_int rfl rfl rfl) ?_
 refine sq_r (ry_move rfl) ?_
 refine sq_gf rfl rfl rfl (fun hg => (Ry.yl (ry_field (o' := 0) rfl rfl))) ?_
 refine sq_gf rfl rfl rfl (fun hg => (Ry.yl (ry_cellc (ev_c hg rfl)))) ?_
 refine sq_gf rfl rfl rfl (fun hg => (Ry.yl (ry_int (ev_c hg rfl) rfl rfl))) ?_
 refine sq_r (ry_or rfl rfl rfl) ?_
 refine sq_r (ry_move rfl) ?_
 refine sq_gf rfl rfl rfl (fun hg => (Ry.yl (ry_field (o' := 1) rfl rfl))) ?_
 refine sq_gf rfl rfl rfl (fun hg => (Ry.yl (ry_cellc (ev_c hg rfl)))) ?_
 refine sq_gf rfl rfl rfl (fun hg => (Ry.yl (ry_int (ev_c hg rfl) rfl rfl))) ?_
 refine sq_r (ry_or rfl rfl rfl) ?_
 refine sq_r (ry_move rfl) ?_
 refine sq_gf rfl rfl rfl (fun hg => (Ry.yl (ry_field (o' := 1) rfl rfl))) ?_
 refine sq_gf rfl rfl rfl (fun hg => (Ry.yl (ry_cellc (ev_c hg rfl)))) ?_
 refine sq_gf rfl rfl rfl (fun hg => (Ry.yl (ry_int (ev_c hg rfl) rfl rfl))) ?_
 refine sq_r (ry_or rfl rfl rfl) ?_
 refine sq_r (ry_move rfl) ?_
 refine sq_gf rfl rfl rfl (fun hg => (Ry.yl (ry_field (o' := 2) rfl rfl))) ?_
 refine sq_gf rfl rfl rfl (fun hg => (Ry.yl (ry_cellc (ev_c hg rfl)))) ?_
 refine sq_gf rfl rfl rfl (fun hg => (Ry.yl (ry_lenH (ev_c hg rfl)))) ?_
 refine sq_gf rfl rfl rfl (fun hg => (Ry.yl (ry_int (ev_c hg rfl) rfl rfl))) ?_
 refine sq_r (ry_or rfl rfl rfl) ?_
 refine sq_r (ry_move rfl) ?_
 refine sq_gf rfl rfl rfl (fun hg => (Ry.yl (ry_field (o' := 2) rfl rfl))) ?_
 refine sq_gf rfl rfl rfl (fun hg => (Ry.yl (ry_cellc (ev_c hg rfl)))) ?_
 refine sq_gf rfl rfl rfl (fun hg => (Ry.yl (ry_lenH (ev_c hg rfl)))) ?_
 refine sq_gf rfl rfl rfl (fun hg => (Ry.yl (ry_int (ev_c hg rfl) rfl rfl))) ?_
 refine sq_r (ry_or rfl rfl rfl) ?_
 refine sq_r (ry_move rfl) ?_
 refine sq_gf rfl rfl rfl (fun hg => (Ry.yl (ry_field (o' := 3) rfl rfl))) ?_
 refine sq_gf rfl rfl rfl (fun hg => (Ry.yl (ry_cellc (ev_c hg rfl)))) ?_
 refine sq_gf rfl rfl rfl (fun hg => (Ry.yl (ry_int (ev_c hg rfl) rfl rfl))) ?_
 refine sq_r (ry_or rfl rfl rfl) ?_
 refine sq_r (ry_move rfl) ?_
 refine sq_gf rfl rfl rfl (fun hg => (Ry.yl (ry_field (o' := 3) rfl rfl))) ?_
 refine sq_gf rfl rfl rfl (fun hg => (Ry.yl (ry_cellc (ev_c hg rfl)))) ?_
 refine sq_gf rfl rfl rfl (fun hg => (Ry.yl (ry_int (ev_c hg rfl) rfl rfl))) ?_
 refine sq_r (ry_or rfl rfl rfl) ?_
 refine sq_r (ry_move rfl) ?_
 refine sq_gf rfl rfl rfl (fun hg => (Ry.yl (ry_field (o' := 5) rfl rfl))) ?_
 refine sq_gf rfl rfl rfl (fun hg => (Ry.yl (ry_cellc (ev_c hg rfl)))) ?_
 refine sq_gf rfl rfl rfl (fun hg => (Ry.yl (ry_lenH (ev_c hg rfl)))) ?_
 refine sq_gf rfl rfl rfl (fun hg => (Ry.yl (ry_int (ev_c hg rfl) rfl rfl))) ?_
 refine sq_r (ry_or rfl rfl rfl) ?_
 refine sq_nil ?_
 refine ex_then ?_
 refine cw_cond rfl (fun h0 => ?_) (fun h0 => ?_)
 ·
  try simp only [Z0, Z1, Z2, Z3, Z4, Z5, Z6, Z7, Z8, Z9] at h0
  have hz : chipOk (cv c) = false := by
   cases hk : chipOk (cv c) with
   | false => rfl
   | true =>
    have g := hok.1 hk
    have g2 := soundF_iff.1 g.1
    omega
  refine cw_seq ?_
  refine cw_region ?_
  refine sq_r (ry_assign rfl) ?_
  refine sq_nil ?_
  refine ex_then ?_
  refine cw_ret ?_
  refine ex_pass_ret ?_
  refine ex_ret (.inl rfl) (res_1 rfl (rv_tmp rfl)) (fun w1 hw => ?_)
  exact ⟨congrArg (fun b => Ending.returned (Value.bool b)) (hz.symm), Keep.mem hw⟩
 ·
  try simp only [Z0, Z1, Z2, Z3, Z4, Z5, Z6, Z7, Z8, Z9] at h0
  have g0 : soundF c.blocks.xs.length c.pages c.size = true ∧ 0 ≤ c.ops ∧ c.ops ≤ ctop ∧ c.faults.xs.length ≤ 64 := ⟨soundF_iff.2 ⟨by omega, by omega, by omega, by omega, by omega, by omega⟩, by omega, by omega, by omega⟩
  have gs := soundF_iff.1 g0.1
  refine cw_skip ?_
  refine ex_then ?_
  refine cw_seq ?_
  refine cw_seq ?_
  refine cw_region ?_
  refine sq_r (ry_assign rfl) ?_
  refine sq_nil ?_
  refine ex_then ?_
  refine cw_block ?_
  refine cw_loop (X := Nat) (fun zz => [(3, .int .i64 (zz : Nat)), (1, .pointer (some ⟨b1, 0, none⟩))]) (fun zz => [blk b1 (cpcells c) 25]) (fun zz => zz ≤ c.blocks.xs.length ∧ ∀ j b, j < zz → (bvs c.blocks.xs)[j]? = Option.some b → bkOk c.pages c.size b = true) (fun zz => c.blocks.xs.length - zz) 0 ⟨Nat.zero_le _, fun j b hj => by first | omega | (simp only []; omega)⟩ (Sub.cons rfl (Sub.cons rfl (Sub.nil _))) (fun w hw => Keep.mem hw) ?_
  rintro i ⟨hi1, hi2⟩
  refine cw_seq ?_
  refine cw_seq ?_
  refine cw_region ?_
  refine sq_r (ry_move rfl) ?_
  refine sq_r (ry_field (o' := 2) rfl rfl) ?_
  refine sq_r (ry_cellc rfl) ?_
  refine sq_r (ry_lenH rfl) ?_
  refine sq_r (ry_int rfl rfl rfl) ?_
  refine sq_nil ?_
  refine ex_then ?_
  refine cw_cond rfl (fun h1 => ?_) (fun h1 => ?_)
  ·
   try simp only [Z0, Z1, Z2, Z3, Z4, Z5, Z6, Z7, Z8, Z9] at h1
   obtain ⟨x, hx⟩ := get_some (xs := c.blocks.xs) (i := i) (by omega)
   have mbx : Mb x c.blocks := ⟨List.mem_of_getElem? hx⟩
   refine cw_skip ?_
   refine ex_then ?_
   refine cw_seq ?_
   refine cw_block ?_
   refine cw_seq ?_
   refine cw_region ?_
   refine sq_r (ry_field (o' := 2) rfl rfl) ?_
   refine sq_r (ry_cellc rfl) ?_
   refine sq_r (ry_move rfl) ?_
   refine sq_r (ry_idxH rfl rfl i rfl (by omega)) ?_
   refine sq_r (ry_elemH rfl i hx rfl) ?_
   have mb63 : Mb x c.blocks := ⟨List.mem_of_getElem? hx⟩
   refine sq_allocA fun b4 => ?_
   refine sq_storeW rfl rfl ?_
   refine sq_nil ?_
   refine ex_then ?_
   refine cw_seq ?_
   refine cw_seq ?_
   refine cw_region ?_
   refine sq_r (ry_field (o' := 0) rfl rfl) ?_
   refine sq_r (ry_cellc rfl) ?_
   refine sq_r (ry_lenH rfl) ?_
   refine sq_r (ry_field (o' := 0) rfl rfl) ?_
   refine sq_r (ry_cellc rfl) ?_
   refine sq_r (ry_int rfl rfl rfl) ?_
   refine sq_r (ry_move rfl) ?_
   refine sq_gf rfl rfl rfl (fun hg => (Ry.yl (ry_field (o' := 1) rfl rfl))) ?_
   refine sq_gf rfl rfl rfl (fun hg => (Ry.yl (ry_cellc (ev_c hg rfl)))) ?_
   refine sq_gf rfl rfl rfl (fun hg => (Ry.yl (ry_int (ev_c hg rfl) rfl rfl))) ?_
   refine sq_r (ry_or rfl rfl rfl) ?_
   refine sq_r (ry_move rfl) ?_
   refine sq_gf rfl rfl rfl (fun hg => (Ry.yl (ry_field (o' := 1) rfl rfl))) ?_
   refine sq_gf rfl rfl rfl (fun hg => (Ry.yl (ry_cellc (ev_c hg rfl)))) ?_
   refine sq_gf rfl rfl rfl (fun hg => (Ry.yl (ry_field (o' := 0) rfl rfl))) ?_
   refine sq_gf rfl rfl rfl (fun hg => (Ry.yl (ry_cellc (ev_c hg rfl)))) ?_
   refine sq_gf rfl rfl rfl (fun hg => (Ry.yl (ry_int (ev_c hg rfl) (ev_c hg rfl) rfl))) ?_
   refine sq_r (ry_or rfl rfl rfl) ?_
   refine sq_r (ry_move rfl) ?_
   refine sq_gf rfl rfl rfl (fun hg => (Ry.yl (ry_field (o' := 2) rfl rfl))) ?_
   refine sq_gf rfl rfl rfl (fun hg => (Ry.yl (ry_cellc (ev_c hg rfl)))) ?_
   refine sq_gf rfl rfl rfl (fun hg => (Ry.yl (ry_int (ev_c hg rfl) rfl rfl))) ?_
   refine sq_r (ry_or rfl rfl rfl) ?_
   refine sq_r (ry_move rfl) ?_
   refine sq_gf rfl rfl rfl (fun hg => (Ry.yl (ry_field (o' := 2) rfl rfl))) ?_
   refine sq_gf rfl rfl rfl (fun hg => (Ry.yl (ry_cellc (ev_c hg rfl)))) ?_
   refine sq_gf rfl rfl rfl (fun hg => (Ry.yl (ry_int (ev_c hg rfl) rfl rfl))) ?_
   refine sq_r (ry_or rfl rfl rfl) ?_
   refine sq_nil ?_
   refine ex_then ?_
   refine cw_cond rfl (fun h2 => ?_) (fun h2 => ?_)
   ·
    try simp only [Z0, Z1, Z2, Z3, Z4, Z5, Z6, Z7, Z8, Z9] at h2
    have hz : chipOk (cv c) = false := by
     cases hk : chipOk (cv c) with
     | false => rfl
     | true =>
      have g := bkOk_iff.1 ((hok.1 hk).2.2.2.2 (bv x) (List.mem_of_getElem? (bvs_get hx)))
      simp only [bv, txs_length] at g
      omega
    refine cw_seq ?_
    refine cw_region ?_
    refine sq_r (ry_assign rfl) ?_
    refine sq_nil ?_
    refine ex_then ?_
    refine cw_ret ?_
    refine ex_pass_ret ?_
    refine ex_block_ret ?_
    refine ex_pass_ret ?_
    refine ex_pass_ret ?_
    refine ex_block_ret ?_
    refine ex_pass_ret ?_
    refine ex_ret (.inl rfl) (res_1 rfl (rv_tmp rfl)) (fun w1 hw => ?_)
    exact ⟨congrArg (fun b => Ending.returned (Value.bool b)) (hz.symm), Keep.mem hw⟩
   ·
    try simp only [Z0, Z1, Z2, Z3, Z4, Z5, Z6, Z7, Z8, Z9] at h2
    refine cw_skip ?_
    refine ex_then ?_
    refine cw_seq ?_
    refine cw_region ?_
    refine sq_r (ry_assign rfl) ?_
    refine sq_nil ?_
    refine ex_then ?_
    refine cw_block ?_
    refine cw_loop (X := Nat) (fun zz => [(5, .int .i64 (zz : Nat)), (1, .pointer (some ⟨b1, 0, none⟩)), (3, .int .i64 (i : Nat)), (4, .pointer (some ⟨b4, 0, none⟩))]) (fun zz => [blk b4 (bkcells x) 48, blk b1 (cpcells c) 25]) (fun zz => zz ≤ x.pages.xs.length ∧ ∀ k y, k < zz → (bv x).pages[k]? = Option.some y → (y.length : Int) = c.size) (fun zz => x.pages.xs.length - zz) 0 ⟨Nat.zero_le _, fun k y hk => by first | omega | (simp only []; omega)⟩ (Sub.cons rfl (Sub.cons rfl (Sub.cons rfl (Sub.cons rfl (Sub.nil _))))) (fun w hw => Keep.mem hw) ?_
    rintro j ⟨hj1, hj2⟩
    refine cw_seq ?_
    refine cw_seq ?_
    refine cw_region ?_
    refine sq_r (ry_move rfl) ?_
    refine sq_r (ry_field (o' := 0) rfl rfl) ?_
    refine sq_r (ry_cellc rfl) ?_
    refine sq_r (ry_lenH rfl) ?_
    refine sq_r (ry_int rfl rfl rfl) ?_
    refine sq_nil ?_
    refine ex_then ?_
    refine cw_cond rfl (fun h3 => ?_) (fun h3 => ?_)
    ·
     try simp only [Z0, Z1, Z2, Z3, Z4, Z5, Z6, Z7, Z8, Z9] at h3
     obtain ⟨y, hy⟩ := get_some (xs := x.pages.xs) (i := j) (by omega)
     have mby : Mb y x.pages := ⟨List.mem_of_getElem? hy⟩
     refine cw_skip ?_
     refine ex_then ?_
     refine cw_seq ?_
     refine cw_block ?_
     refine cw_seq ?_
     refine cw_quiet (by kernel_rfl) (by kernel_rfl) ?_
     refine qt_r (ry_field (o' := 0) rfl rfl) ?_
     refine qt_r (ry_cellc rfl) ?_
     refine qt_r (ry_move rfl) ?_
     refine qt_r (ry_idxH rfl rfl j rfl (by omega)) ?_
     refine qt_r (ry_elemcH (j := 0) rfl j hy rfl (by decide)) ?_
     have mb103 : Mb y _ := ⟨List.mem_of_getElem? hy⟩
     refine qt_r (ry_lenH rfl) ?_
     refine qt_r (ry_field (o' := 1) rfl rfl) ?_
     refine qt_r (ry_cellc rfl) ?_
     refine qt_r (ry_int rfl rfl rfl) ?_
     refine qt_nil ?_
     refine ex_then ?_
     refine cw_cond rfl (fun h4 => ?_) (fun h4 => ?_)
     ·
      try simp only [Z0, Z1, Z2, Z3, Z4, Z5, Z6, Z7, Z8, Z9] at h4
      have hz : chipOk (cv c) = false := by
       cases hk : chipOk (cv c) with
       | false => rfl
       | true =>
        have g := (bkOk_iff.1 ((hok.1 hk).2.2.2.2 (bv x) (List.mem_of_getElem? (bvs_get hx)))).2.2.2.2.2 y.xs (List.mem_of_getElem? (txs_get hy))
        omega
      refine cw_seq ?_
      refine cw_region ?_
      refine sq_r (ry_assign rfl) ?_
      refine sq_nil ?_
      refine ex_then ?_
      refine cw_ret ?_
      refine ex_block_ret ?_
      refine ex_pass_ret ?_
      refine ex_pass_ret ?_
      refine ex_block_ret ?_
      refine ex_block_ret ?_
      refine ex_pass_ret ?_
      refine ex_pass_ret ?_
      refine ex_block_ret ?_
      refine ex_pass_ret ?_
      refine ex_ret (.inl rfl) (res_1 rfl (rv_tmp rfl)) (fun w1 hw => ?_)
      exact ⟨congrArg (fun b => Ending.returned (Value.bool b)) (hz.symm), Keep.mem hw⟩
     ·
      try simp only [Z0, Z1, Z2, Z3, Z4, Z5, Z6, Z7, Z8, Z9] at h4
      refine cw_skip ?_
      refine ex_block ?_
      refine ex_then ?_
      refine cw_region ?_
      refine sq_r (ry_move rfl) ?_
      refine sq_r (ry_add rfl rfl (by omega)) ?_
      refine sq_r (ry_assign rfl) ?_
      refine sq_nil ?_
      exact ex_again (x := (j)) (j + 1) ⟨by first | omega | (simp only []; omega), fun k z hk hz => if e : k = j then (by subst e; rw [show (bv x).pages = txs x.pages.xs from rfl, txs_get hy] at hz; cases hz; omega) else hj2 k z (by first | omega | (simp only []; omega)) hz⟩ (by first | omega | (simp only []; omega)) (Sub.cons rfl (Sub.cons rfl (Sub.cons rfl (Sub.cons rfl (Sub.nil _))))) (fun w hw => Keep.mem hw)
    ·
     try simp only [Z0, Z1, Z2, Z3, Z4, Z5, Z6, Z7, Z8, Z9] at h3
     have hxo : bkOk c.pages c.size (bv x) = true := bkOk_iff.2 ⟨by simp only [bv, txs_length]; omega, by simp only [bv]; omega, by simp only [bv]; omega, by simp only [bv]; omega, by simp only [bv]; omega, fun y hy => by
      obtain ⟨k, hk⟩ := List.getElem?_of_mem hy
      exact hj2 k y (by have h := (List.getElem?_eq_some_iff.1 hk).1; simp only [bv, txs_length] at h; omega) hk⟩
     refine cw_exit ?_
     refine ex_pass_exit ?_
     refine ex_pass_exit ?_
     refine ex_block_hit ?_
     refine ex_block ?_
     refine ex_then ?_
     refine cw_region ?_
     refine sq_r (ry_move rfl) ?_
     refine sq_r (ry_add rfl rfl (by omega)) ?_
     refine sq_r (ry_assign rfl) ?_
     refine sq_nil ?_
     exact ex_again (x := (i)) (i + 1) ⟨by first | omega | (simp only []; omega), fun j b hj hb => if e : j = i then (by subst e; rw [bvs_get hx] at hb; cases hb; exact hxo) else hi2 j b (by first | omega | (simp only []; omega)) hb⟩ (by first | omega | (simp only []; omega)) (Sub.cons rfl (Sub.cons rfl (Sub.nil _))) (fun w hw => Keep.mem hw)
  ·
   try simp only [Z0, Z1, Z2, Z3, Z4, Z5, Z6, Z7, Z8, Z9] at h1
   obtain rfl : i = c.blocks.xs.length := by omega
   have hz : chipOk (cv c) = true := hok.2 ⟨g0.1, g0.2.1, g0.2.2.1, g0.2.2.2, fun b hb => by
    obtain ⟨j, hj⟩ := List.getElem?_of_mem hb
    exact hi2 j b (by have := (List.getElem?_eq_some_iff.1 hj).1; omega) hj⟩
   refine cw_exit ?_
   refine ex_pass_exit ?_
   refine ex_pass_exit ?_
   refine ex_block_hit ?_
   refine ex_then ?_
   refine cw_seq ?_
   refine cw_region ?_
   refine sq_r (ry_assign rfl) ?_
   refine sq_nil ?_
   refine ex_then ?_
   refine cw_ret ?_
   refine ex_ret (.inl rfl) (res_1 rfl (rv_tmp rfl)) (fun w1 hw => ?_)
   exact ⟨congrArg (fun b => Ending.returned (Value.bool b)) (hz.symm), Keep.mem hw⟩
instance rcright_i {w0 : World} {L : List Ent} {c : Cp} [hc : HdD w0 L c] : FnQ Tryz.prog 93 w0 L [.agg (cpcells c)] (.bool (chipOk (cv c))) (True) := ⟨fun hp w hw => rcright_c w c (hc.h w hw)⟩
theorem rblocks_c (w : World) (a : Bk) (d : Bk) (ha : Deep.good (hp w) a) (hd : Deep.good (hp w) d) : Calls Tryz.prog 38 #[.agg (bkcells a), .agg (bkcells d)] w fun e w' => e = .returned (.bool (decide (bv a = bv d))) ∧ Mem w [] w' := by
 have gha : GvD w a := ⟨ha⟩
 have ghd : GvD w d := ⟨hd⟩
 have hbd := ha.1.bd
 have hla := txs_length a.pages.xs
 have hld := txs_length d.pages.xs
 refine calls_of (args := [_, _]) Tryz.func38 rfl Tryz.ntmps38 rfl ?_
 change Cw _ _ _ _ _ [(0, .agg (bkcells a)), (1, .agg (bkcells d))] []
 refine cw_seq ?_
 refine cw_region ?_
 refine sq_boxA rfl fun b2 => ?_
 refine sq_boxA rfl fun b3 => ?_
 refine sq_r (ry_assign rfl) ?_
 refine sq_nil ?_
 refine ex_then ?_
 refine cw_seq ?_
 refine cw_seq ?_
 refine cw_region ?_
 refine sq_r (ry_field (o' := 1) rfl rfl) ?_
 refine sq_r (ry_cellc rfl) ?_
 refine sq_r (ry_field (o' := 1) rfl rfl) ?_
 refine sq_r (ry_cellc rfl) ?_
 refine sq_r (ry_int rfl rfl rfl) ?_
 refine sq_r (ry_move rfl) ?_
 refine sq_gf rfl rfl rfl (fun hg => (Ry.yl (ry_field (o' := 2) rfl rfl))) ?_
 refine sq_gf rfl rfl rfl (fun hg => (Ry.yl (ry_cellc (ev_c hg rfl)))) ?_
 refine sq_gf rfl rfl rfl (fun hg => (Ry.yl (ry_field (o' := 2) rfl rfl))) ?_
 refine sq_gf rfl rfl rfl (fun hg => (Ry.yl (ry_cellc (ev_c hg rfl)))) ?_
 refine sq_gf rfl rfl rfl (fun hg => (Ry.yl (ry_int (ev_c hg rfl) (ev_c hg rfl) rfl))) ?_
 refine sq_r (ry_or rfl rfl rfl) ?_
 refine sq_r (ry_move rfl) ?_
 refine sq_gf rfl rfl rfl (fun hg => (Ry.yl (ry_field (o' := 3) rfl rfl))) ?_
 refine sq_gf rfl rfl rfl (fun hg => (Ry.yl (ry_cellc (ev_c hg rfl)))) ?_
 refine sq_gf rfl rfl rfl (fun hg => (Ry.yl (ry_field (o' := 3) rfl rfl))) ?_
 refine sq_gf rfl rfl rfl (fun hg => (Ry.yl (ry_cellc (ev_c hg rfl)))) ?_
 refine sq_gf rfl rfl rfl (fun hg => (Ry.yl (ry_neb (ev_c hg rfl) (ev_c hg rfl) Tryz.underlying4))) ?_
 refine sq_r (ry_or rfl rfl rfl) ?_
 refine sq_r (ry_move rfl) ?_
 refine sq_gf rfl rfl rfl (fun hg => (Ry.yl (ry_field (o' := 0) rfl rfl))) ?_
 refine sq_gf rfl rfl rfl (fun hg => (Ry.yl (ry_cellc (ev_c hg rfl)))) ?_
 refine sq_gf rfl rfl rfl (fun hg => (Ry.yl (ry_lenH (ev_c hg rfl)))) ?_
 refine sq_gf rfl rfl rfl (fun hg => (Ry.yl (ry_field (o' := 0) rfl rfl))) ?_
 refine sq_gf rfl rfl rfl (fun hg => (Ry.yl (ry_cellc (ev_c hg rfl)))) ?_
 refine sq_gf rfl rfl rfl (fun hg => (Ry.yl (ry_lenH (ev_c hg rfl)))) ?_
 refine sq_gf rfl rfl rfl (fun hg => (Ry.yl (ry_int (ev_c hg rfl) (ev_c hg rfl) rfl))) ?_
 refine sq_r (ry_or rfl rfl rfl) ?_
 refine sq_nil ?_
 refine ex_then ?_
 refine cw_cond rfl (fun h0 => ?_) (fun h0 => ?_)
 ·
  try simp only [Z0, Z1, Z2, Z3, Z4, Z5, Z6, Z7, Z8, Z9] at h0
  have hz : decide (bv a = bv d) = false := decide_eq_false fun e => by
   obtain ⟨g1, g2, g3, g4⟩ := bv_eq.1 e
   have g5 := congrArg List.length g4
   simp only [bv, txs_length] at g1 g2 g3 g5
   rcases h0 with ((h | h) | h) | h
   ·
    exact h g1
   ·
    exact h g2
   ·
    rw [g3] at h; simp at h
   ·
    omega
  refine cw_seq ?_
  refine cw_region ?_
  refine sq_r (ry_assign rfl) ?_
  refine sq_nil ?_
  refine ex_then ?_
  refine cw_ret ?_
  refine ex_pass_ret ?_
  refine ex_ret (.inl rfl) (res_1 rfl (rv_tmp rfl)) (fun w1 hw => ?_)
  exact ⟨congrArg (fun b => Ending.returned (Value.bool b)) (hz.symm), Keep.mem hw⟩
 ·
  try simp only [Z0, Z1, Z2, Z3, Z4, Z5, Z6, Z7, Z8, Z9] at h0
  have hc : a.used = d.used ∧ a.worn = d.worn ∧ a.bad = d.bad ∧ a.pages.xs.length = d.pages.xs.length := ⟨h0.1.1.1, h0.1.1.2, by simpa using h0.1.2, by omega⟩
  refine cw_skip ?_
  refine ex_then ?_
  refine cw_seq ?_
  refine cw_seq ?_
  refine cw_region ?_
  refine sq_r (ry_assign rfl) ?_
  refine sq_nil ?_
  refine ex_then ?_
  refine cw_block ?_
  refine cw_loop (X := Nat) (fun zz => [(5, .int .i64 (zz : Nat)), (2, .pointer (some ⟨b2, 0, none⟩)), (3, .pointer (some ⟨b3, 0, none⟩))]) (fun zz => [blk b3 (bkcells d) 48, blk b2 (bkcells a) 48]) (fun zz => zz ≤ a.pages.xs.length ∧ ∀ j, j < zz → (bv a).pages[j]? = (bv d).pages[j]?) (fun zz => a.pages.xs.length - zz) 0 ⟨Nat.zero_le _, fun j hj => by first | omega | (simp only []; omega)⟩ (Sub.cons rfl (Sub.cons rfl (Sub.cons rfl (Sub.nil _)))) (fun w hw => Keep.mem hw) ?_
  rintro i ⟨hi1, hi2⟩
  refine cw_seq ?_
  refine cw_seq ?_
  refine cw_region ?_
  refine sq_r (ry_move rfl) ?_
  refine sq_r (ry_field (o' := 0) rfl rfl) ?_
  refine sq_r (ry_cellc rfl) ?_
  refine sq_r (ry_lenH rfl) ?_
  refine sq_r (ry_int rfl rfl rfl) ?_
  refine sq_nil ?_
  refine ex_then ?_
  refine cw_cond rfl (fun h1 => ?_) (fun h1 => ?_)
  ·
   try simp only [Z0, Z1, Z2, Z3, Z4, Z5, Z6, Z7, Z8, Z9] at h1
   obtain ⟨x, hx⟩ := get_some (xs := a.pages.xs) (i := i) (by omega)
   obtain ⟨y, hy⟩ := get_some (xs := d.pages.xs) (i := i) (by omega)
   have mbx : Mb x a.pages := ⟨List.mem_of_getElem? hx⟩
   have mby : Mb y d.pages := ⟨List.mem_of_getElem? hy⟩
   refine cw_skip ?_
   refine ex_then ?_
   refine cw_seq ?_
   refine cw_block ?_
   refine cw_seq ?_
   refine cw_quiet (by kernel_rfl) (by kernel_rfl) ?_
   refine qt_r (ry_field (o' := 0) rfl rfl) ?_
   refine qt_r (ry_cellc rfl) ?_
   refine qt_r (ry_move rfl) ?_
   refine qt_r (ry_idxH rfl rfl i rfl (by omega)) ?_
   refine qt_r (ry_elemcH (j := 0) rfl i hx rfl (by decide)) ?_
   have mb45 : Mb x _ := ⟨List.mem_of_getElem? hx⟩
   refine qt_r (ry_bstrH Tryz.underlying38 Tryz.underlying5 Tryz.underlying9 rfl) ?_
   refine qt_r (ry_field (o' := 0) rfl rfl) ?_
   refine qt_r (ry_cellc rfl) ?_
   refine qt_r (ry_move rfl) ?_
   refine qt_r (ry_idxH rfl rfl i rfl (by omega)) ?_
   refine qt_r (ry_elemcH (j := 0) rfl i hy rfl (by decide)) ?_
   have mb51 : Mb y _ := ⟨List.mem_of_getElem? hy⟩
   refine qt_r (ry_bstrH Tryz.underlying38 Tryz.underlying5 Tryz.underlying9 rfl) ?_
   refine qt_r (ry_strneL rfl rfl) ?_
   refine qt_nil ?_
   refine ex_then ?_
   refine cw_cond rfl (fun h2 => ?_) (fun h2 => ?_)
   ·
    try simp only [Z0, Z1, Z2, Z3, Z4, Z5, Z6, Z7, Z8, Z9] at h2
    have hz : decide (bv a = bv d) = false := decide_eq_false fun e => h2 (by
     have g := congrArg (fun l : List (List UInt8) => l[i]?) (bv_eq.1 e).2.2.2
     simp only [bv, txs_get hx, txs_get hy] at g
     exact Option.some.inj g)
    refine cw_seq ?_
    refine cw_region ?_
    refine sq_r (ry_assign rfl) ?_
    refine sq_nil ?_
    refine ex_then ?_
    refine cw_ret ?_
    refine ex_block_ret ?_
    refine ex_pass_ret ?_
    refine ex_pass_ret ?_
    refine ex_block_ret ?_
    refine ex_pass_ret ?_
    refine ex_ret (.inl rfl) (res_1 rfl (rv_tmp rfl)) (fun w1 hw => ?_)
    exact ⟨congrArg (fun b => Ending.returned (Value.bool b)) (hz.symm), Keep.mem hw⟩
   ·
    try simp only [Z0, Z1, Z2, Z3, Z4, Z5, Z6, Z7, Z8, Z9] at h2
    refine cw_skip ?_
    refine ex_block ?_
    refine ex_then ?_
    refine cw_region ?_
    refine sq_r (ry_move rfl) ?_
    refine sq_r (ry_add rfl rfl (by omega)) ?_
    refine sq_r (ry_assign rfl) ?_
    refine sq_nil ?_
    exact ex_again (x := (i)) (i + 1) ⟨by first | omega | (simp only []; omega), fun j hj => if e : j = i then (by subst e; rw [show (bv a).pages = txs a.pages.xs from rfl, show (bv d).pages = txs d.pages.xs from rfl, txs_get hx, txs_get hy, h2]) else hi2 j (by first | omega | (simp only []; omega))⟩ (by first | omega | (simp only []; omega)) (Sub.cons rfl (Sub.cons rfl (Sub.cons rfl (Sub.nil _)))) (fun w hw => Keep.mem hw)
  ·
   try simp only [Z0, Z1, Z2, Z3, Z4, Z5, Z6, Z7, Z8, Z9] at h1
   obtain rfl : i = a.pages.xs.length := by omega
   have hz : decide (bv a = bv d) = true := decide_eq_true (bv_eq.2 ⟨hc.1, hc.2.1, hc.2.2.1, list_eqI (by simp only [bv, txs_length]; exact hc.2.2.2) fun j hj => hi2 j (by simpa only [bv, txs_length] using hj)⟩)
   refine cw_exit ?_
   refine ex_pass_exit ?_
   refine ex_pass_exit ?_
   refine ex_block_hit ?_
   refine ex_then ?_
   refine cw_seq ?_
   refine cw_region ?_
   refine sq_r (ry_assign rfl) ?_
   refine sq_nil ?_
   refine ex_then ?_
   refine cw_ret ?_
   refine ex_ret (.inl rfl) (res_1 rfl (rv_tmp rfl)) (fun w1 hw => ?_)
   exact ⟨congrArg (fun b => Ending.returned (Value.bool b)) (hz.symm), Keep.mem hw⟩
instance rblocks_i {w0 : World} {L : List Ent} {a : Bk} {d : Bk} [ha : HdD w0 L a] [hd : HdD w0 L d] : FnQ Tryz.prog 38 w0 L [.agg (bkcells a), .agg (bkcells d)] (.bool (decide (bv a = bv d))) (True) := ⟨fun hp w hw => rblocks_c w a d (ha.h w hw) (hd.h w hw)⟩
theorem partFB (d : Nat) : PartT Tryz.prog (d + 1) 4 false [1] := ⟨⟨_, Tryz.underlying4, rfl⟩, by kernel_rfl, fun _ => rfl, eqF_bool Tryz.underlying4⟩
theorem stoodF : Tryz.prog.stoodInHeld 94 = false := by kernel_rfl
theorem partF (d : Nat) : PartT Tryz.prog (d + 1 + 1 + 1 + 1 + 1) 94 true ([0] ++ ([1] ++ ([1] ++ ([0] ++ [])))) := ⟨⟨_, Tryz.underlying94, rfl⟩, by kernel_rfl, (fun h => by cases h),
 eqF_struct Tryz.underlying94 stoodF ⟨by decide, rfl, _, _, _, rfl, part3 _, by decide, rfl, _, _, _, rfl, partFB _, by decide, rfl, _, _, _, rfl, partFB _, by decide, rfl, _, _, _, rfl, part5 _, rfl⟩⟩
theorem guardF : Tryz.prog.eqGuardType Tryz.prog.depth 94 = false := by kernel_rfl
theorem ftcells_inj {a b : Ft} : ftcells a = ftcells b ↔ a = b := by
 constructor
 ·
  intro h
  obtain ⟨a1, a2, a3, a4⟩ := a
  obtain ⟨b1, b2, b3, b4⟩ := b
  simp only [ftcells, Array.mk.injEq, List.cons.injEq, Value.int.injEq, Value.bool.injEq, true_and, and_true] at h
  obtain ⟨h1, h2, h3, h4⟩ := h
  have h4' : a4 = b4 := UInt8.toNat_inj.1 (by omega)
  subst h1 h2 h3 h4'; rfl
 ·
  rintro rfl; rfl
instance (a b : Ft) : EqV Tryz.prog 94 (.agg (ftcells a)) (.agg (ftcells b)) (decide (a = b)) :=
 (partF 9995).eq.val rfl guardF rfl rfl (fun i k hk => by
  have hi : i < 4 := (List.getElem?_eq_some_iff.1 hk).1
  match i, hi with
  | 0, _ => obtain rfl : 0 = k := Option.some.inj hk; exact ⟨_, _, rfl, rfl, rfl⟩
  | 1, _ => obtain rfl : 1 = k := Option.some.inj hk; exact ⟨_, _, rfl, rfl, trivial⟩
  | 2, _ => obtain rfl : 1 = k := Option.some.inj hk; exact ⟨_, _, rfl, rfl, trivial⟩
  | 3, _ => obtain rfl : 0 = k := Option.some.inj hk; exact ⟨_, _, rfl, rfl, rfl⟩) (by rw [decide_eq_true_iff]; exact ftcells_inj)
theorem rsame6_c (w : World) (a : Cp) (d : Cp) (ha : Deep.good (hp w) a) (hd : Deep.good (hp w) d) : Calls Tryz.prog 47 #[.agg (cpcells a), .agg (cpcells d)] w fun e w' => e = .returned (.bool (decide (cv a = cv d))) ∧ Mem w [] w' := by
 have gha : GvD w a := ⟨ha⟩
 have ghd : GvD w d := ⟨hd⟩
 have hbd := ha.1.1.bd
 have hbf := ha.2.1.bd
 have hla := bvs_length a.blocks.xs
 have hld := bvs_length d.blocks.xs
 refine calls_of (args := [_, _]) Tryz.func47 rfl Tryz.ntmps47 rfl ?_
 change Cw _ _ _ _ _ [(0, .agg (cpcells a)), (1, .agg (cpcells d))] []
 refine cw_seq ?_
 refine cw_region ?_
 refine sq_boxA rfl fun b2 => ?_
 refine sq_boxA rfl fun b3 => ?_
 refine sq_r (ry_assign rfl) ?_
 refine sq_nil ?_
 refine ex_then ?_
 refine cw_seq ?_
 refine cw_seq ?_
 refine cw_region ?_
 refine sq_r (ry_field (o' := 0) rfl rfl) ?_
 refine sq_r (ry_cellc rfl) ?_
 refine sq_r (ry_field (o' := 0) rfl rfl) ?_
 refine sq_r (ry_cellc rfl) ?_
 refine sq_r (ry_int rfl rfl rfl) ?_
 refine sq_r (ry_move rfl) ?_
 refine sq_gf rfl rfl rfl (fun hg => (Ry.yl (ry_field (o' := 1) rfl rfl))) ?_
 refine sq_gf rfl rfl rfl (fun hg => (Ry.yl (ry_cellc (ev_c hg rfl)))) ?_
 refine sq_gf rfl rfl rfl (fun hg => (Ry.yl (ry_field (o' := 1) rfl rfl))) ?_
 refine sq_gf rfl rfl rfl (fun hg => (Ry.yl (ry_cellc (ev_c hg rfl)))) ?_
 refine sq_gf rfl rfl rfl (fun hg => (Ry.yl (ry_int (ev_c hg rfl) (ev_c hg rfl) rfl))) ?_
 refine sq_r (ry_or rfl rfl rfl) ?_
 refine sq_r (ry_move rfl) ?_
 refine sq_gf rfl rfl rfl (fun hg => (Ry.yl (ry_field (o' := 3) rfl rfl))) ?_
 refine sq_gf rfl rfl rfl (fun hg => (Ry.yl (ry_cellc (ev_c hg rfl)))) ?_
 refine sq_gf rfl rfl rfl (fun hg => (Ry.yl (ry_field (o' := 3) rfl rfl))) ?_
 refine sq_gf rfl rfl rfl (fun hg => (Ry.yl (ry_cellc (ev_c hg rfl)))) ?_
 refine sq_gf rfl rfl rfl (fun hg => (Ry.yl (ry_int (ev_c hg rfl) (ev_c hg rfl) rfl))) ?_
 refine sq_r (ry_or rfl rfl rfl) ?_
 refine sq_r (ry_move rfl) ?_
 refine sq_gf rfl rfl rfl (fun hg => (Ry.yl (ry_field (o' := 4) rfl rfl))) ?_
 refine sq_gf rfl rfl rfl (fun hg => (Ry.yl (ry_cellc (ev_c hg rfl)))) ?_
 refine sq_gf rfl rfl rfl (fun hg => (Ry.yl (ry_field (o' := 4) rfl rfl))) ?_
 refine sq_gf rfl rfl rfl (fun hg => (Ry.yl (ry_cellc (ev_c hg rfl)))) ?_
 refine sq_gf rfl rfl rfl (fun hg => (Ry.yl (ry_neb (ev_c hg rfl) (ev_c hg rfl) Tryz.underlying4))) ?_
 refine sq_r (ry_or rfl rfl rfl) ?_
 refine sq_r (ry_move rfl) ?_
 refine sq_gf rfl rfl rfl (fun hg => (Ry.yl (ry_field (o' := 2) rfl rfl))) ?_
 refine sq_gf rfl rfl rfl (fun hg => (Ry.yl (ry_cellc (ev_c hg rfl)))) ?_
 refine sq_gf rfl rfl rfl (fun hg => (Ry.yl (ry_lenH (ev_c hg rfl)))) ?_
 refine sq_gf rfl rfl rfl (fun hg => (Ry.yl (ry_field (o' := 2) rfl rfl))) ?_
 refine sq_gf rfl rfl rfl (fun hg => (Ry.yl (ry_cellc (ev_c hg rfl)))) ?_
 refine sq_gf rfl rfl rfl (fun hg => (Ry.yl (ry_lenH (ev_c hg rfl)))) ?_
 refine sq_gf rfl rfl rfl (fun hg => (Ry.yl (ry_int (ev_c hg rfl) (ev_c hg rfl) rfl))) ?_
 refine sq_r (ry_or rfl rfl rfl) ?_
 refine sq_r (ry_move rfl) ?_
 refine sq_gf rfl rfl rfl (fun hg => (Ry.yl (ry_field (o' := 5) rfl rfl))) ?_
 refine sq_gf rfl rfl rfl (fun hg => (Ry.yl (ry_cellc (ev_c hg rfl)))) ?_
 refine sq_gf rfl rfl rfl (fun hg => (Ry.yl (ry_lenH (ev_c hg rfl)))) ?_
 refine sq_gf rfl rfl rfl (fun hg => (Ry.yl (ry_field (o' := 5) rfl rfl))) ?_
 refine sq_gf rfl rfl rfl (fun hg => (Ry.yl (ry_cellc (ev_c hg rfl)))) ?_
 refine sq_gf rfl rfl rfl (fun hg => (Ry.yl (ry_lenH (ev_c hg rfl)))) ?_
 refine sq_gf rfl rfl rfl (fun hg => (Ry.yl (ry_int (ev_c hg rfl) (ev_c hg rfl) rfl))) ?_
 refine sq_r (ry_or rfl rfl rfl) ?_
 refine sq_nil ?_
 refine ex_then ?_
 refine cw_cond rfl (fun h0 => ?_) (fun h0 => ?_)
 ·
  try simp only [Z0, Z1, Z2, Z3, Z4, Z5, Z6, Z7, Z8, Z9] at h0
  have hz : decide (cv a = cv d) = false := decide_eq_false fun e => by
   obtain ⟨g1, g2, g3, g4, g5, g6⟩ := cv_eq.1 e
   have g7 := congrArg List.length g5
   have g8 := congrArg List.length g6
   simp only [cv, bvs_length] at g1 g2 g3 g4 g7 g8
   rcases h0 with ((((h | h) | h) | h) | h) | h
   ·
    exact h g1
   ·
    exact h g2
   ·
    exact h g3
   ·
    rw [g4] at h; simp at h
   ·
    omega
   ·
    omega
  refine cw_seq ?_
  refine cw_region ?_
  refine sq_r (ry_assign rfl) ?_
  refine sq_nil ?_
  refine ex_then ?_
  refine cw_ret ?_
  refine ex_pass_ret ?_
  refine ex_ret (.inl rfl) (res_1 rfl (rv_tmp rfl)) (fun w1 hw => ?_)
  exact ⟨congrArg (fun b => Ending.returned (Value.bool b)) (hz.symm), Keep.mem hw⟩
 ·
  try simp only [Z0, Z1, Z2, Z3, Z4, Z5, Z6, Z7, Z8, Z9] at h0
  have hc : a.pages = d.pages ∧ a.size = d.size ∧ a.ops = d.ops ∧ a.off = d.off ∧ a.blocks.xs.length = d.blocks.xs.length ∧ a.faults.xs.length = d.faults.xs.length := ⟨h0.1.1.1.1.1, h0.1.1.1.1.2, h0.1.1.1.2, by simpa using h0.1.1.2, by omega, by omega⟩
  refine cw_skip ?_
  refine ex_then ?_
  refine cw_seq ?_
  refine cw_seq ?_
  refine cw_region ?_
  refine sq_r (ry_assign rfl) ?_
  refine sq_nil ?_
  refine ex_then ?_
  refine cw_block ?_
  refine cw_loop (X := Nat) (fun zz => [(5, .int .i64 (zz : Nat)), (2, .pointer (some ⟨b2, 0, none⟩)), (3, .pointer (some ⟨b3, 0, none⟩))]) (fun zz => [blk b3 (cpcells d) 25, blk b2 (cpcells a) 25]) (fun zz => zz ≤ a.faults.xs.length ∧ ∀ j, j < zz → a.faults.xs[j]? = d.faults.xs[j]?) (fun zz => a.faults.xs.length - zz) 0 ⟨Nat.zero_le _, fun j hj => by first | omega | (simp only []; omega)⟩ (Sub.cons rfl (Sub.cons rfl (Sub.cons rfl (Sub.nil _)))) (fun w hw => Keep.mem hw) ?_
  rintro i ⟨hi1, hi2⟩
  refine cw_seq ?_
  refine cw_seq ?_
  refine cw_region ?_
  refine sq_r (ry_move rfl) ?_
  refine sq_r (ry_field (o' := 5) rfl rfl) ?_
  refine sq_r (ry_cellc rfl) ?_
  refine sq_r (ry_lenH rfl) ?_
  refine sq_r (ry_int rfl rfl rfl) ?_
  refine sq_nil ?_
  refine ex_then ?_
  refine cw_cond rfl (fun h1 => ?_) (fun h1 => ?_)
  ·
   try simp only [Z0, Z1, Z2, Z3, Z4, Z5, Z6, Z7, Z8, Z9] at h1
   obtain ⟨x, hx⟩ := get_some (xs := a.faults.xs) (i := i) (by omega)
   obtain ⟨y, hy⟩ := get_some (xs := d.faults.xs) (i := i) (by omega)
   refine cw_skip ?_
   refine ex_then ?_
   refine cw_seq ?_
   refine cw_block ?_
   refine cw_seq ?_
   refine cw_quiet (by kernel_rfl) (by kernel_rfl) ?_
   refine qt_r (ry_field (o' := 5) rfl rfl) ?_
   refine qt_r (ry_cellc rfl) ?_
   refine qt_r (ry_move rfl) ?_
   refine qt_r (ry_idxH rfl rfl i rfl (by omega)) ?_
   refine qt_r (ry_elemH rfl i hx rfl) ?_
   refine qt_r (ry_field (o' := 5) rfl rfl) ?_
   refine qt_r (ry_cellc rfl) ?_
   refine qt_r (ry_move rfl) ?_
   refine qt_r (ry_idxH rfl rfl i rfl (by omega)) ?_
   refine qt_r (ry_elemH rfl i hy rfl) ?_
   refine qt_r (ry_ne rfl rfl) ?_
   refine qt_nil ?_
   refine ex_then ?_
   refine cw_cond rfl (fun h2 => ?_) (fun h2 => ?_)
   ·
    try simp only [Z0, Z1, Z2, Z3, Z4, Z5, Z6, Z7, Z8, Z9] at h2
    have hz : decide (cv a = cv d) = false := decide_eq_false fun e => h2 (by
     have g := congrArg (fun l : List Ft => l[i]?) (cv_eq.1 e).2.2.2.2.2
     simp only [cv, hx, hy] at g
     exact Option.some.inj g)
    refine cw_seq ?_
    refine cw_region ?_
    refine sq_r (ry_assign rfl) ?_
    refine sq_nil ?_
    refine ex_then ?_
    refine cw_ret ?_
    refine ex_block_ret ?_
    refine ex_pass_ret ?_
    refine ex_pass_ret ?_
    refine ex_block_ret ?_
    refine ex_pass_ret ?_
    refine ex_ret (.inl rfl) (res_1 rfl (rv_tmp rfl)) (fun w1 hw => ?_)
    exact ⟨congrArg (fun b => Ending.returned (Value.bool b)) (hz.symm), Keep.mem hw⟩
   ·
    try simp only [Z0, Z1, Z2, Z3, Z4, Z5, Z6, Z7, Z8, Z9] at h2
    refine cw_skip ?_
    refine ex_block ?_
    refine ex_then ?_
    refine cw_region ?_
    refine sq_r (ry_move rfl) ?_
    refine sq_r (ry_add rfl rfl (by omega)) ?_
    refine sq_r (ry_assign rfl) ?_
    refine sq_nil ?_
    exact ex_again (x := (i)) (i + 1) ⟨by first | omega | (simp only []; omega), fun j hj => if e : j = i then (by subst e; rw [hx, hy, h2]) else hi2 j (by first | omega | (simp only []; omega))⟩ (by first | omega | (simp only []; omega)) (Sub.cons rfl (Sub.cons rfl (Sub.cons rfl (Sub.nil _)))) (fun w hw => Keep.mem hw)
  ·
   try simp only [Z0, Z1, Z2, Z3, Z4, Z5, Z6, Z7, Z8, Z9] at h1
   obtain rfl : i = a.faults.xs.length := by omega
   have hfe : a.faults.xs = d.faults.xs := list_eqI hc.2.2.2.2.2 hi2
   refine cw_exit ?_
   refine ex_pass_exit ?_
   refine ex_pass_exit ?_
   refine ex_block_hit ?_
   refine ex_then ?_
   refine cw_seq ?_
   refine cw_seq ?_
   refine cw_region ?_
   refine sq_r (ry_assign rfl) ?_
   refine sq_nil ?_
   refine ex_then ?_
   refine cw_block ?_
   refine cw_loop (X := Nat) (fun zz => [(6, .int .i64 (zz : Nat)), (2, .pointer (some ⟨b2, 0, none⟩)), (3, .pointer (some ⟨b3, 0, none⟩))]) (fun zz => [blk b3 (cpcells d) 25, blk b2 (cpcells a) 25]) (fun zz => zz ≤ a.blocks.xs.length ∧ ∀ k, k < zz → (bvs a.blocks.xs)[k]? = (bvs d.blocks.xs)[k]?) (fun zz => a.blocks.xs.length - zz) 0 ⟨Nat.zero_le _, fun j hj => by first | omega | (simp only []; omega)⟩ (Sub.cons rfl (Sub.cons rfl (Sub.cons rfl (Sub.nil _)))) (fun w hw => Keep.mem hw) ?_
   rintro j ⟨hj1, hj2⟩
   refine cw_seq ?_
   refine cw_seq ?_
   refine cw_region ?_
   refine sq_r (ry_move rfl) ?_
   refine sq_r (ry_field (o' := 2) rfl rfl) ?_
   refine sq_r (ry_cellc rfl) ?_
   refine sq_r (ry_lenH rfl) ?_
   refine sq_r (ry_int rfl rfl rfl) ?_
   refine sq_nil ?_
   refine ex_then ?_
   refine cw_cond rfl (fun h3 => ?_) (fun h3 => ?_)
   ·
    try simp only [Z0, Z1, Z2, Z3, Z4, Z5, Z6, Z7, Z8, Z9] at h3
    obtain ⟨x, hx⟩ := get_some (xs := a.blocks.xs) (i := j) (by omega)
    obtain ⟨y, hy⟩ := get_some (xs := d.blocks.xs) (i := j) (by omega)
    have mbx : Mb x a.blocks := ⟨List.mem_of_getElem? hx⟩
    have mby : Mb y d.blocks := ⟨List.mem_of_getElem? hy⟩
    refine cw_skip ?_
    refine ex_then ?_
    refine cw_seq ?_
    refine cw_block ?_
    refine cw_seq ?_
    refine cw_quiet (by kernel_rfl) (by kernel_rfl) ?_
    refine qt_r (ry_field (o' := 2) rfl rfl) ?_
    refine qt_r (ry_cellc rfl) ?_
    refine qt_r (ry_move rfl) ?_
    refine qt_r (ry_idxH rfl rfl j rfl (by omega)) ?_
    refine qt_r (ry_elemH rfl j hx rfl) ?_
    have mb80 : Mb x a.blocks := ⟨List.mem_of_getElem? hx⟩
    refine qt_r (ry_field (o' := 2) rfl rfl) ?_
    refine qt_r (ry_cellc rfl) ?_
    refine qt_r (ry_move rfl) ?_
    refine qt_r (ry_idxH rfl rfl j rfl (by omega)) ?_
    refine qt_r (ry_elemH rfl j hy rfl) ?_
    have mb85 : Mb y d.blocks := ⟨List.mem_of_getElem? hy⟩
    refine qt_y (yl_callC rfl trivial) ?_
    refine qt_r (ry_not rfl) ?_
    refine qt_nil ?_
    refine ex_then ?_
    refine cw_cond rfl (fun h4 => ?_) (fun h4 => ?_)
    ·
     try simp only [Z0, Z1, Z2, Z3, Z4, Z5, Z6, Z7, Z8, Z9] at h4
     have hz : decide (cv a = cv d) = false := decide_eq_false fun e => absurd (show bv x = bv y by
      have g := congrArg (fun l : List BV => l[j]?) (cv_eq.1 e).2.2.2.2.1
      simp only [cv, bvs_get hx, bvs_get hy] at g
      exact Option.some.inj g) h4
     refine cw_seq ?_
     refine cw_region ?_
     refine sq_r (ry_assign rfl) ?_
     refine sq_nil ?_
     refine ex_then ?_
     refine cw_ret ?_
     refine ex_block_ret ?_
     refine ex_pass_ret ?_
     refine ex_pass_ret ?_
     refine ex_block_ret ?_
     refine ex_pass_ret ?_
     refine ex_ret (.inl rfl) (res_1 rfl (rv_tmp rfl)) (fun w1 hw => ?_)
     exact ⟨congrArg (fun b => Ending.returned (Value.bool b)) (hz.symm), Keep.mem hw⟩
    ·
     try simp only [Z0, Z1, Z2, Z3, Z4, Z5, Z6, Z7, Z8, Z9] at h4
     refine cw_skip ?_
     refine ex_block ?_
     refine ex_then ?_
     refine cw_region ?_
     refine sq_r (ry_move rfl) ?_
     refine sq_r (ry_add rfl rfl (by omega)) ?_
     refine sq_r (ry_assign rfl) ?_
     refine sq_nil ?_
     exact ex_again (x := (j)) (j + 1) ⟨by first | omega | (simp only []; omega), fun k hk => if e : k = j then (by subst e; rw [bvs_get hx, bvs_get hy, h4]) else hj2 k (by first | omega | (simp only []; omega))⟩ (by first | omega | (simp only []; omega)) (Sub.cons rfl (Sub.cons rfl (Sub.cons rfl (Sub.nil _)))) (fun w hw => Keep.mem hw)
   ·
    try simp only [Z0, Z1, Z2, Z3, Z4, Z5, Z6, Z7, Z8, Z9] at h3
    obtain rfl : j = a.blocks.xs.length := by omega
    have hz : decide (cv a = cv d) = true := decide_eq_true (cv_eq.2 ⟨hc.1, hc.2.1, hc.2.2.1, hc.2.2.2.1, list_eqI (by simp only [cv, bvs_length]; exact hc.2.2.2.2.1) fun k hk => hj2 k (by simpa only [cv, bvs_length] using hk), hfe⟩)
    refine cw_exit ?_
    refine ex_pass_exit ?_
    refine ex_pass_exit ?_
    refine ex_block_hit ?_
    refine ex_then ?_
    refine cw_seq ?_
    refine cw_region ?_
    refine sq_r (ry_assign rfl) ?_
    refine sq_nil ?_
    refine ex_then ?_
    refine cw_ret ?_
    refine ex_ret (.inl rfl) (res_1 rfl (rv_tmp rfl)) (fun w1 hw => ?_)
    exact ⟨congrArg (fun b => Ending.returned (Value.bool b)) (hz.symm), Keep.mem hw⟩
instance rsame6_i {w0 : World} {L : List Ent} {a : Cp} {d : Cp} [ha : HdD w0 L a] [hd : HdD w0 L d] : FnQ Tryz.prog 47 w0 L [.agg (cpcells a), .agg (cpcells d)] (.bool (decide (cv a = cv d))) (True) := ⟨fun hp w hw => rsame6_c w a d (ha.h w hw) (hd.h w hw)⟩
theorem rshort_c (w : World) (c : Cp) (hc : Deep.good (hp w) c) : Calls Tryz.prog 11 #[.agg (cpcells c)] w fun e w' => e = .returned (.bool (shortF (cv c))) ∧ Mem w [] w' := by
 have ghc : GvD w c := ⟨hc⟩
 have hbl := bvs_length c.blocks.xs
 have hno : ∀ {i : Nat} {x : Bk}, c.blocks.xs[i]? = Option.some x → ¬ (x.pages.xs.length ≤ 20 ∧ ∀ p ∈ txs x.pages.xs, p.length ≤ 300) → shortF (cv c) = false := fun {i x} hx hn => by
  cases hk : shortF (cv c) with
  | false => rfl
  | true =>
   have g := (shortF_iff.1 hk).2.2 (bv x) (List.mem_of_getElem? (bvs_get hx))
   simp only [bv, txs_length] at g
   exact absurd g hn
 refine calls_of (args := [_]) Tryz.func11 rfl Tryz.ntmps11 rfl ?_
 change Cw _ _ _ _ _ [(0, .agg (cpcells c))] []
 refine cw_seq ?_
 refine cw_region ?_
 refine sq_boxA rfl fun b1 => ?_
 refine sq_r (ry_assign rfl) ?_
 refine sq_nil ?_
 refine ex_then ?_
 refine cw_seq ?_
 refine cw_seq ?_
 refine cw_region ?_
 refine sq_r (ry_field (o' := 2) rfl rfl) ?_
 refine sq_r (ry_cellc rfl) ?_
 refine sq_r (ry_lenH rfl) ?_
 refine sq_r (ry_int rfl rfl rfl) ?_
 refine sq_r (ry_move rfl) ?_
 refine sq_gf rfl rfl rfl (fun hg => (Ry.yl (ry_field (o' := 5) rfl rfl))) ?_
 refine sq_gf rfl rfl rfl (fun hg => (Ry.yl (ry_cellc (ev_c hg rfl)))) ?_
 refine sq_gf rfl rfl rfl (fun hg => (Ry.yl (ry_lenH (ev_c hg rfl)))) ?_
 refine sq_gf rfl rfl rfl (fun hg => (Ry.yl (ry_int (ev_c hg rfl) rfl rfl))) ?_
 refine sq_r (ry_or rfl rfl rfl) ?_
 refine sq_nil ?_
 refine ex_then ?_
 refine cw_cond rfl (fun h0 => ?_) (fun h0 => ?_)
 ·
  try simp only [Z0, Z1, Z2, Z3, Z4, Z5, Z6, Z7, Z8, Z9] at h0
  have hz : shortF (cv c) = false := by
   cases hk : shortF (cv c) with
   | false => rfl
   | true =>
    have g := shortF_iff.1 hk
    simp only [cv, bvs_length] at g
    omega
  refine cw_seq ?_
  refine cw_region ?_
  refine sq_r (ry_assign rfl) ?_
  refine sq_nil ?_
  refine ex_then ?_
  refine cw_ret ?_
  refine ex_pass_ret ?_
  refine ex_ret (.inl rfl) (res_1 rfl (rv_tmp rfl)) (fun w1 hw => ?_)
  exact ⟨congrArg (fun b => Ending.returned (Value.bool b)) (hz.symm), Keep.mem hw⟩
 ·
  try simp only [Z0, Z1, Z2, Z3, Z4, Z5, Z6, Z7, Z8, Z9] at h0
  refine cw_skip ?_
  refine ex_then ?_
  refine cw_seq ?_
  refine cw_seq ?_
  refine cw_region ?_
  refine sq_r (ry_assign rfl) ?_
  refine sq_nil ?_
  refine ex_then ?_
  refine cw_block ?_
  refine cw_loop (X := Nat) (fun zz => [(3, .int .i64 (zz : Nat)), (1, .pointer (some ⟨b1, 0, none⟩))]) (fun zz => [blk b1 (cpcells c) 25]) (fun zz => zz ≤ c.blocks.xs.length ∧ ∀ j b, j < zz → (bvs c.blocks.xs)[j]? = Option.some b → b.pages.length ≤ 20 ∧ ∀ p ∈ b.pages, p.length ≤ 300) (fun zz => c.blocks.xs.length - zz) 0 ⟨Nat.zero_le _, fun j b hj => by first | omega | (simp only []; omega)⟩ (Sub.cons rfl (Sub.cons rfl (Sub.nil _))) (fun w hw => Keep.mem hw) ?_
  rintro i ⟨hi1, hi2⟩
  refine cw_seq ?_
  refine cw_seq ?_
  refine cw_region ?_
  refine sq_r (ry_move rfl) ?_
  refine sq_r (ry_field (o' := 2) rfl rfl) ?_
  refine sq_r (ry_cellc rfl) ?_
  refine sq_r (ry_lenH rfl) ?_
  refine sq_r (ry_int rfl rfl rfl) ?_
  refine sq_nil ?_
  refine ex_then ?_
  refine cw_cond rfl (fun h1 => ?_) (fun h1 => ?_)
  ·
   try simp only [Z0, Z1, Z2, Z3, Z4, Z5, Z6, Z7, Z8, Z9] at h1
   obtain ⟨x, hx⟩ := get_some (xs := c.blocks.xs) (i := i) (by omega)
   have mbx : Mb x c.blocks := ⟨List.mem_of_getElem? hx⟩
   refine cw_skip ?_
   refine ex_then ?_
   refine cw_seq ?_
   refine cw_block ?_
   refine cw_seq ?_
   refine cw_seq ?_
   refine cw_region ?_
   refine sq_r (ry_field (o' := 2) rfl rfl) ?_
   refine sq_r (ry_cellc rfl) ?_
   refine sq_r (ry_move rfl) ?_
   refine sq_r (ry_idxH rfl rfl i rfl (by omega)) ?_
   refine sq_r (ry_field rfl rfl) ?_
   refine sq_r (ry_elemcH (j := 0) rfl i hx rfl (by decide)) ?_
   have mb27 : Mb x _ := ⟨List.mem_of_getElem? hx⟩
   refine sq_r (ry_lenH rfl) ?_
   refine sq_r (ry_int rfl rfl rfl) ?_
   refine sq_nil ?_
   refine ex_then ?_
   refine cw_cond rfl (fun h2 => ?_) (fun h2 => ?_)
   ·
    try simp only [Z0, Z1, Z2, Z3, Z4, Z5, Z6, Z7, Z8, Z9] at h2
    have hz : shortF (cv c) = false := hno hx (fun g => by omega)
    refine cw_seq ?_
    refine cw_region ?_
    refine sq_r (ry_assign rfl) ?_
    refine sq_nil ?_
    refine ex_then ?_
    refine cw_ret ?_
    refine ex_pass_ret ?_
    refine ex_block_ret ?_
    refine ex_pass_ret ?_
    refine ex_pass_ret ?_
    refine ex_block_ret ?_
    refine ex_pass_ret ?_
    refine ex_ret (.inl rfl) (res_1 rfl (rv_tmp rfl)) (fun w1 hw => ?_)
    exact ⟨congrArg (fun b => Ending.returned (Value.bool b)) (hz.symm), Keep.mem hw⟩
   ·
    try simp only [Z0, Z1, Z2, Z3, Z4, Z5, Z6, Z7, Z8, Z9] at h2
    refine cw_skip ?_
    refine ex_then ?_
    refine cw_seq ?_
    refine cw_region ?_
    refine sq_r (ry_assign rfl) ?_
    refine sq_nil ?_
    refine ex_then ?_
    refine cw_block ?_
    refine cw_loop (X := Nat) (fun zz => [(4, .int .i64 (zz : Nat)), (1, .pointer (some ⟨b1, 0, none⟩)), (3, .int .i64 (i : Nat))]) (fun zz => [blk b1 (cpcells c) 25]) (fun zz => zz ≤ x.pages.xs.length ∧ ∀ k y, k < zz → (bv x).pages[k]? = Option.some y → y.length ≤ 300) (fun zz => x.pages.xs.length - zz) 0 ⟨Nat.zero_le _, fun k y hk => by first | omega | (simp only []; omega)⟩ (Sub.cons rfl (Sub.cons rfl (Sub.cons rfl (Sub.nil _)))) (fun w hw => Keep.mem hw) ?_
    rintro j ⟨hj1, hj2⟩
    refine cw_seq ?_
    refine cw_seq ?_
    refine cw_region ?_
    refine sq_r (ry_move rfl) ?_
    refine sq_r (ry_field (o' := 2) rfl rfl) ?_
    refine sq_r (ry_cellc rfl) ?_
    refine sq_r (ry_move rfl) ?_
    refine sq_r (ry_idxH rfl rfl i rfl (by omega)) ?_
    refine sq_r (ry_field rfl rfl) ?_
    refine sq_r (ry_elemcH (j := 0) rfl i hx rfl (by decide)) ?_
    have mb36 : Mb x _ := ⟨List.mem_of_getElem? hx⟩
    refine sq_r (ry_lenH rfl) ?_
    refine sq_r (ry_int rfl rfl rfl) ?_
    refine sq_nil ?_
    refine ex_then ?_
    refine cw_cond rfl (fun h3 => ?_) (fun h3 => ?_)
    ·
     try simp only [Z0, Z1, Z2, Z3, Z4, Z5, Z6, Z7, Z8, Z9] at h3
     obtain ⟨y, hy⟩ := get_some (xs := x.pages.xs) (i := j) (by omega)
     have mby : Mb y x.pages := ⟨List.mem_of_getElem? hy⟩
     refine cw_skip ?_
     refine ex_then ?_
     refine cw_seq ?_
     refine cw_block ?_
     refine cw_seq ?_
     refine cw_region ?_
     refine sq_r (ry_field (o' := 2) rfl rfl) ?_
     refine sq_r (ry_cellc rfl) ?_
     refine sq_r (ry_move rfl) ?_
     refine sq_r (ry_idxH rfl rfl i rfl (by omega)) ?_
     refine sq_r (ry_field rfl rfl) ?_
     refine sq_r (ry_elemcH (j := 0) rfl i hx rfl (by decide)) ?_
     have mb46 : Mb x _ := ⟨List.mem_of_getElem? hx⟩
     refine sq_r (ry_move rfl) ?_
     refine sq_r (ry_idxH rfl rfl j rfl (by omega)) ?_
     refine sq_r (ry_elemcH (j := 0) rfl j hy rfl (by decide)) ?_
     have mb49 : Mb y _ := ⟨List.mem_of_getElem? hy⟩
     refine sq_r (ry_lenH rfl) ?_
     refine sq_r (ry_int rfl rfl rfl) ?_
     refine sq_nil ?_
     refine ex_then ?_
     refine cw_cond rfl (fun h4 => ?_) (fun h4 => ?_)
     ·
      try simp only [Z0, Z1, Z2, Z3, Z4, Z5, Z6, Z7, Z8, Z9] at h4
      have hz : shortF (cv c) = false := hno hx (fun g => by have := g.2 y.xs (List.mem_of_getElem? (txs_get hy)); omega)
      refine cw_seq ?_
      refine cw_region ?_
      refine sq_r (ry_assign rfl) ?_
      refine sq_nil ?_
      refine ex_then ?_
      refine cw_ret ?_
      refine ex_block_ret ?_
      refine ex_pass_ret ?_
      refine ex_pass_ret ?_
      refine ex_block_ret ?_
      refine ex_block_ret ?_
      refine ex_pass_ret ?_
      refine ex_pass_ret ?_
      refine ex_block_ret ?_
      refine ex_pass_ret ?_
      refine ex_ret (.inl rfl) (res_1 rfl (rv_tmp rfl)) (fun w1 hw => ?_)
      exact ⟨congrArg (fun b => Ending.returned (Value.bool b)) (hz.symm), Keep.mem hw⟩
     ·
      try simp only [Z0, Z1, Z2, Z3, Z4, Z5, Z6, Z7, Z8, Z9] at h4
      refine cw_skip ?_
      refine ex_block ?_
      refine ex_then ?_
      refine cw_region ?_
      refine sq_r (ry_move rfl) ?_
      refine sq_r (ry_add rfl rfl (by omega)) ?_
      refine sq_r (ry_assign rfl) ?_
      refine sq_nil ?_
      exact ex_again (x := (j)) (j + 1) ⟨by first | omega | (simp only []; omega), fun k z hk hz => if e : k = j then (by subst e; rw [show (bv x).pages = txs x.pages.xs from rfl, txs_get hy] at hz; cases hz; omega) else hj2 k z (by first | omega | (simp only []; omega)) hz⟩ (by first | omega | (simp only []; omega)) (Sub.cons rfl (Sub.cons rfl (Sub.cons rfl (Sub.nil _)))) (fun w hw => Keep.mem hw)
    ·
     try simp only [Z0, Z1, Z2, Z3, Z4, Z5, Z6, Z7, Z8, Z9] at h3
     have hxo : (bv x).pages.length ≤ 20 ∧ ∀ p ∈ (bv x).pages, p.length ≤ 300 := ⟨by simp only [bv, txs_length]; omega, fun p hp => by
      obtain ⟨k, hk⟩ := List.getElem?_of_mem hp
      exact hj2 k p (by have h := (List.getElem?_eq_some_iff.1 hk).1; simp only [bv, txs_length] at h; omega) hk⟩
     refine cw_exit ?_
     refine ex_pass_exit ?_
     refine ex_pass_exit ?_
     refine ex_block_hit ?_
     refine ex_block ?_
     refine ex_then ?_
     refine cw_region ?_
     refine sq_r (ry_move rfl) ?_
     refine sq_r (ry_add rfl rfl (by omega)) ?_
     refine sq_r (ry_assign rfl) ?_
     refine sq_nil ?_
     exact ex_again (x := (i)) (i + 1) ⟨by first | omega | (simp only []; omega), fun j b hj hb => if e : j = i then (by subst e; rw [bvs_get hx] at hb; cases hb; exact hxo) else hi2 j b (by first | omega | (simp only []; omega)) hb⟩ (by first | omega | (simp only []; omega)) (Sub.cons rfl (Sub.cons rfl (Sub.nil _))) (fun w hw => Keep.mem hw)
  ·
   try simp only [Z0, Z1, Z2, Z3, Z4, Z5, Z6, Z7, Z8, Z9] at h1
   obtain rfl : i = c.blocks.xs.length := by omega
   have hz : shortF (cv c) = true := shortF_iff.2 ⟨by simp only [cv, bvs_length]; omega, by simp only [cv]; omega, fun b hb => by
    obtain ⟨j, hj⟩ := List.getElem?_of_mem hb
    exact hi2 j b (by have h := (List.getElem?_eq_some_iff.1 hj).1; simp only [cv, bvs_length] at h; omega) hj⟩
   refine cw_exit ?_
   refine ex_pass_exit ?_
   refine ex_pass_exit ?_
   refine ex_block_hit ?_
   refine ex_then ?_
   refine cw_seq ?_
   refine cw_region ?_
   refine sq_r (ry_assign rfl) ?_
   refine sq_nil ?_
   refine ex_then ?_
   refine cw_ret ?_
   refine ex_ret (.inl rfl) (res_1 rfl (rv_tmp rfl)) (fun w1 hw => ?_)
   exact ⟨congrArg (fun b => Ending.returned (Value.bool b)) (hz.symm), Keep.mem hw⟩
instance rshort_i {w0 : World} {L : List Ent} {c : Cp} [hc : HdD w0 L c] : FnQ Tryz.prog 11 w0 L [.agg (cpcells c)] (.bool (shortF (cv c))) (True) := ⟨fun hp w hw => rshort_c w c (hc.h w hw)⟩

end Go.Proofs.YtaipiecplldinaaGreat


/- A flash chip's cells: what a program, an erasure, a fuse make of them. Plain law: no program. -/
import Derived.Test.YtfghlfolejpjjaaBt
import Derived.Test.YtfghlfolejpjjaaBtLaws
namespace Go.Proofs.Ytfghlfolejpjjaa.Nr
open Go.RowKit

/-- Words, how often blocks were erased, what they bear, the fuse, its pick, and whether the power is gone. -/
structure C where
  words : List Int
  wear : List Int
  endure : Int
  fuse : Int
  pick : Int
  off : Bool

/-- What every chip that was made keeps. -/
structure C.ok (c : C) : Prop where
  size : c.words.length = 64 * c.wear.length
  some_ : 1 ≤ c.wear.length
  most : c.wear.length ≤ 64
  words_lo : ∀ i : Nat, 0 ≤ c.words.getD i 0
  words_hi : ∀ i : Nat, c.words.getD i 0 < 4294967296
  wear_lo : ∀ i : Nat, 0 ≤ c.wear.getD i 0
  wear_hi : ∀ i : Nat, i < c.wear.length → c.wear.getD i 0 ≤ c.endure
  endure_lo : 0 ≤ c.endure
  endure_hi : c.endure ≤ 9223372036854775807
  fuse_lo : 0 ≤ c.fuse
  fuse_hi : c.fuse ≤ 9223372036854775807
  pick_lo : 0 ≤ c.pick
  pick_hi : c.pick < 4294967296

/-- A new one. -/
def new (n : Nat) (endure : Int) : C := ⟨List.replicate (64 * n) 4294967295, List.replicate n 0, endure, 0, 0, false⟩
/-- One that has words. -/
def of_ (words : List Int) (endure : Int) : C := ⟨words, List.replicate (words.length / 64) 0, endure, 0, 0, false⟩

theorem getD_replicate (n i : Nat) (v d : Int) : (List.replicate n v).getD i d = if i < n then v else d := by
  by_cases h : i < n
  · simp [List.getD, h]
  · simp [List.getD, h]
theorem new_ok {n : Nat} {endure : Int} (h : 1 ≤ n) (h' : n ≤ 64) (e : 0 ≤ endure) (e' : endure ≤ 9223372036854775807) : (new n endure).ok := by
  refine ⟨by simp [new], by simpa [new] using h, by simpa [new] using h', fun i => ?_, fun i => ?_, fun i => ?_, fun i _ => ?_, e, e', ?_, ?_, ?_, ?_⟩
  · simp only [new, getD_replicate]; split <;> decide
  · simp only [new, getD_replicate]; split <;> decide
  · simp only [new, getD_replicate]; split <;> decide
  · simp only [new, getD_replicate]; split <;> exact e
  all_goals simp [new]

/-- A word on its way: wholly there, or, if the fuse burns, in part. -/
def way (burns : Bool) (pick : Int) (i : Nat) (old to : Int) : Int := if burns then Bt.part old to (Bt.turn pick i) else to
theorem way_rng {burns : Bool} {pick old to : Int} {i : Nat} (h : 0 ≤ to) (h' : to < 4294967296) : 0 ≤ way burns pick i old to ∧ way burns pick i old to < 4294967296 := by
  unfold way; split
  · exact Bt.part_rng _ _ _
  · exact ⟨h, h'⟩

/-- Where a change has come to: the words from 'at_' on, so many of them, on their way. -/
def changed (to : Int → Int) (burns : Bool) (pick : Int) (at_ k : Nat) (l : List Int) : List Int := l.mapIdx fun i w => if at_ ≤ i ∧ i < at_ + k then way burns pick (i - at_) w (to w) else w
theorem changed_zero (to : Int → Int) (burns : Bool) (pick : Int) (at_ : Nat) (l : List Int) : changed to burns pick at_ 0 l = l := by
  unfold changed
  apply List.ext_getElem
  · simp
  · intro i h1 h2; simp; omega
theorem length_changed (to : Int → Int) (burns : Bool) (pick : Int) (at_ k : Nat) (l : List Int) : (changed to burns pick at_ k l).length = l.length := by simp [changed]
theorem getD_changed (to : Int → Int) (burns : Bool) (pick : Int) (at_ k : Nat) (l : List Int) (i : Nat) (h : i < l.length) :
    (changed to burns pick at_ k l).getD i 0 = if at_ ≤ i ∧ i < at_ + k then way burns pick (i - at_) (l.getD i 0) (to (l.getD i 0)) else l.getD i 0 := by
  simp [changed, List.getD, h]
theorem getD_set (l : List Int) (i j : Nat) (v : Int) : (l.set i v).getD j 0 = if i = j ∧ i < l.length then v else l.getD j 0 := by
  by_cases h : i = j
  · subst h
    by_cases h2 : i < l.length
    · simp [List.getD, h2]
    · simp [List.getD, h2]
  · simp [List.getD, h]
theorem ext_getD {l m : List Int} (h : l.length = m.length) (g : ∀ i, i < l.length → l.getD i 0 = m.getD i 0) : l = m := by
  apply List.ext_getElem h
  intro i h1 h2
  have := g i h1
  simpa [List.getD, h1, h2] using this
/-- One word more. -/
theorem changed_succ (to : Int → Int) (burns : Bool) (pick : Int) (at_ k : Nat) (l : List Int) (h : at_ + k < l.length) :
    (changed to burns pick at_ k l).set (at_ + k) (way burns pick k (l.getD (at_ + k) 0) (to (l.getD (at_ + k) 0))) = changed to burns pick at_ (k + 1) l := by
  apply ext_getD
  · simp [length_changed]
  · intro i hi
    have hi' : i < l.length := by simpa [length_changed] using hi
    rw [getD_set, getD_changed _ _ _ _ _ _ _ hi', getD_changed _ _ _ _ _ _ _ hi', length_changed]
    by_cases e : at_ + k = i
    · subst e; rw [if_pos ⟨rfl, h⟩, if_pos (by omega)]; congr 1; omega
    · rw [if_neg (by omega)]
      by_cases c : at_ ≤ i ∧ i < at_ + k
      · rw [if_pos c, if_pos (by omega)]
      · rw [if_neg c, if_neg (by omega)]

/-- What is wrong with a place, of so many. -/
def wrong (c : C) (at_ many : Int) : Int := if c.off then 4 else if at_ < 0 ∨ many ≤ at_ then 3 else 0
theorem wrong_zero {c : C} (h : c.ok) {at_ : Int} (e : wrong c at_ ((c.wear.length : Int) * 64) = 0) : ∃ m : Nat, at_ = m ∧ m < c.words.length := by
  unfold wrong at e
  split at e
  · cases e
  · split at e
    · cases e
    · exact ⟨at_.toNat, by omega, by have := h.size; omega⟩
theorem wrong_zero1 {c : C} {at_ : Int} (e : wrong c at_ (c.wear.length : Int) = 0) : ∃ m : Nat, at_ = m ∧ m < c.wear.length := by
  unfold wrong at e
  split at e
  · cases e
  · split at e
    · cases e
    · exact ⟨at_.toNat, by omega, by omega⟩
theorem wrong_on {c : C} {at_ many : Int} (e : wrong c at_ many = 0) : c.off = false := by
  unfold wrong at e
  cases h : c.off
  · rfl
  · rw [h] at e; simp at e
/-- The chip behind a change of so many words. -/
def change (c : C) (at_ many : Nat) (to : Int → Int) : C := { c with words := changed to (decide (c.fuse = 1)) c.pick at_ many c.words, fuse := max (c.fuse - 1) 0, off := decide (c.fuse = 1) }
def ended (c : C) : Int := if c.fuse = 1 then 4 else 0
def program (c : C) (at_ v : Int) : C := change c at_.toNat 1 fun w => bits .and .u32 w v
def erase (c : C) (b : Int) : C := change { c with wear := c.wear.set b.toNat (c.wear.getD b.toNat 0 + 1) } (b.toNat * 64) 64 fun _ => 4294967295

theorem changed_rng {to : Int → Int} {burns : Bool} {pick : Int} {at_ k : Nat} {l : List Int} (hl : ∀ i : Nat, 0 ≤ l.getD i 0 ∧ l.getD i 0 < 4294967296) (ht : ∀ w, 0 ≤ w → w < 4294967296 → 0 ≤ to w ∧ to w < 4294967296) (i : Nat) :
    0 ≤ (changed to burns pick at_ k l).getD i 0 ∧ (changed to burns pick at_ k l).getD i 0 < 4294967296 := by
  by_cases h : i < l.length
  · rw [getD_changed _ _ _ _ _ _ _ h]
    split
    · have := ht _ (hl i).1 (hl i).2
      exact way_rng this.1 this.2
    · exact hl i
  · have : (changed to burns pick at_ k l).getD i 0 = 0 := by
      simp [List.getD, changed, h]
    rw [this]; decide
theorem change_ok {c : C} (h : c.ok) (at_ many : Nat) {to : Int → Int} (ht : ∀ w, 0 ≤ w → w < 4294967296 → 0 ≤ to w ∧ to w < 4294967296) : (change c at_ many to).ok := by
  have r := fun i => changed_rng (burns := decide (c.fuse = 1)) (pick := c.pick) (at_ := at_) (k := many) (fun i => ⟨h.words_lo i, h.words_hi i⟩) ht i
  have f1 := h.fuse_lo
  have f2 := h.fuse_hi
  exact ⟨by simpa [change, length_changed] using h.size, h.some_, h.most, fun i => (r i).1, fun i => (r i).2, h.wear_lo, h.wear_hi, h.endure_lo, h.endure_hi, by simp only [change]; omega, by simp only [change]; omega, h.pick_lo, h.pick_hi⟩
theorem and_word {v : Int} (hv : 0 ≤ v) (hv' : v < 4294967296) (w : Int) (hw : 0 ≤ w) (hw' : w < 4294967296) : 0 ≤ bits .and .u32 w v ∧ bits .and .u32 w v < 4294967296 := Bt.rng_and hw hw' hv hv'
theorem program_ok {c : C} (h : c.ok) (at_ : Int) {v : Int} (hv : 0 ≤ v) (hv' : v < 4294967296) : (program c at_ v).ok := change_ok h _ _ (and_word hv hv')
theorem erase_ok {c : C} (h : c.ok) {b : Int} (hb : c.wear.getD b.toNat 0 < c.endure) : (erase c b).ok := by
  refine change_ok (c := { c with wear := c.wear.set b.toNat (c.wear.getD b.toNat 0 + 1) }) ⟨by simpa using h.size, by simpa using h.some_, by simpa using h.most, h.words_lo, h.words_hi, fun i => ?_, fun i hi => ?_, h.endure_lo, h.endure_hi, h.fuse_lo, h.fuse_hi, h.pick_lo, h.pick_hi⟩ _ _ fun w _ _ => by decide
  · simp only [getD_set]; have := h.wear_lo b.toNat; have := h.wear_lo i; split <;> omega
  · simp only [getD_set]; simp at hi; have := h.wear_hi i hi; split <;> omega
def fuse (c : C) (n pick : Int) : C := { c with fuse := max n 0, pick := pick }
theorem fuse_ok {c : C} (h : c.ok) {n pick : Int} (hn : n ≤ 9223372036854775807) (hp : 0 ≤ pick) (hp' : pick < 4294967296) : (fuse c n pick).ok :=
  ⟨h.size, h.some_, h.most, h.words_lo, h.words_hi, h.wear_lo, h.wear_hi, h.endure_lo, h.endure_hi, by simp only [fuse]; omega, by simp only [fuse]; omega, hp, hp'⟩
def cut (c : C) : C := { c with off := true }
theorem cut_ok {c : C} (h : c.ok) : (cut c).ok := ⟨h.size, h.some_, h.most, h.words_lo, h.words_hi, h.wear_lo, h.wear_hi, h.endure_lo, h.endure_hi, h.fuse_lo, h.fuse_hi, h.pick_lo, h.pick_hi⟩
def on (c : C) : C := { c with off := false, fuse := 0 }
theorem on_ok {c : C} (h : c.ok) : (on c).ok := ⟨h.size, h.some_, h.most, h.words_lo, h.words_hi, h.wear_lo, h.wear_hi, h.endure_lo, h.endure_hi, by simp [on], by simp [on], h.pick_lo, h.pick_hi⟩
theorem on_ok1 {c : C} (h : c.ok) : ({ c with fuse := 0 } : C).ok := ⟨h.size, h.some_, h.most, h.words_lo, h.words_hi, h.wear_lo, h.wear_hi, h.endure_lo, h.endure_hi, by simp, by simp, h.pick_lo, h.pick_hi⟩
/-- Where a change has come to. -/
def mid (c : C) (at_ k : Nat) (to : Int → Int) : C := { c with words := changed to (decide (c.fuse = 1)) c.pick at_ k c.words, fuse := max (c.fuse - 1) 0 }
theorem mid_ok {c : C} (h : c.ok) (at_ k : Nat) {to : Int → Int} (ht : ∀ w, 0 ≤ w → w < 4294967296 → 0 ≤ to w ∧ to w < 4294967296) : (mid c at_ k to).ok := by
  have o := change_ok h at_ k ht
  exact ⟨o.size, o.some_, o.most, o.words_lo, o.words_hi, o.wear_lo, o.wear_hi, o.endure_lo, o.endure_hi, o.fuse_lo, o.fuse_hi, o.pick_lo, o.pick_hi⟩
theorem mid_zero (c : C) (at_ : Nat) (to : Int → Int) : mid c at_ 0 to = { c with fuse := max (c.fuse - 1) 0 } := by simp [mid, changed_zero]
theorem mid_len (c : C) (at_ k : Nat) (to : Int → Int) : (mid c at_ k to).words.length = c.words.length := length_changed _ _ _ _ _ _
theorem mid_getD (c : C) (at_ k : Nat) (to : Int → Int) (h : at_ + k < c.words.length) : (mid c at_ k to).words.getD (at_ + k) 0 = c.words.getD (at_ + k) 0 := by
  simp only [mid]; rw [getD_changed _ _ _ _ _ _ _ h, if_neg (by omega)]
theorem mid_succ (c : C) (at_ k : Nat) (to : Int → Int) (h : at_ + k < c.words.length) (v : Int) (hv : v = way (decide (c.fuse = 1)) c.pick k (c.words.getD (at_ + k) 0) (to (c.words.getD (at_ + k) 0))) :
    ({ mid c at_ k to with words := (mid c at_ k to).words.set (at_ + k) v } : C) = mid c at_ (k + 1) to := by
  subst hv; simp only [mid]; rw [changed_succ _ _ _ _ _ _ h]
theorem mid_on (c : C) (at_ k : Nat) (to : Int → Int) (h : c.off = false) (hf : ¬ c.fuse = 1) : mid c at_ k to = change c at_ k to := by simp [mid, change, h, hf]
theorem mid_off (c : C) (at_ k : Nat) (to : Int → Int) (hf : c.fuse = 1) : ({ mid c at_ k to with off := true } : C) = change c at_ k to := by simp [mid, change, hf]
/-- What the calls that change answer, and leave. -/
def programs (c : C) (at_ v : Int) : Int × C := if wrong c at_ ((c.wear.length : Int) * 64) = 0 then (ended c, program c at_ v) else (wrong c at_ ((c.wear.length : Int) * 64), c)
def erases (c : C) (b : Int) : Int × C := if wrong c b (c.wear.length : Int) = 0 then if c.wear.getD b.toNat 0 < c.endure then (ended c, erase c b) else (5, c) else (wrong c b (c.wear.length : Int), c)
theorem erase_ok1 {c : C} (h : c.ok) {m : Nat} (hb : c.wear.getD m 0 < c.endure) : ({ c with wear := c.wear.set m (c.wear.getD m 0 + 1) } : C).ok := by
  refine ⟨by simpa using h.size, by simpa using h.some_, by simpa using h.most, h.words_lo, h.words_hi, fun i => ?_, fun i hi => ?_, h.endure_lo, h.endure_hi, h.fuse_lo, h.fuse_hi, h.pick_lo, h.pick_hi⟩
  · simp only [getD_set]; have := h.wear_lo m; have := h.wear_lo i; split <;> omega
  · simp only [getD_set]; simp at hi; have := h.wear_hi i hi; split <;> omega
end Go.Proofs.Ytfghlfolejpjjaa.Nr

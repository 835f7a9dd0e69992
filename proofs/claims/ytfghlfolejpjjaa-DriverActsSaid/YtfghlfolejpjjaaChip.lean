/- A chip in memory: its struct, its words and its wear, and what becomes of it by each store. -/
import Derived.Test.YtfghlfolejpjjaaNr
import Derived.Test.YtfghlfolejpjjaaBits
import Derived.Test.YtfghlfolejpjjaaProg
namespace Go.Proofs.Ytfghlfolejpjjaa
open Go.RowKit

/-- Only these blocks, and what is new, have turned. -/
structure Keep (S : Nat → Prop) (w w' : World) : Prop where
  os : w'.os = w.os
  tape : w'.tape = w.tape
  output : w'.output = w.output
  size : w.heap.size ≤ w'.heap.size
  block : ∀ k, k < w.heap.size → ¬ S k → w'.heap[k]? = w.heap[k]?

theorem Keep.refl (S : Nat → Prop) (w : World) : Keep S w w := ⟨rfl, rfl, rfl, Nat.le_refl _, fun _ _ _ => rfl⟩
theorem Keep.trans {S : Nat → Prop} {a b c : World} (h : Keep S a b) (k : Keep S b c) : Keep S a c :=
  ⟨k.os.trans h.os, k.tape.trans h.tape, k.output.trans h.output, Nat.le_trans h.size k.size, fun i hi hn => (k.block i (Nat.lt_of_lt_of_le hi h.size) hn).trans (h.block i hi hn)⟩
theorem Keep.mono {S T : Nat → Prop} {w w' : World} (h : Keep S w w') (hs : ∀ k, k < w.heap.size → S k → T k) : Keep T w w' := ⟨h.os, h.tape, h.output, h.size, fun k hk hn => h.block k hk fun s => hn (hs k hk s)⟩
theorem Keep.drewN {S : Nat → Prop} {a w : World} (h : Keep S a w) (n : Nat) : Keep S a (w.drewN n) := ⟨h.os, h.tape, h.output, h.size, h.block⟩
theorem Keep.drew {S : Nat → Prop} {a w : World} (h : Keep S a w) : Keep S a w.drew := ⟨h.os, h.tape, h.output, h.size, h.block⟩
theorem Keep.alloc {S : Nat → Prop} {a w : World} (h : Keep S a w) (o : Obj) : Keep S a (w.alloc o) :=
  h.trans ⟨rfl, rfl, rfl, by simp, fun k hk _ => Below.heap_alloc _ _ _ hk⟩
theorem Keep.setCell {S : Nat → Prop} {a w : World} (h : Keep S a w) {p : Addr} (hp : S p.block ∨ a.heap.size ≤ p.block) (u : Value) : Keep S a (w.setCell p u) :=
  ⟨h.os, h.tape, h.output, by simpa [World.setCell] using h.size, fun i hi hne => (Below.heap_setCell w p u i (by
    rintro rfl
    rcases hp with hp | hp
    · exact hne hp
    · omega)).trans (h.block i hi hne)⟩
theorem Keep.grown {S : Nat → Prop} {a w w' : World} {row : Option Nat} (h : Keep S a w) (hg : w.grownBy w' row) (hr : ∀ k, row = some k → S k ∨ a.heap.size ≤ k) : Keep S a w' :=
  ⟨hg.os.trans h.os, hg.tape.trans h.tape, hg.output.trans h.output, Nat.le_trans h.size hg.size, fun i hi hne => (hg.block i (Nat.lt_of_lt_of_le hi h.size) (fun e => by
    rcases hr i e.symm with r | r
    · exact hne r
    · omega)).trans (h.block i hi hne)⟩
theorem Keep.below {S : Nat → Prop} {a w w' : World} (h : Keep S a w) (hb : Below w.heap.size w w') : Keep S a w' :=
  ⟨hb.os.trans h.os, hb.tape.trans h.tape, hb.output.trans h.output, Nat.le_trans h.size hb.size, fun i hi hne => (hb.block i (Nat.lt_of_lt_of_le hi h.size)).trans (h.block i hi hne)⟩
/-- Where only new blocks may turn, nothing that was there has. -/
theorem Keep.to_below {S : Nat → Prop} {w w' : World} (h : Keep S w w') (hs : ∀ k, k < w.heap.size → ¬ S k) : Below w.heap.size w w' := ⟨h.os, h.tape, h.output, h.size, fun k hk => h.block k hk (hs k hk)⟩

/-- The chip at block g, its words at block bw, its wear at block be. -/
structure Chip (w : World) (g bw be : Nat) (c : Nr.C) : Prop where
  ok : c.ok
  ne1 : g ≠ bw
  ne2 : g ≠ be
  ne3 : bw ≠ be
  head : ∃ kw ke, w.heap[g]? = some (.cells #[.slice (some ⟨bw, 0, none⟩) c.words.length kw, .slice (some ⟨be, 0, none⟩) c.wear.length ke, .int .i64 c.endure, .int .i64 c.fuse, .int .u32 c.pick, .bool c.off] 80 (0, 0)) ∧ c.words.length ≤ kw ∧ c.wear.length ≤ ke
  words : ∃ cur, w.heap[bw]? = some (.cells cur 34 (0, 0)) ∧ ∀ i, i < c.words.length → cur[i]? = some (.int .u32 (c.words.getD i 0))
  wear : ∃ cur, w.heap[be]? = some (.cells cur 3 (0, 0)) ∧ ∀ i, i < c.wear.length → cur[i]? = some (.int .i64 (c.wear.getD i 0))

section
variable {w : World} {g bw be : Nat} {c : Nr.C}
theorem Chip.lt (h : Chip w g bw be c) : g < w.heap.size ∧ bw < w.heap.size ∧ be < w.heap.size := by
  obtain ⟨kw, ke, e1, _⟩ := h.head
  obtain ⟨_, e2, _⟩ := h.words
  obtain ⟨_, e3, _⟩ := h.wear
  refine ⟨?_, ?_, ?_⟩
  · exact (Array.getElem?_eq_some_iff.1 e1).1
  · exact (Array.getElem?_eq_some_iff.1 e2).1
  · exact (Array.getElem?_eq_some_iff.1 e3).1
theorem Chip.keep {w' : World} {S : Nat → Prop} (h : Chip w g bw be c) (hk : Keep S w w') (h1 : ¬ S g) (h2 : ¬ S bw) (h3 : ¬ S be) : Chip w' g bw be c := by
  obtain ⟨l1, l2, l3⟩ := h.lt
  exact ⟨h.ok, h.ne1, h.ne2, h.ne3, by rw [hk.block g l1 h1]; exact h.head, by rw [hk.block bw l2 h2]; exact h.words, by rw [hk.block be l3 h3]; exact h.wear⟩
theorem Chip.below {w' : World} (h : Chip w g bw be c) (hb : Below w.heap.size w w') : Chip w' g bw be c :=
  h.keep (S := fun _ => False) ⟨hb.os, hb.tape, hb.output, hb.size, fun k hk _ => hb.block k hk⟩ id id id
theorem Chip.drewN (h : Chip w g bw be c) (n : Nat) : Chip (w.drewN n) g bw be c := ⟨h.ok, h.ne1, h.ne2, h.ne3, h.head, h.words, h.wear⟩

/-- What the walk reads of the struct. -/
theorem Chip.cells (h : Chip w g bw be c) : ∃ kw ke, c.words.length ≤ kw ∧ c.wear.length ≤ ke ∧ w.cell? ⟨g, 0, none⟩ = some (.slice (some ⟨bw, 0, none⟩) c.words.length kw) ∧ w.cell? ⟨g, 1, none⟩ = some (.slice (some ⟨be, 0, none⟩) c.wear.length ke) ∧
    w.cell? ⟨g, 2, none⟩ = some (.int .i64 c.endure) ∧ w.cell? ⟨g, 3, none⟩ = some (.int .i64 c.fuse) ∧ w.cell? ⟨g, 4, none⟩ = some (.int .u32 c.pick) ∧ w.cell? ⟨g, 5, none⟩ = some (.bool c.off) := by
  obtain ⟨kw, ke, e1, l1, l2⟩ := h.head
  refine ⟨kw, ke, l1, l2, ?_⟩
  simp only [World.cell?, e1]
  exact ⟨rfl, rfl, rfl, rfl, rfl, rfl⟩
theorem Chip.free (h : Chip w g bw be c) (i : Nat) : w.frozen? ⟨g, i, none⟩ = false := by
  obtain ⟨kw, ke, e1, l1, l2⟩ := h.head
  simp only [World.frozen?, e1]; simp
theorem Chip.word (h : Chip w g bw be c) {i : Nat} (hi : i < c.words.length) : w.cell? ⟨bw, i, none⟩ = some (.int .u32 (c.words.getD i 0)) := by
  obtain ⟨cur, e, hc⟩ := h.words
  simp only [World.cell?, e]; exact hc i hi
theorem Chip.wordFree (h : Chip w g bw be c) (i : Nat) : w.frozen? ⟨bw, i, none⟩ = false := by
  obtain ⟨cur, e, hc⟩ := h.words
  simp only [World.frozen?, e]; simp
theorem Chip.worn (h : Chip w g bw be c) {i : Nat} (hi : i < c.wear.length) : w.cell? ⟨be, i, none⟩ = some (.int .i64 (c.wear.getD i 0)) := by
  obtain ⟨cur, e, hc⟩ := h.wear
  simp only [World.cell?, e]; exact hc i hi
theorem Chip.wornFree (h : Chip w g bw be c) (i : Nat) : w.frozen? ⟨be, i, none⟩ = false := by
  obtain ⟨cur, e, hc⟩ := h.wear
  simp only [World.frozen?, e]; simp

theorem heap_set {a : Nat} {cs : Array Value} {t : TypeId} (h : w.heap[a]? = some (.cells cs t (0, 0))) (j : Nat) (u : Value) : (w.setCell ⟨a, j, none⟩ u).heap[a]? = some (.cells (cs.setIfInBounds j u) t (0, 0)) := by
  simp only [World.setCell, Array.getElem?_modify, if_true, h, Option.map_some]
  rfl
/-- A store into the struct. -/
theorem Chip.set {c' : Nr.C} (h : Chip w g bw be c) (j : Nat) (u : Value) (hok : c'.ok) (hw : c'.words = c.words) (he : c'.wear = c.wear)
    (hc : ∀ kw ke, (#[.slice (some ⟨bw, 0, none⟩) c.words.length kw, .slice (some ⟨be, 0, none⟩) c.wear.length ke, .int .i64 c.endure, .int .i64 c.fuse, .int .u32 c.pick, .bool c.off] : Array Value).setIfInBounds j u =
      #[.slice (some ⟨bw, 0, none⟩) c.words.length kw, .slice (some ⟨be, 0, none⟩) c.wear.length ke, .int .i64 c'.endure, .int .i64 c'.fuse, .int .u32 c'.pick, .bool c'.off]) : Chip (w.setCell ⟨g, j, none⟩ u) g bw be c' := by
  obtain ⟨kw, ke, e1, l1, l2⟩ := h.head
  refine ⟨hok, h.ne1, h.ne2, h.ne3, ⟨kw, ke, ?_, by rw [hw]; exact l1, by rw [he]; exact l2⟩, ?_, ?_⟩
  · rw [heap_set e1, hc kw ke, hw, he]
  · rw [Below.heap_setCell _ _ _ _ h.ne1.symm, hw]; exact h.words
  · rw [Below.heap_setCell _ _ _ _ h.ne2.symm, he]; exact h.wear
/-- A store into the words. -/
theorem Chip.setWord (h : Chip w g bw be c) {i : Nat} {v : Int} (_hi : i < c.words.length) (hok : ({ c with words := c.words.set i v } : Nr.C).ok) : Chip (w.setCell ⟨bw, i, none⟩ (.int .u32 v)) g bw be { c with words := c.words.set i v } := by
  obtain ⟨kw, ke, e1, l1, l2⟩ := h.head
  obtain ⟨cur, e2, hc⟩ := h.words
  refine ⟨hok, h.ne1, h.ne2, h.ne3, ⟨kw, ke, ?_, by simpa using l1, l2⟩, ⟨_, heap_set e2 i _, fun j hj => ?_⟩, ?_⟩
  · rw [Below.heap_setCell _ _ _ _ h.ne1, e1]; simp
  · rw [Nr.getD_set]
    have hj' : j < c.words.length := by simpa using hj
    have := hc j hj'
    by_cases e : i = j
    · subst e
      have lt : i < cur.size := (Array.getElem?_eq_some_iff.1 this).1
      rw [if_pos ⟨rfl, hj'⟩]; simp [lt]
    · rw [if_neg (by omega), Array.getElem?_setIfInBounds_ne e]; exact this
  · rw [Below.heap_setCell _ _ _ _ h.ne3.symm]; exact h.wear
/-- A store into the wear. -/
theorem Chip.setWear (h : Chip w g bw be c) {i : Nat} {v : Int} (_hi : i < c.wear.length) (hok : ({ c with wear := c.wear.set i v } : Nr.C).ok) : Chip (w.setCell ⟨be, i, none⟩ (.int .i64 v)) g bw be { c with wear := c.wear.set i v } := by
  obtain ⟨kw, ke, e1, l1, l2⟩ := h.head
  obtain ⟨cur, e2, hc⟩ := h.wear
  refine ⟨hok, h.ne1, h.ne2, h.ne3, ⟨kw, ke, ?_, l1, by simpa using l2⟩, ?_, ⟨_, heap_set e2 i _, fun j hj => ?_⟩⟩
  · rw [Below.heap_setCell _ _ _ _ h.ne2, e1]; simp
  · rw [Below.heap_setCell _ _ _ _ h.ne3]; exact h.words
  · rw [Nr.getD_set]
    have hj' : j < c.wear.length := by simpa using hj
    have := hc j hj'
    by_cases e : i = j
    · subst e
      have lt : i < cur.size := (Array.getElem?_eq_some_iff.1 this).1
      rw [if_pos ⟨rfl, hj'⟩]; simp [lt]
    · rw [if_neg (by omega), Array.getElem?_setIfInBounds_ne e]; exact this
end
end Go.Proofs.Ytfghlfolejpjjaa

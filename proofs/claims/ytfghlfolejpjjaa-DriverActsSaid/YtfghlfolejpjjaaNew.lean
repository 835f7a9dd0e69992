/- Contracts of package nor: New, Words. -/
import Derived.Test.YtfghlfolejpjjaaOf
namespace Go.Proofs.Ytfghlfolejpjjaa
open Go.RowKit
set_option linter.unusedVariables false
attribute [local go_sem] max2_int min2_int max_two min_two
namespace Nor
theorem new_eq (n : Nat) (endure : Int) : Nr.of_ (List.replicate (64 * n) 4294967295) endure = Nr.new n endure := by
  simp only [Nr.of_, Nr.new, List.length_replicate, show 64 * n / 64 = n by omega]

set_option maxHeartbeats 4000000 in
theorem new_c {w : World} {n : Nat} {endure : Int} (h1 : 1 ≤ n) (h2 : n ≤ 64) (he : 0 ≤ endure) (he2 : endure ≤ 9223372036854775807) :
    Calls Try.prog 46 #[.int .i64 n, .int .i64 endure] w fun e w' => ∃ g bw be, e = .returned (.pointer (some ⟨g, 0, none⟩)) ∧
      Chip w' g bw be (Nr.new n endure) ∧ w.heap.size ≤ g ∧ w.heap.size ≤ bw ∧ w.heap.size ≤ be ∧ Below w.heap.size w w' := by
  have HE := Lib.hid he2
  clear he2
  have b0 := (Below.refl _ w).alloc (Nat.le_refl _) (.cells #[.int .u32 4294967295] 34)
  have hx := World.cell?_alloc_mark w #[.int .u32 4294967295] 34 (0, 0) 0
  have hrep := Sl.repeat_c (w := w.alloc (.cells #[.int .u32 4294967295] 34)) (b := w.heap.size) (off := 0) (c := 1) (N := 64 * n) (v := 4294967295) (by omega) (by omega) hx
  rw [show ((64 * n : Nat) : Int) = (n : Int) * 64 by omega] at hrep
  have h64 : ((64 * n : Nat) : Int) = 64 * (n : Int) := by omega
  go_enter Try.func46, Try.ntmps46
  go_wp2_with (go_at_call 61; refine hrep.mono ?_; rintro e w1 ⟨a, rfl, p1, p2, p3⟩)
  have P2 := p2
  have hof := of_c (w := w1) (b := a) (off := 0) (kap := 64 * n) (zs := List.replicate (64 * n) 4294967295) h1 h2 List.length_replicate he (fun i => by rw [Nr.getD_replicate]; split <;> decide) HE.out (fun j hj => by rw [Nat.zero_add]; exact P2.cell hj)
  rw [List.length_replicate] at hof
  go_wp2_with (go_at_call 60; refine hof.mono ?_; rintro e w2 ⟨g, bw, be, rfl, q1, q2, q3, q4, q5⟩)
  go_ret
  have s1 := b0.size
  have e1 : (w.alloc (.cells #[.int .u32 4294967295] 34)).heap.size = w.heap.size + 1 := by simp
  have s2 := p3.size
  rw [new_eq] at q1
  have b1 : Below w.heap.size w w1 := b0.trans ⟨p3.os, p3.tape, p3.output, p3.size, fun k hk => p3.block k (by omega)⟩
  exact ⟨g, bw, be, rfl, q1, by omega, by omega, by omega, b1.trans ⟨q5.os, q5.tape, q5.output, q5.size, fun k hk => q5.block k (by omega)⟩⟩

theorem words_c {w : World} {g bw be : Nat} {c : Nr.C} (h : Chip w g bw be c) : Calls Try.prog 15 #[.pointer (some ⟨g, 0, none⟩)] w fun e w' => ∃ a kap, e = .returned (.slice (some ⟨a, 0, none⟩) c.words.length kap) ∧ c.words.length ≤ kap ∧ w.heap.size ≤ a ∧ Row w' a c.words ∧ Below w.heap.size w w' := by
  obtain ⟨kw, ke, l1, l2, c0, c1, c2, c3, c4, c5⟩ := h.cells
  have s1 : (1 : Int) ≤ (c.wear.length : Int) := by have := h.ok.some_; omega
  have s3 : ((c.wear.length : Int) == 0) = false := by rw [beq_eq_false_iff_ne]; omega
  have hcl := Sl.clone_c (w := w) (b := bw) (off := 0) (c := kw) (zs := c.words) (by have := h.ok.size; have := h.ok.most; omega) (fun j hj => by rw [Nat.zero_add]; exact h.word hj)
  go_enter Try.func15, Try.ntmps15
  go_wp2_with (first | (go_at_call 41; refine (blocks_c h).mono ?_; rintro e w' ⟨rfl, rfl⟩) | (go_at_call 42; refine hcl.mono ?_; rintro e w1 ⟨a, ka, rfl, p1, p2, p3, p4⟩))
  go_ret
  exact ⟨a, ka, rfl, p1, p2, p3, p4⟩
end Nor
end Go.Proofs.Ytfghlfolejpjjaa

/- The reference's chip: Fuse, On. -/
import Derived.Test.YtmaakjabjpppkaaRnor4
namespace Go.Proofs.Ytmaakjabjpppkaa
open Go.RowKit
set_option linter.unusedVariables false
attribute [local go_sem] max2_int min2_int max_two min_two
namespace Rnor
theorem on_c {w : World} {bw kw be ke : Nat} {c : Nr.C} :
    Calls Try.prog 37 #[rv bw kw be ke c] w fun e w' => e = .returned (rv bw kw be ke (Nr.on c)) ∧ Below w.heap.size w w' := by
  unfold rv
  simp only [Nr.on]
  go_enter Try.func37, Try.ntmps37
  go_wp2
  refine bodyPost_ret (retC rfl _ _ (w.heap.size + 1) _ rfl (heap_alloc2_new _ _ _) rfl) rfl ⟨rfl, al2 _ _ _⟩
theorem fuse_c {w : World} {bw kw be ke : Nat} {c c' : Nr.C} (h : c.ok) {n p : Int} (q : Hid (Nr.fuse c n p = c')) :
    Calls Try.prog 36 #[rv bw kw be ke c, .int .i64 n, .int .u32 p] w fun e w' => e = .returned (rv bw kw be ke c') ∧ Below w.heap.size w w' := by
  have s1 : (0 : Int) < (c.words.length : Int) := by have := h.some_; have := h.size; omega
  obtain ⟨f, q1⟩ : ∃ f, max n 0 = f := ⟨_, rfl⟩
  have hc' : c' = { c with fuse := f, pick := p } := by rw [← q.out, ← q1]; rfl
  subst hc'
  unfold rv
  simp only []
  by_cases hn : n < 0
  · obtain rfl : f = 0 := by omega
    clear q1
    go_enter Try.func36, Try.ntmps36
    go_wp2
    refine bodyPost_ret (retC rfl _ _ (w.heap.size + 1) _ rfl (heap_alloc2_new _ _ _) rfl) rfl ⟨rfl, al2 _ _ _⟩
  · obtain rfl : f = n := by omega
    clear q1
    go_enter Try.func36, Try.ntmps36
    go_wp2
    refine bodyPost_ret (retC rfl _ _ (w.heap.size + 1) _ rfl (heap_alloc2_new _ _ _) rfl) rfl ⟨rfl, al2 _ _ _⟩
end Rnor
end Go.Proofs.Ytmaakjabjpppkaa

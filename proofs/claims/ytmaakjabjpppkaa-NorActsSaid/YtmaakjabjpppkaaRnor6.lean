/- The reference's chip: Read. -/
import Derived.Test.YtmaakjabjpppkaaRnor5
namespace Go.Proofs.Ytmaakjabjpppkaa
open Go.RowKit
set_option linter.unusedVariables false
attribute [local go_sem] max2_int min2_int max_two min_two
namespace Rnor
theorem read_bad {w : World} {bw kw be ke : Nat} {c : Nr.C} (h : RAt w bw kw be ke c) (at_ : Int) {n : Int} (q : Hid (Nr.wrong c at_ (c.words.length : Int) = n)) (hn : (n == 0) = false) :
    Calls Try.prog 35 #[rv bw kw be ke c, .int .i64 at_] w fun e w' => e = .returned (.tuple #[.int .u32 0, .int .i64 n]) ∧ Below w.heap.size w w' := by
  have hW := fun W : World => wrong_e (w := W) (bw := bw) (kw := kw) (be := be) (ke := ke) h.ok q
  have hn2 : (n != 0) = true := by simpa using hn
  unfold rv at *
  go_enter Try.func35, Try.ntmps35
  go_wp2_with (go_at_call 42; refine (hW _).mono ?_; rintro e w1 ⟨rfl, b1⟩; clear hW; obtain ⟨e0, B⟩ := alloc1_then b1; clear b1; obtain ⟨x0, x1, x2, x3, x4, x5, xf⟩ := cells6 e0; clear e0)
  go_ret2
  exact ⟨rfl, B⟩
theorem read_good {w : World} {bw kw be ke m : Nat} {c : Nr.C} (h : RAt w bw kw be ke c) (hm : m < c.words.length) {x : Int} (hx : Hid (c.words.getD m 0 = x)) (q : Hid (Nr.wrong c (m : Int) (c.words.length : Int) = 0)) :
    Calls Try.prog 35 #[rv bw kw be ke c, .int .i64 m] w fun e w' => e = .returned (.tuple #[.int .u32 x, .int .i64 0]) ∧ Below w.heap.size w w' := by
  have hW := fun W : World => wrong_e (w := W) (bw := bw) (kw := kw) (be := be) (ke := ke) h.ok q
  have cw : w.cell? ⟨bw, m, none⟩ = some (.int .u32 x) := by rw [← hx.out]; exact h.words.cell hm
  have CW := Lib.hid cw
  clear cw
  unfold rv at *
  go_enter Try.func35, Try.ntmps35
  go_wp2_with (go_at_call 42; refine (hW _).mono ?_; rintro e w1 ⟨rfl, b1⟩; clear hW; obtain ⟨e0, B⟩ := alloc1_then b1; clear b1; obtain ⟨x0, x1, x2, x3, x4, x5, xf⟩ := cells6 e0; clear e0; have cw := Sl.below_cell B CW.out)
  go_ret2
  exact ⟨rfl, B⟩
end Rnor
end Go.Proofs.Ytmaakjabjpppkaa

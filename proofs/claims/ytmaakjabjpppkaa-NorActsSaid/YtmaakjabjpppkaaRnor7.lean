/- The reference's chip: Erase that changes nothing. -/
import Derived.Test.YtmaakjabjpppkaaRnor6
namespace Go.Proofs.Ytmaakjabjpppkaa
open Go.RowKit
set_option linter.unusedVariables false
attribute [local go_sem] max2_int min2_int max_two min_two
namespace Rnor
theorem drewN_below {B : Nat} {w0 w : World} (h : Below B w0 w) (n : Nat) : Below B w0 (w.drewN n) := ⟨h.os, h.tape, h.output, h.size, h.block⟩
theorem drewN_heap {w : World} {n r : Nat} {o : Option Obj} (h : w.heap[r]? = o) : (w.drewN n).heap[r]? = o := h
set_option maxHeartbeats 1000000 in
set_option maxRecDepth 100000 in
theorem erase_bad {w : World} {bw kw be ke : Nat} {c : Nr.C} (h : RAt w bw kw be ke c) (b : Int) {n : Int} (q : Hid (Nr.wrong c b (c.wear.length : Int) = n)) (hn : (n == 0) = false) :
    Calls Try.prog 34 #[rv bw kw be ke c, .int .i64 b] w fun e w' => e = .returned (.tuple #[rv bw kw be ke c, .int .i64 n]) ∧ Below w.heap.size w w' := by
  have hW := fun W : World => wrong_e (w := W) (bw := bw) (kw := kw) (be := be) (ke := ke) h.ok q
  have hn2 : (n != 0) = true := by simpa using hn
  unfold rv at *
  go_enter Try.func34, Try.ntmps34
  go_wp2_with (go_at_call 42; refine (hW _).mono ?_; rintro e w1 ⟨rfl, b1⟩; clear hW; obtain ⟨e0, e1, B⟩ := alloc2_then b1; clear b1; have E1 := Lib.hid e1; obtain ⟨x0, x1, x2, x3, x4, x5, xf⟩ := cells6 e0; obtain ⟨y0, y1, y2, y3, y4, y5, yf⟩ := cells6 e1; clear e0 e1)
  refine bodyPost_ret (retC2 rfl _ _ (w.heap.size + 1) _ _ rfl rfl (put6 E1.out _ _ _ _ _ _) rfl) rfl ⟨rfl, put6_below B (by omega) _ _ _ _ _ _⟩
set_option maxHeartbeats 1000000 in
set_option maxRecDepth 100000 in
theorem erase_worn {w : World} {bw kw be ke m : Nat} {c : Nr.C} (h : RAt w bw kw be ke c) (hm : m < c.wear.length) (q : Hid (Nr.wrong c (m : Int) (c.wear.length : Int) = 0)) (hx : c.endure ≤ c.wear.getD m 0) :
    Calls Try.prog 34 #[rv bw kw be ke c, .int .i64 m] w fun e w' => e = .returned (.tuple #[rv bw kw be ke c, .int .i64 5]) ∧ Below w.heap.size w w' := by
  have hW := fun W : World => wrong_e (w := W) (bw := bw) (kw := kw) (be := be) (ke := ke) h.ok q
  have CW := Lib.hid (h.wear.cell hm)
  have hm1 : (m : Int) < (c.wear.length : Int) := by omega
  generalize c.wear.getD m 0 = x at CW hx
  unfold rv at *
  go_enter Try.func34, Try.ntmps34
  go_wp2_with (go_at_call 42; refine (hW _).mono ?_; rintro e w1 ⟨rfl, b1⟩; clear hW; obtain ⟨e0, e1, B⟩ := alloc2_then b1; clear b1; have E1 := Lib.hid e1; obtain ⟨x0, x1, x2, x3, x4, x5, xf⟩ := cells6 e0; obtain ⟨y0, y1, y2, y3, y4, y5, yf⟩ := cells6 e1; clear e0 e1; have cw := Sl.below_cell B CW.out)
  go_quiet (fail)
  go_wp2
  refine bodyPost_ret (retC2 rfl _ _ (w.heap.size + 1) _ _ rfl rfl (put6 (w := w1.drewN nq) (drewN_heap E1.out) _ _ _ _ _ _) rfl) rfl ⟨rfl, put6_below (drewN_below B nq) (by omega) _ _ _ _ _ _⟩
end Rnor
end Go.Proofs.Ytmaakjabjpppkaa

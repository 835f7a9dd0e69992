/- CfiNobody: a flash that no call made answers ErrNil; there is none of a chip without blocks. No condition. -/
import Derived.Test.YtcpcnkmhhmccdaaLive3
import Derived.Test.YtcpcnkmhhmccdaaArgs
namespace Go.Proofs.Ytcpcnkmhhmccdaa
open Go.RowKit
set_option linter.unusedVariables false
attribute [local go_sem] max2_int min2_int max_two min_two
namespace L03Nobody
set_option maxHeartbeats 4000000 in
set_option maxRecDepth 100000 in
theorem CfiNobody_c (a0 : Int) (a1 : Int) (w : World) (w0 : (Lit.int .i64 a0).wf = true) (w1 : (Lit.int .u32 a1).wf = true) :
    Calls Try.prog 4 #[.int .i64 a0, .int .u32 a1] w fun e w' => e = .returned (.bool true) ∧ Below w.heap.size w w' := by
  clear w0 w1
  go_enter Try.func4, Try.ntmps4
  go_wp2_with (first | (go_at_call 10; refine (Cfi.alive_c _).mono ?_; rintro e w1 ⟨rfl, b1⟩))
  have q0 : ((w1.alloc (.cells #[.pointer none, .int .i64 0, .nilFunc, .int .u32 0, .map none, .pointer none] 40)).alloc (.cells #[.pointer none, .pointer (some ⟨w1.heap.size, 0, none⟩)] 26)).cell? ⟨w1.heap.size + 1, 0, none⟩ = some (.pointer none) := by
    simp
  have q1 : ((w1.alloc (.cells #[.pointer none, .int .i64 0, .nilFunc, .int .u32 0, .map none, .pointer none] 40)).alloc (.cells #[.pointer none, .pointer (some ⟨w1.heap.size, 0, none⟩)] 26)).cell? ⟨w1.heap.size + 1, 1, none⟩ = some (.pointer (some ⟨w1.heap.size, 0, none⟩)) := by
    simp
  have D0 : Cfi.DeadF (w1.alloc (.cells #[.pointer none, .int .i64 0, .nilFunc, .int .u32 0, .map none, .pointer none] 40)) (some ⟨w1.heap.size, 0, none⟩) := .inr ⟨_, rfl, heap_alloc_new _ _⟩
  have b2 := (Below.refl _ (w1.alloc (.cells #[.pointer none, .int .i64 0, .nilFunc, .int .u32 0, .map none, .pointer none] 40))).alloc (Nat.le_refl _) (.cells #[.pointer none, .pointer (some ⟨w1.heap.size, 0, none⟩)] 26)
  have D1 := D0.below b2
  have b3 := Below.then b1 (((Below.refl _ w1).alloc (Nat.le_refl _) (.cells #[.pointer none, .int .i64 0, .nilFunc, .int .u32 0, .map none, .pointer none] 40)).trans ⟨b2.os, b2.tape, b2.output, b2.size, fun k hk => b2.block k (by simp; omega)⟩)
  generalize (w1.alloc (.cells #[.pointer none, .int .i64 0, .nilFunc, .int .u32 0, .map none, .pointer none] 40)).alloc (.cells #[.pointer none, .pointer (some ⟨w1.heap.size, 0, none⟩)] 26) = w2 at *
  clear D0 b2
  generalize w1.heap.size = B at *
  go_loopw [15] (fun i wr => ∃ k : Nat, k ≤ 2 ∧ i = .int .i64 k ∧ Below w2.heap.size w2 wr) (fun i _ => 2 - (intOf i).toNat)
  case atStart => exact ⟨0, by omega, rfl, Below.refl _ _⟩
  case round =>
    obtain ⟨k, hk, rfl, hB⟩ := hrel
    have e0 := Sl.below_cell hB q0
    have e1 := Sl.below_cell hB q1
    rcases (show k = 0 ∨ k = 1 ∨ k = 2 by omega) with rfl | rfl | rfl
    · have hD : Cfi.DeadF wr none := .inl rfl
      go_wp2_with (first | (go_at_call 15; refine (Cfi.reset_d hD).mono ?_; rintro e w3 ⟨rfl, rfl⟩) | (go_at_call 13; refine (Cfi.read_d hD a0).mono ?_; rintro e w3 ⟨rfl, rfl⟩) | (go_at_call 14; refine (Cfi.write_d hD a0 a1).mono ?_; rintro e w3 ⟨rfl, rfl⟩) | (go_at_call 16; refine (Cfi.tick_d hD a0).mono ?_; rintro e w4 ⟨rfl, rfl⟩) | (go_at_call 17; refine (Cfi.status_d hD).mono ?_; rintro e w4 ⟨rfl, rfl⟩))
      go_roundw
      case rel => exact ⟨1, by omega, by go_num, hB⟩
      case measure => simp [intOf]
    · have hD := D1.below hB
      go_wp2_with (first | (go_at_call 15; refine (Cfi.reset_d hD).mono ?_; rintro e w3 ⟨rfl, rfl⟩) | (go_at_call 13; refine (Cfi.read_d hD a0).mono ?_; rintro e w3 ⟨rfl, rfl⟩) | (go_at_call 14; refine (Cfi.write_d hD a0 a1).mono ?_; rintro e w3 ⟨rfl, rfl⟩) | (go_at_call 16; refine (Cfi.tick_d hD a0).mono ?_; rintro e w4 ⟨rfl, rfl⟩) | (go_at_call 17; refine (Cfi.status_d hD).mono ?_; rintro e w4 ⟨rfl, rfl⟩))
      go_roundw
      case rel => exact ⟨2, by omega, by go_num, hB⟩
      case measure => simp [intOf]
    · have b4 := Below.then b3 hB
      have b5 := b4.alloc b4.size (.cells #[.slice none 0 0, .slice none 0 0, .int .i64 0, .int .i64 0, .int .u32 0, .bool false] 48)
      have D5 : Dead (wr.alloc (.cells #[.slice none 0 0, .slice none 0 0, .int .i64 0, .int .i64 0, .int .u32 0, .bool false] 48)) (some ⟨wr.heap.size, 0, none⟩) := .inr ⟨_, rfl, heap_alloc_new _ _⟩
      clear hB e0 e1
      go_wp2_with (first | (go_at_call_of 18 (Value.pointer none); refine (Cfi.new_d (.inl rfl)).mono ?_; rintro e w5 ⟨rfl, rfl⟩) | (go_at_call 18; refine (Cfi.new_d D5).mono ?_; rintro e w6 ⟨rfl, rfl⟩))
      go_ret
      exact ⟨rfl, b5⟩
end L03Nobody
end Go.Proofs.Ytcpcnkmhhmccdaa

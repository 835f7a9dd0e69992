/- DriverNobody: a driver that no call made answers ErrNil; there is none of no flash, or of no blocks. No condition. -/
import Derived.Test.YtfghlfolejpjjaaDrDead
import Derived.Test.YtfghlfolejpjjaaArgs
namespace Go.Proofs.Ytfghlfolejpjjaa
open Go.RowKit
set_option linter.unusedVariables false
attribute [local go_sem] max2_int min2_int max_two min_two
namespace L05Nobody
set_option maxHeartbeats 4000000 in
set_option maxRecDepth 100000 in
theorem DriverNobody_c (a0 : Int) (a1 : Int) (a2 : Int) (w : World) (w0 : (Lit.int .i64 a0).wf = true) (w1 : (Lit.int .i64 a1).wf = true) (w2 : (Lit.int .u32 a2).wf = true) :
    Calls Try.prog 5 #[.int .i64 a0, .int .i64 a1, .int .u32 a2] w fun e w' => e = .returned (.bool true) ∧ Below w.heap.size w w' := by
  clear w0 w1 w2
  go_enter Try.func5, Try.ntmps5
  go_wp2_with (first | (go_at_call 9; refine (Drv.alive_c _).mono ?_; rintro e w1 ⟨rfl, b1⟩))
  have q0 : ((w1.alloc (.cells #[.pointer none, .int .i64 0, .int .i64 0] 42)).alloc (.cells #[.pointer none, .pointer (some ⟨w1.heap.size, 0, none⟩)] 25)).cell? ⟨w1.heap.size + 1, 0, none⟩ = some (.pointer none) := by
    simp
  have q1 : ((w1.alloc (.cells #[.pointer none, .int .i64 0, .int .i64 0] 42)).alloc (.cells #[.pointer none, .pointer (some ⟨w1.heap.size, 0, none⟩)] 25)).cell? ⟨w1.heap.size + 1, 1, none⟩ = some (.pointer (some ⟨w1.heap.size, 0, none⟩)) := by
    simp
  have D0 : Drv.DeadD (w1.alloc (.cells #[.pointer none, .int .i64 0, .int .i64 0] 42)) (some ⟨w1.heap.size, 0, none⟩) := .inr ⟨_, rfl, heap_alloc_new _ _⟩
  have b2 := (Below.refl _ (w1.alloc (.cells #[.pointer none, .int .i64 0, .int .i64 0] 42))).alloc (Nat.le_refl _) (.cells #[.pointer none, .pointer (some ⟨w1.heap.size, 0, none⟩)] 25)
  have D1 := D0.below b2
  have b3 := Below.then b1 (((Below.refl _ w1).alloc (Nat.le_refl _) (.cells #[.pointer none, .int .i64 0, .int .i64 0] 42)).trans ⟨b2.os, b2.tape, b2.output, b2.size, fun k hk => b2.block k (by simp; omega)⟩)
  generalize (w1.alloc (.cells #[.pointer none, .int .i64 0, .int .i64 0] 42)).alloc (.cells #[.pointer none, .pointer (some ⟨w1.heap.size, 0, none⟩)] 25) = w2 at *
  clear D0 b2
  generalize w1.heap.size = B at *
  go_loopw [19] (fun i wr => ∃ k : Nat, k ≤ 2 ∧ i = .int .i64 k ∧ Below w2.heap.size w2 wr) (fun i _ => 2 - (intOf i).toNat)
  case atStart => exact ⟨0, by omega, rfl, Below.refl _ _⟩
  case round =>
    obtain ⟨k, hk, rfl, hB⟩ := hrel
    have e0 := Sl.below_cell hB q0
    have e1 := Sl.below_cell hB q1
    rcases (show k = 0 ∨ k = 1 ∨ k = 2 by omega) with rfl | rfl | rfl
    · have hD : Drv.DeadD wr none := .inl rfl
      go_wp2_with (first | (go_at_call 16; refine (Drv.read_d hD a0 a1).mono ?_; rintro e w3 ⟨rfl, rfl⟩) | (go_at_call 11; refine (Drv.program_d (hD.one _) a0 _).mono ?_; rintro e w4 ⟨rfl, p4⟩; have h4 := (hD.one _).below p4) | (go_at_call 13; refine (Drv.erase_d h4 a0).mono ?_; rintro e w5 ⟨rfl, p5⟩; have h5 := h4.below p5; clear h4) | (go_at_call 18; refine (Drv.lock_d h5 a0).mono ?_; rintro e w6 ⟨rfl, p6⟩; have h6 := h5.below p6; clear h5) | (go_at_call 12; refine (Drv.ticks_d h6).mono ?_; rintro e w4 ⟨rfl, rfl⟩) | (go_at_call 19; refine (Drv.blocks_d h6).mono ?_; rintro e w4 ⟨rfl, rfl⟩))
      go_roundw
      case rel => exact ⟨1, by omega, by go_num, Below.then hB (Below.then (Below.then (Below.then ((Below.refl _ wr).alloc (Nat.le_refl _) _) p4) p5) p6)⟩
      case measure => simp [intOf]
    · have hD := D1.below hB
      go_wp2_with (first | (go_at_call 16; refine (Drv.read_d hD a0 a1).mono ?_; rintro e w3 ⟨rfl, rfl⟩) | (go_at_call 11; refine (Drv.program_d (hD.one _) a0 _).mono ?_; rintro e w4 ⟨rfl, p4⟩; have h4 := (hD.one _).below p4) | (go_at_call 13; refine (Drv.erase_d h4 a0).mono ?_; rintro e w5 ⟨rfl, p5⟩; have h5 := h4.below p5; clear h4) | (go_at_call 18; refine (Drv.lock_d h5 a0).mono ?_; rintro e w6 ⟨rfl, p6⟩; have h6 := h5.below p6; clear h5) | (go_at_call 12; refine (Drv.ticks_d h6).mono ?_; rintro e w4 ⟨rfl, rfl⟩) | (go_at_call 19; refine (Drv.blocks_d h6).mono ?_; rintro e w4 ⟨rfl, rfl⟩))
      go_roundw
      case rel => exact ⟨2, by omega, by go_num, Below.then hB (Below.then (Below.then (Below.then ((Below.refl _ wr).alloc (Nat.le_refl _) _) p4) p5) p6)⟩
      case measure => simp [intOf]
    · have b4 := Below.then b3 hB
      clear hB e0 e1
      obtain ⟨s0, H0⟩ : ∃ s, Hid (Cf.new (Nr.new 1 1) = s) := ⟨_, rfl⟩
      have hbeg := Cfi.begin_o (Below.refl wr.heap.size wr) (n := 1) (endure := 1) (by decide) (by decide) (by decide) (Lib.hid (by decide)) H0
      go_wp2_with (first | (go_at_call 20; refine hbeg.mono ?_; rintro e w5 ⟨g, bw, be, gf, rfl, h5⟩; clear hbeg; have b5 := h5.own.below; clear h5) |
       (go_at_call_of 21 (Value.pointer none); refine (Drv.new_d none 1 (.inl rfl)).mono ?_; rintro e w6 ⟨rfl, rfl⟩) | (go_at_call 21; refine (Drv.new_d _ _ (.inr (by decide))).mono ?_; rintro e w6 ⟨rfl, rfl⟩))
      go_ret
      exact ⟨rfl, Below.then b4 b5⟩
end L05Nobody
end Go.Proofs.Ytfghlfolejpjjaa

/- CfiOrders: a command that is none, or does not come there, sets both error bits, till they are cleared, and nothing is changed. No condition. -/
import Derived.Test.YtcpcnkmhhmccdaaLive3
import Derived.Test.YtcpcnkmhhmccdaaCfLaws2
import Derived.Test.YtcpcnkmhhmccdaaArgs
namespace Go.Proofs.Ytcpcnkmhhmccdaa
open Go.RowKit
set_option linter.unusedVariables false
attribute [local go_sem] max2_int min2_int max_two min_two
namespace L03Orders
set_option maxHeartbeats 4000000 in
set_option maxRecDepth 100000 in
theorem order0 (a0 : Int) (a1 : Int) (w : World) (k0 : 0 ≤ a0) (k0' : a0 < 4294967296) (j0 : 0 ≤ a1) (j0' : a1 < 256) (hq : a1 % 3 = 0) :
    Calls Try.prog 6 #[.int .u32 a0, .int .u8 a1] w fun e w' => e = .returned (.bool true) ∧ Below w.heap.size w w' := by
  have hq2 : a1.tmod 3 = 0 := (Int.tmod_eq_emod_of_nonneg j0).trans hq
  have hlow := Cf.and255 k0 k0'
  by_cases e255 : a0 % 256 = 255
  · rw [e255] at hlow
    obtain ⟨x, t1, HW⟩ : ∃ x t1, Hid (Cf.write (Cf.new (Nr.new 2 5)) 0 a0 = (x, t1)) := ⟨_, _, rfl⟩
    clear e255 
    go_enter Try.func6, Try.ntmps6
    go_wp2_with (first | (go_at_call 10; refine (Cfi.alive_c _).mono ?_; rintro e w1 ⟨rfl, b1⟩) | (go_at_call 11; refine (Cfi.begin_o b1 (n := 2) (endure := 5) (by decide) (by decide) (by decide) (Lib.hid (by decide)) rfl).mono ?_; rintro e w2 ⟨g, bw, be, gf, rfl, h1⟩; replace h1 := h1.then ((Below.refl _ _).alloc (Nat.le_refl _) (.cells #[.int .u32 0, .int .u32 32, .int .u32 96] 23)); clear b1) | (go_at_call 14; refine (Cfi.write_o h1 k0 k0' HW).mono ?_; rintro e w4 ⟨rfl, h3, _⟩; clear h1))
    all_goals (
      go_ret
      exact ⟨rfl, h3.own.below⟩)
  by_cases e112 : a0 % 256 = 112
  · rw [e112] at hlow
    obtain ⟨x, t1, HW⟩ : ∃ x t1, Hid (Cf.write (Cf.new (Nr.new 2 5)) 0 a0 = (x, t1)) := ⟨_, _, rfl⟩
    clear e112 e255
    go_enter Try.func6, Try.ntmps6
    go_wp2_with (first | (go_at_call 10; refine (Cfi.alive_c _).mono ?_; rintro e w1 ⟨rfl, b1⟩) | (go_at_call 11; refine (Cfi.begin_o b1 (n := 2) (endure := 5) (by decide) (by decide) (by decide) (Lib.hid (by decide)) rfl).mono ?_; rintro e w2 ⟨g, bw, be, gf, rfl, h1⟩; replace h1 := h1.then ((Below.refl _ _).alloc (Nat.le_refl _) (.cells #[.int .u32 0, .int .u32 32, .int .u32 96] 23)); clear b1) | (go_at_call 14; refine (Cfi.write_o h1 k0 k0' HW).mono ?_; rintro e w4 ⟨rfl, h3, _⟩; clear h1))
    all_goals (
      go_ret
      exact ⟨rfl, h3.own.below⟩)
  by_cases e144 : a0 % 256 = 144
  · rw [e144] at hlow
    obtain ⟨x, t1, HW⟩ : ∃ x t1, Hid (Cf.write (Cf.new (Nr.new 2 5)) 0 a0 = (x, t1)) := ⟨_, _, rfl⟩
    clear e144 e255 e112
    go_enter Try.func6, Try.ntmps6
    go_wp2_with (first | (go_at_call 10; refine (Cfi.alive_c _).mono ?_; rintro e w1 ⟨rfl, b1⟩) | (go_at_call 11; refine (Cfi.begin_o b1 (n := 2) (endure := 5) (by decide) (by decide) (by decide) (Lib.hid (by decide)) rfl).mono ?_; rintro e w2 ⟨g, bw, be, gf, rfl, h1⟩; replace h1 := h1.then ((Below.refl _ _).alloc (Nat.le_refl _) (.cells #[.int .u32 0, .int .u32 32, .int .u32 96] 23)); clear b1) | (go_at_call 14; refine (Cfi.write_o h1 k0 k0' HW).mono ?_; rintro e w4 ⟨rfl, h3, _⟩; clear h1))
    all_goals (
      go_ret
      exact ⟨rfl, h3.own.below⟩)
  by_cases e152 : a0 % 256 = 152
  · rw [e152] at hlow
    obtain ⟨x, t1, HW⟩ : ∃ x t1, Hid (Cf.write (Cf.new (Nr.new 2 5)) 0 a0 = (x, t1)) := ⟨_, _, rfl⟩
    clear e152 e255 e112 e144
    go_enter Try.func6, Try.ntmps6
    go_wp2_with (first | (go_at_call 10; refine (Cfi.alive_c _).mono ?_; rintro e w1 ⟨rfl, b1⟩) | (go_at_call 11; refine (Cfi.begin_o b1 (n := 2) (endure := 5) (by decide) (by decide) (by decide) (Lib.hid (by decide)) rfl).mono ?_; rintro e w2 ⟨g, bw, be, gf, rfl, h1⟩; replace h1 := h1.then ((Below.refl _ _).alloc (Nat.le_refl _) (.cells #[.int .u32 0, .int .u32 32, .int .u32 96] 23)); clear b1) | (go_at_call 14; refine (Cfi.write_o h1 k0 k0' HW).mono ?_; rintro e w4 ⟨rfl, h3, _⟩; clear h1))
    all_goals (
      go_ret
      exact ⟨rfl, h3.own.below⟩)
  by_cases e80 : a0 % 256 = 80
  · rw [e80] at hlow
    obtain ⟨x, t1, HW⟩ : ∃ x t1, Hid (Cf.write (Cf.new (Nr.new 2 5)) 0 a0 = (x, t1)) := ⟨_, _, rfl⟩
    clear e80 e255 e112 e144 e152
    go_enter Try.func6, Try.ntmps6
    go_wp2_with (first | (go_at_call 10; refine (Cfi.alive_c _).mono ?_; rintro e w1 ⟨rfl, b1⟩) | (go_at_call 11; refine (Cfi.begin_o b1 (n := 2) (endure := 5) (by decide) (by decide) (by decide) (Lib.hid (by decide)) rfl).mono ?_; rintro e w2 ⟨g, bw, be, gf, rfl, h1⟩; replace h1 := h1.then ((Below.refl _ _).alloc (Nat.le_refl _) (.cells #[.int .u32 0, .int .u32 32, .int .u32 96] 23)); clear b1) | (go_at_call 14; refine (Cfi.write_o h1 k0 k0' HW).mono ?_; rintro e w4 ⟨rfl, h3, _⟩; clear h1))
    all_goals (
      go_ret
      exact ⟨rfl, h3.own.below⟩)
  by_cases e64 : a0 % 256 = 64
  · rw [e64] at hlow
    obtain ⟨x, t1, HW⟩ : ∃ x t1, Hid (Cf.write (Cf.new (Nr.new 2 5)) 0 a0 = (x, t1)) := ⟨_, _, rfl⟩
    clear e64 e255 e112 e144 e152 e80
    go_enter Try.func6, Try.ntmps6
    go_wp2_with (first | (go_at_call 10; refine (Cfi.alive_c _).mono ?_; rintro e w1 ⟨rfl, b1⟩) | (go_at_call 11; refine (Cfi.begin_o b1 (n := 2) (endure := 5) (by decide) (by decide) (by decide) (Lib.hid (by decide)) rfl).mono ?_; rintro e w2 ⟨g, bw, be, gf, rfl, h1⟩; replace h1 := h1.then ((Below.refl _ _).alloc (Nat.le_refl _) (.cells #[.int .u32 0, .int .u32 32, .int .u32 96] 23)); clear b1) | (go_at_call 14; refine (Cfi.write_o h1 k0 k0' HW).mono ?_; rintro e w4 ⟨rfl, h3, _⟩; clear h1))
    all_goals (
      go_ret
      exact ⟨rfl, h3.own.below⟩)
  by_cases e32 : a0 % 256 = 32
  · rw [e32] at hlow
    obtain ⟨x, t1, HW⟩ : ∃ x t1, Hid (Cf.write (Cf.new (Nr.new 2 5)) 0 a0 = (x, t1)) := ⟨_, _, rfl⟩
    clear e32 e255 e112 e144 e152 e80 e64
    go_enter Try.func6, Try.ntmps6
    go_wp2_with (first | (go_at_call 10; refine (Cfi.alive_c _).mono ?_; rintro e w1 ⟨rfl, b1⟩) | (go_at_call 11; refine (Cfi.begin_o b1 (n := 2) (endure := 5) (by decide) (by decide) (by decide) (Lib.hid (by decide)) rfl).mono ?_; rintro e w2 ⟨g, bw, be, gf, rfl, h1⟩; replace h1 := h1.then ((Below.refl _ _).alloc (Nat.le_refl _) (.cells #[.int .u32 0, .int .u32 32, .int .u32 96] 23)); clear b1) | (go_at_call 14; refine (Cfi.write_o h1 k0 k0' HW).mono ?_; rintro e w4 ⟨rfl, h3, _⟩; clear h1))
    all_goals (
      go_ret
      exact ⟨rfl, h3.own.below⟩)
  by_cases e96 : a0 % 256 = 96
  · rw [e96] at hlow
    obtain ⟨x, t1, HW⟩ : ∃ x t1, Hid (Cf.write (Cf.new (Nr.new 2 5)) 0 a0 = (x, t1)) := ⟨_, _, rfl⟩
    clear e96 e255 e112 e144 e152 e80 e64 e32
    go_enter Try.func6, Try.ntmps6
    go_wp2_with (first | (go_at_call 10; refine (Cfi.alive_c _).mono ?_; rintro e w1 ⟨rfl, b1⟩) | (go_at_call 11; refine (Cfi.begin_o b1 (n := 2) (endure := 5) (by decide) (by decide) (by decide) (Lib.hid (by decide)) rfl).mono ?_; rintro e w2 ⟨g, bw, be, gf, rfl, h1⟩; replace h1 := h1.then ((Below.refl _ _).alloc (Nat.le_refl _) (.cells #[.int .u32 0, .int .u32 32, .int .u32 96] 23)); clear b1) | (go_at_call 14; refine (Cfi.write_o h1 k0 k0' HW).mono ?_; rintro e w4 ⟨rfl, h3, _⟩; clear h1))
    all_goals (
      go_ret
      exact ⟨rfl, h3.own.below⟩)
  have HW := Lib.hid (Cf.bad0 ⟨e255, e112, e144, e152, e80, e64, e32, e96⟩)
  obtain ⟨t2, z, G1, G2, G3, G4, G5, G6⟩ := Cf.bad_end 0 (by decide)
  have f255 : (a0 % 256 == 255) = false := by simpa using e255
  have f112 : (a0 % 256 == 112) = false := by simpa using e112
  have f144 : (a0 % 256 == 144) = false := by simpa using e144
  have f152 : (a0 % 256 == 152) = false := by simpa using e152
  have f80 : (a0 % 256 == 80) = false := by simpa using e80
  have f64 : (a0 % 256 == 64) = false := by simpa using e64
  have f32 : (a0 % 256 == 32) = false := by simpa using e32
  have f96 : (a0 % 256 == 96) = false := by simpa using e96
  clear e255 e112 e144 e152 e80 e64 e32 e96
  have d0 : (z.length : Int) = 128 := by omega
  generalize Cf.fl (Cf.c2 Cf.r128 [0, 0]) 1 0 48 Cf.noL none = t1 at *
  go_enter Try.func6, Try.ntmps6
  go_wp2_with (first | (go_at_call 10; refine (Cfi.alive_c _).mono ?_; rintro e w1 ⟨rfl, b1⟩) | (go_at_call 11; refine (Cfi.begin_o b1 (n := 2) (endure := 5) (by decide) (by decide) (by decide) (Lib.hid (by decide)) rfl).mono ?_; rintro e w2 ⟨g, bw, be, gf, rfl, h1⟩; replace h1 := h1.then ((Below.refl _ _).alloc (Nat.le_refl _) (.cells #[.int .u32 0, .int .u32 32, .int .u32 96] 23)); clear b1) | (go_at_call 14; refine (Cfi.write_o h1 k0 k0' HW).mono ?_; rintro e w4 ⟨rfl, h3, _⟩; clear h1) | (go_at_call 17; refine (Cfi.status_o h3 G1).mono ?_; rintro e w5 ⟨rfl, rfl⟩) | (go_at_call 14; refine (Cfi.write_o h3 (by decide) (by decide) G2).mono ?_; rintro e w5 ⟨rfl, h4, _⟩; clear h3) | (go_at_call 17; refine (Cfi.status_o h4 G3).mono ?_; rintro e w5 ⟨rfl, rfl⟩) | (go_at_call 19; refine (Cfi.words_o h4 G4).mono ?_; rintro e w6 ⟨r1, kap1, rfl, p1, p2, p3, h5, p5⟩; clear h4; have cx := p3.cell (i := 0) (by omega); rw [G6] at cx))
  all_goals (
    go_ret
    exact ⟨rfl, h5.own.below⟩)
set_option maxHeartbeats 4000000 in
set_option maxRecDepth 100000 in
theorem order1 (a0 : Int) (a1 : Int) (w : World) (k0 : 0 ≤ a0) (k0' : a0 < 4294967296) (j0 : 0 ≤ a1) (j0' : a1 < 256) (hq : a1 % 3 = 1) :
    Calls Try.prog 6 #[.int .u32 a0, .int .u8 a1] w fun e w' => e = .returned (.bool true) ∧ Below w.heap.size w w' := by
  have hq2 : a1.tmod 3 = 1 := (Int.tmod_eq_emod_of_nonneg j0).trans hq
  have hlow := Cf.and255 k0 k0'
  have HF := Lib.hid Cf.first32
  by_cases e208 : a0 % 256 = 208
  · rw [e208] at hlow
    obtain ⟨x, t1, HW⟩ : ∃ x t1, Hid (Cf.write (Cf.fl (Cf.c2 Cf.r128 [0, 0]) 1 32 0 Cf.noL none) 0 a0 = (x, t1)) := ⟨_, _, rfl⟩
    clear e208 
    go_enter Try.func6, Try.ntmps6
    go_wp2_with (first | (go_at_call 10; refine (Cfi.alive_c _).mono ?_; rintro e w1 ⟨rfl, b1⟩) | (go_at_call 11; refine (Cfi.begin_o b1 (n := 2) (endure := 5) (by decide) (by decide) (by decide) (Lib.hid (by decide)) rfl).mono ?_; rintro e w2 ⟨g, bw, be, gf, rfl, h1⟩; replace h1 := h1.then ((Below.refl _ _).alloc (Nat.le_refl _) (.cells #[.int .u32 0, .int .u32 32, .int .u32 96] 23)); clear b1) | (go_at_call 14; refine (Cfi.write_o h1 (by decide) (by decide) HF).mono ?_; rintro e w3 ⟨rfl, h2, _⟩; clear h1) | (go_at_call 14; refine (Cfi.write_o h2 k0 k0' HW).mono ?_; rintro e w4 ⟨rfl, h3, _⟩; clear h2))
    all_goals (
      go_ret
      exact ⟨rfl, h3.own.below⟩)
  have HW := Lib.hid (Cf.bad32 e208)
  obtain ⟨t2, z, G1, G2, G3, G4, G5, G6⟩ := Cf.bad_end 0 (by decide)
  have f208 : (a0 % 256 == 208) = false := by simpa using e208
  clear e208
  have d0 : (z.length : Int) = 128 := by omega
  generalize Cf.fl (Cf.c2 Cf.r128 [0, 0]) 1 0 48 Cf.noL none = t1 at *
  go_enter Try.func6, Try.ntmps6
  go_wp2_with (first | (go_at_call 10; refine (Cfi.alive_c _).mono ?_; rintro e w1 ⟨rfl, b1⟩) | (go_at_call 11; refine (Cfi.begin_o b1 (n := 2) (endure := 5) (by decide) (by decide) (by decide) (Lib.hid (by decide)) rfl).mono ?_; rintro e w2 ⟨g, bw, be, gf, rfl, h1⟩; replace h1 := h1.then ((Below.refl _ _).alloc (Nat.le_refl _) (.cells #[.int .u32 0, .int .u32 32, .int .u32 96] 23)); clear b1) | (go_at_call 14; refine (Cfi.write_o h1 (by decide) (by decide) HF).mono ?_; rintro e w3 ⟨rfl, h2, _⟩; clear h1) | (go_at_call 14; refine (Cfi.write_o h2 k0 k0' HW).mono ?_; rintro e w4 ⟨rfl, h3, _⟩; clear h2) | (go_at_call 17; refine (Cfi.status_o h3 G1).mono ?_; rintro e w5 ⟨rfl, rfl⟩) | (go_at_call 14; refine (Cfi.write_o h3 (by decide) (by decide) G2).mono ?_; rintro e w5 ⟨rfl, h4, _⟩; clear h3) | (go_at_call 17; refine (Cfi.status_o h4 G3).mono ?_; rintro e w5 ⟨rfl, rfl⟩) | (go_at_call 19; refine (Cfi.words_o h4 G4).mono ?_; rintro e w6 ⟨r1, kap1, rfl, p1, p2, p3, h5, p5⟩; clear h4; have cx := p3.cell (i := 0) (by omega); rw [G6] at cx))
  all_goals (
    go_ret
    exact ⟨rfl, h5.own.below⟩)
set_option maxHeartbeats 4000000 in
set_option maxRecDepth 100000 in
theorem order2 (a0 : Int) (a1 : Int) (w : World) (k0 : 0 ≤ a0) (k0' : a0 < 4294967296) (j0 : 0 ≤ a1) (j0' : a1 < 256) (hq : a1 % 3 = 2) :
    Calls Try.prog 6 #[.int .u32 a0, .int .u8 a1] w fun e w' => e = .returned (.bool true) ∧ Below w.heap.size w w' := by
  have hq2 : a1.tmod 3 = 2 := (Int.tmod_eq_emod_of_nonneg j0).trans hq
  have hlow := Cf.and255 k0 k0'
  have HF := Lib.hid Cf.first96
  by_cases e208 : a0 % 256 = 208
  · rw [e208] at hlow
    obtain ⟨x, t1, HW⟩ : ∃ x t1, Hid (Cf.write (Cf.fl (Cf.c2 Cf.r128 [0, 0]) 1 96 0 Cf.noL none) 0 a0 = (x, t1)) := ⟨_, _, rfl⟩
    clear e208 
    go_enter Try.func6, Try.ntmps6
    go_wp2_with (first | (go_at_call 10; refine (Cfi.alive_c _).mono ?_; rintro e w1 ⟨rfl, b1⟩) | (go_at_call 11; refine (Cfi.begin_o b1 (n := 2) (endure := 5) (by decide) (by decide) (by decide) (Lib.hid (by decide)) rfl).mono ?_; rintro e w2 ⟨g, bw, be, gf, rfl, h1⟩; replace h1 := h1.then ((Below.refl _ _).alloc (Nat.le_refl _) (.cells #[.int .u32 0, .int .u32 32, .int .u32 96] 23)); clear b1) | (go_at_call 14; refine (Cfi.write_o h1 (by decide) (by decide) HF).mono ?_; rintro e w3 ⟨rfl, h2, _⟩; clear h1) | (go_at_call 14; refine (Cfi.write_o h2 k0 k0' HW).mono ?_; rintro e w4 ⟨rfl, h3, _⟩; clear h2))
    all_goals (
      go_ret
      exact ⟨rfl, h3.own.below⟩)
  by_cases e1 : a0 % 256 = 1
  · rw [e1] at hlow
    obtain ⟨x, t1, HW⟩ : ∃ x t1, Hid (Cf.write (Cf.fl (Cf.c2 Cf.r128 [0, 0]) 1 96 0 Cf.noL none) 0 a0 = (x, t1)) := ⟨_, _, rfl⟩
    clear e1 e208
    go_enter Try.func6, Try.ntmps6
    go_wp2_with (first | (go_at_call 10; refine (Cfi.alive_c _).mono ?_; rintro e w1 ⟨rfl, b1⟩) | (go_at_call 11; refine (Cfi.begin_o b1 (n := 2) (endure := 5) (by decide) (by decide) (by decide) (Lib.hid (by decide)) rfl).mono ?_; rintro e w2 ⟨g, bw, be, gf, rfl, h1⟩; replace h1 := h1.then ((Below.refl _ _).alloc (Nat.le_refl _) (.cells #[.int .u32 0, .int .u32 32, .int .u32 96] 23)); clear b1) | (go_at_call 14; refine (Cfi.write_o h1 (by decide) (by decide) HF).mono ?_; rintro e w3 ⟨rfl, h2, _⟩; clear h1) | (go_at_call 14; refine (Cfi.write_o h2 k0 k0' HW).mono ?_; rintro e w4 ⟨rfl, h3, _⟩; clear h2))
    all_goals (
      go_ret
      exact ⟨rfl, h3.own.below⟩)
  have HW := Lib.hid (Cf.bad96 e208 e1)
  obtain ⟨t2, z, G1, G2, G3, G4, G5, G6⟩ := Cf.bad_end 0 (by decide)
  have f208 : (a0 % 256 == 208) = false := by simpa using e208
  have f1 : (a0 % 256 == 1) = false := by simpa using e1
  clear e208 e1
  have d0 : (z.length : Int) = 128 := by omega
  generalize Cf.fl (Cf.c2 Cf.r128 [0, 0]) 1 0 48 Cf.noL none = t1 at *
  go_enter Try.func6, Try.ntmps6
  go_wp2_with (first | (go_at_call 10; refine (Cfi.alive_c _).mono ?_; rintro e w1 ⟨rfl, b1⟩) | (go_at_call 11; refine (Cfi.begin_o b1 (n := 2) (endure := 5) (by decide) (by decide) (by decide) (Lib.hid (by decide)) rfl).mono ?_; rintro e w2 ⟨g, bw, be, gf, rfl, h1⟩; replace h1 := h1.then ((Below.refl _ _).alloc (Nat.le_refl _) (.cells #[.int .u32 0, .int .u32 32, .int .u32 96] 23)); clear b1) | (go_at_call 14; refine (Cfi.write_o h1 (by decide) (by decide) HF).mono ?_; rintro e w3 ⟨rfl, h2, _⟩; clear h1) | (go_at_call 14; refine (Cfi.write_o h2 k0 k0' HW).mono ?_; rintro e w4 ⟨rfl, h3, _⟩; clear h2) | (go_at_call 17; refine (Cfi.status_o h3 G1).mono ?_; rintro e w5 ⟨rfl, rfl⟩) | (go_at_call 14; refine (Cfi.write_o h3 (by decide) (by decide) G2).mono ?_; rintro e w5 ⟨rfl, h4, _⟩; clear h3) | (go_at_call 17; refine (Cfi.status_o h4 G3).mono ?_; rintro e w5 ⟨rfl, rfl⟩) | (go_at_call 19; refine (Cfi.words_o h4 G4).mono ?_; rintro e w6 ⟨r1, kap1, rfl, p1, p2, p3, h5, p5⟩; clear h4; have cx := p3.cell (i := 0) (by omega); rw [G6] at cx))
  all_goals (
    go_ret
    exact ⟨rfl, h5.own.below⟩)
theorem CfiOrders_c (a0 : Int) (a1 : Int) (w : World) (w0 : (Lit.int .u32 a0).wf = true) (w1 : (Lit.int .u8 a1).wf = true) :
    Calls Try.prog 6 #[.int .u32 a0, .int .u8 a1] w fun e w' => e = .returned (.bool true) ∧ Below w.heap.size w w' := by
  obtain ⟨k0, k0'⟩ := wf_u32 w0
  obtain ⟨j0, j0'⟩ := wf_u8 w1
  rcases (show a1 % 3 = 0 ∨ a1 % 3 = 1 ∨ a1 % 3 = 2 by omega) with h | h | h
  · exact order0 a0 a1 w k0 k0' j0 j0' h
  · exact order1 a0 a1 w k0 k0' j0 j0' h
  · exact order2 a0 a1 w k0 k0' j0 j0' h
end L03Orders
end Go.Proofs.Ytcpcnkmhhmccdaa

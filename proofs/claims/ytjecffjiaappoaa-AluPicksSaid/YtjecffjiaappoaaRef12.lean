/- Contracts of the reference of package alu. -/
import Derived.Test.YtjecffjiaappoaaRef1
import Derived.Test.YtjecffjiaappoaaOpen
import Derived.Test.YtjecffjiaappoaaAl
namespace Go.Proofs.Ytjecffjiaappoaa
open Go.RowKit
set_option linter.unusedVariables false
namespace Ref12

theorem signed_c (a : Int) (w : World) (ha : 0 ≤ a) (ha' : a < 4294967296) : Calls Try.prog 30 #[.int .u32 a] w fun e w' => e = .returned (.int .i64 (wrap32 a)) ∧ w = w' := by
  by_cases h : 2147483648 ≤ a
  · go_enter Try.func30, Try.ntmps30
    go_wp2
    go_ret
    exact ⟨ret_int (by unfold wrap32; omega), rfl⟩
  · go_enter Try.func30, Try.ntmps30
    go_wp2
    go_ret
    exact ⟨ret_int (by unfold wrap32; omega), rfl⟩

theorem power_c (n : Int) (w : World) (h : 0 ≤ n) (h' : n ≤ 31) : Calls Try.prog 58 #[.int .u32 n] w fun e w' => e = .returned (.int .u32 (2 ^ n.toNat)) ∧ w = w' := by
  obtain ⟨m, rfl⟩ := Int.eq_ofNat_of_zero_le h
  rw [Int.toNat_natCast]
  go_enter Try.func58, Try.ntmps58
  go_wp2
  go_loop [3, 4] (fun p i => ∃ k : Nat, k ≤ m ∧ i = .int .u32 k ∧ p = .int .u32 (2 ^ k)) (fun _ i => m - (intOf i).toNat)
  case atStart => exact ⟨0, Nat.zero_le _, rfl, rfl⟩
  case round =>
    obtain ⟨k, hk, rfl, rfl⟩ := hrel
    by_cases hlt : k < m
    · have hs := Lib.hid (Bt.power_step (k := k) (by omega))
      go_wp2
      go_round
      case rel => exact ⟨k + 1, by omega, by go_num, by rw [hs.out]⟩
      case measure => simp [intOf]; omega
    · obtain rfl : k = m := by omega
      go_wp2
      go_ret
      exact ⟨rfl, rfl⟩

theorem one_c (t : Bool) (w : World) : Calls Try.prog 29 #[.bool t] w fun e w' => e = .returned (.int .u32 (if t then 1 else 0)) ∧ w = w' := by
  cases t
  · go_enter Try.func29, Try.ntmps29
    go_wp2
    go_ret
    exact ⟨rfl, rfl⟩
  · go_enter Try.func29, Try.ntmps29
    go_wp2
    go_ret
    exact ⟨rfl, rfl⟩

theorem choose_c (t : Bool) (a b : Int) (w : World) : Calls Try.prog 32 #[.bool t, .int .u32 a, .int .u32 b] w fun e w' => e = .returned (.int .u32 (if t then a else b)) ∧ w = w' := by
  cases t
  · go_enter Try.func32, Try.ntmps32
    go_wp2
    go_ret
    exact ⟨rfl, rfl⟩
  · go_enter Try.func32, Try.ntmps32
    go_wp2
    go_ret
    exact ⟨rfl, rfl⟩

theorem shift_sll (a b : Int) (w : World) (ha : 0 ≤ a) (ha' : a < 4294967296) (hb : 0 ≤ b) (hb' : b < 4294967296) : Calls Try.prog 28 #[.int .u32 a, .int .u32 b, .int .i64 0] w fun e w' => e = .returned (.int .u32 (Al.sll a b)) ∧ w = w' := by
  obtain ⟨p1, p2⟩ := Bt.power_rng (k := (b % 32).toNat) (by omega)
  obtain ⟨q1, q2⟩ := Bt.rng_shr (b % 32).toNat ha ha'
  go_enter Try.func28, Try.ntmps28
  go_wp2_with (first | (go_at_call 58; refine (power_c _ _ (by omega) (by omega)).mono ?_; rintro e w' ⟨rfl, rfl⟩) | (go_at_call 34; refine (Ref1.sign_c _ _ _ (by omega) (by omega)).mono ?_; rintro e w' ⟨rfl, rfl⟩))
  go_ret
  exact ⟨ret_int (rfl), rfl⟩

theorem shift_srl (a b : Int) (w : World) (ha : 0 ≤ a) (ha' : a < 4294967296) (hb : 0 ≤ b) (hb' : b < 4294967296) : Calls Try.prog 28 #[.int .u32 a, .int .u32 b, .int .i64 1] w fun e w' => e = .returned (.int .u32 (Al.srl a b)) ∧ w = w' := by
  obtain ⟨p1, p2⟩ := Bt.power_rng (k := (b % 32).toNat) (by omega)
  obtain ⟨q1, q2⟩ := Bt.rng_shr (b % 32).toNat ha ha'
  go_enter Try.func28, Try.ntmps28
  go_wp2_with (first | (go_at_call 58; refine (power_c _ _ (by omega) (by omega)).mono ?_; rintro e w' ⟨rfl, rfl⟩) | (go_at_call 34; refine (Ref1.sign_c _ _ _ (by omega) (by omega)).mono ?_; rintro e w' ⟨rfl, rfl⟩))
  go_ret
  exact ⟨ret_int (rfl), rfl⟩

theorem shift_sra (a b : Int) (w : World) (ha : 0 ≤ a) (ha' : a < 4294967296) (hb : 0 ≤ b) (hb' : b < 4294967296) : Calls Try.prog 28 #[.int .u32 a, .int .u32 b, .int .i64 2] w fun e w' => e = .returned (.int .u32 (Al.sra a b)) ∧ w = w' := by
  obtain ⟨p1, p2⟩ := Bt.power_rng (k := (b % 32).toNat) (by omega)
  obtain ⟨q1, q2⟩ := Bt.rng_shr (b % 32).toNat ha ha'
  go_enter Try.func28, Try.ntmps28
  go_wp2_with (first | (go_at_call 58; refine (power_c _ _ (by omega) (by omega)).mono ?_; rintro e w' ⟨rfl, rfl⟩) | (go_at_call 34; refine (Ref1.sign_c _ _ _ (by omega) (by omega)).mono ?_; rintro e w' ⟨rfl, rfl⟩))
  go_ret
  exact ⟨ret_int (Al.sra_sign ha ha'), rfl⟩

theorem high_0 (a b : Int) (w : World) (ha : 0 ≤ a) (ha' : a < 4294967296) (hb : 0 ≤ b) (hb' : b < 4294967296) : Calls Try.prog 59 #[.int .u32 a, .int .u32 b, .int .i64 0] w fun e w' => e = .returned (.int .u32 (Al.mulhu a b)) ∧ w = w' := by
  have m := Al.mul_rng ha ha' hb hb'
  by_cases h1 : 2147483648 ≤ a
  · by_cases h2 : 2147483648 ≤ b
    · go_enter Try.func59, Try.ntmps59
      go_wp2
      go_ret
      exact ⟨ret_int (Al.high0), rfl⟩
    · go_enter Try.func59, Try.ntmps59
      go_wp2
      go_ret
      exact ⟨ret_int (Al.high0), rfl⟩
  · by_cases h2 : 2147483648 ≤ b
    · go_enter Try.func59, Try.ntmps59
      go_wp2
      go_ret
      exact ⟨ret_int (Al.high0), rfl⟩
    · go_enter Try.func59, Try.ntmps59
      go_wp2
      go_ret
      exact ⟨ret_int (Al.high0), rfl⟩

theorem high_1 (a b : Int) (w : World) (ha : 0 ≤ a) (ha' : a < 4294967296) (hb : 0 ≤ b) (hb' : b < 4294967296) : Calls Try.prog 59 #[.int .u32 a, .int .u32 b, .int .i64 1] w fun e w' => e = .returned (.int .u32 (Al.mulhsu a b)) ∧ w = w' := by
  have m := Al.mul_rng ha ha' hb hb'
  by_cases h1 : 2147483648 ≤ a
  · by_cases h2 : 2147483648 ≤ b
    · go_enter Try.func59, Try.ntmps59
      go_wp2
      go_ret
      exact ⟨ret_int (Al.high1 h1 ha'), rfl⟩
    · go_enter Try.func59, Try.ntmps59
      go_wp2
      go_ret
      exact ⟨ret_int (Al.high1 h1 ha'), rfl⟩
  · by_cases h2 : 2147483648 ≤ b
    · go_enter Try.func59, Try.ntmps59
      go_wp2
      go_ret
      exact ⟨ret_int (Al.high1' (by omega) ha hb hb'), rfl⟩
    · go_enter Try.func59, Try.ntmps59
      go_wp2
      go_ret
      exact ⟨ret_int (Al.high1' (by omega) ha hb hb'), rfl⟩

theorem high_2 (a b : Int) (w : World) (ha : 0 ≤ a) (ha' : a < 4294967296) (hb : 0 ≤ b) (hb' : b < 4294967296) : Calls Try.prog 59 #[.int .u32 a, .int .u32 b, .int .i64 2] w fun e w' => e = .returned (.int .u32 (Al.mulh a b)) ∧ w = w' := by
  have m := Al.mul_rng ha ha' hb hb'
  by_cases h1 : 2147483648 ≤ a
  · by_cases h2 : 2147483648 ≤ b
    · go_enter Try.func59, Try.ntmps59
      go_wp2
      go_ret
      exact ⟨ret_int (Al.high2 h1 ha' h2 hb'), rfl⟩
    · go_enter Try.func59, Try.ntmps59
      go_wp2
      go_ret
      exact ⟨ret_int (Al.high2a h1 ha' (by omega) hb), rfl⟩
  · by_cases h2 : 2147483648 ≤ b
    · go_enter Try.func59, Try.ntmps59
      go_wp2
      go_ret
      exact ⟨ret_int (Al.high2b (by omega) ha h2 hb'), rfl⟩
    · go_enter Try.func59, Try.ntmps59
      go_wp2
      go_ret
      exact ⟨ret_int (Al.high2c (by omega) ha (by omega) hb), rfl⟩

theorem divide_div (a b : Int) (w : World) (ha : 0 ≤ a) (ha' : a < 4294967296) (hb : 0 ≤ b) (hb' : b < 4294967296) : Calls Try.prog 60 #[.int .u32 a, .int .u32 b, .bool true, .bool false] w fun e w' => e = .returned (.int .u32 (Al.div a b)) ∧ w = w' := by
  obtain ⟨u1, u2⟩ := Bt.wrap32_rng a
  obtain ⟨u3, u4⟩ := Bt.wrap32_rng b
  by_cases hz : b = 0
  · subst hz
    go_enter Try.func60, Try.ntmps60
    go_wp2_with (go_at_call 30; refine (signed_c _ _ (by omega) (by omega)).mono ?_; rintro e w' ⟨rfl, rfl⟩)
    go_ret
    exact ⟨rfl, rfl⟩
  · have hz' : (b == 0) = false := by simpa using hz
    have hz2 : ¬ wrap32 b = 0 := by have := Al.wrap32_cases hb hb'; omega
    go_enter Try.func60, Try.ntmps60
    go_wp2_with (go_at_call 30; refine (signed_c _ _ (by omega) (by omega)).mono ?_; rintro e w' ⟨rfl, rfl⟩)
    go_ret
    exact ⟨ret_int (Al.div_64 hz), rfl⟩

theorem divide_divu (a b : Int) (w : World) (ha : 0 ≤ a) (ha' : a < 4294967296) (hb : 0 ≤ b) (hb' : b < 4294967296) : Calls Try.prog 60 #[.int .u32 a, .int .u32 b, .bool false, .bool false] w fun e w' => e = .returned (.int .u32 (Al.divu a b)) ∧ w = w' := by
  obtain ⟨u1, u2⟩ := Bt.wrap32_rng a
  obtain ⟨u3, u4⟩ := Bt.wrap32_rng b
  by_cases hz : b = 0
  · subst hz
    go_enter Try.func60, Try.ntmps60
    go_wp2_with (go_at_call 30; refine (signed_c _ _ (by omega) (by omega)).mono ?_; rintro e w' ⟨rfl, rfl⟩)
    go_ret
    exact ⟨rfl, rfl⟩
  · have hz' : (b == 0) = false := by simpa using hz
    have hz2 : ¬ wrap32 b = 0 := by have := Al.wrap32_cases hb hb'; omega
    go_enter Try.func60, Try.ntmps60
    go_wp2_with (go_at_call 30; refine (signed_c _ _ (by omega) (by omega)).mono ?_; rintro e w' ⟨rfl, rfl⟩)
    go_ret
    exact ⟨ret_int (Al.divu_mod ha ha' hb hz), rfl⟩

theorem divide_rem (a b : Int) (w : World) (ha : 0 ≤ a) (ha' : a < 4294967296) (hb : 0 ≤ b) (hb' : b < 4294967296) : Calls Try.prog 60 #[.int .u32 a, .int .u32 b, .bool true, .bool true] w fun e w' => e = .returned (.int .u32 (Al.rem a b)) ∧ w = w' := by
  obtain ⟨u1, u2⟩ := Bt.wrap32_rng a
  obtain ⟨u3, u4⟩ := Bt.wrap32_rng b
  by_cases hz : b = 0
  · subst hz
    go_enter Try.func60, Try.ntmps60
    go_wp2_with (go_at_call 30; refine (signed_c _ _ (by omega) (by omega)).mono ?_; rintro e w' ⟨rfl, rfl⟩)
    go_ret
    exact ⟨rfl, rfl⟩
  · have hz' : (b == 0) = false := by simpa using hz
    have hz2 : ¬ wrap32 b = 0 := by have := Al.wrap32_cases hb hb'; omega
    go_enter Try.func60, Try.ntmps60
    go_wp2_with (go_at_call 30; refine (signed_c _ _ (by omega) (by omega)).mono ?_; rintro e w' ⟨rfl, rfl⟩)
    go_ret
    exact ⟨ret_int (Al.rem_fin hz), rfl⟩

theorem divide_remu (a b : Int) (w : World) (ha : 0 ≤ a) (ha' : a < 4294967296) (hb : 0 ≤ b) (hb' : b < 4294967296) : Calls Try.prog 60 #[.int .u32 a, .int .u32 b, .bool false, .bool true] w fun e w' => e = .returned (.int .u32 (Al.remu a b)) ∧ w = w' := by
  obtain ⟨u1, u2⟩ := Bt.wrap32_rng a
  obtain ⟨u3, u4⟩ := Bt.wrap32_rng b
  by_cases hz : b = 0
  · subst hz
    go_enter Try.func60, Try.ntmps60
    go_wp2_with (go_at_call 30; refine (signed_c _ _ (by omega) (by omega)).mono ?_; rintro e w' ⟨rfl, rfl⟩)
    go_ret
    exact ⟨rfl, rfl⟩
  · have hz' : (b == 0) = false := by simpa using hz
    have hz2 : ¬ wrap32 b = 0 := by have := Al.wrap32_cases hb hb'; omega
    go_enter Try.func60, Try.ntmps60
    go_wp2_with (go_at_call 30; refine (signed_c _ _ (by omega) (by omega)).mono ?_; rintro e w' ⟨rfl, rfl⟩)
    go_ret
    exact ⟨ret_int (Al.remu_mod hb hb' hz), rfl⟩

theorem product_38 (a b : Int) (w : World) (ha : 0 ≤ a) (ha' : a < 4294967296) (hb : 0 ≤ b) (hb' : b < 4294967296) : Calls Try.prog 31 #[.int .i64 38, .int .u32 a, .int .u32 b] w fun e w' => e = .returned (.int .u32 (Al.mul a b)) ∧ w = w' := by
  go_enter Try.func31, Try.ntmps31
  go_wp2
  go_ret
  exact ⟨rfl, rfl⟩

theorem product_39 (a b : Int) (w : World) (ha : 0 ≤ a) (ha' : a < 4294967296) (hb : 0 ≤ b) (hb' : b < 4294967296) : Calls Try.prog 31 #[.int .i64 39, .int .u32 a, .int .u32 b] w fun e w' => e = .returned (.int .u32 (Al.mulh a b)) ∧ w = w' := by
  go_enter Try.func31, Try.ntmps31
  go_wp2_with (go_at_call 59; refine (high_2 _ _ _ ha ha' hb hb').mono ?_; rintro e w' ⟨rfl, rfl⟩)
  go_ret
  exact ⟨rfl, rfl⟩

theorem product_40 (a b : Int) (w : World) (ha : 0 ≤ a) (ha' : a < 4294967296) (hb : 0 ≤ b) (hb' : b < 4294967296) : Calls Try.prog 31 #[.int .i64 40, .int .u32 a, .int .u32 b] w fun e w' => e = .returned (.int .u32 (Al.mulhsu a b)) ∧ w = w' := by
  go_enter Try.func31, Try.ntmps31
  go_wp2_with (go_at_call 59; refine (high_1 _ _ _ ha ha' hb hb').mono ?_; rintro e w' ⟨rfl, rfl⟩)
  go_ret
  exact ⟨rfl, rfl⟩

theorem product_41 (a b : Int) (w : World) (ha : 0 ≤ a) (ha' : a < 4294967296) (hb : 0 ≤ b) (hb' : b < 4294967296) : Calls Try.prog 31 #[.int .i64 41, .int .u32 a, .int .u32 b] w fun e w' => e = .returned (.int .u32 (Al.mulhu a b)) ∧ w = w' := by
  go_enter Try.func31, Try.ntmps31
  go_wp2_with (go_at_call 59; refine (high_0 _ _ _ ha ha' hb hb').mono ?_; rintro e w' ⟨rfl, rfl⟩)
  go_ret
  exact ⟨rfl, rfl⟩

theorem product_42 (a b : Int) (w : World) (ha : 0 ≤ a) (ha' : a < 4294967296) (hb : 0 ≤ b) (hb' : b < 4294967296) : Calls Try.prog 31 #[.int .i64 42, .int .u32 a, .int .u32 b] w fun e w' => e = .returned (.int .u32 (Al.div a b)) ∧ w = w' := by
  go_enter Try.func31, Try.ntmps31
  go_wp2_with (go_at_call 60; refine (divide_div _ _ _ ha ha' hb hb').mono ?_; rintro e w' ⟨rfl, rfl⟩)
  go_ret
  exact ⟨rfl, rfl⟩

theorem product_43 (a b : Int) (w : World) (ha : 0 ≤ a) (ha' : a < 4294967296) (hb : 0 ≤ b) (hb' : b < 4294967296) : Calls Try.prog 31 #[.int .i64 43, .int .u32 a, .int .u32 b] w fun e w' => e = .returned (.int .u32 (Al.divu a b)) ∧ w = w' := by
  go_enter Try.func31, Try.ntmps31
  go_wp2_with (go_at_call 60; refine (divide_divu _ _ _ ha ha' hb hb').mono ?_; rintro e w' ⟨rfl, rfl⟩)
  go_ret
  exact ⟨rfl, rfl⟩

theorem product_44 (a b : Int) (w : World) (ha : 0 ≤ a) (ha' : a < 4294967296) (hb : 0 ≤ b) (hb' : b < 4294967296) : Calls Try.prog 31 #[.int .i64 44, .int .u32 a, .int .u32 b] w fun e w' => e = .returned (.int .u32 (Al.rem a b)) ∧ w = w' := by
  go_enter Try.func31, Try.ntmps31
  go_wp2_with (go_at_call 60; refine (divide_rem _ _ _ ha ha' hb hb').mono ?_; rintro e w' ⟨rfl, rfl⟩)
  go_ret
  exact ⟨rfl, rfl⟩

theorem product_45 (a b : Int) (w : World) (ha : 0 ≤ a) (ha' : a < 4294967296) (hb : 0 ≤ b) (hb' : b < 4294967296) : Calls Try.prog 31 #[.int .i64 45, .int .u32 a, .int .u32 b] w fun e w' => e = .returned (.int .u32 (Al.remu a b)) ∧ w = w' := by
  go_enter Try.func31, Try.ntmps31
  go_wp2_with (go_at_call 60; refine (divide_remu _ _ _ ha ha' hb hb').mono ?_; rintro e w' ⟨rfl, rfl⟩)
  go_ret
  exact ⟨rfl, rfl⟩

theorem same_19 (w : World) : Calls Try.prog 27 #[.int .i64 19] w fun e w' => e = .returned (.int .i64 28) ∧ Below w.heap.size w w' := by
  go_enter Try.func27, Try.ntmps27
  go_wp2
  go_ret
  exact ⟨rfl, (Below.refl _ _).alloc (Nat.le_refl _) _⟩

theorem do_19 (a b : Int) (w : World) (ha : 0 ≤ a) (ha' : a < 4294967296) (hb : 0 ≤ b) (hb' : b < 4294967296) : Calls Try.prog 13 #[.int .i64 19, .int .u32 a, .int .u32 b] w fun e w' => e = .returned (.tuple #[.int .u32 (Al.add a b), .bool true]) ∧ Below w.heap.size w w' := by
  go_enter Try.func13, Try.ntmps13
  go_wp2_with (first | (go_at_call 27; refine (same_19 _).mono ?_; rintro e w1 ⟨rfl, hb1⟩))
  go_ret2
  exact ⟨rfl, hb1⟩

theorem same_20 (w : World) : Calls Try.prog 27 #[.int .i64 20] w fun e w' => e = .returned (.int .i64 31) ∧ Below w.heap.size w w' := by
  go_enter Try.func27, Try.ntmps27
  go_wp2
  go_ret
  exact ⟨rfl, (Below.refl _ _).alloc (Nat.le_refl _) _⟩

theorem do_20 (a b : Int) (w : World) (ha : 0 ≤ a) (ha' : a < 4294967296) (hb : 0 ≤ b) (hb' : b < 4294967296) : Calls Try.prog 13 #[.int .i64 20, .int .u32 a, .int .u32 b] w fun e w' => e = .returned (.tuple #[.int .u32 (Al.slt a b), .bool true]) ∧ Below w.heap.size w w' := by
  obtain ⟨u1, u2⟩ := Bt.wrap32_rng a
  obtain ⟨u3, u4⟩ := Bt.wrap32_rng b
  by_cases h : wrap32 a < wrap32 b
  · have E := Lib.hid (show Al.slt a b = 1 from if_pos h)
    go_enter Try.func13, Try.ntmps13
    go_wp2_with (first | (go_at_call 27; refine (same_20 _).mono ?_; rintro e w1 ⟨rfl, hb1⟩) | (go_at_call 30; refine (signed_c _ _ (by omega) (by omega)).mono ?_; rintro e w' ⟨rfl, rfl⟩) | (go_at_call 29; refine (one_c _ _).mono ?_; rintro e w' ⟨rfl, rfl⟩))
    go_ret2
    exact ⟨by rw [E.out]; rfl, hb1⟩
  · have E := Lib.hid (show Al.slt a b = 0 from if_neg h)
    go_enter Try.func13, Try.ntmps13
    go_wp2_with (first | (go_at_call 27; refine (same_20 _).mono ?_; rintro e w1 ⟨rfl, hb1⟩) | (go_at_call 30; refine (signed_c _ _ (by omega) (by omega)).mono ?_; rintro e w' ⟨rfl, rfl⟩) | (go_at_call 29; refine (one_c _ _).mono ?_; rintro e w' ⟨rfl, rfl⟩))
    go_ret2
    exact ⟨by rw [E.out]; rfl, hb1⟩

theorem same_21 (w : World) : Calls Try.prog 27 #[.int .i64 21] w fun e w' => e = .returned (.int .i64 32) ∧ Below w.heap.size w w' := by
  go_enter Try.func27, Try.ntmps27
  go_wp2
  go_ret
  exact ⟨rfl, (Below.refl _ _).alloc (Nat.le_refl _) _⟩

theorem do_21 (a b : Int) (w : World) (ha : 0 ≤ a) (ha' : a < 4294967296) (hb : 0 ≤ b) (hb' : b < 4294967296) : Calls Try.prog 13 #[.int .i64 21, .int .u32 a, .int .u32 b] w fun e w' => e = .returned (.tuple #[.int .u32 (Al.sltu a b), .bool true]) ∧ Below w.heap.size w w' := by
  by_cases h : a < b
  · have E := Lib.hid (show Al.sltu a b = 1 from if_pos h)
    go_enter Try.func13, Try.ntmps13
    go_wp2_with (first | (go_at_call 27; refine (same_21 _).mono ?_; rintro e w1 ⟨rfl, hb1⟩) | (go_at_call 29; refine (one_c _ _).mono ?_; rintro e w' ⟨rfl, rfl⟩))
    go_ret2
    exact ⟨by rw [E.out]; rfl, hb1⟩
  · have E := Lib.hid (show Al.sltu a b = 0 from if_neg h)
    go_enter Try.func13, Try.ntmps13
    go_wp2_with (first | (go_at_call 27; refine (same_21 _).mono ?_; rintro e w1 ⟨rfl, hb1⟩) | (go_at_call 29; refine (one_c _ _).mono ?_; rintro e w' ⟨rfl, rfl⟩))
    go_ret2
    exact ⟨by rw [E.out]; rfl, hb1⟩

theorem same_22 (w : World) : Calls Try.prog 27 #[.int .i64 22] w fun e w' => e = .returned (.int .i64 33) ∧ Below w.heap.size w w' := by
  go_enter Try.func27, Try.ntmps27
  go_wp2
  go_ret
  exact ⟨rfl, (Below.refl _ _).alloc (Nat.le_refl _) _⟩

theorem do_22 (a b : Int) (w : World) (ha : 0 ≤ a) (ha' : a < 4294967296) (hb : 0 ≤ b) (hb' : b < 4294967296) : Calls Try.prog 13 #[.int .i64 22, .int .u32 a, .int .u32 b] w fun e w' => e = .returned (.tuple #[.int .u32 (Al.xor a b), .bool true]) ∧ Below w.heap.size w w' := by
  go_enter Try.func13, Try.ntmps13
  go_wp2_with (first | (go_at_call 27; refine (same_22 _).mono ?_; rintro e w1 ⟨rfl, hb1⟩))
  go_ret2
  exact ⟨rfl, hb1⟩

theorem same_23 (w : World) : Calls Try.prog 27 #[.int .i64 23] w fun e w' => e = .returned (.int .i64 36) ∧ Below w.heap.size w w' := by
  go_enter Try.func27, Try.ntmps27
  go_wp2
  go_ret
  exact ⟨rfl, (Below.refl _ _).alloc (Nat.le_refl _) _⟩

theorem do_23 (a b : Int) (w : World) (ha : 0 ≤ a) (ha' : a < 4294967296) (hb : 0 ≤ b) (hb' : b < 4294967296) : Calls Try.prog 13 #[.int .i64 23, .int .u32 a, .int .u32 b] w fun e w' => e = .returned (.tuple #[.int .u32 (Al.or a b), .bool true]) ∧ Below w.heap.size w w' := by
  go_enter Try.func13, Try.ntmps13
  go_wp2_with (first | (go_at_call 27; refine (same_23 _).mono ?_; rintro e w1 ⟨rfl, hb1⟩))
  go_ret2
  exact ⟨rfl, hb1⟩

theorem same_24 (w : World) : Calls Try.prog 27 #[.int .i64 24] w fun e w' => e = .returned (.int .i64 37) ∧ Below w.heap.size w w' := by
  go_enter Try.func27, Try.ntmps27
  go_wp2
  go_ret
  exact ⟨rfl, (Below.refl _ _).alloc (Nat.le_refl _) _⟩

theorem do_24 (a b : Int) (w : World) (ha : 0 ≤ a) (ha' : a < 4294967296) (hb : 0 ≤ b) (hb' : b < 4294967296) : Calls Try.prog 13 #[.int .i64 24, .int .u32 a, .int .u32 b] w fun e w' => e = .returned (.tuple #[.int .u32 (Al.and a b), .bool true]) ∧ Below w.heap.size w w' := by
  go_enter Try.func13, Try.ntmps13
  go_wp2_with (first | (go_at_call 27; refine (same_24 _).mono ?_; rintro e w1 ⟨rfl, hb1⟩))
  go_ret2
  exact ⟨rfl, hb1⟩

theorem same_25 (w : World) : Calls Try.prog 27 #[.int .i64 25] w fun e w' => e = .returned (.int .i64 30) ∧ Below w.heap.size w w' := by
  go_enter Try.func27, Try.ntmps27
  go_wp2
  go_ret
  exact ⟨rfl, (Below.refl _ _).alloc (Nat.le_refl _) _⟩

theorem do_25 (a b : Int) (w : World) (ha : 0 ≤ a) (ha' : a < 4294967296) (hb : 0 ≤ b) (hb' : b < 4294967296) : Calls Try.prog 13 #[.int .i64 25, .int .u32 a, .int .u32 b] w fun e w' => e = .returned (.tuple #[.int .u32 (Al.sll a b), .bool true]) ∧ Below w.heap.size w w' := by
  go_enter Try.func13, Try.ntmps13
  go_wp2_with (first | (go_at_call 27; refine (same_25 _).mono ?_; rintro e w1 ⟨rfl, hb1⟩) | (go_at_call 28; refine (shift_sll _ _ _ ha ha' hb hb').mono ?_; rintro e w' ⟨rfl, rfl⟩))
  go_ret2
  exact ⟨rfl, hb1⟩

theorem same_26 (w : World) : Calls Try.prog 27 #[.int .i64 26] w fun e w' => e = .returned (.int .i64 34) ∧ Below w.heap.size w w' := by
  go_enter Try.func27, Try.ntmps27
  go_wp2
  go_ret
  exact ⟨rfl, (Below.refl _ _).alloc (Nat.le_refl _) _⟩

theorem do_26 (a b : Int) (w : World) (ha : 0 ≤ a) (ha' : a < 4294967296) (hb : 0 ≤ b) (hb' : b < 4294967296) : Calls Try.prog 13 #[.int .i64 26, .int .u32 a, .int .u32 b] w fun e w' => e = .returned (.tuple #[.int .u32 (Al.srl a b), .bool true]) ∧ Below w.heap.size w w' := by
  go_enter Try.func13, Try.ntmps13
  go_wp2_with (first | (go_at_call 27; refine (same_26 _).mono ?_; rintro e w1 ⟨rfl, hb1⟩) | (go_at_call 28; refine (shift_srl _ _ _ ha ha' hb hb').mono ?_; rintro e w' ⟨rfl, rfl⟩))
  go_ret2
  exact ⟨rfl, hb1⟩

theorem same_27 (w : World) : Calls Try.prog 27 #[.int .i64 27] w fun e w' => e = .returned (.int .i64 35) ∧ Below w.heap.size w w' := by
  go_enter Try.func27, Try.ntmps27
  go_wp2
  go_ret
  exact ⟨rfl, (Below.refl _ _).alloc (Nat.le_refl _) _⟩

theorem do_27 (a b : Int) (w : World) (ha : 0 ≤ a) (ha' : a < 4294967296) (hb : 0 ≤ b) (hb' : b < 4294967296) : Calls Try.prog 13 #[.int .i64 27, .int .u32 a, .int .u32 b] w fun e w' => e = .returned (.tuple #[.int .u32 (Al.sra a b), .bool true]) ∧ Below w.heap.size w w' := by
  go_enter Try.func13, Try.ntmps13
  go_wp2_with (first | (go_at_call 27; refine (same_27 _).mono ?_; rintro e w1 ⟨rfl, hb1⟩) | (go_at_call 28; refine (shift_sra _ _ _ ha ha' hb hb').mono ?_; rintro e w' ⟨rfl, rfl⟩))
  go_ret2
  exact ⟨rfl, hb1⟩

theorem same_28 (w : World) : Calls Try.prog 27 #[.int .i64 28] w fun e w' => e = .returned (.int .i64 28) ∧ Below w.heap.size w w' := by
  go_enter Try.func27, Try.ntmps27
  go_wp2
  go_ret
  exact ⟨rfl, Below.refl _ _⟩

theorem do_28 (a b : Int) (w : World) (ha : 0 ≤ a) (ha' : a < 4294967296) (hb : 0 ≤ b) (hb' : b < 4294967296) : Calls Try.prog 13 #[.int .i64 28, .int .u32 a, .int .u32 b] w fun e w' => e = .returned (.tuple #[.int .u32 (Al.add a b), .bool true]) ∧ Below w.heap.size w w' := by
  go_enter Try.func13, Try.ntmps13
  go_wp2_with (first | (go_at_call 27; refine (same_28 _).mono ?_; rintro e w1 ⟨rfl, hb1⟩))
  go_ret2
  exact ⟨rfl, hb1⟩

theorem same_29 (w : World) : Calls Try.prog 27 #[.int .i64 29] w fun e w' => e = .returned (.int .i64 29) ∧ Below w.heap.size w w' := by
  go_enter Try.func27, Try.ntmps27
  go_wp2
  go_ret
  exact ⟨rfl, Below.refl _ _⟩

theorem do_29 (a b : Int) (w : World) (ha : 0 ≤ a) (ha' : a < 4294967296) (hb : 0 ≤ b) (hb' : b < 4294967296) : Calls Try.prog 13 #[.int .i64 29, .int .u32 a, .int .u32 b] w fun e w' => e = .returned (.tuple #[.int .u32 (Al.sub a b), .bool true]) ∧ Below w.heap.size w w' := by
  go_enter Try.func13, Try.ntmps13
  go_wp2_with (first | (go_at_call 27; refine (same_29 _).mono ?_; rintro e w1 ⟨rfl, hb1⟩))
  go_ret2
  exact ⟨rfl, hb1⟩

theorem same_30 (w : World) : Calls Try.prog 27 #[.int .i64 30] w fun e w' => e = .returned (.int .i64 30) ∧ Below w.heap.size w w' := by
  go_enter Try.func27, Try.ntmps27
  go_wp2
  go_ret
  exact ⟨rfl, Below.refl _ _⟩

theorem do_30 (a b : Int) (w : World) (ha : 0 ≤ a) (ha' : a < 4294967296) (hb : 0 ≤ b) (hb' : b < 4294967296) : Calls Try.prog 13 #[.int .i64 30, .int .u32 a, .int .u32 b] w fun e w' => e = .returned (.tuple #[.int .u32 (Al.sll a b), .bool true]) ∧ Below w.heap.size w w' := by
  go_enter Try.func13, Try.ntmps13
  go_wp2_with (first | (go_at_call 27; refine (same_30 _).mono ?_; rintro e w1 ⟨rfl, hb1⟩) | (go_at_call 28; refine (shift_sll _ _ _ ha ha' hb hb').mono ?_; rintro e w' ⟨rfl, rfl⟩))
  go_ret2
  exact ⟨rfl, hb1⟩

theorem same_31 (w : World) : Calls Try.prog 27 #[.int .i64 31] w fun e w' => e = .returned (.int .i64 31) ∧ Below w.heap.size w w' := by
  go_enter Try.func27, Try.ntmps27
  go_wp2
  go_ret
  exact ⟨rfl, Below.refl _ _⟩

theorem do_31 (a b : Int) (w : World) (ha : 0 ≤ a) (ha' : a < 4294967296) (hb : 0 ≤ b) (hb' : b < 4294967296) : Calls Try.prog 13 #[.int .i64 31, .int .u32 a, .int .u32 b] w fun e w' => e = .returned (.tuple #[.int .u32 (Al.slt a b), .bool true]) ∧ Below w.heap.size w w' := by
  obtain ⟨u1, u2⟩ := Bt.wrap32_rng a
  obtain ⟨u3, u4⟩ := Bt.wrap32_rng b
  by_cases h : wrap32 a < wrap32 b
  · have E := Lib.hid (show Al.slt a b = 1 from if_pos h)
    go_enter Try.func13, Try.ntmps13
    go_wp2_with (first | (go_at_call 27; refine (same_31 _).mono ?_; rintro e w1 ⟨rfl, hb1⟩) | (go_at_call 30; refine (signed_c _ _ (by omega) (by omega)).mono ?_; rintro e w' ⟨rfl, rfl⟩) | (go_at_call 29; refine (one_c _ _).mono ?_; rintro e w' ⟨rfl, rfl⟩))
    go_ret2
    exact ⟨by rw [E.out]; rfl, hb1⟩
  · have E := Lib.hid (show Al.slt a b = 0 from if_neg h)
    go_enter Try.func13, Try.ntmps13
    go_wp2_with (first | (go_at_call 27; refine (same_31 _).mono ?_; rintro e w1 ⟨rfl, hb1⟩) | (go_at_call 30; refine (signed_c _ _ (by omega) (by omega)).mono ?_; rintro e w' ⟨rfl, rfl⟩) | (go_at_call 29; refine (one_c _ _).mono ?_; rintro e w' ⟨rfl, rfl⟩))
    go_ret2
    exact ⟨by rw [E.out]; rfl, hb1⟩

theorem same_32 (w : World) : Calls Try.prog 27 #[.int .i64 32] w fun e w' => e = .returned (.int .i64 32) ∧ Below w.heap.size w w' := by
  go_enter Try.func27, Try.ntmps27
  go_wp2
  go_ret
  exact ⟨rfl, Below.refl _ _⟩

theorem do_32 (a b : Int) (w : World) (ha : 0 ≤ a) (ha' : a < 4294967296) (hb : 0 ≤ b) (hb' : b < 4294967296) : Calls Try.prog 13 #[.int .i64 32, .int .u32 a, .int .u32 b] w fun e w' => e = .returned (.tuple #[.int .u32 (Al.sltu a b), .bool true]) ∧ Below w.heap.size w w' := by
  by_cases h : a < b
  · have E := Lib.hid (show Al.sltu a b = 1 from if_pos h)
    go_enter Try.func13, Try.ntmps13
    go_wp2_with (first | (go_at_call 27; refine (same_32 _).mono ?_; rintro e w1 ⟨rfl, hb1⟩) | (go_at_call 29; refine (one_c _ _).mono ?_; rintro e w' ⟨rfl, rfl⟩))
    go_ret2
    exact ⟨by rw [E.out]; rfl, hb1⟩
  · have E := Lib.hid (show Al.sltu a b = 0 from if_neg h)
    go_enter Try.func13, Try.ntmps13
    go_wp2_with (first | (go_at_call 27; refine (same_32 _).mono ?_; rintro e w1 ⟨rfl, hb1⟩) | (go_at_call 29; refine (one_c _ _).mono ?_; rintro e w' ⟨rfl, rfl⟩))
    go_ret2
    exact ⟨by rw [E.out]; rfl, hb1⟩

theorem same_33 (w : World) : Calls Try.prog 27 #[.int .i64 33] w fun e w' => e = .returned (.int .i64 33) ∧ Below w.heap.size w w' := by
  go_enter Try.func27, Try.ntmps27
  go_wp2
  go_ret
  exact ⟨rfl, Below.refl _ _⟩

theorem do_33 (a b : Int) (w : World) (ha : 0 ≤ a) (ha' : a < 4294967296) (hb : 0 ≤ b) (hb' : b < 4294967296) : Calls Try.prog 13 #[.int .i64 33, .int .u32 a, .int .u32 b] w fun e w' => e = .returned (.tuple #[.int .u32 (Al.xor a b), .bool true]) ∧ Below w.heap.size w w' := by
  go_enter Try.func13, Try.ntmps13
  go_wp2_with (first | (go_at_call 27; refine (same_33 _).mono ?_; rintro e w1 ⟨rfl, hb1⟩))
  go_ret2
  exact ⟨rfl, hb1⟩

theorem same_34 (w : World) : Calls Try.prog 27 #[.int .i64 34] w fun e w' => e = .returned (.int .i64 34) ∧ Below w.heap.size w w' := by
  go_enter Try.func27, Try.ntmps27
  go_wp2
  go_ret
  exact ⟨rfl, Below.refl _ _⟩

theorem do_34 (a b : Int) (w : World) (ha : 0 ≤ a) (ha' : a < 4294967296) (hb : 0 ≤ b) (hb' : b < 4294967296) : Calls Try.prog 13 #[.int .i64 34, .int .u32 a, .int .u32 b] w fun e w' => e = .returned (.tuple #[.int .u32 (Al.srl a b), .bool true]) ∧ Below w.heap.size w w' := by
  go_enter Try.func13, Try.ntmps13
  go_wp2_with (first | (go_at_call 27; refine (same_34 _).mono ?_; rintro e w1 ⟨rfl, hb1⟩) | (go_at_call 28; refine (shift_srl _ _ _ ha ha' hb hb').mono ?_; rintro e w' ⟨rfl, rfl⟩))
  go_ret2
  exact ⟨rfl, hb1⟩

theorem same_35 (w : World) : Calls Try.prog 27 #[.int .i64 35] w fun e w' => e = .returned (.int .i64 35) ∧ Below w.heap.size w w' := by
  go_enter Try.func27, Try.ntmps27
  go_wp2
  go_ret
  exact ⟨rfl, Below.refl _ _⟩

theorem do_35 (a b : Int) (w : World) (ha : 0 ≤ a) (ha' : a < 4294967296) (hb : 0 ≤ b) (hb' : b < 4294967296) : Calls Try.prog 13 #[.int .i64 35, .int .u32 a, .int .u32 b] w fun e w' => e = .returned (.tuple #[.int .u32 (Al.sra a b), .bool true]) ∧ Below w.heap.size w w' := by
  go_enter Try.func13, Try.ntmps13
  go_wp2_with (first | (go_at_call 27; refine (same_35 _).mono ?_; rintro e w1 ⟨rfl, hb1⟩) | (go_at_call 28; refine (shift_sra _ _ _ ha ha' hb hb').mono ?_; rintro e w' ⟨rfl, rfl⟩))
  go_ret2
  exact ⟨rfl, hb1⟩

theorem same_36 (w : World) : Calls Try.prog 27 #[.int .i64 36] w fun e w' => e = .returned (.int .i64 36) ∧ Below w.heap.size w w' := by
  go_enter Try.func27, Try.ntmps27
  go_wp2
  go_ret
  exact ⟨rfl, Below.refl _ _⟩

theorem do_36 (a b : Int) (w : World) (ha : 0 ≤ a) (ha' : a < 4294967296) (hb : 0 ≤ b) (hb' : b < 4294967296) : Calls Try.prog 13 #[.int .i64 36, .int .u32 a, .int .u32 b] w fun e w' => e = .returned (.tuple #[.int .u32 (Al.or a b), .bool true]) ∧ Below w.heap.size w w' := by
  go_enter Try.func13, Try.ntmps13
  go_wp2_with (first | (go_at_call 27; refine (same_36 _).mono ?_; rintro e w1 ⟨rfl, hb1⟩))
  go_ret2
  exact ⟨rfl, hb1⟩

theorem same_37 (w : World) : Calls Try.prog 27 #[.int .i64 37] w fun e w' => e = .returned (.int .i64 37) ∧ Below w.heap.size w w' := by
  go_enter Try.func27, Try.ntmps27
  go_wp2
  go_ret
  exact ⟨rfl, Below.refl _ _⟩

theorem do_37 (a b : Int) (w : World) (ha : 0 ≤ a) (ha' : a < 4294967296) (hb : 0 ≤ b) (hb' : b < 4294967296) : Calls Try.prog 13 #[.int .i64 37, .int .u32 a, .int .u32 b] w fun e w' => e = .returned (.tuple #[.int .u32 (Al.and a b), .bool true]) ∧ Below w.heap.size w w' := by
  go_enter Try.func13, Try.ntmps13
  go_wp2_with (first | (go_at_call 27; refine (same_37 _).mono ?_; rintro e w1 ⟨rfl, hb1⟩))
  go_ret2
  exact ⟨rfl, hb1⟩

theorem same_38 (w : World) : Calls Try.prog 27 #[.int .i64 38] w fun e w' => e = .returned (.int .i64 38) ∧ Below w.heap.size w w' := by
  go_enter Try.func27, Try.ntmps27
  go_wp2
  go_ret
  exact ⟨rfl, Below.refl _ _⟩

theorem do_38 (a b : Int) (w : World) (ha : 0 ≤ a) (ha' : a < 4294967296) (hb : 0 ≤ b) (hb' : b < 4294967296) : Calls Try.prog 13 #[.int .i64 38, .int .u32 a, .int .u32 b] w fun e w' => e = .returned (.tuple #[.int .u32 (Al.mul a b), .bool true]) ∧ Below w.heap.size w w' := by
  go_enter Try.func13, Try.ntmps13
  go_wp2_with (first | (go_at_call 27; refine (same_38 _).mono ?_; rintro e w1 ⟨rfl, hb1⟩) | (go_at_call 31; refine (product_38 _ _ _ ha ha' hb hb').mono ?_; rintro e w' ⟨rfl, rfl⟩))
  go_ret2
  exact ⟨rfl, hb1⟩

theorem same_39 (w : World) : Calls Try.prog 27 #[.int .i64 39] w fun e w' => e = .returned (.int .i64 39) ∧ Below w.heap.size w w' := by
  go_enter Try.func27, Try.ntmps27
  go_wp2
  go_ret
  exact ⟨rfl, Below.refl _ _⟩

theorem do_39 (a b : Int) (w : World) (ha : 0 ≤ a) (ha' : a < 4294967296) (hb : 0 ≤ b) (hb' : b < 4294967296) : Calls Try.prog 13 #[.int .i64 39, .int .u32 a, .int .u32 b] w fun e w' => e = .returned (.tuple #[.int .u32 (Al.mulh a b), .bool true]) ∧ Below w.heap.size w w' := by
  go_enter Try.func13, Try.ntmps13
  go_wp2_with (first | (go_at_call 27; refine (same_39 _).mono ?_; rintro e w1 ⟨rfl, hb1⟩) | (go_at_call 31; refine (product_39 _ _ _ ha ha' hb hb').mono ?_; rintro e w' ⟨rfl, rfl⟩))
  go_ret2
  exact ⟨rfl, hb1⟩

theorem same_40 (w : World) : Calls Try.prog 27 #[.int .i64 40] w fun e w' => e = .returned (.int .i64 40) ∧ Below w.heap.size w w' := by
  go_enter Try.func27, Try.ntmps27
  go_wp2
  go_ret
  exact ⟨rfl, Below.refl _ _⟩

theorem do_40 (a b : Int) (w : World) (ha : 0 ≤ a) (ha' : a < 4294967296) (hb : 0 ≤ b) (hb' : b < 4294967296) : Calls Try.prog 13 #[.int .i64 40, .int .u32 a, .int .u32 b] w fun e w' => e = .returned (.tuple #[.int .u32 (Al.mulhsu a b), .bool true]) ∧ Below w.heap.size w w' := by
  go_enter Try.func13, Try.ntmps13
  go_wp2_with (first | (go_at_call 27; refine (same_40 _).mono ?_; rintro e w1 ⟨rfl, hb1⟩) | (go_at_call 31; refine (product_40 _ _ _ ha ha' hb hb').mono ?_; rintro e w' ⟨rfl, rfl⟩))
  go_ret2
  exact ⟨rfl, hb1⟩

theorem same_41 (w : World) : Calls Try.prog 27 #[.int .i64 41] w fun e w' => e = .returned (.int .i64 41) ∧ Below w.heap.size w w' := by
  go_enter Try.func27, Try.ntmps27
  go_wp2
  go_ret
  exact ⟨rfl, Below.refl _ _⟩

theorem do_41 (a b : Int) (w : World) (ha : 0 ≤ a) (ha' : a < 4294967296) (hb : 0 ≤ b) (hb' : b < 4294967296) : Calls Try.prog 13 #[.int .i64 41, .int .u32 a, .int .u32 b] w fun e w' => e = .returned (.tuple #[.int .u32 (Al.mulhu a b), .bool true]) ∧ Below w.heap.size w w' := by
  go_enter Try.func13, Try.ntmps13
  go_wp2_with (first | (go_at_call 27; refine (same_41 _).mono ?_; rintro e w1 ⟨rfl, hb1⟩) | (go_at_call 31; refine (product_41 _ _ _ ha ha' hb hb').mono ?_; rintro e w' ⟨rfl, rfl⟩))
  go_ret2
  exact ⟨rfl, hb1⟩

theorem same_42 (w : World) : Calls Try.prog 27 #[.int .i64 42] w fun e w' => e = .returned (.int .i64 42) ∧ Below w.heap.size w w' := by
  go_enter Try.func27, Try.ntmps27
  go_wp2
  go_ret
  exact ⟨rfl, Below.refl _ _⟩

theorem do_42 (a b : Int) (w : World) (ha : 0 ≤ a) (ha' : a < 4294967296) (hb : 0 ≤ b) (hb' : b < 4294967296) : Calls Try.prog 13 #[.int .i64 42, .int .u32 a, .int .u32 b] w fun e w' => e = .returned (.tuple #[.int .u32 (Al.div a b), .bool true]) ∧ Below w.heap.size w w' := by
  go_enter Try.func13, Try.ntmps13
  go_wp2_with (first | (go_at_call 27; refine (same_42 _).mono ?_; rintro e w1 ⟨rfl, hb1⟩) | (go_at_call 31; refine (product_42 _ _ _ ha ha' hb hb').mono ?_; rintro e w' ⟨rfl, rfl⟩))
  go_ret2
  exact ⟨rfl, hb1⟩

theorem same_43 (w : World) : Calls Try.prog 27 #[.int .i64 43] w fun e w' => e = .returned (.int .i64 43) ∧ Below w.heap.size w w' := by
  go_enter Try.func27, Try.ntmps27
  go_wp2
  go_ret
  exact ⟨rfl, Below.refl _ _⟩

theorem do_43 (a b : Int) (w : World) (ha : 0 ≤ a) (ha' : a < 4294967296) (hb : 0 ≤ b) (hb' : b < 4294967296) : Calls Try.prog 13 #[.int .i64 43, .int .u32 a, .int .u32 b] w fun e w' => e = .returned (.tuple #[.int .u32 (Al.divu a b), .bool true]) ∧ Below w.heap.size w w' := by
  go_enter Try.func13, Try.ntmps13
  go_wp2_with (first | (go_at_call 27; refine (same_43 _).mono ?_; rintro e w1 ⟨rfl, hb1⟩) | (go_at_call 31; refine (product_43 _ _ _ ha ha' hb hb').mono ?_; rintro e w' ⟨rfl, rfl⟩))
  go_ret2
  exact ⟨rfl, hb1⟩

theorem same_44 (w : World) : Calls Try.prog 27 #[.int .i64 44] w fun e w' => e = .returned (.int .i64 44) ∧ Below w.heap.size w w' := by
  go_enter Try.func27, Try.ntmps27
  go_wp2
  go_ret
  exact ⟨rfl, Below.refl _ _⟩

theorem do_44 (a b : Int) (w : World) (ha : 0 ≤ a) (ha' : a < 4294967296) (hb : 0 ≤ b) (hb' : b < 4294967296) : Calls Try.prog 13 #[.int .i64 44, .int .u32 a, .int .u32 b] w fun e w' => e = .returned (.tuple #[.int .u32 (Al.rem a b), .bool true]) ∧ Below w.heap.size w w' := by
  go_enter Try.func13, Try.ntmps13
  go_wp2_with (first | (go_at_call 27; refine (same_44 _).mono ?_; rintro e w1 ⟨rfl, hb1⟩) | (go_at_call 31; refine (product_44 _ _ _ ha ha' hb hb').mono ?_; rintro e w' ⟨rfl, rfl⟩))
  go_ret2
  exact ⟨rfl, hb1⟩

theorem same_45 (w : World) : Calls Try.prog 27 #[.int .i64 45] w fun e w' => e = .returned (.int .i64 45) ∧ Below w.heap.size w w' := by
  go_enter Try.func27, Try.ntmps27
  go_wp2
  go_ret
  exact ⟨rfl, Below.refl _ _⟩

theorem do_45 (a b : Int) (w : World) (ha : 0 ≤ a) (ha' : a < 4294967296) (hb : 0 ≤ b) (hb' : b < 4294967296) : Calls Try.prog 13 #[.int .i64 45, .int .u32 a, .int .u32 b] w fun e w' => e = .returned (.tuple #[.int .u32 (Al.remu a b), .bool true]) ∧ Below w.heap.size w w' := by
  go_enter Try.func13, Try.ntmps13
  go_wp2_with (first | (go_at_call 27; refine (same_45 _).mono ?_; rintro e w1 ⟨rfl, hb1⟩) | (go_at_call 31; refine (product_45 _ _ _ ha ha' hb hb').mono ?_; rintro e w' ⟨rfl, rfl⟩))
  go_ret2
  exact ⟨rfl, hb1⟩

theorem same_low (n : Int) (w : World) (h : n < 19) : Calls Try.prog 27 #[.int .i64 n] w fun e w' => e = .returned (.int .i64 n) ∧ w = w' := by
  go_enter Try.func27, Try.ntmps27
  go_wp2
  go_ret
  exact ⟨rfl, rfl⟩

theorem do_low (n a b : Int) (w : World) (h : n < 19) : Calls Try.prog 13 #[.int .i64 n, .int .u32 a, .int .u32 b] w fun e w' => e = .returned (.tuple #[.int .u32 0, .bool false]) ∧ Below w.heap.size w w' := by
  go_enter Try.func13, Try.ntmps13
  go_wp2_with (go_at_call 27; refine (same_low _ _ h).mono ?_; rintro e w' ⟨rfl, rfl⟩)
  go_ret2
  exact ⟨rfl, Below.refl _ _⟩

theorem same_high (n : Int) (w : World) (h : 45 < n) : Calls Try.prog 27 #[.int .i64 n] w fun e w' => e = .returned (.int .i64 n) ∧ w = w' := by
  go_enter Try.func27, Try.ntmps27
  go_wp2
  go_ret
  exact ⟨rfl, rfl⟩

theorem do_high (n a b : Int) (w : World) (h : 45 < n) : Calls Try.prog 13 #[.int .i64 n, .int .u32 a, .int .u32 b] w fun e w' => e = .returned (.tuple #[.int .u32 0, .bool false]) ∧ Below w.heap.size w w' := by
  go_enter Try.func13, Try.ntmps13
  go_wp2_with (go_at_call 27; refine (same_high _ _ h).mono ?_; rintro e w' ⟨rfl, rfl⟩)
  go_ret2
  exact ⟨rfl, Below.refl _ _⟩

end Ref12
end Go.Proofs.Ytjecffjiaappoaa

/- Contracts of package alu and its reference: branches, what is put in the place of what there was, what is read, how many bytes. -/
import Derived.Test.YtjecffjiaappoaaAlu
import Derived.Test.YtjecffjiaappoaaRef12
namespace Go.Proofs.Ytjecffjiaappoaa
open Go.RowKit
set_option linter.unusedVariables false
attribute [local go_sem] max2_int min2_int max_two min_two
theorem ret_back {x y : Int} {v : Value} (h : x = y) : Ending.returned (.tuple #[.int .u32 x, v]) = .returned (.tuple #[.int .u32 y, v]) := by rw [h]
namespace Alu

theorem branch_5 (a b : Int) (w : World) (ha : 0 ≤ a) (ha' : a < 4294967296) (hb : 0 ≤ b) (hb' : b < 4294967296) : Calls Try.prog 14 #[.int .i64 5, .int .u32 a, .int .u32 b] w fun e w' => e = .returned (.tuple #[.bool (a == b), .bool true]) ∧ w = w' := by
  obtain ⟨u1, u2⟩ := Bt.wrap32_rng a
  obtain ⟨u3, u4⟩ := Bt.wrap32_rng b
  go_enter Try.func14, Try.ntmps14
  go_wp2
  go_ret2
  exact ⟨rfl, rfl⟩

theorem branch_6 (a b : Int) (w : World) (ha : 0 ≤ a) (ha' : a < 4294967296) (hb : 0 ≤ b) (hb' : b < 4294967296) : Calls Try.prog 14 #[.int .i64 6, .int .u32 a, .int .u32 b] w fun e w' => e = .returned (.tuple #[.bool (a != b), .bool true]) ∧ w = w' := by
  obtain ⟨u1, u2⟩ := Bt.wrap32_rng a
  obtain ⟨u3, u4⟩ := Bt.wrap32_rng b
  go_enter Try.func14, Try.ntmps14
  go_wp2
  go_ret2
  exact ⟨rfl, rfl⟩

theorem branch_7 (a b : Int) (w : World) (ha : 0 ≤ a) (ha' : a < 4294967296) (hb : 0 ≤ b) (hb' : b < 4294967296) : Calls Try.prog 14 #[.int .i64 7, .int .u32 a, .int .u32 b] w fun e w' => e = .returned (.tuple #[.bool (decide (wrap32 a < wrap32 b)), .bool true]) ∧ w = w' := by
  obtain ⟨u1, u2⟩ := Bt.wrap32_rng a
  obtain ⟨u3, u4⟩ := Bt.wrap32_rng b
  go_enter Try.func14, Try.ntmps14
  go_wp2
  go_ret2
  exact ⟨rfl, rfl⟩

theorem branch_8 (a b : Int) (w : World) (ha : 0 ≤ a) (ha' : a < 4294967296) (hb : 0 ≤ b) (hb' : b < 4294967296) : Calls Try.prog 14 #[.int .i64 8, .int .u32 a, .int .u32 b] w fun e w' => e = .returned (.tuple #[.bool (decide (wrap32 b ≤ wrap32 a)), .bool true]) ∧ w = w' := by
  obtain ⟨u1, u2⟩ := Bt.wrap32_rng a
  obtain ⟨u3, u4⟩ := Bt.wrap32_rng b
  go_enter Try.func14, Try.ntmps14
  go_wp2
  go_ret2
  exact ⟨rfl, rfl⟩

theorem branch_9 (a b : Int) (w : World) (ha : 0 ≤ a) (ha' : a < 4294967296) (hb : 0 ≤ b) (hb' : b < 4294967296) : Calls Try.prog 14 #[.int .i64 9, .int .u32 a, .int .u32 b] w fun e w' => e = .returned (.tuple #[.bool (decide (a < b)), .bool true]) ∧ w = w' := by
  obtain ⟨u1, u2⟩ := Bt.wrap32_rng a
  obtain ⟨u3, u4⟩ := Bt.wrap32_rng b
  go_enter Try.func14, Try.ntmps14
  go_wp2
  go_ret2
  exact ⟨rfl, rfl⟩

theorem branch_10 (a b : Int) (w : World) (ha : 0 ≤ a) (ha' : a < 4294967296) (hb : 0 ≤ b) (hb' : b < 4294967296) : Calls Try.prog 14 #[.int .i64 10, .int .u32 a, .int .u32 b] w fun e w' => e = .returned (.tuple #[.bool (decide (b ≤ a)), .bool true]) ∧ w = w' := by
  obtain ⟨u1, u2⟩ := Bt.wrap32_rng a
  obtain ⟨u3, u4⟩ := Bt.wrap32_rng b
  go_enter Try.func14, Try.ntmps14
  go_wp2
  go_ret2
  exact ⟨rfl, rfl⟩

theorem branch_low (n a b : Int) (w : World) (HN : Hid (-9223372036854775808 ≤ n ∧ n ≤ 9223372036854775807)) (h : n < 5) : Calls Try.prog 14 #[.int .i64 n, .int .u32 a, .int .u32 b] w fun e w' => e = .returned (.tuple #[.bool false, .bool false]) ∧ w = w' := by
  go_enter Try.func14, Try.ntmps14
  go_wp2
  go_ret2
  exact ⟨rfl, rfl⟩

theorem branch_high (n a b : Int) (w : World) (HN : Hid (-9223372036854775808 ≤ n ∧ n ≤ 9223372036854775807)) (h : 10 < n) : Calls Try.prog 14 #[.int .i64 n, .int .u32 a, .int .u32 b] w fun e w' => e = .returned (.tuple #[.bool false, .bool false]) ∧ w = w' := by
  go_enter Try.func14, Try.ntmps14
  go_wp2
  go_ret2
  exact ⟨rfl, rfl⟩

theorem amo_48 (a b : Int) (w : World) (ha : 0 ≤ a) (ha' : a < 4294967296) (hb : 0 ≤ b) (hb' : b < 4294967296) : Calls Try.prog 16 #[.int .i64 48, .int .u32 a, .int .u32 b] w fun e w' => e = .returned (.tuple #[.int .u32 (b), .bool true]) ∧ w = w' := by
  go_enter Try.func16, Try.ntmps16
  go_wp2
  go_ret2
  exact ⟨rfl, rfl⟩

theorem amo_49 (a b : Int) (w : World) (ha : 0 ≤ a) (ha' : a < 4294967296) (hb : 0 ≤ b) (hb' : b < 4294967296) : Calls Try.prog 16 #[.int .i64 49, .int .u32 a, .int .u32 b] w fun e w' => e = .returned (.tuple #[.int .u32 (Al.add a b), .bool true]) ∧ w = w' := by
  go_enter Try.func16, Try.ntmps16
  go_wp2
  go_ret2
  exact ⟨rfl, rfl⟩

theorem amo_50 (a b : Int) (w : World) (ha : 0 ≤ a) (ha' : a < 4294967296) (hb : 0 ≤ b) (hb' : b < 4294967296) : Calls Try.prog 16 #[.int .i64 50, .int .u32 a, .int .u32 b] w fun e w' => e = .returned (.tuple #[.int .u32 (Al.xor a b), .bool true]) ∧ w = w' := by
  go_enter Try.func16, Try.ntmps16
  go_wp2
  go_ret2
  exact ⟨rfl, rfl⟩

theorem amo_51 (a b : Int) (w : World) (ha : 0 ≤ a) (ha' : a < 4294967296) (hb : 0 ≤ b) (hb' : b < 4294967296) : Calls Try.prog 16 #[.int .i64 51, .int .u32 a, .int .u32 b] w fun e w' => e = .returned (.tuple #[.int .u32 (Al.and a b), .bool true]) ∧ w = w' := by
  go_enter Try.func16, Try.ntmps16
  go_wp2
  go_ret2
  exact ⟨rfl, rfl⟩

theorem amo_52 (a b : Int) (w : World) (ha : 0 ≤ a) (ha' : a < 4294967296) (hb : 0 ≤ b) (hb' : b < 4294967296) : Calls Try.prog 16 #[.int .i64 52, .int .u32 a, .int .u32 b] w fun e w' => e = .returned (.tuple #[.int .u32 (Al.or a b), .bool true]) ∧ w = w' := by
  go_enter Try.func16, Try.ntmps16
  go_wp2
  go_ret2
  exact ⟨rfl, rfl⟩

theorem amo_53 (a b : Int) (w : World) (ha : 0 ≤ a) (ha' : a < 4294967296) (hb : 0 ≤ b) (hb' : b < 4294967296) : Calls Try.prog 16 #[.int .i64 53, .int .u32 a, .int .u32 b] w fun e w' => e = .returned (.tuple #[.int .u32 (Al.smin a b), .bool true]) ∧ w = w' := by
  obtain ⟨u1, u2⟩ := Bt.wrap32_rng a
  obtain ⟨u3, u4⟩ := Bt.wrap32_rng b
  rcases Al.three_s a b ha ha' hb hb' with ⟨h, h2, E0⟩ | ⟨h, h2, E0⟩ | ⟨rfl, E0⟩
  · have E := Lib.hid E0
    clear E0
    go_enter Try.func16, Try.ntmps16
    go_wp2
    go_ret2
    exact ⟨by rw [E.out.1]; first | rfl | exact ret_back (Al.back ha ha'), rfl⟩
  · have E := Lib.hid E0
    clear E0
    go_enter Try.func16, Try.ntmps16
    go_wp2
    go_ret2
    exact ⟨by rw [E.out.1]; first | rfl | exact ret_back (Al.back hb hb'), rfl⟩
  · have E := Lib.hid E0
    clear E0
    go_enter Try.func16, Try.ntmps16
    go_wp2
    go_ret2
    exact ⟨by rw [E.out.1]; first | rfl | exact ret_back (Al.back ha ha'), rfl⟩

theorem amo_54 (a b : Int) (w : World) (ha : 0 ≤ a) (ha' : a < 4294967296) (hb : 0 ≤ b) (hb' : b < 4294967296) : Calls Try.prog 16 #[.int .i64 54, .int .u32 a, .int .u32 b] w fun e w' => e = .returned (.tuple #[.int .u32 (Al.smax a b), .bool true]) ∧ w = w' := by
  obtain ⟨u1, u2⟩ := Bt.wrap32_rng a
  obtain ⟨u3, u4⟩ := Bt.wrap32_rng b
  rcases Al.three_s a b ha ha' hb hb' with ⟨h, h2, E0⟩ | ⟨h, h2, E0⟩ | ⟨rfl, E0⟩
  · have E := Lib.hid E0
    clear E0
    go_enter Try.func16, Try.ntmps16
    go_wp2
    go_ret2
    exact ⟨by rw [E.out.2]; first | rfl | exact ret_back (Al.back hb hb'), rfl⟩
  · have E := Lib.hid E0
    clear E0
    go_enter Try.func16, Try.ntmps16
    go_wp2
    go_ret2
    exact ⟨by rw [E.out.2]; first | rfl | exact ret_back (Al.back ha ha'), rfl⟩
  · have E := Lib.hid E0
    clear E0
    go_enter Try.func16, Try.ntmps16
    go_wp2
    go_ret2
    exact ⟨by rw [E.out.2]; first | rfl | exact ret_back (Al.back ha ha'), rfl⟩

theorem amo_55 (a b : Int) (w : World) (ha : 0 ≤ a) (ha' : a < 4294967296) (hb : 0 ≤ b) (hb' : b < 4294967296) : Calls Try.prog 16 #[.int .i64 55, .int .u32 a, .int .u32 b] w fun e w' => e = .returned (.tuple #[.int .u32 (Al.umin a b), .bool true]) ∧ w = w' := by
  obtain ⟨u1, u2⟩ := Bt.wrap32_rng a
  obtain ⟨u3, u4⟩ := Bt.wrap32_rng b
  rcases Al.three_u a b ha ha' hb hb' with ⟨h, h2, E0⟩ | ⟨h, h2, E0⟩ | ⟨rfl, E0⟩
  · have E := Lib.hid E0
    clear E0
    go_enter Try.func16, Try.ntmps16
    go_wp2
    go_ret2
    exact ⟨by rw [E.out.1]; first | rfl | exact ret_back (Al.back ha ha'), rfl⟩
  · have E := Lib.hid E0
    clear E0
    go_enter Try.func16, Try.ntmps16
    go_wp2
    go_ret2
    exact ⟨by rw [E.out.1]; first | rfl | exact ret_back (Al.back hb hb'), rfl⟩
  · have E := Lib.hid E0
    clear E0
    go_enter Try.func16, Try.ntmps16
    go_wp2
    go_ret2
    exact ⟨by rw [E.out.1]; first | rfl | exact ret_back (Al.back ha ha'), rfl⟩

theorem amo_56 (a b : Int) (w : World) (ha : 0 ≤ a) (ha' : a < 4294967296) (hb : 0 ≤ b) (hb' : b < 4294967296) : Calls Try.prog 16 #[.int .i64 56, .int .u32 a, .int .u32 b] w fun e w' => e = .returned (.tuple #[.int .u32 (Al.umax a b), .bool true]) ∧ w = w' := by
  obtain ⟨u1, u2⟩ := Bt.wrap32_rng a
  obtain ⟨u3, u4⟩ := Bt.wrap32_rng b
  rcases Al.three_u a b ha ha' hb hb' with ⟨h, h2, E0⟩ | ⟨h, h2, E0⟩ | ⟨rfl, E0⟩
  · have E := Lib.hid E0
    clear E0
    go_enter Try.func16, Try.ntmps16
    go_wp2
    go_ret2
    exact ⟨by rw [E.out.2]; first | rfl | exact ret_back (Al.back hb hb'), rfl⟩
  · have E := Lib.hid E0
    clear E0
    go_enter Try.func16, Try.ntmps16
    go_wp2
    go_ret2
    exact ⟨by rw [E.out.2]; first | rfl | exact ret_back (Al.back ha ha'), rfl⟩
  · have E := Lib.hid E0
    clear E0
    go_enter Try.func16, Try.ntmps16
    go_wp2
    go_ret2
    exact ⟨by rw [E.out.2]; first | rfl | exact ret_back (Al.back ha ha'), rfl⟩

theorem amo_low (n a b : Int) (w : World) (HN : Hid (-9223372036854775808 ≤ n ∧ n ≤ 9223372036854775807)) (h : n < 48) : Calls Try.prog 16 #[.int .i64 n, .int .u32 a, .int .u32 b] w fun e w' => e = .returned (.tuple #[.int .u32 0, .bool false]) ∧ w = w' := by
  go_enter Try.func16, Try.ntmps16
  go_wp2
  go_ret2
  exact ⟨rfl, rfl⟩

theorem amo_high (n a b : Int) (w : World) (HN : Hid (-9223372036854775808 ≤ n ∧ n ≤ 9223372036854775807)) (h : 56 < n) : Calls Try.prog 16 #[.int .i64 n, .int .u32 a, .int .u32 b] w fun e w' => e = .returned (.tuple #[.int .u32 0, .bool false]) ∧ w = w' := by
  go_enter Try.func16, Try.ntmps16
  go_wp2
  go_ret2
  exact ⟨rfl, rfl⟩

theorem load_11 (a : Int) (w : World) (ha : 0 ≤ a) (ha' : a < 4294967296) : Calls Try.prog 18 #[.int .i64 11, .int .u32 a] w fun e w' => e = .returned (.tuple #[.int .u32 (Bt.sign (a % 256) 8), .bool true]) ∧ w = w' := by
  have m1 := Al.and255 ha ha'
  have m2 := Al.and65535 ha ha'
  go_enter Try.func18, Try.ntmps18
  go_wp2_with (first | (go_at_call 33; refine (Bits.sign_c _ _ _ (by omega) (by omega)).mono ?_; rintro e w' ⟨rfl, rfl⟩))
  go_ret2
  exact ⟨rfl, rfl⟩

theorem load_12 (a : Int) (w : World) (ha : 0 ≤ a) (ha' : a < 4294967296) : Calls Try.prog 18 #[.int .i64 12, .int .u32 a] w fun e w' => e = .returned (.tuple #[.int .u32 (Bt.sign (a % 65536) 16), .bool true]) ∧ w = w' := by
  have m1 := Al.and255 ha ha'
  have m2 := Al.and65535 ha ha'
  go_enter Try.func18, Try.ntmps18
  go_wp2_with (first | (go_at_call 33; refine (Bits.sign_c _ _ _ (by omega) (by omega)).mono ?_; rintro e w' ⟨rfl, rfl⟩))
  go_ret2
  exact ⟨rfl, rfl⟩

theorem load_13 (a : Int) (w : World) (ha : 0 ≤ a) (ha' : a < 4294967296) : Calls Try.prog 18 #[.int .i64 13, .int .u32 a] w fun e w' => e = .returned (.tuple #[.int .u32 (a), .bool true]) ∧ w = w' := by
  have m1 := Al.and255 ha ha'
  have m2 := Al.and65535 ha ha'
  go_enter Try.func18, Try.ntmps18
  go_wp2_with (first | (go_at_call 33; refine (Bits.sign_c _ _ _ (by omega) (by omega)).mono ?_; rintro e w' ⟨rfl, rfl⟩))
  go_ret2
  exact ⟨rfl, rfl⟩

theorem load_14 (a : Int) (w : World) (ha : 0 ≤ a) (ha' : a < 4294967296) : Calls Try.prog 18 #[.int .i64 14, .int .u32 a] w fun e w' => e = .returned (.tuple #[.int .u32 (a % 256), .bool true]) ∧ w = w' := by
  have m1 := Al.and255 ha ha'
  have m2 := Al.and65535 ha ha'
  go_enter Try.func18, Try.ntmps18
  go_wp2_with (first | (go_at_call 33; refine (Bits.sign_c _ _ _ (by omega) (by omega)).mono ?_; rintro e w' ⟨rfl, rfl⟩))
  go_ret2
  exact ⟨rfl, rfl⟩

theorem load_15 (a : Int) (w : World) (ha : 0 ≤ a) (ha' : a < 4294967296) : Calls Try.prog 18 #[.int .i64 15, .int .u32 a] w fun e w' => e = .returned (.tuple #[.int .u32 (a % 65536), .bool true]) ∧ w = w' := by
  have m1 := Al.and255 ha ha'
  have m2 := Al.and65535 ha ha'
  go_enter Try.func18, Try.ntmps18
  go_wp2_with (first | (go_at_call 33; refine (Bits.sign_c _ _ _ (by omega) (by omega)).mono ?_; rintro e w' ⟨rfl, rfl⟩))
  go_ret2
  exact ⟨rfl, rfl⟩

theorem load_low (n a : Int) (w : World) (HN : Hid (-9223372036854775808 ≤ n ∧ n ≤ 9223372036854775807)) (h : n < 11) : Calls Try.prog 18 #[.int .i64 n, .int .u32 a] w fun e w' => e = .returned (.tuple #[.int .u32 0, .bool false]) ∧ w = w' := by
  go_enter Try.func18, Try.ntmps18
  go_wp2
  go_ret2
  exact ⟨rfl, rfl⟩

theorem load_high (n a : Int) (w : World) (HN : Hid (-9223372036854775808 ≤ n ∧ n ≤ 9223372036854775807)) (h : 15 < n) : Calls Try.prog 18 #[.int .i64 n, .int .u32 a] w fun e w' => e = .returned (.tuple #[.int .u32 0, .bool false]) ∧ w = w' := by
  go_enter Try.func18, Try.ntmps18
  go_wp2
  go_ret2
  exact ⟨rfl, rfl⟩
end Alu
namespace Ref12

theorem branch_5 (a b : Int) (w : World) (ha : 0 ≤ a) (ha' : a < 4294967296) (hb : 0 ≤ b) (hb' : b < 4294967296) : Calls Try.prog 15 #[.int .i64 5, .int .u32 a, .int .u32 b] w fun e w' => e = .returned (.tuple #[.bool (a == b), .bool true]) ∧ w = w' := by
  obtain ⟨u1, u2⟩ := Bt.wrap32_rng a
  obtain ⟨u3, u4⟩ := Bt.wrap32_rng b
  go_enter Try.func15, Try.ntmps15
  go_wp2
  go_ret2
  exact ⟨rfl, rfl⟩

theorem branch_6 (a b : Int) (w : World) (ha : 0 ≤ a) (ha' : a < 4294967296) (hb : 0 ≤ b) (hb' : b < 4294967296) : Calls Try.prog 15 #[.int .i64 6, .int .u32 a, .int .u32 b] w fun e w' => e = .returned (.tuple #[.bool (a != b), .bool true]) ∧ w = w' := by
  obtain ⟨u1, u2⟩ := Bt.wrap32_rng a
  obtain ⟨u3, u4⟩ := Bt.wrap32_rng b
  go_enter Try.func15, Try.ntmps15
  go_wp2
  go_ret2
  exact ⟨rfl, rfl⟩

theorem branch_7 (a b : Int) (w : World) (ha : 0 ≤ a) (ha' : a < 4294967296) (hb : 0 ≤ b) (hb' : b < 4294967296) : Calls Try.prog 15 #[.int .i64 7, .int .u32 a, .int .u32 b] w fun e w' => e = .returned (.tuple #[.bool (decide (wrap32 a < wrap32 b)), .bool true]) ∧ w = w' := by
  obtain ⟨u1, u2⟩ := Bt.wrap32_rng a
  obtain ⟨u3, u4⟩ := Bt.wrap32_rng b
  go_enter Try.func15, Try.ntmps15
  go_wp2_with (first | (go_at_call 30; refine (Ref12.signed_c _ _ (by omega) (by omega)).mono ?_; rintro e w' ⟨rfl, rfl⟩))
  go_ret2
  exact ⟨rfl, rfl⟩

theorem branch_8 (a b : Int) (w : World) (ha : 0 ≤ a) (ha' : a < 4294967296) (hb : 0 ≤ b) (hb' : b < 4294967296) : Calls Try.prog 15 #[.int .i64 8, .int .u32 a, .int .u32 b] w fun e w' => e = .returned (.tuple #[.bool (decide (wrap32 b ≤ wrap32 a)), .bool true]) ∧ w = w' := by
  obtain ⟨u1, u2⟩ := Bt.wrap32_rng a
  obtain ⟨u3, u4⟩ := Bt.wrap32_rng b
  go_enter Try.func15, Try.ntmps15
  go_wp2_with (first | (go_at_call 30; refine (Ref12.signed_c _ _ (by omega) (by omega)).mono ?_; rintro e w' ⟨rfl, rfl⟩))
  go_ret2
  exact ⟨rfl, rfl⟩

theorem branch_9 (a b : Int) (w : World) (ha : 0 ≤ a) (ha' : a < 4294967296) (hb : 0 ≤ b) (hb' : b < 4294967296) : Calls Try.prog 15 #[.int .i64 9, .int .u32 a, .int .u32 b] w fun e w' => e = .returned (.tuple #[.bool (decide (a < b)), .bool true]) ∧ w = w' := by
  obtain ⟨u1, u2⟩ := Bt.wrap32_rng a
  obtain ⟨u3, u4⟩ := Bt.wrap32_rng b
  go_enter Try.func15, Try.ntmps15
  go_wp2
  go_ret2
  exact ⟨rfl, rfl⟩

theorem branch_10 (a b : Int) (w : World) (ha : 0 ≤ a) (ha' : a < 4294967296) (hb : 0 ≤ b) (hb' : b < 4294967296) : Calls Try.prog 15 #[.int .i64 10, .int .u32 a, .int .u32 b] w fun e w' => e = .returned (.tuple #[.bool (decide (b ≤ a)), .bool true]) ∧ w = w' := by
  obtain ⟨u1, u2⟩ := Bt.wrap32_rng a
  obtain ⟨u3, u4⟩ := Bt.wrap32_rng b
  go_enter Try.func15, Try.ntmps15
  go_wp2
  go_ret2
  exact ⟨rfl, rfl⟩

theorem branch_low (n a b : Int) (w : World) (HN : Hid (-9223372036854775808 ≤ n ∧ n ≤ 9223372036854775807)) (h : n < 5) : Calls Try.prog 15 #[.int .i64 n, .int .u32 a, .int .u32 b] w fun e w' => e = .returned (.tuple #[.bool false, .bool false]) ∧ w = w' := by
  have q0 := Al.sw_ne (c := 5) (k := 0) HN.out (by decide) (by decide) (by decide) (by decide) (by omega)
  have q1 := Al.sw_ne (c := 5) (k := 1) HN.out (by decide) (by decide) (by decide) (by decide) (by omega)
  have q2 := Al.sw_ne (c := 5) (k := 2) HN.out (by decide) (by decide) (by decide) (by decide) (by omega)
  have q3 := Al.sw_ne (c := 5) (k := 3) HN.out (by decide) (by decide) (by decide) (by decide) (by omega)
  have q4 := Al.sw_ne (c := 5) (k := 4) HN.out (by decide) (by decide) (by decide) (by decide) (by omega)
  have q5 := Al.sw_ne (c := 5) (k := 5) HN.out (by decide) (by decide) (by decide) (by decide) (by omega)
  go_enter Try.func15, Try.ntmps15
  go_wp2
  go_ret2
  exact ⟨rfl, rfl⟩

theorem branch_high (n a b : Int) (w : World) (HN : Hid (-9223372036854775808 ≤ n ∧ n ≤ 9223372036854775807)) (h : 10 < n) : Calls Try.prog 15 #[.int .i64 n, .int .u32 a, .int .u32 b] w fun e w' => e = .returned (.tuple #[.bool false, .bool false]) ∧ w = w' := by
  have q0 := Al.sw_ne (c := 5) (k := 0) HN.out (by decide) (by decide) (by decide) (by decide) (by omega)
  have q1 := Al.sw_ne (c := 5) (k := 1) HN.out (by decide) (by decide) (by decide) (by decide) (by omega)
  have q2 := Al.sw_ne (c := 5) (k := 2) HN.out (by decide) (by decide) (by decide) (by decide) (by omega)
  have q3 := Al.sw_ne (c := 5) (k := 3) HN.out (by decide) (by decide) (by decide) (by decide) (by omega)
  have q4 := Al.sw_ne (c := 5) (k := 4) HN.out (by decide) (by decide) (by decide) (by decide) (by omega)
  have q5 := Al.sw_ne (c := 5) (k := 5) HN.out (by decide) (by decide) (by decide) (by decide) (by omega)
  go_enter Try.func15, Try.ntmps15
  go_wp2
  go_ret2
  exact ⟨rfl, rfl⟩

theorem amo_48 (a b : Int) (w : World) (ha : 0 ≤ a) (ha' : a < 4294967296) (hb : 0 ≤ b) (hb' : b < 4294967296) : Calls Try.prog 17 #[.int .i64 48, .int .u32 a, .int .u32 b] w fun e w' => e = .returned (.tuple #[.int .u32 (b), .bool true]) ∧ w = w' := by
  go_enter Try.func17, Try.ntmps17
  go_wp2
  go_ret2
  exact ⟨rfl, rfl⟩

theorem amo_49 (a b : Int) (w : World) (ha : 0 ≤ a) (ha' : a < 4294967296) (hb : 0 ≤ b) (hb' : b < 4294967296) : Calls Try.prog 17 #[.int .i64 49, .int .u32 a, .int .u32 b] w fun e w' => e = .returned (.tuple #[.int .u32 (Al.add a b), .bool true]) ∧ w = w' := by
  go_enter Try.func17, Try.ntmps17
  go_wp2
  go_ret2
  exact ⟨rfl, rfl⟩

theorem amo_50 (a b : Int) (w : World) (ha : 0 ≤ a) (ha' : a < 4294967296) (hb : 0 ≤ b) (hb' : b < 4294967296) : Calls Try.prog 17 #[.int .i64 50, .int .u32 a, .int .u32 b] w fun e w' => e = .returned (.tuple #[.int .u32 (Al.xor a b), .bool true]) ∧ w = w' := by
  go_enter Try.func17, Try.ntmps17
  go_wp2
  go_ret2
  exact ⟨rfl, rfl⟩

theorem amo_51 (a b : Int) (w : World) (ha : 0 ≤ a) (ha' : a < 4294967296) (hb : 0 ≤ b) (hb' : b < 4294967296) : Calls Try.prog 17 #[.int .i64 51, .int .u32 a, .int .u32 b] w fun e w' => e = .returned (.tuple #[.int .u32 (Al.and a b), .bool true]) ∧ w = w' := by
  go_enter Try.func17, Try.ntmps17
  go_wp2
  go_ret2
  exact ⟨rfl, rfl⟩

theorem amo_52 (a b : Int) (w : World) (ha : 0 ≤ a) (ha' : a < 4294967296) (hb : 0 ≤ b) (hb' : b < 4294967296) : Calls Try.prog 17 #[.int .i64 52, .int .u32 a, .int .u32 b] w fun e w' => e = .returned (.tuple #[.int .u32 (Al.or a b), .bool true]) ∧ w = w' := by
  go_enter Try.func17, Try.ntmps17
  go_wp2
  go_ret2
  exact ⟨rfl, rfl⟩

theorem amo_53 (a b : Int) (w : World) (ha : 0 ≤ a) (ha' : a < 4294967296) (hb : 0 ≤ b) (hb' : b < 4294967296) : Calls Try.prog 17 #[.int .i64 53, .int .u32 a, .int .u32 b] w fun e w' => e = .returned (.tuple #[.int .u32 (Al.smin a b), .bool true]) ∧ w = w' := by
  obtain ⟨u1, u2⟩ := Bt.wrap32_rng a
  obtain ⟨u3, u4⟩ := Bt.wrap32_rng b
  rcases Al.three_s a b ha ha' hb hb' with ⟨h, h2, E0⟩ | ⟨h, h2, E0⟩ | ⟨rfl, E0⟩
  · have E := Lib.hid E0
    clear E0
    go_enter Try.func17, Try.ntmps17
    go_wp2_with (first | (go_at_call 30; refine (Ref12.signed_c _ _ (by omega) (by omega)).mono ?_; rintro e w' ⟨rfl, rfl⟩) | (go_at_call 32; refine (Ref12.choose_c _ _ _ _).mono ?_; rintro e w' ⟨rfl, rfl⟩))
    go_ret2
    exact ⟨by rw [E.out.1]; first | rfl | exact ret_back (Al.back ha ha'), rfl⟩
  · have E := Lib.hid E0
    clear E0
    go_enter Try.func17, Try.ntmps17
    go_wp2_with (first | (go_at_call 30; refine (Ref12.signed_c _ _ (by omega) (by omega)).mono ?_; rintro e w' ⟨rfl, rfl⟩) | (go_at_call 32; refine (Ref12.choose_c _ _ _ _).mono ?_; rintro e w' ⟨rfl, rfl⟩))
    go_ret2
    exact ⟨by rw [E.out.1]; first | rfl | exact ret_back (Al.back hb hb'), rfl⟩
  · have E := Lib.hid E0
    clear E0
    go_enter Try.func17, Try.ntmps17
    go_wp2_with (first | (go_at_call 30; refine (Ref12.signed_c _ _ (by omega) (by omega)).mono ?_; rintro e w' ⟨rfl, rfl⟩) | (go_at_call 32; refine (Ref12.choose_c _ _ _ _).mono ?_; rintro e w' ⟨rfl, rfl⟩))
    go_ret2
    exact ⟨by rw [E.out.1]; first | rfl | exact ret_back (Al.back ha ha'), rfl⟩

theorem amo_54 (a b : Int) (w : World) (ha : 0 ≤ a) (ha' : a < 4294967296) (hb : 0 ≤ b) (hb' : b < 4294967296) : Calls Try.prog 17 #[.int .i64 54, .int .u32 a, .int .u32 b] w fun e w' => e = .returned (.tuple #[.int .u32 (Al.smax a b), .bool true]) ∧ w = w' := by
  obtain ⟨u1, u2⟩ := Bt.wrap32_rng a
  obtain ⟨u3, u4⟩ := Bt.wrap32_rng b
  rcases Al.three_s a b ha ha' hb hb' with ⟨h, h2, E0⟩ | ⟨h, h2, E0⟩ | ⟨rfl, E0⟩
  · have E := Lib.hid E0
    clear E0
    go_enter Try.func17, Try.ntmps17
    go_wp2_with (first | (go_at_call 30; refine (Ref12.signed_c _ _ (by omega) (by omega)).mono ?_; rintro e w' ⟨rfl, rfl⟩) | (go_at_call 32; refine (Ref12.choose_c _ _ _ _).mono ?_; rintro e w' ⟨rfl, rfl⟩))
    go_ret2
    exact ⟨by rw [E.out.2]; first | rfl | exact ret_back (Al.back hb hb'), rfl⟩
  · have E := Lib.hid E0
    clear E0
    go_enter Try.func17, Try.ntmps17
    go_wp2_with (first | (go_at_call 30; refine (Ref12.signed_c _ _ (by omega) (by omega)).mono ?_; rintro e w' ⟨rfl, rfl⟩) | (go_at_call 32; refine (Ref12.choose_c _ _ _ _).mono ?_; rintro e w' ⟨rfl, rfl⟩))
    go_ret2
    exact ⟨by rw [E.out.2]; first | rfl | exact ret_back (Al.back ha ha'), rfl⟩
  · have E := Lib.hid E0
    clear E0
    go_enter Try.func17, Try.ntmps17
    go_wp2_with (first | (go_at_call 30; refine (Ref12.signed_c _ _ (by omega) (by omega)).mono ?_; rintro e w' ⟨rfl, rfl⟩) | (go_at_call 32; refine (Ref12.choose_c _ _ _ _).mono ?_; rintro e w' ⟨rfl, rfl⟩))
    go_ret2
    exact ⟨by rw [E.out.2]; first | rfl | exact ret_back (Al.back ha ha'), rfl⟩

theorem amo_55 (a b : Int) (w : World) (ha : 0 ≤ a) (ha' : a < 4294967296) (hb : 0 ≤ b) (hb' : b < 4294967296) : Calls Try.prog 17 #[.int .i64 55, .int .u32 a, .int .u32 b] w fun e w' => e = .returned (.tuple #[.int .u32 (Al.umin a b), .bool true]) ∧ w = w' := by
  obtain ⟨u1, u2⟩ := Bt.wrap32_rng a
  obtain ⟨u3, u4⟩ := Bt.wrap32_rng b
  rcases Al.three_u a b ha ha' hb hb' with ⟨h, h2, E0⟩ | ⟨h, h2, E0⟩ | ⟨rfl, E0⟩
  · have E := Lib.hid E0
    clear E0
    go_enter Try.func17, Try.ntmps17
    go_wp2_with (first | (go_at_call 30; refine (Ref12.signed_c _ _ (by omega) (by omega)).mono ?_; rintro e w' ⟨rfl, rfl⟩) | (go_at_call 32; refine (Ref12.choose_c _ _ _ _).mono ?_; rintro e w' ⟨rfl, rfl⟩))
    go_ret2
    exact ⟨by rw [E.out.1]; first | rfl | exact ret_back (Al.back ha ha'), rfl⟩
  · have E := Lib.hid E0
    clear E0
    go_enter Try.func17, Try.ntmps17
    go_wp2_with (first | (go_at_call 30; refine (Ref12.signed_c _ _ (by omega) (by omega)).mono ?_; rintro e w' ⟨rfl, rfl⟩) | (go_at_call 32; refine (Ref12.choose_c _ _ _ _).mono ?_; rintro e w' ⟨rfl, rfl⟩))
    go_ret2
    exact ⟨by rw [E.out.1]; first | rfl | exact ret_back (Al.back hb hb'), rfl⟩
  · have E := Lib.hid E0
    clear E0
    go_enter Try.func17, Try.ntmps17
    go_wp2_with (first | (go_at_call 30; refine (Ref12.signed_c _ _ (by omega) (by omega)).mono ?_; rintro e w' ⟨rfl, rfl⟩) | (go_at_call 32; refine (Ref12.choose_c _ _ _ _).mono ?_; rintro e w' ⟨rfl, rfl⟩))
    go_ret2
    exact ⟨by rw [E.out.1]; first | rfl | exact ret_back (Al.back ha ha'), rfl⟩

theorem amo_56 (a b : Int) (w : World) (ha : 0 ≤ a) (ha' : a < 4294967296) (hb : 0 ≤ b) (hb' : b < 4294967296) : Calls Try.prog 17 #[.int .i64 56, .int .u32 a, .int .u32 b] w fun e w' => e = .returned (.tuple #[.int .u32 (Al.umax a b), .bool true]) ∧ w = w' := by
  obtain ⟨u1, u2⟩ := Bt.wrap32_rng a
  obtain ⟨u3, u4⟩ := Bt.wrap32_rng b
  rcases Al.three_u a b ha ha' hb hb' with ⟨h, h2, E0⟩ | ⟨h, h2, E0⟩ | ⟨rfl, E0⟩
  · have E := Lib.hid E0
    clear E0
    go_enter Try.func17, Try.ntmps17
    go_wp2_with (first | (go_at_call 30; refine (Ref12.signed_c _ _ (by omega) (by omega)).mono ?_; rintro e w' ⟨rfl, rfl⟩) | (go_at_call 32; refine (Ref12.choose_c _ _ _ _).mono ?_; rintro e w' ⟨rfl, rfl⟩))
    go_ret2
    exact ⟨by rw [E.out.2]; first | rfl | exact ret_back (Al.back hb hb'), rfl⟩
  · have E := Lib.hid E0
    clear E0
    go_enter Try.func17, Try.ntmps17
    go_wp2_with (first | (go_at_call 30; refine (Ref12.signed_c _ _ (by omega) (by omega)).mono ?_; rintro e w' ⟨rfl, rfl⟩) | (go_at_call 32; refine (Ref12.choose_c _ _ _ _).mono ?_; rintro e w' ⟨rfl, rfl⟩))
    go_ret2
    exact ⟨by rw [E.out.2]; first | rfl | exact ret_back (Al.back ha ha'), rfl⟩
  · have E := Lib.hid E0
    clear E0
    go_enter Try.func17, Try.ntmps17
    go_wp2_with (first | (go_at_call 30; refine (Ref12.signed_c _ _ (by omega) (by omega)).mono ?_; rintro e w' ⟨rfl, rfl⟩) | (go_at_call 32; refine (Ref12.choose_c _ _ _ _).mono ?_; rintro e w' ⟨rfl, rfl⟩))
    go_ret2
    exact ⟨by rw [E.out.2]; first | rfl | exact ret_back (Al.back ha ha'), rfl⟩

theorem amo_low (n a b : Int) (w : World) (HN : Hid (-9223372036854775808 ≤ n ∧ n ≤ 9223372036854775807)) (h : n < 48) : Calls Try.prog 17 #[.int .i64 n, .int .u32 a, .int .u32 b] w fun e w' => e = .returned (.tuple #[.int .u32 0, .bool false]) ∧ w = w' := by
  have q0 := Al.sw_ne (c := 48) (k := 0) HN.out (by decide) (by decide) (by decide) (by decide) (by omega)
  have q1 := Al.sw_ne (c := 48) (k := 1) HN.out (by decide) (by decide) (by decide) (by decide) (by omega)
  have q2 := Al.sw_ne (c := 48) (k := 2) HN.out (by decide) (by decide) (by decide) (by decide) (by omega)
  have q3 := Al.sw_ne (c := 48) (k := 3) HN.out (by decide) (by decide) (by decide) (by decide) (by omega)
  have q4 := Al.sw_ne (c := 48) (k := 4) HN.out (by decide) (by decide) (by decide) (by decide) (by omega)
  have q5 := Al.sw_ne (c := 48) (k := 5) HN.out (by decide) (by decide) (by decide) (by decide) (by omega)
  have q6 := Al.sw_ne (c := 48) (k := 6) HN.out (by decide) (by decide) (by decide) (by decide) (by omega)
  have q7 := Al.sw_ne (c := 48) (k := 7) HN.out (by decide) (by decide) (by decide) (by decide) (by omega)
  have q8 := Al.sw_ne (c := 48) (k := 8) HN.out (by decide) (by decide) (by decide) (by decide) (by omega)
  go_enter Try.func17, Try.ntmps17
  go_wp2
  go_ret2
  exact ⟨rfl, rfl⟩

theorem amo_high (n a b : Int) (w : World) (HN : Hid (-9223372036854775808 ≤ n ∧ n ≤ 9223372036854775807)) (h : 56 < n) : Calls Try.prog 17 #[.int .i64 n, .int .u32 a, .int .u32 b] w fun e w' => e = .returned (.tuple #[.int .u32 0, .bool false]) ∧ w = w' := by
  have q0 := Al.sw_ne (c := 48) (k := 0) HN.out (by decide) (by decide) (by decide) (by decide) (by omega)
  have q1 := Al.sw_ne (c := 48) (k := 1) HN.out (by decide) (by decide) (by decide) (by decide) (by omega)
  have q2 := Al.sw_ne (c := 48) (k := 2) HN.out (by decide) (by decide) (by decide) (by decide) (by omega)
  have q3 := Al.sw_ne (c := 48) (k := 3) HN.out (by decide) (by decide) (by decide) (by decide) (by omega)
  have q4 := Al.sw_ne (c := 48) (k := 4) HN.out (by decide) (by decide) (by decide) (by decide) (by omega)
  have q5 := Al.sw_ne (c := 48) (k := 5) HN.out (by decide) (by decide) (by decide) (by decide) (by omega)
  have q6 := Al.sw_ne (c := 48) (k := 6) HN.out (by decide) (by decide) (by decide) (by decide) (by omega)
  have q7 := Al.sw_ne (c := 48) (k := 7) HN.out (by decide) (by decide) (by decide) (by decide) (by omega)
  have q8 := Al.sw_ne (c := 48) (k := 8) HN.out (by decide) (by decide) (by decide) (by decide) (by omega)
  go_enter Try.func17, Try.ntmps17
  go_wp2
  go_ret2
  exact ⟨rfl, rfl⟩

theorem load_11 (a : Int) (w : World) (ha : 0 ≤ a) (ha' : a < 4294967296) : Calls Try.prog 19 #[.int .i64 11, .int .u32 a] w fun e w' => e = .returned (.tuple #[.int .u32 (Bt.sign (a % 256) 8), .bool true]) ∧ w = w' := by
  go_enter Try.func19, Try.ntmps19
  go_wp2_with (first | (go_at_call 34; refine (Ref1.sign_c _ _ _ (by omega) (by omega)).mono ?_; rintro e w' ⟨rfl, rfl⟩))
  go_ret2
  exact ⟨rfl, rfl⟩

theorem load_12 (a : Int) (w : World) (ha : 0 ≤ a) (ha' : a < 4294967296) : Calls Try.prog 19 #[.int .i64 12, .int .u32 a] w fun e w' => e = .returned (.tuple #[.int .u32 (Bt.sign (a % 65536) 16), .bool true]) ∧ w = w' := by
  go_enter Try.func19, Try.ntmps19
  go_wp2_with (first | (go_at_call 34; refine (Ref1.sign_c _ _ _ (by omega) (by omega)).mono ?_; rintro e w' ⟨rfl, rfl⟩))
  go_ret2
  exact ⟨rfl, rfl⟩

theorem load_13 (a : Int) (w : World) (ha : 0 ≤ a) (ha' : a < 4294967296) : Calls Try.prog 19 #[.int .i64 13, .int .u32 a] w fun e w' => e = .returned (.tuple #[.int .u32 (a), .bool true]) ∧ w = w' := by
  go_enter Try.func19, Try.ntmps19
  go_wp2_with (first | (go_at_call 34; refine (Ref1.sign_c _ _ _ (by omega) (by omega)).mono ?_; rintro e w' ⟨rfl, rfl⟩))
  go_ret2
  exact ⟨rfl, rfl⟩

theorem load_14 (a : Int) (w : World) (ha : 0 ≤ a) (ha' : a < 4294967296) : Calls Try.prog 19 #[.int .i64 14, .int .u32 a] w fun e w' => e = .returned (.tuple #[.int .u32 (a % 256), .bool true]) ∧ w = w' := by
  go_enter Try.func19, Try.ntmps19
  go_wp2_with (first | (go_at_call 34; refine (Ref1.sign_c _ _ _ (by omega) (by omega)).mono ?_; rintro e w' ⟨rfl, rfl⟩))
  go_ret2
  exact ⟨rfl, rfl⟩

theorem load_15 (a : Int) (w : World) (ha : 0 ≤ a) (ha' : a < 4294967296) : Calls Try.prog 19 #[.int .i64 15, .int .u32 a] w fun e w' => e = .returned (.tuple #[.int .u32 (a % 65536), .bool true]) ∧ w = w' := by
  go_enter Try.func19, Try.ntmps19
  go_wp2_with (first | (go_at_call 34; refine (Ref1.sign_c _ _ _ (by omega) (by omega)).mono ?_; rintro e w' ⟨rfl, rfl⟩))
  go_ret2
  exact ⟨rfl, rfl⟩

theorem load_low (n a : Int) (w : World) (HN : Hid (-9223372036854775808 ≤ n ∧ n ≤ 9223372036854775807)) (h : n < 11) : Calls Try.prog 19 #[.int .i64 n, .int .u32 a] w fun e w' => e = .returned (.tuple #[.int .u32 0, .bool false]) ∧ w = w' := by
  have q0 := Al.sw_ne (c := 11) (k := 0) HN.out (by decide) (by decide) (by decide) (by decide) (by omega)
  have q1 := Al.sw_ne (c := 11) (k := 1) HN.out (by decide) (by decide) (by decide) (by decide) (by omega)
  have q2 := Al.sw_ne (c := 11) (k := 2) HN.out (by decide) (by decide) (by decide) (by decide) (by omega)
  have q3 := Al.sw_ne (c := 11) (k := 3) HN.out (by decide) (by decide) (by decide) (by decide) (by omega)
  have q4 := Al.sw_ne (c := 11) (k := 4) HN.out (by decide) (by decide) (by decide) (by decide) (by omega)
  go_enter Try.func19, Try.ntmps19
  go_wp2
  go_ret2
  exact ⟨rfl, rfl⟩

theorem load_high (n a : Int) (w : World) (HN : Hid (-9223372036854775808 ≤ n ∧ n ≤ 9223372036854775807)) (h : 15 < n) : Calls Try.prog 19 #[.int .i64 n, .int .u32 a] w fun e w' => e = .returned (.tuple #[.int .u32 0, .bool false]) ∧ w = w' := by
  have q0 := Al.sw_ne (c := 11) (k := 0) HN.out (by decide) (by decide) (by decide) (by decide) (by omega)
  have q1 := Al.sw_ne (c := 11) (k := 1) HN.out (by decide) (by decide) (by decide) (by decide) (by omega)
  have q2 := Al.sw_ne (c := 11) (k := 2) HN.out (by decide) (by decide) (by decide) (by decide) (by omega)
  have q3 := Al.sw_ne (c := 11) (k := 3) HN.out (by decide) (by decide) (by decide) (by decide) (by omega)
  have q4 := Al.sw_ne (c := 11) (k := 4) HN.out (by decide) (by decide) (by decide) (by decide) (by omega)
  go_enter Try.func19, Try.ntmps19
  go_wp2
  go_ret2
  exact ⟨rfl, rfl⟩
end Ref12

end Go.Proofs.Ytjecffjiaappoaa

/- Package alu and its reference answer alike, by any name. -/
import Derived.Test.YtjecffjiaappoaaAlu2
namespace Go.Proofs.Ytjecffjiaappoaa
open Go.RowKit
set_option linter.unusedVariables false
namespace Laws12

theorem is_below {w : World} {P : Program} {g : FuncId} {xs : Array Value} {r : Ending} (h : Calls P g xs w fun e w' => e = r ∧ w = w') : Calls P g xs w fun e w' => e = r ∧ Below w.heap.size w w' :=
  h.mono fun _ _ ⟨he, hw⟩ => ⟨he, hw ▸ Below.refl _ _⟩

theorem do_any (n a b : Int) (ha : 0 ≤ a) (ha' : a < 4294967296) (hb : 0 ≤ b) (hb' : b < 4294967296) : ∃ (v : Int) (t : Bool), ∀ w : World, (Calls Try.prog 12 #[.int .i64 n, .int .u32 a, .int .u32 b] w fun e w' => e = .returned (.tuple #[.int .u32 v, .bool t]) ∧ Below w.heap.size w w') ∧ (Calls Try.prog 13 #[.int .i64 n, .int .u32 a, .int .u32 b] w fun e w' => e = .returned (.tuple #[.int .u32 v, .bool t]) ∧ Below w.heap.size w w') := by
  by_cases h : n < 19
  · exact ⟨0, false, fun w => ⟨Alu.do_low n a b w h, Ref12.do_low n a b w h⟩⟩
  · by_cases h' : 45 < n
    · exact ⟨0, false, fun w => ⟨Alu.do_high n a b w h', Ref12.do_high n a b w h'⟩⟩
    · have : n = 19 ∨ n = 20 ∨ n = 21 ∨ n = 22 ∨ n = 23 ∨ n = 24 ∨ n = 25 ∨ n = 26 ∨ n = 27 ∨ n = 28 ∨ n = 29 ∨ n = 30 ∨ n = 31 ∨ n = 32 ∨ n = 33 ∨ n = 34 ∨ n = 35 ∨ n = 36 ∨ n = 37 ∨ n = 38 ∨ n = 39 ∨ n = 40 ∨ n = 41 ∨ n = 42 ∨ n = 43 ∨ n = 44 ∨ n = 45 := by omega
      rcases this with rfl | rfl | rfl | rfl | rfl | rfl | rfl | rfl | rfl | rfl | rfl | rfl | rfl | rfl | rfl | rfl | rfl | rfl | rfl | rfl | rfl | rfl | rfl | rfl | rfl | rfl | rfl
      · exact ⟨_, _, fun w => ⟨is_below (Alu.do_19 a b w ha ha' hb hb'), Ref12.do_19 a b w ha ha' hb hb'⟩⟩
      · exact ⟨_, _, fun w => ⟨is_below (Alu.do_20 a b w ha ha' hb hb'), Ref12.do_20 a b w ha ha' hb hb'⟩⟩
      · exact ⟨_, _, fun w => ⟨is_below (Alu.do_21 a b w ha ha' hb hb'), Ref12.do_21 a b w ha ha' hb hb'⟩⟩
      · exact ⟨_, _, fun w => ⟨is_below (Alu.do_22 a b w ha ha' hb hb'), Ref12.do_22 a b w ha ha' hb hb'⟩⟩
      · exact ⟨_, _, fun w => ⟨is_below (Alu.do_23 a b w ha ha' hb hb'), Ref12.do_23 a b w ha ha' hb hb'⟩⟩
      · exact ⟨_, _, fun w => ⟨is_below (Alu.do_24 a b w ha ha' hb hb'), Ref12.do_24 a b w ha ha' hb hb'⟩⟩
      · exact ⟨_, _, fun w => ⟨is_below (Alu.do_25 a b w ha ha' hb hb'), Ref12.do_25 a b w ha ha' hb hb'⟩⟩
      · exact ⟨_, _, fun w => ⟨is_below (Alu.do_26 a b w ha ha' hb hb'), Ref12.do_26 a b w ha ha' hb hb'⟩⟩
      · exact ⟨_, _, fun w => ⟨is_below (Alu.do_27 a b w ha ha' hb hb'), Ref12.do_27 a b w ha ha' hb hb'⟩⟩
      · exact ⟨_, _, fun w => ⟨is_below (Alu.do_28 a b w ha ha' hb hb'), Ref12.do_28 a b w ha ha' hb hb'⟩⟩
      · exact ⟨_, _, fun w => ⟨is_below (Alu.do_29 a b w ha ha' hb hb'), Ref12.do_29 a b w ha ha' hb hb'⟩⟩
      · exact ⟨_, _, fun w => ⟨is_below (Alu.do_30 a b w ha ha' hb hb'), Ref12.do_30 a b w ha ha' hb hb'⟩⟩
      · exact ⟨_, _, fun w => ⟨is_below (Alu.do_31 a b w ha ha' hb hb'), Ref12.do_31 a b w ha ha' hb hb'⟩⟩
      · exact ⟨_, _, fun w => ⟨is_below (Alu.do_32 a b w ha ha' hb hb'), Ref12.do_32 a b w ha ha' hb hb'⟩⟩
      · exact ⟨_, _, fun w => ⟨is_below (Alu.do_33 a b w ha ha' hb hb'), Ref12.do_33 a b w ha ha' hb hb'⟩⟩
      · exact ⟨_, _, fun w => ⟨is_below (Alu.do_34 a b w ha ha' hb hb'), Ref12.do_34 a b w ha ha' hb hb'⟩⟩
      · exact ⟨_, _, fun w => ⟨is_below (Alu.do_35 a b w ha ha' hb hb'), Ref12.do_35 a b w ha ha' hb hb'⟩⟩
      · exact ⟨_, _, fun w => ⟨is_below (Alu.do_36 a b w ha ha' hb hb'), Ref12.do_36 a b w ha ha' hb hb'⟩⟩
      · exact ⟨_, _, fun w => ⟨is_below (Alu.do_37 a b w ha ha' hb hb'), Ref12.do_37 a b w ha ha' hb hb'⟩⟩
      · exact ⟨_, _, fun w => ⟨is_below (Alu.do_38 a b w ha ha' hb hb'), Ref12.do_38 a b w ha ha' hb hb'⟩⟩
      · exact ⟨_, _, fun w => ⟨is_below (Alu.do_39 a b w ha ha' hb hb'), Ref12.do_39 a b w ha ha' hb hb'⟩⟩
      · exact ⟨_, _, fun w => ⟨is_below (Alu.do_40 a b w ha ha' hb hb'), Ref12.do_40 a b w ha ha' hb hb'⟩⟩
      · exact ⟨_, _, fun w => ⟨is_below (Alu.do_41 a b w ha ha' hb hb'), Ref12.do_41 a b w ha ha' hb hb'⟩⟩
      · exact ⟨_, _, fun w => ⟨Alu.do_42 a b w ha ha' hb hb', Ref12.do_42 a b w ha ha' hb hb'⟩⟩
      · exact ⟨_, _, fun w => ⟨Alu.do_43 a b w ha ha' hb hb', Ref12.do_43 a b w ha ha' hb hb'⟩⟩
      · exact ⟨_, _, fun w => ⟨Alu.do_44 a b w ha ha' hb hb', Ref12.do_44 a b w ha ha' hb hb'⟩⟩
      · exact ⟨_, _, fun w => ⟨Alu.do_45 a b w ha ha' hb hb', Ref12.do_45 a b w ha ha' hb hb'⟩⟩

theorem branch_any (n a b : Int) (HN : Hid (-9223372036854775808 ≤ n ∧ n ≤ 9223372036854775807)) (ha : 0 ≤ a) (ha' : a < 4294967296) (hb : 0 ≤ b) (hb' : b < 4294967296) : ∃ (v t : Bool), ∀ w : World, (Calls Try.prog 14 #[.int .i64 n, .int .u32 a, .int .u32 b] w fun e w' => e = .returned (.tuple #[.bool v, .bool t]) ∧ Below w.heap.size w w') ∧ (Calls Try.prog 15 #[.int .i64 n, .int .u32 a, .int .u32 b] w fun e w' => e = .returned (.tuple #[.bool v, .bool t]) ∧ Below w.heap.size w w') := by
  by_cases h : n < 5
  · exact ⟨false, false, fun w => ⟨is_below (Alu.branch_low n a b w HN h), is_below (Ref12.branch_low n a b w HN h)⟩⟩
  · by_cases h' : 10 < n
    · exact ⟨false, false, fun w => ⟨is_below (Alu.branch_high n a b w HN h'), is_below (Ref12.branch_high n a b w HN h')⟩⟩
    · have : n = 5 ∨ n = 6 ∨ n = 7 ∨ n = 8 ∨ n = 9 ∨ n = 10 := by omega
      rcases this with rfl | rfl | rfl | rfl | rfl | rfl
      · exact ⟨_, _, fun w => ⟨is_below (Alu.branch_5 a b w ha ha' hb hb'), is_below (Ref12.branch_5 a b w ha ha' hb hb')⟩⟩
      · exact ⟨_, _, fun w => ⟨is_below (Alu.branch_6 a b w ha ha' hb hb'), is_below (Ref12.branch_6 a b w ha ha' hb hb')⟩⟩
      · exact ⟨_, _, fun w => ⟨is_below (Alu.branch_7 a b w ha ha' hb hb'), is_below (Ref12.branch_7 a b w ha ha' hb hb')⟩⟩
      · exact ⟨_, _, fun w => ⟨is_below (Alu.branch_8 a b w ha ha' hb hb'), is_below (Ref12.branch_8 a b w ha ha' hb hb')⟩⟩
      · exact ⟨_, _, fun w => ⟨is_below (Alu.branch_9 a b w ha ha' hb hb'), is_below (Ref12.branch_9 a b w ha ha' hb hb')⟩⟩
      · exact ⟨_, _, fun w => ⟨is_below (Alu.branch_10 a b w ha ha' hb hb'), is_below (Ref12.branch_10 a b w ha ha' hb hb')⟩⟩

theorem amo_any (n a b : Int) (HN : Hid (-9223372036854775808 ≤ n ∧ n ≤ 9223372036854775807)) (ha : 0 ≤ a) (ha' : a < 4294967296) (hb : 0 ≤ b) (hb' : b < 4294967296) : ∃ (v : Int) (t : Bool), ∀ w : World, (Calls Try.prog 16 #[.int .i64 n, .int .u32 a, .int .u32 b] w fun e w' => e = .returned (.tuple #[.int .u32 v, .bool t]) ∧ Below w.heap.size w w') ∧ (Calls Try.prog 17 #[.int .i64 n, .int .u32 a, .int .u32 b] w fun e w' => e = .returned (.tuple #[.int .u32 v, .bool t]) ∧ Below w.heap.size w w') := by
  by_cases h : n < 48
  · exact ⟨0, false, fun w => ⟨is_below (Alu.amo_low n a b w HN h), is_below (Ref12.amo_low n a b w HN h)⟩⟩
  · by_cases h' : 56 < n
    · exact ⟨0, false, fun w => ⟨is_below (Alu.amo_high n a b w HN h'), is_below (Ref12.amo_high n a b w HN h')⟩⟩
    · have : n = 48 ∨ n = 49 ∨ n = 50 ∨ n = 51 ∨ n = 52 ∨ n = 53 ∨ n = 54 ∨ n = 55 ∨ n = 56 := by omega
      rcases this with rfl | rfl | rfl | rfl | rfl | rfl | rfl | rfl | rfl
      · exact ⟨_, _, fun w => ⟨is_below (Alu.amo_48 a b w ha ha' hb hb'), is_below (Ref12.amo_48 a b w ha ha' hb hb')⟩⟩
      · exact ⟨_, _, fun w => ⟨is_below (Alu.amo_49 a b w ha ha' hb hb'), is_below (Ref12.amo_49 a b w ha ha' hb hb')⟩⟩
      · exact ⟨_, _, fun w => ⟨is_below (Alu.amo_50 a b w ha ha' hb hb'), is_below (Ref12.amo_50 a b w ha ha' hb hb')⟩⟩
      · exact ⟨_, _, fun w => ⟨is_below (Alu.amo_51 a b w ha ha' hb hb'), is_below (Ref12.amo_51 a b w ha ha' hb hb')⟩⟩
      · exact ⟨_, _, fun w => ⟨is_below (Alu.amo_52 a b w ha ha' hb hb'), is_below (Ref12.amo_52 a b w ha ha' hb hb')⟩⟩
      · exact ⟨_, _, fun w => ⟨is_below (Alu.amo_53 a b w ha ha' hb hb'), is_below (Ref12.amo_53 a b w ha ha' hb hb')⟩⟩
      · exact ⟨_, _, fun w => ⟨is_below (Alu.amo_54 a b w ha ha' hb hb'), is_below (Ref12.amo_54 a b w ha ha' hb hb')⟩⟩
      · exact ⟨_, _, fun w => ⟨is_below (Alu.amo_55 a b w ha ha' hb hb'), is_below (Ref12.amo_55 a b w ha ha' hb hb')⟩⟩
      · exact ⟨_, _, fun w => ⟨is_below (Alu.amo_56 a b w ha ha' hb hb'), is_below (Ref12.amo_56 a b w ha ha' hb hb')⟩⟩

theorem load_any (n a : Int) (HN : Hid (-9223372036854775808 ≤ n ∧ n ≤ 9223372036854775807)) (ha : 0 ≤ a) (ha' : a < 4294967296) : ∃ (v : Int) (t : Bool), ∀ w : World, (Calls Try.prog 18 #[.int .i64 n, .int .u32 a] w fun e w' => e = .returned (.tuple #[.int .u32 v, .bool t]) ∧ Below w.heap.size w w') ∧ (Calls Try.prog 19 #[.int .i64 n, .int .u32 a] w fun e w' => e = .returned (.tuple #[.int .u32 v, .bool t]) ∧ Below w.heap.size w w') := by
  by_cases h : n < 11
  · exact ⟨0, false, fun w => ⟨is_below (Alu.load_low n a w HN h), is_below (Ref12.load_low n a w HN h)⟩⟩
  · by_cases h' : 15 < n
    · exact ⟨0, false, fun w => ⟨is_below (Alu.load_high n a w HN h'), is_below (Ref12.load_high n a w HN h')⟩⟩
    · have : n = 11 ∨ n = 12 ∨ n = 13 ∨ n = 14 ∨ n = 15 := by omega
      rcases this with rfl | rfl | rfl | rfl | rfl
      · exact ⟨_, _, fun w => ⟨is_below (Alu.load_11 a w ha ha'), is_below (Ref12.load_11 a w ha ha')⟩⟩
      · exact ⟨_, _, fun w => ⟨is_below (Alu.load_12 a w ha ha'), is_below (Ref12.load_12 a w ha ha')⟩⟩
      · exact ⟨_, _, fun w => ⟨is_below (Alu.load_13 a w ha ha'), is_below (Ref12.load_13 a w ha ha')⟩⟩
      · exact ⟨_, _, fun w => ⟨is_below (Alu.load_14 a w ha ha'), is_below (Ref12.load_14 a w ha ha')⟩⟩
      · exact ⟨_, _, fun w => ⟨is_below (Alu.load_15 a w ha ha'), is_below (Ref12.load_15 a w ha ha')⟩⟩

theorem size_Alu_11 (w : World) : Calls Try.prog 20 #[.int .i64 11] w fun e w' => e = .returned (.int .i64 1) ∧ Below w.heap.size w w' := by
  go_enter Try.func20, Try.ntmps20
  go_wp2
  go_ret
  exact ⟨rfl, Below.refl _ _⟩

theorem size_Alu_12 (w : World) : Calls Try.prog 20 #[.int .i64 12] w fun e w' => e = .returned (.int .i64 2) ∧ Below w.heap.size w w' := by
  go_enter Try.func20, Try.ntmps20
  go_wp2
  go_ret
  exact ⟨rfl, Below.refl _ _⟩

theorem size_Alu_13 (w : World) : Calls Try.prog 20 #[.int .i64 13] w fun e w' => e = .returned (.int .i64 4) ∧ Below w.heap.size w w' := by
  go_enter Try.func20, Try.ntmps20
  go_wp2
  go_ret
  exact ⟨rfl, Below.refl _ _⟩

theorem size_Alu_14 (w : World) : Calls Try.prog 20 #[.int .i64 14] w fun e w' => e = .returned (.int .i64 1) ∧ Below w.heap.size w w' := by
  go_enter Try.func20, Try.ntmps20
  go_wp2
  go_ret
  exact ⟨rfl, Below.refl _ _⟩

theorem size_Alu_15 (w : World) : Calls Try.prog 20 #[.int .i64 15] w fun e w' => e = .returned (.int .i64 2) ∧ Below w.heap.size w w' := by
  go_enter Try.func20, Try.ntmps20
  go_wp2
  go_ret
  exact ⟨rfl, Below.refl _ _⟩

theorem size_Alu_16 (w : World) : Calls Try.prog 20 #[.int .i64 16] w fun e w' => e = .returned (.int .i64 1) ∧ Below w.heap.size w w' := by
  go_enter Try.func20, Try.ntmps20
  go_wp2
  go_ret
  exact ⟨rfl, Below.refl _ _⟩

theorem size_Alu_17 (w : World) : Calls Try.prog 20 #[.int .i64 17] w fun e w' => e = .returned (.int .i64 2) ∧ Below w.heap.size w w' := by
  go_enter Try.func20, Try.ntmps20
  go_wp2
  go_ret
  exact ⟨rfl, Below.refl _ _⟩

theorem size_Alu_18 (w : World) : Calls Try.prog 20 #[.int .i64 18] w fun e w' => e = .returned (.int .i64 4) ∧ Below w.heap.size w w' := by
  go_enter Try.func20, Try.ntmps20
  go_wp2
  go_ret
  exact ⟨rfl, Below.refl _ _⟩

theorem size_Alu_low (n : Int) (w : World) (h : n < 11) : Calls Try.prog 20 #[.int .i64 n] w fun e w' => e = .returned (.int .i64 0) ∧ Below w.heap.size w w' := by
  go_enter Try.func20, Try.ntmps20
  go_wp2
  go_ret
  exact ⟨rfl, Below.refl _ _⟩

theorem size_Alu_mid (n : Int) (w : World) (h : 18 < n ∧ n < 46) : Calls Try.prog 20 #[.int .i64 n] w fun e w' => e = .returned (.int .i64 0) ∧ Below w.heap.size w w' := by
  obtain ⟨h1, h2⟩ := h
  go_enter Try.func20, Try.ntmps20
  go_wp2
  go_ret
  exact ⟨rfl, Below.refl _ _⟩

theorem size_Alu_four (n : Int) (w : World) (h : 46 ≤ n ∧ n ≤ 56) : Calls Try.prog 20 #[.int .i64 n] w fun e w' => e = .returned (.int .i64 4) ∧ Below w.heap.size w w' := by
  obtain ⟨h1, h2⟩ := h
  go_enter Try.func20, Try.ntmps20
  go_wp2
  go_ret
  exact ⟨rfl, Below.refl _ _⟩

theorem size_Alu_high (n : Int) (w : World) (h : 56 < n) : Calls Try.prog 20 #[.int .i64 n] w fun e w' => e = .returned (.int .i64 0) ∧ Below w.heap.size w w' := by
  go_enter Try.func20, Try.ntmps20
  go_wp2
  go_ret
  exact ⟨rfl, Below.refl _ _⟩

theorem size_Ref12_11 (w : World) : Calls Try.prog 21 #[.int .i64 11] w fun e w' => e = .returned (.int .i64 1) ∧ Below w.heap.size w w' := by
  go_enter Try.func21, Try.ntmps21
  go_wp2
  go_ret
  exact ⟨rfl, (Below.refl _ _).alloc (Nat.le_refl _) _⟩

theorem size_Ref12_12 (w : World) : Calls Try.prog 21 #[.int .i64 12] w fun e w' => e = .returned (.int .i64 2) ∧ Below w.heap.size w w' := by
  go_enter Try.func21, Try.ntmps21
  go_wp2
  go_ret
  exact ⟨rfl, (Below.refl _ _).alloc (Nat.le_refl _) _⟩

theorem size_Ref12_13 (w : World) : Calls Try.prog 21 #[.int .i64 13] w fun e w' => e = .returned (.int .i64 4) ∧ Below w.heap.size w w' := by
  go_enter Try.func21, Try.ntmps21
  go_wp2
  go_ret
  exact ⟨rfl, (Below.refl _ _).alloc (Nat.le_refl _) _⟩

theorem size_Ref12_14 (w : World) : Calls Try.prog 21 #[.int .i64 14] w fun e w' => e = .returned (.int .i64 1) ∧ Below w.heap.size w w' := by
  go_enter Try.func21, Try.ntmps21
  go_wp2
  go_ret
  exact ⟨rfl, (Below.refl _ _).alloc (Nat.le_refl _) _⟩

theorem size_Ref12_15 (w : World) : Calls Try.prog 21 #[.int .i64 15] w fun e w' => e = .returned (.int .i64 2) ∧ Below w.heap.size w w' := by
  go_enter Try.func21, Try.ntmps21
  go_wp2
  go_ret
  exact ⟨rfl, (Below.refl _ _).alloc (Nat.le_refl _) _⟩

theorem size_Ref12_16 (w : World) : Calls Try.prog 21 #[.int .i64 16] w fun e w' => e = .returned (.int .i64 1) ∧ Below w.heap.size w w' := by
  go_enter Try.func21, Try.ntmps21
  go_wp2
  go_ret
  exact ⟨rfl, (Below.refl _ _).alloc (Nat.le_refl _) _⟩

theorem size_Ref12_17 (w : World) : Calls Try.prog 21 #[.int .i64 17] w fun e w' => e = .returned (.int .i64 2) ∧ Below w.heap.size w w' := by
  go_enter Try.func21, Try.ntmps21
  go_wp2
  go_ret
  exact ⟨rfl, (Below.refl _ _).alloc (Nat.le_refl _) _⟩

theorem size_Ref12_18 (w : World) : Calls Try.prog 21 #[.int .i64 18] w fun e w' => e = .returned (.int .i64 4) ∧ Below w.heap.size w w' := by
  go_enter Try.func21, Try.ntmps21
  go_wp2
  go_ret
  exact ⟨rfl, (Below.refl _ _).alloc (Nat.le_refl _) _⟩

theorem size_Ref12_low (n : Int) (w : World) (h : n < 11) : Calls Try.prog 21 #[.int .i64 n] w fun e w' => e = .returned (.int .i64 0) ∧ Below w.heap.size w w' := by
  go_enter Try.func21, Try.ntmps21
  go_wp2
  go_ret
  exact ⟨rfl, Below.refl _ _⟩

theorem size_Ref12_mid (n : Int) (w : World) (h : 18 < n ∧ n < 46) : Calls Try.prog 21 #[.int .i64 n] w fun e w' => e = .returned (.int .i64 0) ∧ Below w.heap.size w w' := by
  obtain ⟨h1, h2⟩ := h
  go_enter Try.func21, Try.ntmps21
  go_wp2
  go_ret
  exact ⟨rfl, Below.refl _ _⟩

theorem size_Ref12_four (n : Int) (w : World) (h : 46 ≤ n ∧ n ≤ 56) : Calls Try.prog 21 #[.int .i64 n] w fun e w' => e = .returned (.int .i64 4) ∧ Below w.heap.size w w' := by
  obtain ⟨h1, h2⟩ := h
  go_enter Try.func21, Try.ntmps21
  go_wp2
  go_ret
  exact ⟨rfl, Below.refl _ _⟩

theorem size_Ref12_high (n : Int) (w : World) (h : 56 < n) : Calls Try.prog 21 #[.int .i64 n] w fun e w' => e = .returned (.int .i64 0) ∧ Below w.heap.size w w' := by
  go_enter Try.func21, Try.ntmps21
  go_wp2
  go_ret
  exact ⟨rfl, Below.refl _ _⟩

theorem size_any (n : Int) : ∃ v : Int, ∀ w : World, (Calls Try.prog 20 #[.int .i64 n] w fun e w' => e = .returned (.int .i64 v) ∧ Below w.heap.size w w') ∧ (Calls Try.prog 21 #[.int .i64 n] w fun e w' => e = .returned (.int .i64 v) ∧ Below w.heap.size w w') := by
  by_cases h : n < 11
  · exact ⟨0, fun w => ⟨size_Alu_low n w h, size_Ref12_low n w h⟩⟩
  · by_cases h' : 56 < n
    · exact ⟨0, fun w => ⟨size_Alu_high n w h', size_Ref12_high n w h'⟩⟩
    · by_cases h2 : 46 ≤ n
      · exact ⟨4, fun w => ⟨size_Alu_four n w ⟨h2, by omega⟩, size_Ref12_four n w ⟨h2, by omega⟩⟩⟩
      · by_cases h3 : 18 < n
        · exact ⟨0, fun w => ⟨size_Alu_mid n w ⟨h3, by omega⟩, size_Ref12_mid n w ⟨h3, by omega⟩⟩⟩
        · have : n = 11 ∨ n = 12 ∨ n = 13 ∨ n = 14 ∨ n = 15 ∨ n = 16 ∨ n = 17 ∨ n = 18 := by omega
          rcases this with rfl | rfl | rfl | rfl | rfl | rfl | rfl | rfl
          · exact ⟨_, fun w => ⟨size_Alu_11 w, size_Ref12_11 w⟩⟩
          · exact ⟨_, fun w => ⟨size_Alu_12 w, size_Ref12_12 w⟩⟩
          · exact ⟨_, fun w => ⟨size_Alu_13 w, size_Ref12_13 w⟩⟩
          · exact ⟨_, fun w => ⟨size_Alu_14 w, size_Ref12_14 w⟩⟩
          · exact ⟨_, fun w => ⟨size_Alu_15 w, size_Ref12_15 w⟩⟩
          · exact ⟨_, fun w => ⟨size_Alu_16 w, size_Ref12_16 w⟩⟩
          · exact ⟨_, fun w => ⟨size_Alu_17 w, size_Ref12_17 w⟩⟩
          · exact ⟨_, fun w => ⟨size_Alu_18 w, size_Ref12_18 w⟩⟩

theorem minus_c (n : Int) (w : World) : Calls Try.prog 25 #[.int .u32 n] w fun e w' => e = .returned (.int .u32 (-n % 4294967296)) ∧ w = w' := by
  go_enter Try.func25, Try.ntmps25
  go_wp2
  go_ret
  exact ⟨rfl, rfl⟩

theorem below_next {w a b : World} (h : Below w.heap.size w a) (k : Below a.heap.size a b) : Below w.heap.size w b := h.trans (k.mono h.size)
end Laws12
end Go.Proofs.Ytjecffjiaappoaa

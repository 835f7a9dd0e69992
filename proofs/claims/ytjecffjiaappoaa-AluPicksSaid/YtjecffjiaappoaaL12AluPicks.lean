/- The walk of the law AluPicks of package alu: it returns true for every input and writes nothing that was there. -/
import Derived.Test.YtjecffjiaappoaaLaws12
import Derived.Test.YtjecffjiaappoaaAlLaws
namespace Go.Proofs.Ytjecffjiaappoaa
open Go.RowKit
set_option linter.unusedVariables false
namespace Laws12

theorem pick_48 (a b : Int) (w : World) (p q : Addr) (hp : w.cell? p = some (.int .u32 a)) (hq : w.cell? q = some (.int .u32 b)) (ha : 0 ≤ a) (ha' : a < 4294967296) (hb : 0 ≤ b) (hb' : b < 4294967296) : Calls Try.prog 24 #[.int .i64 48, .pointer (some p), .pointer (some q)] w fun e w' => e = .returned (.int .u32 (b)) ∧ w = w' := by
  go_enter Try.func24, Try.ntmps24
  go_wp2_with (go_at_call 16; refine (Alu.amo_48 a b _ ha ha' hb hb').mono ?_; rintro e w' ⟨rfl, rfl⟩)
  go_ret
  exact ⟨rfl, rfl⟩

theorem pick_49 (a b : Int) (w : World) (p q : Addr) (hp : w.cell? p = some (.int .u32 a)) (hq : w.cell? q = some (.int .u32 b)) (ha : 0 ≤ a) (ha' : a < 4294967296) (hb : 0 ≤ b) (hb' : b < 4294967296) : Calls Try.prog 24 #[.int .i64 49, .pointer (some p), .pointer (some q)] w fun e w' => e = .returned (.int .u32 (Al.add a b)) ∧ w = w' := by
  go_enter Try.func24, Try.ntmps24
  go_wp2_with (go_at_call 16; refine (Alu.amo_49 a b _ ha ha' hb hb').mono ?_; rintro e w' ⟨rfl, rfl⟩)
  go_ret
  exact ⟨rfl, rfl⟩

theorem pick_50 (a b : Int) (w : World) (p q : Addr) (hp : w.cell? p = some (.int .u32 a)) (hq : w.cell? q = some (.int .u32 b)) (ha : 0 ≤ a) (ha' : a < 4294967296) (hb : 0 ≤ b) (hb' : b < 4294967296) : Calls Try.prog 24 #[.int .i64 50, .pointer (some p), .pointer (some q)] w fun e w' => e = .returned (.int .u32 (Al.xor a b)) ∧ w = w' := by
  go_enter Try.func24, Try.ntmps24
  go_wp2_with (go_at_call 16; refine (Alu.amo_50 a b _ ha ha' hb hb').mono ?_; rintro e w' ⟨rfl, rfl⟩)
  go_ret
  exact ⟨rfl, rfl⟩

theorem pick_51 (a b : Int) (w : World) (p q : Addr) (hp : w.cell? p = some (.int .u32 a)) (hq : w.cell? q = some (.int .u32 b)) (ha : 0 ≤ a) (ha' : a < 4294967296) (hb : 0 ≤ b) (hb' : b < 4294967296) : Calls Try.prog 24 #[.int .i64 51, .pointer (some p), .pointer (some q)] w fun e w' => e = .returned (.int .u32 (Al.and a b)) ∧ w = w' := by
  go_enter Try.func24, Try.ntmps24
  go_wp2_with (go_at_call 16; refine (Alu.amo_51 a b _ ha ha' hb hb').mono ?_; rintro e w' ⟨rfl, rfl⟩)
  go_ret
  exact ⟨rfl, rfl⟩

theorem pick_52 (a b : Int) (w : World) (p q : Addr) (hp : w.cell? p = some (.int .u32 a)) (hq : w.cell? q = some (.int .u32 b)) (ha : 0 ≤ a) (ha' : a < 4294967296) (hb : 0 ≤ b) (hb' : b < 4294967296) : Calls Try.prog 24 #[.int .i64 52, .pointer (some p), .pointer (some q)] w fun e w' => e = .returned (.int .u32 (Al.or a b)) ∧ w = w' := by
  go_enter Try.func24, Try.ntmps24
  go_wp2_with (go_at_call 16; refine (Alu.amo_52 a b _ ha ha' hb hb').mono ?_; rintro e w' ⟨rfl, rfl⟩)
  go_ret
  exact ⟨rfl, rfl⟩

theorem pick_53 (a b : Int) (w : World) (p q : Addr) (hp : w.cell? p = some (.int .u32 a)) (hq : w.cell? q = some (.int .u32 b)) (ha : 0 ≤ a) (ha' : a < 4294967296) (hb : 0 ≤ b) (hb' : b < 4294967296) : Calls Try.prog 24 #[.int .i64 53, .pointer (some p), .pointer (some q)] w fun e w' => e = .returned (.int .u32 (Al.smin a b)) ∧ w = w' := by
  go_enter Try.func24, Try.ntmps24
  go_wp2_with (go_at_call 16; refine (Alu.amo_53 a b _ ha ha' hb hb').mono ?_; rintro e w' ⟨rfl, rfl⟩)
  go_ret
  exact ⟨rfl, rfl⟩

theorem pick_54 (a b : Int) (w : World) (p q : Addr) (hp : w.cell? p = some (.int .u32 a)) (hq : w.cell? q = some (.int .u32 b)) (ha : 0 ≤ a) (ha' : a < 4294967296) (hb : 0 ≤ b) (hb' : b < 4294967296) : Calls Try.prog 24 #[.int .i64 54, .pointer (some p), .pointer (some q)] w fun e w' => e = .returned (.int .u32 (Al.smax a b)) ∧ w = w' := by
  go_enter Try.func24, Try.ntmps24
  go_wp2_with (go_at_call 16; refine (Alu.amo_54 a b _ ha ha' hb hb').mono ?_; rintro e w' ⟨rfl, rfl⟩)
  go_ret
  exact ⟨rfl, rfl⟩

theorem pick_55 (a b : Int) (w : World) (p q : Addr) (hp : w.cell? p = some (.int .u32 a)) (hq : w.cell? q = some (.int .u32 b)) (ha : 0 ≤ a) (ha' : a < 4294967296) (hb : 0 ≤ b) (hb' : b < 4294967296) : Calls Try.prog 24 #[.int .i64 55, .pointer (some p), .pointer (some q)] w fun e w' => e = .returned (.int .u32 (Al.umin a b)) ∧ w = w' := by
  go_enter Try.func24, Try.ntmps24
  go_wp2_with (go_at_call 16; refine (Alu.amo_55 a b _ ha ha' hb hb').mono ?_; rintro e w' ⟨rfl, rfl⟩)
  go_ret
  exact ⟨rfl, rfl⟩

theorem pick_56 (a b : Int) (w : World) (p q : Addr) (hp : w.cell? p = some (.int .u32 a)) (hq : w.cell? q = some (.int .u32 b)) (ha : 0 ≤ a) (ha' : a < 4294967296) (hb : 0 ≤ b) (hb' : b < 4294967296) : Calls Try.prog 24 #[.int .i64 56, .pointer (some p), .pointer (some q)] w fun e w' => e = .returned (.int .u32 (Al.umax a b)) ∧ w = w' := by
  go_enter Try.func24, Try.ntmps24
  go_wp2_with (go_at_call 16; refine (Alu.amo_56 a b _ ha ha' hb hb').mono ?_; rintro e w' ⟨rfl, rfl⟩)
  go_ret
  exact ⟨rfl, rfl⟩

set_option maxHeartbeats 2000000 in
theorem AluPicks_c (a0 a1 : Int) (w : World) (w0 : (Lit.int .u32 a0).wf = true) (w1 : (Lit.int .u32 a1).wf = true) :
    Calls Try.prog 10 #[.int .u32 a0, .int .u32 a1] w fun e w' => e = .returned (.bool true) ∧ Below w.heap.size w w' := by
  obtain ⟨x0, y0⟩ := wf_u32 w0
  obtain ⟨x1, y1⟩ := wf_u32 w1
  clear w0 w1
  have hmf := @Alu.makeFunc_run Try.prog
  have q : ((a1 + a0) % 4294967296 != (a0 + a1) % 4294967296) = false := by rw [Int.add_comm]; simp
  rcases Al.three_s a0 a1 x0 y0 x1 y1 with ⟨h1, h2, h3, h4⟩ | ⟨h1, h2, h3, h4⟩ | ⟨rfl, h3, h4⟩
  · rcases Al.three_u a0 a1 x0 y0 x1 y1 with ⟨k1, k2, k3, k4⟩ | ⟨k1, k2, k3, k4⟩ | ⟨rfl, k3, k4⟩
    · go_enter Try.func10, Try.ntmps10
      go_wp2_with fail
      refine (alive_c _).mono ?_
      rintro e w1 ⟨rfl, hb1⟩
      have c1 : w1.cell? ⟨w.heap.size, 0, none⟩ = some (.int .u32 a0) := (hb1.cell (by simp; omega)).trans (Alu.cell_two_first _ _ _ _ _)
      have c2 : w1.cell? ⟨w.heap.size + 1, 0, none⟩ = some (.int .u32 a1) := (hb1.cell (by simp)).trans (Alu.cell_two_last _ _ _ _ _)
      have hb := below_next (((Below.refl _ w).alloc (Nat.le_refl _) _).alloc (by simp) _) hb1
      clear hb1
      go_wp2_with (first | (go_at_call_of 24 (Value.int IntKind.i64 48); refine (pick_48 a0 a1 _ _ _ c1 c2 x0 y0 x1 y1).mono ?_; rintro e w' ⟨rfl, rfl⟩) | (go_at_call_of 24 (Value.int IntKind.i64 49); refine (pick_49 a0 a1 _ _ _ c1 c2 x0 y0 x1 y1).mono ?_; rintro e w' ⟨rfl, rfl⟩) | (go_at_call_of 24 (Value.int IntKind.i64 50); refine (pick_50 a0 a1 _ _ _ c1 c2 x0 y0 x1 y1).mono ?_; rintro e w' ⟨rfl, rfl⟩) | (go_at_call_of 24 (Value.int IntKind.i64 51); refine (pick_51 a0 a1 _ _ _ c1 c2 x0 y0 x1 y1).mono ?_; rintro e w' ⟨rfl, rfl⟩) | (go_at_call_of 24 (Value.int IntKind.i64 52); refine (pick_52 a0 a1 _ _ _ c1 c2 x0 y0 x1 y1).mono ?_; rintro e w' ⟨rfl, rfl⟩) | (go_at_call_of 24 (Value.int IntKind.i64 53); refine (pick_53 a0 a1 _ _ _ c1 c2 x0 y0 x1 y1).mono ?_; rintro e w' ⟨rfl, rfl⟩) | (go_at_call_of 24 (Value.int IntKind.i64 54); refine (pick_54 a0 a1 _ _ _ c1 c2 x0 y0 x1 y1).mono ?_; rintro e w' ⟨rfl, rfl⟩) | (go_at_call_of 24 (Value.int IntKind.i64 55); refine (pick_55 a0 a1 _ _ _ c1 c2 x0 y0 x1 y1).mono ?_; rintro e w' ⟨rfl, rfl⟩) | (go_at_call_of 24 (Value.int IntKind.i64 56); refine (pick_56 a0 a1 _ _ _ c1 c2 x0 y0 x1 y1).mono ?_; rintro e w' ⟨rfl, rfl⟩) | (go_at_call_of 22 (Value.int IntKind.i64 28); refine (do1_28 a0 a1 _ x0 y0 x1 y1).mono ?_; rintro e w' ⟨rfl, rfl⟩) | (go_at_call_of 22 (Value.int IntKind.i64 33); refine (do1_33 a0 a1 _ x0 y0 x1 y1).mono ?_; rintro e w' ⟨rfl, rfl⟩) | (go_at_call_of 22 (Value.int IntKind.i64 37); refine (do1_37 a0 a1 _ x0 y0 x1 y1).mono ?_; rintro e w' ⟨rfl, rfl⟩) | (go_at_call_of 22 (Value.int IntKind.i64 36); refine (do1_36 a0 a1 _ x0 y0 x1 y1).mono ?_; rintro e w' ⟨rfl, rfl⟩))
      go_quiet ((first | (go_at_call_of 24 (Value.int IntKind.i64 48); exact quiet_is (pick_48 a0 a1 _ _ _ c1 c2 x0 y0 x1 y1)) | (go_at_call_of 24 (Value.int IntKind.i64 49); exact quiet_is (pick_49 a0 a1 _ _ _ c1 c2 x0 y0 x1 y1)) | (go_at_call_of 24 (Value.int IntKind.i64 50); exact quiet_is (pick_50 a0 a1 _ _ _ c1 c2 x0 y0 x1 y1)) | (go_at_call_of 24 (Value.int IntKind.i64 51); exact quiet_is (pick_51 a0 a1 _ _ _ c1 c2 x0 y0 x1 y1)) | (go_at_call_of 24 (Value.int IntKind.i64 52); exact quiet_is (pick_52 a0 a1 _ _ _ c1 c2 x0 y0 x1 y1)) | (go_at_call_of 22 (Value.int IntKind.i64 28); exact quiet_is (do1_28 a0 a1 _ x0 y0 x1 y1)) | (go_at_call_of 22 (Value.int IntKind.i64 33); exact quiet_is (do1_33 a0 a1 _ x0 y0 x1 y1)) | (go_at_call_of 22 (Value.int IntKind.i64 37); exact quiet_is (do1_37 a0 a1 _ x0 y0 x1 y1)) | (go_at_call_of 22 (Value.int IntKind.i64 36); exact quiet_is (do1_36 a0 a1 _ x0 y0 x1 y1))))
      go_wp2
      go_ret
      exact ⟨rfl, below_step hb _⟩
    · go_enter Try.func10, Try.ntmps10
      go_wp2_with fail
      refine (alive_c _).mono ?_
      rintro e w1 ⟨rfl, hb1⟩
      have c1 : w1.cell? ⟨w.heap.size, 0, none⟩ = some (.int .u32 a0) := (hb1.cell (by simp; omega)).trans (Alu.cell_two_first _ _ _ _ _)
      have c2 : w1.cell? ⟨w.heap.size + 1, 0, none⟩ = some (.int .u32 a1) := (hb1.cell (by simp)).trans (Alu.cell_two_last _ _ _ _ _)
      have hb := below_next (((Below.refl _ w).alloc (Nat.le_refl _) _).alloc (by simp) _) hb1
      clear hb1
      go_wp2_with (first | (go_at_call_of 24 (Value.int IntKind.i64 48); refine (pick_48 a0 a1 _ _ _ c1 c2 x0 y0 x1 y1).mono ?_; rintro e w' ⟨rfl, rfl⟩) | (go_at_call_of 24 (Value.int IntKind.i64 49); refine (pick_49 a0 a1 _ _ _ c1 c2 x0 y0 x1 y1).mono ?_; rintro e w' ⟨rfl, rfl⟩) | (go_at_call_of 24 (Value.int IntKind.i64 50); refine (pick_50 a0 a1 _ _ _ c1 c2 x0 y0 x1 y1).mono ?_; rintro e w' ⟨rfl, rfl⟩) | (go_at_call_of 24 (Value.int IntKind.i64 51); refine (pick_51 a0 a1 _ _ _ c1 c2 x0 y0 x1 y1).mono ?_; rintro e w' ⟨rfl, rfl⟩) | (go_at_call_of 24 (Value.int IntKind.i64 52); refine (pick_52 a0 a1 _ _ _ c1 c2 x0 y0 x1 y1).mono ?_; rintro e w' ⟨rfl, rfl⟩) | (go_at_call_of 24 (Value.int IntKind.i64 53); refine (pick_53 a0 a1 _ _ _ c1 c2 x0 y0 x1 y1).mono ?_; rintro e w' ⟨rfl, rfl⟩) | (go_at_call_of 24 (Value.int IntKind.i64 54); refine (pick_54 a0 a1 _ _ _ c1 c2 x0 y0 x1 y1).mono ?_; rintro e w' ⟨rfl, rfl⟩) | (go_at_call_of 24 (Value.int IntKind.i64 55); refine (pick_55 a0 a1 _ _ _ c1 c2 x0 y0 x1 y1).mono ?_; rintro e w' ⟨rfl, rfl⟩) | (go_at_call_of 24 (Value.int IntKind.i64 56); refine (pick_56 a0 a1 _ _ _ c1 c2 x0 y0 x1 y1).mono ?_; rintro e w' ⟨rfl, rfl⟩) | (go_at_call_of 22 (Value.int IntKind.i64 28); refine (do1_28 a0 a1 _ x0 y0 x1 y1).mono ?_; rintro e w' ⟨rfl, rfl⟩) | (go_at_call_of 22 (Value.int IntKind.i64 33); refine (do1_33 a0 a1 _ x0 y0 x1 y1).mono ?_; rintro e w' ⟨rfl, rfl⟩) | (go_at_call_of 22 (Value.int IntKind.i64 37); refine (do1_37 a0 a1 _ x0 y0 x1 y1).mono ?_; rintro e w' ⟨rfl, rfl⟩) | (go_at_call_of 22 (Value.int IntKind.i64 36); refine (do1_36 a0 a1 _ x0 y0 x1 y1).mono ?_; rintro e w' ⟨rfl, rfl⟩))
      go_quiet ((first | (go_at_call_of 24 (Value.int IntKind.i64 48); exact quiet_is (pick_48 a0 a1 _ _ _ c1 c2 x0 y0 x1 y1)) | (go_at_call_of 24 (Value.int IntKind.i64 49); exact quiet_is (pick_49 a0 a1 _ _ _ c1 c2 x0 y0 x1 y1)) | (go_at_call_of 24 (Value.int IntKind.i64 50); exact quiet_is (pick_50 a0 a1 _ _ _ c1 c2 x0 y0 x1 y1)) | (go_at_call_of 24 (Value.int IntKind.i64 51); exact quiet_is (pick_51 a0 a1 _ _ _ c1 c2 x0 y0 x1 y1)) | (go_at_call_of 24 (Value.int IntKind.i64 52); exact quiet_is (pick_52 a0 a1 _ _ _ c1 c2 x0 y0 x1 y1)) | (go_at_call_of 22 (Value.int IntKind.i64 28); exact quiet_is (do1_28 a0 a1 _ x0 y0 x1 y1)) | (go_at_call_of 22 (Value.int IntKind.i64 33); exact quiet_is (do1_33 a0 a1 _ x0 y0 x1 y1)) | (go_at_call_of 22 (Value.int IntKind.i64 37); exact quiet_is (do1_37 a0 a1 _ x0 y0 x1 y1)) | (go_at_call_of 22 (Value.int IntKind.i64 36); exact quiet_is (do1_36 a0 a1 _ x0 y0 x1 y1))))
      go_wp2
      go_ret
      exact ⟨rfl, below_step hb _⟩
    · exact absurd h1 (by omega)
  · rcases Al.three_u a0 a1 x0 y0 x1 y1 with ⟨k1, k2, k3, k4⟩ | ⟨k1, k2, k3, k4⟩ | ⟨rfl, k3, k4⟩
    · go_enter Try.func10, Try.ntmps10
      go_wp2_with fail
      refine (alive_c _).mono ?_
      rintro e w1 ⟨rfl, hb1⟩
      have c1 : w1.cell? ⟨w.heap.size, 0, none⟩ = some (.int .u32 a0) := (hb1.cell (by simp; omega)).trans (Alu.cell_two_first _ _ _ _ _)
      have c2 : w1.cell? ⟨w.heap.size + 1, 0, none⟩ = some (.int .u32 a1) := (hb1.cell (by simp)).trans (Alu.cell_two_last _ _ _ _ _)
      have hb := below_next (((Below.refl _ w).alloc (Nat.le_refl _) _).alloc (by simp) _) hb1
      clear hb1
      go_wp2_with (first | (go_at_call_of 24 (Value.int IntKind.i64 48); refine (pick_48 a0 a1 _ _ _ c1 c2 x0 y0 x1 y1).mono ?_; rintro e w' ⟨rfl, rfl⟩) | (go_at_call_of 24 (Value.int IntKind.i64 49); refine (pick_49 a0 a1 _ _ _ c1 c2 x0 y0 x1 y1).mono ?_; rintro e w' ⟨rfl, rfl⟩) | (go_at_call_of 24 (Value.int IntKind.i64 50); refine (pick_50 a0 a1 _ _ _ c1 c2 x0 y0 x1 y1).mono ?_; rintro e w' ⟨rfl, rfl⟩) | (go_at_call_of 24 (Value.int IntKind.i64 51); refine (pick_51 a0 a1 _ _ _ c1 c2 x0 y0 x1 y1).mono ?_; rintro e w' ⟨rfl, rfl⟩) | (go_at_call_of 24 (Value.int IntKind.i64 52); refine (pick_52 a0 a1 _ _ _ c1 c2 x0 y0 x1 y1).mono ?_; rintro e w' ⟨rfl, rfl⟩) | (go_at_call_of 24 (Value.int IntKind.i64 53); refine (pick_53 a0 a1 _ _ _ c1 c2 x0 y0 x1 y1).mono ?_; rintro e w' ⟨rfl, rfl⟩) | (go_at_call_of 24 (Value.int IntKind.i64 54); refine (pick_54 a0 a1 _ _ _ c1 c2 x0 y0 x1 y1).mono ?_; rintro e w' ⟨rfl, rfl⟩) | (go_at_call_of 24 (Value.int IntKind.i64 55); refine (pick_55 a0 a1 _ _ _ c1 c2 x0 y0 x1 y1).mono ?_; rintro e w' ⟨rfl, rfl⟩) | (go_at_call_of 24 (Value.int IntKind.i64 56); refine (pick_56 a0 a1 _ _ _ c1 c2 x0 y0 x1 y1).mono ?_; rintro e w' ⟨rfl, rfl⟩) | (go_at_call_of 22 (Value.int IntKind.i64 28); refine (do1_28 a0 a1 _ x0 y0 x1 y1).mono ?_; rintro e w' ⟨rfl, rfl⟩) | (go_at_call_of 22 (Value.int IntKind.i64 33); refine (do1_33 a0 a1 _ x0 y0 x1 y1).mono ?_; rintro e w' ⟨rfl, rfl⟩) | (go_at_call_of 22 (Value.int IntKind.i64 37); refine (do1_37 a0 a1 _ x0 y0 x1 y1).mono ?_; rintro e w' ⟨rfl, rfl⟩) | (go_at_call_of 22 (Value.int IntKind.i64 36); refine (do1_36 a0 a1 _ x0 y0 x1 y1).mono ?_; rintro e w' ⟨rfl, rfl⟩))
      go_quiet ((first | (go_at_call_of 24 (Value.int IntKind.i64 48); exact quiet_is (pick_48 a0 a1 _ _ _ c1 c2 x0 y0 x1 y1)) | (go_at_call_of 24 (Value.int IntKind.i64 49); exact quiet_is (pick_49 a0 a1 _ _ _ c1 c2 x0 y0 x1 y1)) | (go_at_call_of 24 (Value.int IntKind.i64 50); exact quiet_is (pick_50 a0 a1 _ _ _ c1 c2 x0 y0 x1 y1)) | (go_at_call_of 24 (Value.int IntKind.i64 51); exact quiet_is (pick_51 a0 a1 _ _ _ c1 c2 x0 y0 x1 y1)) | (go_at_call_of 24 (Value.int IntKind.i64 52); exact quiet_is (pick_52 a0 a1 _ _ _ c1 c2 x0 y0 x1 y1)) | (go_at_call_of 22 (Value.int IntKind.i64 28); exact quiet_is (do1_28 a0 a1 _ x0 y0 x1 y1)) | (go_at_call_of 22 (Value.int IntKind.i64 33); exact quiet_is (do1_33 a0 a1 _ x0 y0 x1 y1)) | (go_at_call_of 22 (Value.int IntKind.i64 37); exact quiet_is (do1_37 a0 a1 _ x0 y0 x1 y1)) | (go_at_call_of 22 (Value.int IntKind.i64 36); exact quiet_is (do1_36 a0 a1 _ x0 y0 x1 y1))))
      go_wp2
      go_ret
      exact ⟨rfl, below_step hb _⟩
    · go_enter Try.func10, Try.ntmps10
      go_wp2_with fail
      refine (alive_c _).mono ?_
      rintro e w1 ⟨rfl, hb1⟩
      have c1 : w1.cell? ⟨w.heap.size, 0, none⟩ = some (.int .u32 a0) := (hb1.cell (by simp; omega)).trans (Alu.cell_two_first _ _ _ _ _)
      have c2 : w1.cell? ⟨w.heap.size + 1, 0, none⟩ = some (.int .u32 a1) := (hb1.cell (by simp)).trans (Alu.cell_two_last _ _ _ _ _)
      have hb := below_next (((Below.refl _ w).alloc (Nat.le_refl _) _).alloc (by simp) _) hb1
      clear hb1
      go_wp2_with (first | (go_at_call_of 24 (Value.int IntKind.i64 48); refine (pick_48 a0 a1 _ _ _ c1 c2 x0 y0 x1 y1).mono ?_; rintro e w' ⟨rfl, rfl⟩) | (go_at_call_of 24 (Value.int IntKind.i64 49); refine (pick_49 a0 a1 _ _ _ c1 c2 x0 y0 x1 y1).mono ?_; rintro e w' ⟨rfl, rfl⟩) | (go_at_call_of 24 (Value.int IntKind.i64 50); refine (pick_50 a0 a1 _ _ _ c1 c2 x0 y0 x1 y1).mono ?_; rintro e w' ⟨rfl, rfl⟩) | (go_at_call_of 24 (Value.int IntKind.i64 51); refine (pick_51 a0 a1 _ _ _ c1 c2 x0 y0 x1 y1).mono ?_; rintro e w' ⟨rfl, rfl⟩) | (go_at_call_of 24 (Value.int IntKind.i64 52); refine (pick_52 a0 a1 _ _ _ c1 c2 x0 y0 x1 y1).mono ?_; rintro e w' ⟨rfl, rfl⟩) | (go_at_call_of 24 (Value.int IntKind.i64 53); refine (pick_53 a0 a1 _ _ _ c1 c2 x0 y0 x1 y1).mono ?_; rintro e w' ⟨rfl, rfl⟩) | (go_at_call_of 24 (Value.int IntKind.i64 54); refine (pick_54 a0 a1 _ _ _ c1 c2 x0 y0 x1 y1).mono ?_; rintro e w' ⟨rfl, rfl⟩) | (go_at_call_of 24 (Value.int IntKind.i64 55); refine (pick_55 a0 a1 _ _ _ c1 c2 x0 y0 x1 y1).mono ?_; rintro e w' ⟨rfl, rfl⟩) | (go_at_call_of 24 (Value.int IntKind.i64 56); refine (pick_56 a0 a1 _ _ _ c1 c2 x0 y0 x1 y1).mono ?_; rintro e w' ⟨rfl, rfl⟩) | (go_at_call_of 22 (Value.int IntKind.i64 28); refine (do1_28 a0 a1 _ x0 y0 x1 y1).mono ?_; rintro e w' ⟨rfl, rfl⟩) | (go_at_call_of 22 (Value.int IntKind.i64 33); refine (do1_33 a0 a1 _ x0 y0 x1 y1).mono ?_; rintro e w' ⟨rfl, rfl⟩) | (go_at_call_of 22 (Value.int IntKind.i64 37); refine (do1_37 a0 a1 _ x0 y0 x1 y1).mono ?_; rintro e w' ⟨rfl, rfl⟩) | (go_at_call_of 22 (Value.int IntKind.i64 36); refine (do1_36 a0 a1 _ x0 y0 x1 y1).mono ?_; rintro e w' ⟨rfl, rfl⟩))
      go_quiet ((first | (go_at_call_of 24 (Value.int IntKind.i64 48); exact quiet_is (pick_48 a0 a1 _ _ _ c1 c2 x0 y0 x1 y1)) | (go_at_call_of 24 (Value.int IntKind.i64 49); exact quiet_is (pick_49 a0 a1 _ _ _ c1 c2 x0 y0 x1 y1)) | (go_at_call_of 24 (Value.int IntKind.i64 50); exact quiet_is (pick_50 a0 a1 _ _ _ c1 c2 x0 y0 x1 y1)) | (go_at_call_of 24 (Value.int IntKind.i64 51); exact quiet_is (pick_51 a0 a1 _ _ _ c1 c2 x0 y0 x1 y1)) | (go_at_call_of 24 (Value.int IntKind.i64 52); exact quiet_is (pick_52 a0 a1 _ _ _ c1 c2 x0 y0 x1 y1)) | (go_at_call_of 22 (Value.int IntKind.i64 28); exact quiet_is (do1_28 a0 a1 _ x0 y0 x1 y1)) | (go_at_call_of 22 (Value.int IntKind.i64 33); exact quiet_is (do1_33 a0 a1 _ x0 y0 x1 y1)) | (go_at_call_of 22 (Value.int IntKind.i64 37); exact quiet_is (do1_37 a0 a1 _ x0 y0 x1 y1)) | (go_at_call_of 22 (Value.int IntKind.i64 36); exact quiet_is (do1_36 a0 a1 _ x0 y0 x1 y1))))
      go_wp2
      go_ret
      exact ⟨rfl, below_step hb _⟩
    · exact absurd h1 (by omega)
  · rcases Al.three_u a0 a0 x0 y0 x1 y1 with ⟨k1, k2, k3, k4⟩ | ⟨k1, k2, k3, k4⟩ | ⟨-, k3, k4⟩
    · exact absurd k1 (by omega)
    · exact absurd k1 (by omega)
    · go_enter Try.func10, Try.ntmps10
      go_wp2_with fail
      refine (alive_c _).mono ?_
      rintro e w1 ⟨rfl, hb1⟩
      have c1 : w1.cell? ⟨w.heap.size, 0, none⟩ = some (.int .u32 a0) := (hb1.cell (by simp; omega)).trans (Alu.cell_two_first _ _ _ _ _)
      have c2 : w1.cell? ⟨w.heap.size + 1, 0, none⟩ = some (.int .u32 a0) := (hb1.cell (by simp)).trans (Alu.cell_two_last _ _ _ _ _)
      have hb := below_next (((Below.refl _ w).alloc (Nat.le_refl _) _).alloc (by simp) _) hb1
      clear hb1
      go_wp2_with (first | (go_at_call_of 24 (Value.int IntKind.i64 48); refine (pick_48 a0 a0 _ _ _ c1 c2 x0 y0 x0 y0).mono ?_; rintro e w' ⟨rfl, rfl⟩) | (go_at_call_of 24 (Value.int IntKind.i64 49); refine (pick_49 a0 a0 _ _ _ c1 c2 x0 y0 x0 y0).mono ?_; rintro e w' ⟨rfl, rfl⟩) | (go_at_call_of 24 (Value.int IntKind.i64 50); refine (pick_50 a0 a0 _ _ _ c1 c2 x0 y0 x0 y0).mono ?_; rintro e w' ⟨rfl, rfl⟩) | (go_at_call_of 24 (Value.int IntKind.i64 51); refine (pick_51 a0 a0 _ _ _ c1 c2 x0 y0 x0 y0).mono ?_; rintro e w' ⟨rfl, rfl⟩) | (go_at_call_of 24 (Value.int IntKind.i64 52); refine (pick_52 a0 a0 _ _ _ c1 c2 x0 y0 x0 y0).mono ?_; rintro e w' ⟨rfl, rfl⟩) | (go_at_call_of 24 (Value.int IntKind.i64 53); refine (pick_53 a0 a0 _ _ _ c1 c2 x0 y0 x0 y0).mono ?_; rintro e w' ⟨rfl, rfl⟩) | (go_at_call_of 24 (Value.int IntKind.i64 54); refine (pick_54 a0 a0 _ _ _ c1 c2 x0 y0 x0 y0).mono ?_; rintro e w' ⟨rfl, rfl⟩) | (go_at_call_of 24 (Value.int IntKind.i64 55); refine (pick_55 a0 a0 _ _ _ c1 c2 x0 y0 x0 y0).mono ?_; rintro e w' ⟨rfl, rfl⟩) | (go_at_call_of 24 (Value.int IntKind.i64 56); refine (pick_56 a0 a0 _ _ _ c1 c2 x0 y0 x0 y0).mono ?_; rintro e w' ⟨rfl, rfl⟩) | (go_at_call_of 22 (Value.int IntKind.i64 28); refine (do1_28 a0 a0 _ x0 y0 x0 y0).mono ?_; rintro e w' ⟨rfl, rfl⟩) | (go_at_call_of 22 (Value.int IntKind.i64 33); refine (do1_33 a0 a0 _ x0 y0 x0 y0).mono ?_; rintro e w' ⟨rfl, rfl⟩) | (go_at_call_of 22 (Value.int IntKind.i64 37); refine (do1_37 a0 a0 _ x0 y0 x0 y0).mono ?_; rintro e w' ⟨rfl, rfl⟩) | (go_at_call_of 22 (Value.int IntKind.i64 36); refine (do1_36 a0 a0 _ x0 y0 x0 y0).mono ?_; rintro e w' ⟨rfl, rfl⟩))
      go_quiet ((first | (go_at_call_of 24 (Value.int IntKind.i64 48); exact quiet_is (pick_48 a0 a0 _ _ _ c1 c2 x0 y0 x0 y0)) | (go_at_call_of 24 (Value.int IntKind.i64 49); exact quiet_is (pick_49 a0 a0 _ _ _ c1 c2 x0 y0 x0 y0)) | (go_at_call_of 24 (Value.int IntKind.i64 50); exact quiet_is (pick_50 a0 a0 _ _ _ c1 c2 x0 y0 x0 y0)) | (go_at_call_of 24 (Value.int IntKind.i64 51); exact quiet_is (pick_51 a0 a0 _ _ _ c1 c2 x0 y0 x0 y0)) | (go_at_call_of 24 (Value.int IntKind.i64 52); exact quiet_is (pick_52 a0 a0 _ _ _ c1 c2 x0 y0 x0 y0)) | (go_at_call_of 22 (Value.int IntKind.i64 28); exact quiet_is (do1_28 a0 a0 _ x0 y0 x0 y0)) | (go_at_call_of 22 (Value.int IntKind.i64 33); exact quiet_is (do1_33 a0 a0 _ x0 y0 x0 y0)) | (go_at_call_of 22 (Value.int IntKind.i64 37); exact quiet_is (do1_37 a0 a0 _ x0 y0 x0 y0)) | (go_at_call_of 22 (Value.int IntKind.i64 36); exact quiet_is (do1_36 a0 a0 _ x0 y0 x0 y0))))
      go_wp2
      go_ret
      exact ⟨rfl, below_step hb _⟩

end Laws12
end Go.Proofs.Ytjecffjiaappoaa

/- The walk of the law AluShifts of package alu: it returns true for every input and writes nothing that was there. -/
import Derived.Test.YtjecffjiaappoaaLaws12
import Derived.Test.YtjecffjiaappoaaAlLaws
namespace Go.Proofs.Ytjecffjiaappoaa
open Go.RowKit
set_option linter.unusedVariables false
namespace Laws12

set_option maxHeartbeats 2000000 in
theorem AluShifts_c (a0 a1 a2 : Int) (w : World) (w0 : (Lit.int .u32 a0).wf = true) (w1 : (Lit.int .u8 a1).wf = true) (w2 : (Lit.int .u8 a2).wf = true) :
    Calls Try.prog 9 #[.int .u32 a0, .int .u8 a1, .int .u8 a2] w fun e w' => e = .returned (.bool true) ∧ Below w.heap.size w w' := by
  obtain ⟨x0, y0⟩ := wf_u32 w0
  obtain ⟨x1, y1⟩ := wf_u8 w1
  obtain ⟨x2, y2⟩ := wf_u8 w2
  clear w0 w1 w2
  by_cases h : 31 < a1 % 32 + a2 % 32
  · go_enter Try.func9, Try.ntmps9
    go_wp2_with fail
    refine (alive_c _).mono ?_
    rintro e w1 ⟨rfl, hb1⟩
    go_wp2_with fail
    go_ret
    exact ⟨rfl, hb1⟩
  · obtain ⟨x, hx⟩ : ∃ x, x = a1 % 32 := ⟨_, rfl⟩
    obtain ⟨y, hy⟩ : ∃ y, y = a2 % 32 := ⟨_, rfl⟩
    have X0 : 0 ≤ x := by omega
    have X1 : x < 32 := by omega
    have Y0 : 0 ≤ y := by omega
    have Y1 : y < 32 := by omega
    have XY : x + y < 32 := by omega
    have HX := Lib.hid hx.symm
    have HY := Lib.hid hy.symm
    clear hx hy
    go_enter Try.func9, Try.ntmps9
    go_wp2_with fail
    refine (alive_c _).mono ?_
    rintro e w1 ⟨rfl, hb1⟩
    go_wp2_with fail
    rw [HX.out, HY.out]
    have hs := hb1.size
    clear h x1 y1 x2 y2
    go_loop [10, 25, 26, 27, 28] (fun _ i _ _ _ => ∃ k : Nat, k ≤ 3 ∧ i = .int .i64 k) (fun _ i _ _ _ => 3 - (intOf i).toNat)
    case atStart => exact ⟨0, by omega, rfl⟩
    case round =>
      obtain ⟨k, hk, rfl⟩ := hrel
      have hk4 : k = 0 ∨ k = 1 ∨ k = 2 ∨ k = 3 := by omega
      rcases hk4 with rfl | rfl | rfl | rfl
      · have q1 := Al.sll_sll (a := a0) X0 Y0 XY
        have q2 := Al.sll_32 (a := a0) (x := x)
        go_wp2_with (go_at_call 22; refine (do1_30 _ _ _ (by with_reducible first | exact x0 | exact (Al.sll_rng a0 x).1) (by with_reducible first | exact y0 | exact (Al.sll_rng a0 x).2) (by omega) (by omega)).mono ?_; rintro e w' ⟨rfl, rfl⟩)
        exact ⟨⟨1, by omega, rfl⟩, by simp [intOf]⟩
      · have q1 := Al.srl_srl (a := a0) X0 Y0 XY
        have q2 := Al.srl_32 (a := a0) (x := x)
        go_wp2_with (go_at_call 22; refine (do1_34 _ _ _ (by with_reducible first | exact x0 | exact (Al.srl_rng x x0 y0).1) (by with_reducible first | exact y0 | exact (Al.srl_rng x x0 y0).2) (by omega) (by omega)).mono ?_; rintro e w' ⟨rfl, rfl⟩)
        exact ⟨⟨2, by omega, rfl⟩, by simp [intOf]⟩
      · have q1 := Al.sra_sra (a := a0) X0 Y0 XY
        have q2 := Al.sra_32 (a := a0) (x := x)
        go_wp2_with (go_at_call 22; refine (do1_35 _ _ _ (by with_reducible first | exact x0 | exact (Al.sra_rng a0 x).1) (by with_reducible first | exact y0 | exact (Al.sra_rng a0 x).2) (by omega) (by omega)).mono ?_; rintro e w' ⟨rfl, rfl⟩)
        exact ⟨⟨3, by omega, rfl⟩, by simp [intOf]⟩
      · have q := Al.sra_31 x0 y0
        go_wp2_with (go_at_call 22; refine (do1_35 _ _ _ x0 y0 (by decide) (by decide)).mono ?_; rintro e w' ⟨rfl, rfl⟩)
        go_ret
        exact ⟨rfl, hb1.alloc hs _⟩

end Laws12
end Go.Proofs.Ytjecffjiaappoaa

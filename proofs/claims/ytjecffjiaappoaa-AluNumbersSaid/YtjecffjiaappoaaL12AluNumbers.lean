/- The walk of the law AluNumbers of package alu: it returns true for every input and writes nothing that was there. -/
import Derived.Test.YtjecffjiaappoaaLaws12
import Derived.Test.YtjecffjiaappoaaAlLaws
namespace Go.Proofs.Ytjecffjiaappoaa
open Go.RowKit
set_option linter.unusedVariables false
namespace Laws12
set_option maxHeartbeats 2000000 in
theorem AluNumbers_c (a0 a1 a2 : Int) (w : World) (w0 : (Lit.int .u8 a0).wf = true) (w1 : (Lit.int .u32 a1).wf = true) (w2 : (Lit.int .u32 a2).wf = true) :
    Calls Try.prog 7 #[.int .u8 a0, .int .u32 a1, .int .u32 a2] w fun e w' => e = .returned (.bool true) ∧ Below w.heap.size w w' := by
  obtain ⟨x0, y0⟩ := wf_u8 w0
  obtain ⟨x1, y1⟩ := wf_u32 w1
  obtain ⟨x2, y2⟩ := wf_u32 w2
  clear w0 w1 w2
  have h9 : a0 % 9 = 0 ∨ a0 % 9 = 1 ∨ a0 % 9 = 2 ∨ a0 % 9 = 3 ∨ a0 % 9 = 4 ∨ a0 % 9 = 5 ∨ a0 % 9 = 6 ∨ a0 % 9 = 7 ∨ a0 % 9 = 8 := by omega
  rcases h9 with h9 | h9 | h9 | h9 | h9 | h9 | h9 | h9 | h9
  · go_enter Try.func7, Try.ntmps7
    go_wp2_with fail
    refine (alive_c _).mono ?_
    rintro e w1 ⟨rfl, hb1⟩
    go_wp2_with fail
    refine (Alu.do_19 a1 a2 _ x1 y1 x2 y2).mono ?_
    rintro e w' ⟨rfl, rfl⟩
    go_wp2_with fail
    refine (Alu.do_28 a1 a2 _ x1 y1 x2 y2).mono ?_
    rintro e w' ⟨rfl, rfl⟩
    go_wp2_with fail
    go_ret
    exact ⟨rfl, (hb1.alloc hb1.size _).alloc (by simp; have := hb1.size; omega) _⟩
  · go_enter Try.func7, Try.ntmps7
    go_wp2_with fail
    refine (alive_c _).mono ?_
    rintro e w1 ⟨rfl, hb1⟩
    go_wp2_with fail
    refine (Alu.do_20 a1 a2 _ x1 y1 x2 y2).mono ?_
    rintro e w' ⟨rfl, rfl⟩
    go_wp2_with fail
    refine (Alu.do_31 a1 a2 _ x1 y1 x2 y2).mono ?_
    rintro e w' ⟨rfl, rfl⟩
    go_wp2_with fail
    go_ret
    exact ⟨rfl, (hb1.alloc hb1.size _).alloc (by simp; have := hb1.size; omega) _⟩
  · go_enter Try.func7, Try.ntmps7
    go_wp2_with fail
    refine (alive_c _).mono ?_
    rintro e w1 ⟨rfl, hb1⟩
    go_wp2_with fail
    refine (Alu.do_21 a1 a2 _ x1 y1 x2 y2).mono ?_
    rintro e w' ⟨rfl, rfl⟩
    go_wp2_with fail
    refine (Alu.do_32 a1 a2 _ x1 y1 x2 y2).mono ?_
    rintro e w' ⟨rfl, rfl⟩
    go_wp2_with fail
    go_ret
    exact ⟨rfl, (hb1.alloc hb1.size _).alloc (by simp; have := hb1.size; omega) _⟩
  · go_enter Try.func7, Try.ntmps7
    go_wp2_with fail
    refine (alive_c _).mono ?_
    rintro e w1 ⟨rfl, hb1⟩
    go_wp2_with fail
    refine (Alu.do_22 a1 a2 _ x1 y1 x2 y2).mono ?_
    rintro e w' ⟨rfl, rfl⟩
    go_wp2_with fail
    refine (Alu.do_33 a1 a2 _ x1 y1 x2 y2).mono ?_
    rintro e w' ⟨rfl, rfl⟩
    go_wp2_with fail
    go_ret
    exact ⟨rfl, (hb1.alloc hb1.size _).alloc (by simp; have := hb1.size; omega) _⟩
  · go_enter Try.func7, Try.ntmps7
    go_wp2_with fail
    refine (alive_c _).mono ?_
    rintro e w1 ⟨rfl, hb1⟩
    go_wp2_with fail
    refine (Alu.do_23 a1 a2 _ x1 y1 x2 y2).mono ?_
    rintro e w' ⟨rfl, rfl⟩
    go_wp2_with fail
    refine (Alu.do_36 a1 a2 _ x1 y1 x2 y2).mono ?_
    rintro e w' ⟨rfl, rfl⟩
    go_wp2_with fail
    go_ret
    exact ⟨rfl, (hb1.alloc hb1.size _).alloc (by simp; have := hb1.size; omega) _⟩
  · go_enter Try.func7, Try.ntmps7
    go_wp2_with fail
    refine (alive_c _).mono ?_
    rintro e w1 ⟨rfl, hb1⟩
    go_wp2_with fail
    refine (Alu.do_24 a1 a2 _ x1 y1 x2 y2).mono ?_
    rintro e w' ⟨rfl, rfl⟩
    go_wp2_with fail
    refine (Alu.do_37 a1 a2 _ x1 y1 x2 y2).mono ?_
    rintro e w' ⟨rfl, rfl⟩
    go_wp2_with fail
    go_ret
    exact ⟨rfl, (hb1.alloc hb1.size _).alloc (by simp; have := hb1.size; omega) _⟩
  · go_enter Try.func7, Try.ntmps7
    go_wp2_with fail
    refine (alive_c _).mono ?_
    rintro e w1 ⟨rfl, hb1⟩
    go_wp2_with fail
    refine (Alu.do_25 a1 a2 _ x1 y1 x2 y2).mono ?_
    rintro e w' ⟨rfl, rfl⟩
    go_wp2_with fail
    refine (Alu.do_30 a1 a2 _ x1 y1 x2 y2).mono ?_
    rintro e w' ⟨rfl, rfl⟩
    go_wp2_with fail
    go_ret
    exact ⟨rfl, (hb1.alloc hb1.size _).alloc (by simp; have := hb1.size; omega) _⟩
  · go_enter Try.func7, Try.ntmps7
    go_wp2_with fail
    refine (alive_c _).mono ?_
    rintro e w1 ⟨rfl, hb1⟩
    go_wp2_with fail
    refine (Alu.do_26 a1 a2 _ x1 y1 x2 y2).mono ?_
    rintro e w' ⟨rfl, rfl⟩
    go_wp2_with fail
    refine (Alu.do_34 a1 a2 _ x1 y1 x2 y2).mono ?_
    rintro e w' ⟨rfl, rfl⟩
    go_wp2_with fail
    go_ret
    exact ⟨rfl, (hb1.alloc hb1.size _).alloc (by simp; have := hb1.size; omega) _⟩
  · go_enter Try.func7, Try.ntmps7
    go_wp2_with fail
    refine (alive_c _).mono ?_
    rintro e w1 ⟨rfl, hb1⟩
    go_wp2_with fail
    refine (Alu.do_27 a1 a2 _ x1 y1 x2 y2).mono ?_
    rintro e w' ⟨rfl, rfl⟩
    go_wp2_with fail
    refine (Alu.do_35 a1 a2 _ x1 y1 x2 y2).mono ?_
    rintro e w' ⟨rfl, rfl⟩
    go_wp2_with fail
    go_ret
    exact ⟨rfl, (hb1.alloc hb1.size _).alloc (by simp; have := hb1.size; omega) _⟩

end Laws12
end Go.Proofs.Ytjecffjiaappoaa

/- The walk of the law AluProducts of package alu: it returns true for every input and writes nothing that was there. -/
import Derived.Test.YtjecffjiaappoaaLaws12
import Derived.Test.YtjecffjiaappoaaAlLaws
namespace Go.Proofs.Ytjecffjiaappoaa
open Go.RowKit
set_option linter.unusedVariables false
namespace Laws12
theorem AluProducts_c (a0 a1 : Int) (w : World) (w0 : (Lit.int .u32 a0).wf = true) (w1 : (Lit.int .u32 a1).wf = true) :
    Calls Try.prog 6 #[.int .u32 a0, .int .u32 a1] w fun e w' => e = .returned (.bool true) ∧ Below w.heap.size w w' := by
  obtain ⟨x0, y0⟩ := wf_u32 w0
  obtain ⟨x1, y1⟩ := wf_u32 w1
  clear w0 w1
  have e1 := Al.halves_u x0 y0 x1 y1
  have e2 := Al.halves_ss (a := a0) (b := a1)
  have e3 := Al.halves_su (a := a0) x1 y1
  go_enter Try.func6, Try.ntmps6
  go_wp2_with fail
  refine (alive_c _).mono ?_
  rintro e w1 ⟨rfl, hb1⟩
  go_wp2_with fail
  refine (do1_38 a0 a1 _ x0 y0 x1 y1).mono ?_
  rintro e w' ⟨rfl, rfl⟩
  go_wp2_with fail
  refine (do1_41 a0 a1 _ x0 y0 x1 y1).mono ?_
  rintro e w' ⟨rfl, rfl⟩
  go_wp2_with fail
  refine (do1_39 a0 a1 _ x0 y0 x1 y1).mono ?_
  rintro e w' ⟨rfl, rfl⟩
  go_wp2_with fail
  refine (do1_40 a0 a1 _ x0 y0 x1 y1).mono ?_
  rintro e w' ⟨rfl, rfl⟩
  go_wp2_with fail
  go_ret
  exact ⟨rfl, hb1⟩

end Laws12
end Go.Proofs.Ytjecffjiaappoaa

/- DecodeTells: what any word says is the document's, or it says nothing. No condition. -/
import Derived.Test.YtpdemjdjgehpgaaRf3
import Derived.Test.YtpdemjdjgehpgaaKit11
namespace Go.Proofs.Ytpdemjdjgehpgaa
open Go.RowKit Dc
set_option linter.unusedVariables false
set_option linter.unusedSimpArgs false
namespace L11Tells
open Dec
set_option maxHeartbeats 2000000 in
set_option maxRecDepth 100000 in
theorem DecodeTells_c (a0 : Int) (w : World) (w0 : (Lit.int .u32 a0).wf = true) :
    Calls Try.prog 3 #[.int .u32 a0] w fun e w' => e = .returned (.bool true) ∧ Below w.heap.size w w' := by
  obtain ⟨x0, y0⟩ := wf_u32 w0
  clear w0
  obtain ⟨rs, hrs⟩ : ∃ rs, Hid (word a0 = rs) := ⟨_, rfl⟩
  have W1 := fun W => Dec.word_r a0 W x0 y0 rs hrs
  have W2 := fun W => Rf.word_r a0 W x0 y0 rs hrs
  have hal := fun W => Dliv.alive_c W
  clear hrs
  rcases rs with _ | oo
  all_goals
    unfold wordv opv at W1 W2
    try unfold Dc.Op.z at W1 W2
    go_enter Try.func3, Try.ntmps3
    go_wp2_with (first | (go_at_call 9; refine (hal _).mono ?_; rintro e w1 ⟨rfl, b1⟩) | (go_at_call 10; refine (W1 _).mono ?_; rintro e w2 ⟨rfl, b2⟩) | (go_at_call 11; refine (W2 _).mono ?_; rintro e w3 ⟨rfl, b3⟩; obtain ⟨E, b4⟩ := alloc1_then b3; obtain ⟨z0, z1, z2, z3, z4, _⟩ := cells5 E; have Z0 := fun q => Lib.cell?_alloc_some q z0; have Z1 := fun q => Lib.cell?_alloc_some q z1; have Z2 := fun q => Lib.cell?_alloc_some q z2; have Z3 := fun q => Lib.cell?_alloc_some q z3; have Z4 := fun q => Lib.cell?_alloc_some q z4; clear b3 z0 z1 z2 z3 z4; have B := Below.then (Below.then b1 b2) b4))
    go_ret
    exact ⟨rfl, by first | exact B | exact below_al B _⟩
end L11Tells
end Go.Proofs.Ytpdemjdjgehpgaa

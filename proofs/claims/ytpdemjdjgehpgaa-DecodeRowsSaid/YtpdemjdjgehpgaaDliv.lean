/- dioptralaw11.alive. -/
import Derived.Test.YtpdemjdjgehpgaaDwr
namespace Go.Proofs.Ytpdemjdjgehpgaa
open Go.RowKit Dc
set_option linter.unusedVariables false
set_option linter.unusedSimpArgs false
namespace Dliv
open Dec
theorem w1 : word 0x00500093 = some ⟨19, 1, 0, 0, 5⟩ := by decide +kernel
theorem w0 : word 0 = none := by decide +kernel
theorem e1 : encode ⟨19, 1, 0, 0, 5⟩ = some 0x00500093 := by decide +kernel
theorem p1 : writes 19 = true := by decide +kernel
theorem p2 : writes 18 = false := by decide +kernel
set_option maxHeartbeats 2000000 in
set_option maxRecDepth 100000 in
theorem alive_c (w : World) : Calls Try.prog 9 #[] w fun e w' => e = .returned (.bool true) ∧ Below w.heap.size w w' := by
  have W1 := fun W => word_r 0x00500093 W (by decide) (by decide) _ w1
  have W0 := fun W => word_r 0 W (by decide) (by decide) _ w0
  have E1 := fun W => encode_r ⟨19, 1, 0, 0, 5⟩ W (by decide) (by decide) (by decide) (by decide) _ e1
  have P1 := fun W => writes_r 19 W _ p1
  have P2 := fun W => writes_r 18 W _ p2
  unfold wordv opv at W1
  unfold wordv opv Dc.Op.z at W0
  unfold encv opv at E1
  go_enter Try.func9, Try.ntmps9
  go_wp2_with (first | (go_at_call 10; first | (with_reducible refine (W1 _).mono ?_; rintro e wa ⟨rfl, ba⟩) | (with_reducible refine (W0 _).mono ?_; rintro e wc ⟨rfl, bc⟩; replace Eo := (bc.block _ (heap_lt Eo)).trans Eo; obtain ⟨x0, x1, x2, x3, x4, _⟩ := cells5 Eo; have X0 := fun q => Lib.cell?_alloc_some q x0; have X1 := fun q => Lib.cell?_alloc_some q x1; have X2 := fun q => Lib.cell?_alloc_some q x2; have X3 := fun q => Lib.cell?_alloc_some q x3; have X4 := fun q => Lib.cell?_alloc_some q x4; have B3 := Below.then (Below.then ba b2) bc)) | (go_at_call 12; refine (E1 _).mono ?_; rintro e wb ⟨rfl, bb⟩; obtain ⟨Eo, b2⟩ := alloc1_then bb; clear bb) | (go_at_call 14; first | (with_reducible refine (P1 _).mono ?_; rintro e wd ⟨rfl, bd⟩; have B4 := Below.then (below_al B3 _) bd) | (with_reducible refine (P2 _).mono ?_; rintro e we ⟨rfl, be⟩; have B5 := Below.then B4 be)))
  go_ret
  exact ⟨rfl, B5⟩
end Dliv
end Go.Proofs.Ytpdemjdjgehpgaa

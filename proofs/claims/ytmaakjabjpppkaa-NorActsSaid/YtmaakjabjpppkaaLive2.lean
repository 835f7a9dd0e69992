/- dioptralaw02.alive. -/
import Derived.Test.YtmaakjabjpppkaaOwn
namespace Go.Proofs.Ytmaakjabjpppkaa
open Go.RowKit
set_option linter.unusedVariables false
attribute [local go_sem] max2_int min2_int max_two min_two
namespace Nor
def l0 : Nr.C := Nr.new 2 3
def l1 : Nr.C := (Nr.programs l0 0 240).2
def l2 : Nr.C := (Nr.programs l1 0 60).2
def l3 : Nr.C := (Nr.erases l2 0).2
theorem lp1 : (Nr.programs l0 0 240).1 = 0 := by decide +kernel
theorem lp2 : (Nr.programs l1 0 60).1 = 0 := by decide +kernel
theorem lr2 : Nr.reads l2 0 = (48, 0) := by decide +kernel
theorem le2 : (Nr.erases l2 0).1 = 0 := by decide +kernel
theorem lr3 : Nr.reads l3 0 = (4294967295, 0) := by decide +kernel
theorem lx3 : Nr.worn l3 0 = 1 := by decide +kernel
theorem ll3 : l3.words.length = 128 := by decide +kernel
theorem lb3 : (l3.wear.length : Int) = 2 := by decide +kernel
theorem lo3 : (!l3.off) = true := by decide +kernel

theorem live : ∃ (c0 c1 c2 c3 : Nr.C) (zs : List Int), Hid (Nr.new 2 3 = c0) ∧ Hid (Nr.programs c0 0 240 = (0, c1)) ∧ Hid (Nr.programs c1 0 60 = (0, c2)) ∧ Hid (Nr.reads c2 0 = (48, 0)) ∧
    Hid (Nr.erases c2 0 = (0, c3)) ∧ Hid (Nr.reads c3 0 = (4294967295, 0)) ∧ Hid (Nr.worn c3 0 = 1) ∧ Hid (c3.words = zs) ∧ zs.length = 128 ∧ Hid ((c3.wear.length : Int) = 2) ∧ Hid ((!c3.off) = true) :=
  ⟨l0, l1, l2, l3, l3.words, rfl, Prod.ext lp1 rfl, Prod.ext lp2 rfl, lr2, Prod.ext le2 rfl, lr3, lx3, rfl, ll3, lb3, lo3⟩

set_option maxHeartbeats 1000000 in
set_option maxRecDepth 100000 in
theorem alive_c (w : World) : Calls Try.prog 11 #[] w fun e w' => e = .returned (.bool true) ∧ Below w.heap.size w w' := by
  obtain ⟨c0, c1, c2, c3, zs, H0, H1, H2, H3, H4, H5, H6, H7, hl, H8, H9⟩ := live
  have hl2 : (zs.length : Int) = 128 := by omega
  have hnew := new_o (Below.refl w.heap.size w) (n := 2) (endure := 3) (by decide) (by decide) (by decide) (Lib.hid (by decide)) H0
  go_enter Try.func11, Try.ntmps11
  go_wp2_with (first | (go_at_call 12; refine hnew.mono ?_; rintro e w1 ⟨g, bw, be, rfl, h1⟩) | (go_at_call 14; refine (program_o h1 (by decide) (by decide) H1).mono ?_; rintro e w2 ⟨rfl, h2⟩; clear h1) | (go_at_call 14; refine (program_o h2 (by decide) (by decide) H2).mono ?_; rintro e w3 ⟨rfl, h3⟩; clear h2) | (go_at_call 16; refine (read_o h3 H3).mono ?_; rintro e w3 ⟨rfl, rfl⟩) | (go_at_call 13; refine (erase_o h3 H4).mono ?_; rintro e w4 ⟨rfl, h4⟩; clear h3) | (go_at_call 16; refine (read_o h4 H5).mono ?_; rintro e w3 ⟨rfl, rfl⟩) | (go_at_call 15; refine (wear_o h4 H6).mono ?_; rintro e w3 ⟨rfl, rfl⟩) | (go_at_call 19; refine (words_o h4 H7).mono ?_; rintro e w5 ⟨a, kap, rfl, i1, i2, i3, h5, i5⟩; clear h4) | (go_at_call 21; refine (blocks_o h5 H8).mono ?_; rintro e w3 ⟨rfl, rfl⟩) | (go_at_call 17; refine (up_o h5 H9).mono ?_; rintro e w3 ⟨rfl, rfl⟩))
  go_ret
  exact ⟨rfl, h5.below⟩
end Nor
end Go.Proofs.Ytmaakjabjpppkaa

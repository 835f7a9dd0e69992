/- dioptralaw03.alive. -/
import Derived.Test.YtcpcnkmhhmccdaaCfiO
namespace Go.Proofs.Ytcpcnkmhhmccdaa
open Go.RowKit
set_option linter.unusedVariables false
attribute [local go_sem] max2_int min2_int max_two min_two
namespace Cfi
def k0 : Cf.Fl := Cf.new (Nr.new 2 5)
def k1 : Cf.Fl := (Cf.write k0 5 64).2
def k2 : Cf.Fl := (Cf.write k1 5 7).2
def k3 : Cf.Fl := (Cf.tick k2 3).2
def k4 : Cf.Fl := (Cf.write k3 0 255).2
theorem kw1 : (Cf.write k0 5 64).1 = 0 := by decide +kernel
theorem kw2 : (Cf.write k1 5 7).1 = 0 := by decide +kernel
theorem ks2 : Cf.status k2 = 0 := by decide +kernel
theorem kt3 : (Cf.tick k2 3).1 = 0 := by decide +kernel
theorem kw4 : (Cf.write k3 0 255).1 = 0 := by decide +kernel
theorem kr4 : Cf.read k4 5 = (7, 0) := by decide +kernel
theorem ks4 : Cf.status k4 = 128 := by decide +kernel
theorem ku4 : (!k4.c.off) = true := by decide +kernel
theorem live : ∃ s0 s1 s2 s3 s4 : Cf.Fl, Hid (Cf.new (Nr.new 2 5) = s0) ∧ Hid (Cf.write s0 5 64 = (0, s1)) ∧ Hid (Cf.write s1 5 7 = (0, s2)) ∧ Hid (Cf.status s2 = 0) ∧ Hid (Cf.tick s2 3 = (0, s3)) ∧ Hid (Cf.write s3 0 255 = (0, s4)) ∧ Hid (Cf.read s4 5 = (7, 0)) ∧ Hid (Cf.status s4 = 128) ∧ Hid ((!s4.c.off) = true) :=
  ⟨k0, k1, k2, k3, k4, rfl, Prod.ext kw1 rfl, Prod.ext kw2 rfl, ks2, Prod.ext kt3 rfl, Prod.ext kw4 rfl, kr4, ks4, ku4⟩
set_option maxHeartbeats 1000000 in
set_option maxRecDepth 100000 in
theorem alive_c (w : World) : Calls Try.prog 10 #[] w fun e w' => e = .returned (.bool true) ∧ Below w.heap.size w w' := by
  obtain ⟨s0, s1, s2, s3, s4, H0, H1, H2, H3, H4, H5, H6, H7, H8⟩ := live
  have hb := begin_o (Below.refl w.heap.size w) (n := 2) (endure := 5) (by decide) (by decide) (by decide) (Lib.hid (by decide)) H0
  go_enter Try.func10, Try.ntmps10
  go_wp2_with (first | (go_at_call 11; refine hb.mono ?_; rintro e w1 ⟨g, bw, be, gf, rfl, h0⟩; clear hb) |
    (go_at_call 14; refine (write_o h0 (by decide) (by decide) H1).mono ?_; rintro e w2 ⟨rfl, h1, _⟩; clear h0) | (go_at_call 14; refine (write_o h1 (by decide) (by decide) H2).mono ?_; rintro e w3 ⟨rfl, h2, _⟩; clear h1) |
    (go_at_call 17; refine (status_o h2 H3).mono ?_; rintro e w4 ⟨rfl, rfl⟩) | (go_at_call 16; refine (tick_o h2 H4).mono ?_; rintro e w4 ⟨rfl, h3, _⟩; clear h2) |
    (go_at_call 14; refine (write_o h3 (by decide) (by decide) H5).mono ?_; rintro e w5 ⟨rfl, h4, _⟩; clear h3) | (go_at_call 13; refine (read_o h4 H6).mono ?_; rintro e w6 ⟨rfl, h5, _⟩; clear h4) |
    (go_at_call 17; refine (status_o h5 H7).mono ?_; rintro e w7 ⟨rfl, rfl⟩) | (go_at_call 32; refine (Nor.up_o h5.own H8).mono ?_; rintro e w7 ⟨rfl, rfl⟩))
  go_ret
  exact ⟨rfl, h5.own.below⟩
end Cfi
end Go.Proofs.Ytcpcnkmhhmccdaa

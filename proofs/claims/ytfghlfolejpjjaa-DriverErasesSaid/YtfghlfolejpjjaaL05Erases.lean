/- DriverErases: an erasure takes twenty ticks, sets all bits of its block, and of no other; it is worn at its end. No condition. -/
import Derived.Test.YtfghlfolejpjjaaLive5
import Derived.Test.YtfghlfolejpjjaaDrLaws
import Derived.Test.YtfghlfolejpjjaaArgs
namespace Go.Proofs.Ytfghlfolejpjjaa
open Go.RowKit
set_option linter.unusedVariables false
attribute [local go_sem] max2_int min2_int max_two min_two
namespace L05Erases
set_option maxHeartbeats 4000000 in
set_option maxRecDepth 100000 in
theorem DriverErases_c (a0 : Int) (a1 : Int) (a2 : Option Addr) (len2 cap2 : Nat) (w : World) (w0 : (Lit.int .u8 a0).wf = true) (w1 : (Lit.int .u8 a1).wf = true) (s2 : Sh.ok w (.slice 1 (.int .u32)) [.slice a2 len2 cap2]) :
    Calls Try.prog 3 #[.int .u8 a0, .int .u8 a1, .slice a2 len2 cap2] w fun e w' => e = .returned (.bool true) ∧ Below w.heap.size w w' := by
  obtain ⟨r0, r0'⟩ := wf_u8 w0
  obtain ⟨r1, r1'⟩ := wf_u8 w1
  obtain ⟨zs, bb, off, rfl, hcap, hmax, hz, ha, hcell⟩ := words_of s2
  clear w0 w1 s2
  by_cases hb : (10 : Int) < (zs.length : Int)
  · go_enter Try.func3, Try.ntmps3
    go_wp2_with (first | (go_at_call 9; refine (Drv.alive_c _).mono ?_; rintro e w1 ⟨rfl, b1⟩))
    go_ret
    exact ⟨rfl, b1⟩
  obtain ⟨k, hk, hkk⟩ : ∃ k : Nat, k < 4 ∧ a0 % 4 = k := ⟨(a0 % 4).toNat, by omega, by omega⟩
  obtain ⟨b, hbb, hbb2⟩ : ∃ k : Nat, k < 2 ∧ a1 % 2 = k := ⟨(a1 % 2).toNat, by omega, by omega⟩
  have hkk2 : a0.tmod 4 = k := (Int.tmod_eq_emod_of_nonneg r0).trans hkk
  have hbb3 : a1.tmod 2 = b := (Int.tmod_eq_emod_of_nonneg r1).trans hbb2
  have hk3 : (k : Int) < 4 := by omega
  have hb3 : (b : Int) < 2 := by omega
  have hb' : (zs.length : Int) ≤ 10 := by omega
  obtain ⟨s0, s1, s3, J, z, H0, H1, H2, H3, H4, H5, H6, hzl, HG, C0, C1, C2⟩ := Cf.erases5 (k := k) (b := b) hbb (zs := zs) (by omega) hz
  have HZ := Lib.hid hz
  have HC := Lib.hid hcell
  have hz2 : (z.length : Int) = 128 := by omega
  clear hz hcell hb
  go_enter Try.func3, Try.ntmps3
  go_wp2_with (first | (go_at_call 9; refine (Drv.alive_c _).mono ?_; rintro e w1 ⟨rfl, b1⟩) |
    (go_at_call 10; refine (Drv.begin_o b1 (n := 2) (endure := (k : Int)) (by decide) (by decide) (by omega) (Lib.hid (by omega)) H0).mono ?_; rintro e w2 ⟨g, bw, be, gf, dd, rfl, h0⟩; clear b1) |
    (go_at_call 11; refine (Drv.program_o h0 C0.out (by decide) (by decide) (by decide) (by decide) (by omega) HZ ha HC H1).mono ?_; rintro e w4 ⟨rfl, h1⟩; clear h0) |
    (go_at_call 11; refine (Drv.program_o h1 C1.out (by omega) (by omega) (by decide) (by decide) (by omega) HZ ha HC H2).mono ?_; rintro e w4 ⟨rfl, h2⟩; clear h1) |
    (go_at_call 12; refine (Drv.ticks_o h2).mono ?_; rintro e w5 ⟨rfl, rfl⟩))
  obtain ⟨t0, ht0⟩ : ∃ t0 : Int, 0 + 3 * (zs.length : Int) + 3 * (zs.length : Int) = t0 := ⟨_, rfl⟩
  rw [ht0] at h2
  have ht1 : 0 ≤ t0 := by omega
  have ht2 : t0 ≤ 60 := by omega
  try rw [ht0]
  go_loopw [50] (fun i wr => ∃ j : Nat, j ≤ k ∧ i = .int .i64 j ∧ DrvL w wr dd gf g bw be 2 (t0 + 20 * (j : Int)) (J j)) (fun i _ => k - (intOf i).toNat)
  case atStart => exact ⟨0, by omega, rfl, by simpa using h2⟩
  case round =>
    obtain ⟨j, hj, rfl, hD⟩ := hrel
    by_cases hlt : j < k
    · have hlt2 : (j : Int) < (k : Int) := by omega
      have HE := Lib.hid (H3.out j hlt)
      go_wp2_with (go_at_call 13; refine (Drv.erase_o hD (C2.out j) (by omega) (by omega) (by omega) (by omega) HE).mono ?_; rintro e w5 ⟨rfl, hD1⟩; clear hD)
      go_roundw
      case rel => exact ⟨j + 1, by omega, by go_num, by rw [show t0 + 20 * ((j + 1 : Nat) : Int) = t0 + 20 * (j : Int) + 20 by omega]; exact hD1⟩
      case measure => simp [intOf]; omega
    · obtain rfl : j = k := by omega
      have hjj : (j : Int) ≤ (j : Int) := Int.le_refl _
      go_wp2_with (first | (go_at_call 12; refine (Drv.ticks_o hD).mono ?_; rintro e w5 ⟨rfl, rfl⟩) |
        (go_at_call 13; refine (Drv.erase_o hD (C2.out j) (by omega) (by omega) (by omega) (by omega) H4).mono ?_; rintro e w5 ⟨rfl, h3⟩; clear hD) |
        (go_at_call 12; refine (Drv.ticks_o h3).mono ?_; rintro e w6 ⟨rfl, rfl⟩) |
        (go_at_call 14; refine (Nor.wear_o h3.own H5).mono ?_; rintro e w6 ⟨rfl, rfl⟩) |
        (go_at_call 15; refine (Nor.words_o h3.own H6).mono ?_; rintro e w9 ⟨ra, kap1, rfl, p1, p2, p3, hO, p5⟩))
      go_loopw [91] (fun i wr => ∃ m : Nat, m ≤ zs.length ∧ i = .int .i64 m ∧ Below w9.heap.size w9 wr) (fun i _ => zs.length - (intOf i).toNat)
      case atStart => exact ⟨0, Nat.zero_le _, rfl, Below.refl _ _⟩
      case round =>
        obtain ⟨m, hm, rfl, hB⟩ := hrel
        by_cases hlt3 : m < zs.length
        · obtain rfl := ha m hlt3
          have c1 := Sl.below_cell (Below.then hO.below hB) (HC.out m hlt3)
          obtain ⟨g1, g2⟩ := HG.out m hlt3
          have c2 := Sl.below_cell hB (p3.cell (i := 64 * b + m) (by omega))
          have c3 := Sl.below_cell hB (p3.cell (i := 64 * (1 - b) + m) (by omega))
          rw [g1] at c2
          rw [g2] at c3
          have hm2 : (m : Int) < (zs.length : Int) := by omega
          generalize zs.getD m 0 = x at c1 c2 c3
          by_cases hk0 : j = 0
          · rw [if_pos hk0] at c2
            have hk4 : (j : Int) ≤ 0 := by omega
            have hk5 : ((j : Int) == 0) = true := by simpa using hk0
            clear hk0
            go_wp2
            go_quiet (fail)
            go_wp2
            go_roundw
            case rel => exact ⟨m + 1, by omega, by go_num, Below.drewN' hB _⟩
            case measure => simp [intOf]; omega
          · rw [if_neg hk0] at c2
            have hk4 : (0 : Int) < (j : Int) := by omega
            have hk5 : ((j : Int) == 0) = false := by simpa using hk0
            go_wp2
            go_quiet (fail)
            go_wp2
            go_roundw
            case rel => exact ⟨m + 1, by omega, by go_num, Below.drewN' hB _⟩
            case measure => simp [intOf]; omega
        · have hm2 : (zs.length : Int) ≤ (m : Int) := by omega
          go_wp2
          go_ret
          exact ⟨rfl, Below.then hO.below hB⟩
end L05Erases
end Go.Proofs.Ytfghlfolejpjjaa

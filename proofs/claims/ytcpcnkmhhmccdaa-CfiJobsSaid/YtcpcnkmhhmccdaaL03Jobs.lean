/- CfiJobs: a program is done behind three ticks, an erasure behind twenty, and not ahead of that; commands between count nothing. No condition. -/
import Derived.Test.YtcpcnkmhhmccdaaLive3
import Derived.Test.YtcpcnkmhhmccdaaCfLaws2
import Derived.Test.YtcpcnkmhhmccdaaArgs
namespace Go.Proofs.Ytcpcnkmhhmccdaa
open Go.RowKit
set_option linter.unusedVariables false
attribute [local go_sem] max2_int min2_int max_two min_two
namespace L03Jobs
set_option maxHeartbeats 4000000 in
set_option maxRecDepth 100000 in
theorem CfiJobs_c (a0 : Int) (a1 : Int) (a2 : Option Addr) (len2 cap2 : Nat) (w : World) (w0 : (Lit.int .u8 a0).wf = true) (w1 : (Lit.int .u32 a1).wf = true) (s2 : Sh.ok w (.slice 1 (.int .u32)) [.slice a2 len2 cap2]) :
    Calls Try.prog 8 #[.int .u8 a0, .int .u32 a1, .slice a2 len2 cap2] w fun e w' => e = .returned (.bool true) ∧ Below w.heap.size w w' := by
  obtain ⟨h0, h0'⟩ := wf_u8 w0
  obtain ⟨k0, k0'⟩ := wf_u32 w1
  obtain ⟨zs, b, off, rfl, hcap, hmax, hz, ha, hcell⟩ := words_of s2
  clear w0 w1 s2
  by_cases hb : (80 : Int) < (zs.length : Int)
  · go_enter Try.func8, Try.ntmps8
    go_wp2_with (first | (go_at_call 10; refine (Cfi.alive_c _).mono ?_; rintro e w1 ⟨rfl, b1⟩))
    go_ret
    exact ⟨rfl, b1⟩
  obtain ⟨k, hk, hkk⟩ : ∃ k : Nat, k < 128 ∧ a0 % 128 = k := ⟨(a0 % 128).toNat, by omega, by omega⟩
  have hkk2 : a0.tmod 128 = k := (Int.tmod_eq_emod_of_nonneg h0).trans hkk
  have hb' : (zs.length : Int) ≤ 80 := by omega
  obtain ⟨t0, t1, t3, t4, t6, J, E, z0, z1, z2, ⟨H0, H1, H2, H3, H4, H5, H6, H7, H8, H9, H10, H11, H12, H13, H14, H15, H16, H17, H18⟩, e0, e1, e2, e3, e4, e5⟩ := Cf.jobs_chain hk k0 k0'
  have HZ := Lib.hid hz
  have HC := Lib.hid hcell
  have hk3 : (k : Int) < 128 := by omega
  have d0 : (z0.length : Int) = 128 := by omega
  have d1 : (z1.length : Int) = 128 := by omega
  have d2 : (z2.length : Int) = 128 := by omega
  clear hz hcell hb
  go_enter Try.func8, Try.ntmps8
  go_wp2_with (first | (go_at_call 10; refine (Cfi.alive_c _).mono ?_; rintro e w1 ⟨rfl, b1⟩) |
    (go_at_call 11; refine (Cfi.begin_o b1 (n := 2) (endure := 5) (by decide) (by decide) (by decide) (Lib.hid (by decide)) H0).mono ?_; rintro e w2 ⟨g, bw, be, gf, rfl, h1⟩) |
    (go_at_call 14; refine (Cfi.write_o h1 (by decide) (by decide) H1).mono ?_; rintro e w3 ⟨rfl, h2, _⟩; clear h1) |
    (go_at_call 14; refine (Cfi.write_o h2 k0 k0' H2).mono ?_; rintro e w4 ⟨rfl, h3, _⟩; clear h2))
  go_loopw [36] (fun i wr => ∃ m : Nat, m ≤ 2 ∧ i = .int .i64 m ∧ ∃ T, FlashAt w wr T gf g bw be (J (3 - (m : Int)))) (fun i _ => 2 - (intOf i).toNat)
  case atStart => exact ⟨0, by omega, rfl, _, h3⟩
  case round =>
    obtain ⟨m, hm, rfl, T, hF⟩ := hrel
    by_cases hm2 : m < 2
    · have hm3 : (m : Int) < 2 := by omega
      have HT := Lib.hid (H5.out (3 - (m : Int)) (by omega))
      obtain ⟨wo, rfl⟩ : ∃ wo : World, wo = wr := ⟨_, rfl⟩
      go_wp2
      go_loopw [41] (fun i wq => ∃ j : Nat, j ≤ zs.length ∧ i = .int .i64 j ∧ ∃ T, FlashAt w wq T gf g bw be (J (3 - (m : Int)))) (fun i _ => zs.length - (intOf i).toNat)
      case atStart => exact ⟨0, by omega, rfl, _, hF⟩
      case round =>
        obtain ⟨j, hj, rfl, T, hF⟩ := hrel
        by_cases hlt : j < zs.length
        · obtain rfl := ha j hlt
          have cx := Sl.below_cell hF.own.below (HC.out j hlt)
          have hx := HZ.out j
          have hlt2 : (j : Int) < (zs.length : Int) := by omega
          generalize zs.getD j 0 = x at cx hx
          have hx1 := hx.1
          have hx2 := hx.2
          go_wp2_with (go_at_call 14; refine (Cfi.write_o hF hx1 hx2 (Lib.hid (H3.out (3 - (m : Int)) x))).mono ?_; rintro e w5 ⟨rfl, hF1, _⟩; clear hF)
          go_roundw
          case rel => exact ⟨j + 1, by omega, by go_num, _, hF1⟩
          case measure => simp [intOf]; omega
        · have hlt2 : (zs.length : Int) ≤ (j : Int) := by omega
          clear hj hlt
          go_wp2_with (first | (go_at_call 13; refine (Cfi.read_o hF (Lib.hid (H4.out (3 - (m : Int))))).mono ?_; rintro e w5 ⟨rfl, hF1, _⟩; clear hF) | (go_at_call 16; refine (Cfi.tick_o hF1 HT).mono ?_; rintro e w5 ⟨rfl, hF2, _⟩; clear hF1) | (go_at_call 19; refine (Cfi.words_o hF2 (Lib.hid (H6.out (3 - (m : Int) - 1)))).mono ?_; rintro e w6 ⟨r1, kap1, rfl, p1, p2, p3, hF3, p5⟩; clear hF2; have cx := p3.cell (i := k) (by omega); rw [e1] at cx))
          go_roundw
          case rel => exact ⟨m + 1, by omega, by go_num, _, by rw [show (3 : Int) - ((m + 1 : Nat) : Int) = 3 - (m : Int) - 1 by omega]; exact hF3⟩
          case measure => simp [intOf]; omega
    · obtain rfl : m = 2 := by omega
      have HT : Hid (Cf.tick (J (3 - ((2 : Nat) : Int))) 1 = (0, t3)) := H7
      go_wp2_with (first | (go_at_call 16; refine (Cfi.tick_o hF HT).mono ?_; rintro e w5 ⟨rfl, g1, _⟩; clear hF) | (go_at_call 17; refine (Cfi.status_o g1 H8).mono ?_; rintro e w5 ⟨rfl, rfl⟩) | (go_at_call 19; refine (Cfi.words_o g1 H9).mono ?_; rintro e w6 ⟨r1, kap1, rfl, p1, p2, p3, g2, p5⟩; clear g1; have cx := p3.cell (i := k) (by omega); rw [e3] at cx) | (go_at_call 14; refine (Cfi.write_o g2 (by decide) (by decide) H10).mono ?_; rintro e w5 ⟨rfl, g3, _⟩; clear g2) | (go_at_call 14; refine (Cfi.write_o g3 (by decide) (by decide) H11).mono ?_; rintro e w5 ⟨rfl, g4, _⟩; clear g3) | (go_at_call 16; refine (Cfi.tick_o g4 H12).mono ?_; rintro e w5 ⟨rfl, g5, _⟩; clear g4) | (go_at_call 17; refine (Cfi.status_o g5 H13).mono ?_; rintro e w5 ⟨rfl, rfl⟩) | (go_at_call 19; refine (Cfi.words_o g5 H14).mono ?_; rintro e w6 ⟨r1, kap1, rfl, p1, p2, p3, g6, p5⟩; clear g5; have cx := p3.cell (i := k) (by omega); rw [e3] at cx) | (go_at_call 16; refine (Cfi.tick_o g6 H15).mono ?_; rintro e w5 ⟨rfl, g7, _⟩; clear g6) | (go_at_call 17; refine (Cfi.status_o g7 H16).mono ?_; rintro e w5 ⟨rfl, rfl⟩) | (go_at_call 19; refine (Cfi.words_o g7 H17).mono ?_; rintro e w6 ⟨r1, kap1, rfl, p1, p2, p3, g8, p5⟩; clear g7; have cx := p3.cell (i := k) (by omega); rw [e5] at cx) | (go_at_call 21; refine (Nor.wear_o g8.own H18).mono ?_; rintro e w5 ⟨rfl, rfl⟩))
      go_ret
      exact ⟨rfl, g8.own.below⟩
end L03Jobs
end Go.Proofs.Ytcpcnkmhhmccdaa

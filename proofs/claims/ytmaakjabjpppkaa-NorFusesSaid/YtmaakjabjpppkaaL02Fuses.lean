/- NorFuses: the fuse burns at just the change that was named, and no call ahead of it tells of it. No condition. -/
import Derived.Test.YtmaakjabjpppkaaLive2
import Derived.Test.YtmaakjabjpppkaaNrLaws
import Derived.Test.YtmaakjabjpppkaaArgs
namespace Go.Proofs.Ytmaakjabjpppkaa
open Go.RowKit
set_option linter.unusedVariables false
attribute [local go_sem] max2_int min2_int max_two min_two
namespace L02Fuses
set_option maxHeartbeats 2000000 in
set_option maxRecDepth 100000 in
theorem NorFuses_c (a0 : Int) (a1 : Int) (a2 : Option Addr) (len2 cap2 : Nat) (w : World) (w0 : (Lit.int .u8 a0).wf = true) (w1 : (Lit.int .u8 a1).wf = true) (s2 : Sh.ok w (.slice 1 (.int .u32)) [.slice a2 len2 cap2]) :
    Calls Try.prog 6 #[.int .u8 a0, .int .u8 a1, .slice a2 len2 cap2] w fun e w' => e = .returned (.bool true) ∧ Below w.heap.size w w' := by
  obtain ⟨h0, h0'⟩ := wf_u8 w0
  obtain ⟨k0, k0'⟩ := wf_u8 w1
  obtain ⟨zs, b, off, rfl, hcap, hmax, hz, ha, hcell⟩ := words_of s2
  clear w0 w1 s2
  by_cases hb : (60 : Int) < (zs.length : Int)
  · go_enter Try.func6, Try.ntmps6
    go_wp2_with (first | (go_at_call 11; refine (Nor.alive_c _).mono ?_; rintro e w1 ⟨rfl, b1⟩))
    go_ret
    exact ⟨rfl, b1⟩
  · obtain ⟨k, hk, hkk⟩ : ∃ k : Nat, k < 128 ∧ a1.tmod 128 = k := by
      have e := Int.tmod_eq_emod_of_nonneg (b := 128) k0
      exact ⟨(a1.tmod 128).toNat, by omega, by omega⟩
    obtain ⟨s, hs, hss⟩ : ∃ s : Nat, s < 20 ∧ a0.tmod 20 = s := by
      have e := Int.tmod_eq_emod_of_nonneg (b := 20) h0
      exact ⟨(a0.tmod 20).toNat, by omega, by omega⟩
    have hb' : (zs.length : Int) ≤ 60 := by omega
    obtain ⟨c0, H0⟩ : ∃ c, Hid (Nr.new 2 10 = c) := ⟨_, rfl⟩
    obtain ⟨c1, H1, x1, x2, x3⟩ : ∃ c, Hid (Nr.fuse c0 (1 + (s : Int)) 0 = c) ∧ c.wear.length = 2 ∧ Hid (c.off = decide (s + 1 ≤ 0)) ∧ Hid (0 < s + 1 → c.fuse = ((s + 1 : Nat) : Int) - ((0 : Nat) : Int)) := by
      have e := H0.out
      subst e
      refine ⟨_, rfl, rfl, (by show false = decide (s + 1 ≤ 0); simp : _ = _), fun _ => ?_⟩
      show max (1 + (s : Int)) 0 = _
      omega
    have HZ := Lib.hid hz
    have HC := Lib.hid hcell
    have HK := Lib.hid hk
    have hs' : (s : Int) < 20 := by omega
    clear hz hcell hb
    go_enter Try.func6, Try.ntmps6
    go_wp2_with (first | (go_at_call 11; refine (Nor.alive_c _).mono ?_; rintro e w1 ⟨rfl, b1⟩) | (go_at_call 12; refine (Nor.new_o b1 (n := 2) (endure := 10) (by decide) (by decide) (by decide) (Lib.hid (by decide)) H0).mono ?_; rintro e w2 ⟨g, bw, be, rfl, h1⟩) | (go_at_call 22; refine (Nor.fuse_o h1 (Lib.hid (by omega)) (by decide) (by decide) H1).mono ?_; rintro e w2 ⟨rfl, h2⟩; clear h1))
    go_loopw [29] (fun i wr => ∃ (j : Nat) (c : Nr.C), j ≤ zs.length ∧ i = .int .i64 j ∧ Own w wr g bw be c ∧ c.wear.length = 2 ∧ Hid (c.off = decide (s + 1 ≤ j)) ∧ Hid (j < s + 1 → c.fuse = ((s + 1 : Nat) : Int) - (j : Int))) (fun i _ => zs.length - (intOf i).toNat)
    case atStart => exact ⟨0, c1, Nat.zero_le _, rfl, h2, x1, x2, x3⟩
    case round =>
      obtain ⟨j, c, hj, rfl, hO, y1, y2, y3⟩ := hrel
      by_cases hlt : j < zs.length
      · obtain rfl := ha j hlt
        have cx := Sl.below_cell hO.below (HC.out j hlt)
        have hx := HZ.out j
        have hlt2 : (j : Int) < (zs.length : Int) := by omega
        generalize zs.getD j 0 = x at cx hx
        have hx1 := hx.1
        have hx2 := hx.2
        obtain ⟨e, c', q, z1, z2, z3, z4, z5⟩ := Nr.fuses_step hO.chip.ok y1 (stop := s + 1) (i := j) (by omega) y2.out y3.out HK.out x
        by_cases hst : j + 1 < s + 1
        · have h6 : (j : Int) + 1 < 1 + (s : Int) := by omega
          have hu : Hid ((!c'.off) = true) := by
            show (!c'.off) = true
            rw [z2.out]; simp; omega
          obtain rfl := z4 hst
          clear z4 z5
          go_wp2_with (first | (go_at_call 14; refine (Nor.program_o hO hx1 hx2 q).mono ?_; rintro e w3 ⟨rfl, h3⟩; clear hO) | (go_at_call 17; refine (Nor.up_o h3 hu).mono ?_; rintro e w4 ⟨rfl, rfl⟩))
          go_roundw
          case rel => exact ⟨j + 1, c', by omega, by go_num, h3, z1, z2, z3⟩
          case measure => simp [intOf]; omega
        · have h6 : 1 + (s : Int) ≤ (j : Int) + 1 := by omega
          have hu : Hid ((!c'.off) = false) := by
            show (!c'.off) = false
            rw [z2.out]; simp; omega
          obtain rfl := z5 (by omega)
          clear z4 z5
          go_wp2_with (first | (go_at_call 14; refine (Nor.program_o hO hx1 hx2 q).mono ?_; rintro e w3 ⟨rfl, h3⟩; clear hO) | (go_at_call 17; refine (Nor.up_o h3 hu).mono ?_; rintro e w4 ⟨rfl, rfl⟩))
          go_roundw
          case rel => exact ⟨j + 1, c', by omega, by go_num, h3, z1, z2, z3⟩
          case measure => simp [intOf]; omega
      · have hlt2 : (zs.length : Int) ≤ (j : Int) := by omega
        go_wp2
        go_ret
        exact ⟨rfl, hO.below⟩
end L02Fuses
end Go.Proofs.Ytmaakjabjpppkaa

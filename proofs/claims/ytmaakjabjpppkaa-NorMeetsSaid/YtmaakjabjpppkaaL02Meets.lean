/- NorMeets: words that are programmed one behind the other leave the bits that all of them have. No condition. -/
import Derived.Test.YtmaakjabjpppkaaLive2
import Derived.Test.YtmaakjabjpppkaaNrLaws
import Derived.Test.YtmaakjabjpppkaaArgs
namespace Go.Proofs.Ytmaakjabjpppkaa
open Go.RowKit
set_option linter.unusedVariables false
attribute [local go_sem] max2_int min2_int max_two min_two
namespace L02Meets
def wants (zs : List Int) : Nat → Int
  | 0 => 4294967295
  | k + 1 => bits .and .u32 (wants zs k) (zs.getD k 0)
set_option maxHeartbeats 2000000 in
set_option maxRecDepth 100000 in
theorem NorMeets_c (a0 : Int) (a1 : Option Addr) (len1 cap1 : Nat) (w : World) (w0 : (Lit.int .u8 a0).wf = true) (s1 : Sh.ok w (.slice 1 (.int .u32)) [.slice a1 len1 cap1]) :
    Calls Try.prog 5 #[.int .u8 a0, .slice a1 len1 cap1] w fun e w' => e = .returned (.bool true) ∧ Below w.heap.size w w' := by
  obtain ⟨h0, h0'⟩ := wf_u8 w0
  obtain ⟨zs, b, off, rfl, hcap, hmax, hz, ha, hcell⟩ := words_of s1
  by_cases hb : (60 : Int) < (zs.length : Int)
  · go_enter Try.func5, Try.ntmps5
    go_wp2_with (first | (go_at_call 11; refine (Nor.alive_c _).mono ?_; rintro e w1 ⟨rfl, b1⟩))
    go_ret
    exact ⟨rfl, b1⟩
  · obtain ⟨k, hk, hkk⟩ : ∃ k : Nat, k < 128 ∧ a0.tmod 128 = k := by
      have e := Int.tmod_eq_emod_of_nonneg (b := 128) h0
      exact ⟨(a0.tmod 128).toNat, by omega, by omega⟩
    have hb' : (zs.length : Int) ≤ 60 := by omega
    have H0 := Lib.hid (Nr.me_new hk)
    have HK := Lib.hid hk
    have HZ := Lib.hid hz
    have HC := Lib.hid hcell
    clear hz hcell
    go_enter Try.func5, Try.ntmps5
    go_wp2_with (first | (go_at_call 11; refine (Nor.alive_c _).mono ?_; rintro e w1 ⟨rfl, b1⟩) | (go_at_call 12; refine (Nor.new_o b1 (n := 2) (endure := 0) (by decide) (by decide) (by decide) (Lib.hid (by decide)) H0).mono ?_; rintro e w2 ⟨g, bw, be, rfl, h1⟩))
    go_loopw [25, 7] (fun i v wr => ∃ j : Nat, j ≤ zs.length ∧ i = .int .i64 j ∧ v = .int .u32 (wants zs j) ∧ Own w wr g bw be (Nr.me k (wants zs j))) (fun i _ _ => zs.length - (intOf i).toNat)
    case atStart => exact ⟨0, Nat.zero_le _, rfl, rfl, h1⟩
    case round =>
      obtain ⟨j, hj, rfl, rfl, hO⟩ := hrel
      by_cases hlt : j < zs.length
      · obtain rfl := ha j hlt
        have cx := Sl.below_cell hO.below (HC.out j hlt)
        have hx := HZ.out j
        have HW : wants zs (j + 1) = bits .and .u32 (wants zs j) (zs.getD j 0) := rfl
        have hlt2 : (j : Int) < (zs.length : Int) := by omega
        generalize zs.getD j 0 = x at cx hx HW
        have hx1 := hx.1
        have hx2 := hx.2
        have q := Lib.hid (Nr.programs_me HK.out (wants zs j) x)
        have HWW := Lib.hid HW
        clear HW hx
        generalize wants zs j = y at hO q HWW ⊢
        go_wp2_with (go_at_call 14; refine (Nor.program_o hO hx1 hx2 q).mono ?_; rintro e w3 ⟨rfl, h3⟩; clear hO)
        go_roundw
        case rel =>
          refine ⟨j + 1, by omega, by go_num, by rw [HWW.out], ?_⟩
          rw [HWW.out]; exact h3
        case measure => simp [intOf]; omega
      · have hlt2 : (zs.length : Int) ≤ (j : Int) := by omega
        have q : Hid (Nr.reads (Nr.me k (wants zs j)) k = (wants zs j, 0)) := Nr.reads_me HK.out (wants zs j)
        generalize wants zs j = y at hO q ⊢
        go_wp2_with (go_at_call 16; refine (Nor.read_o hO q).mono ?_; rintro e w3 ⟨rfl, rfl⟩)
        go_ret
        exact ⟨rfl, hO.below⟩
end L02Meets
end Go.Proofs.Ytmaakjabjpppkaa

/- NorWorn: a block bears just so many erasures; then it is read, and programmed, as ever. No condition. -/
import Derived.Test.YtmaakjabjpppkaaLive2
import Derived.Test.YtmaakjabjpppkaaNrLaws
import Derived.Test.YtmaakjabjpppkaaArgs
namespace Go.Proofs.Ytmaakjabjpppkaa
open Go.RowKit
set_option linter.unusedVariables false
attribute [local go_sem] max2_int min2_int max_two min_two
namespace L02Worn
theorem reads_sw (k v : Int) : Nr.reads (Nr.sw k v) 70 = (v, 0) := by
  have e : Nr.wrong (Nr.sw k v) 70 (((Nr.sw k v).wear.length : Int) * 64) = 0 := Nr.wrong_in (m := 70) rfl (by show (70 : Int) < 128; decide)
  unfold Nr.reads
  rw [e, if_pos rfl]
  exact congrArg (·, (0 : Int)) (Nr.getD_set_self (l := List.replicate 128 4294967295) (m := 70) (by simp) v)
set_option maxHeartbeats 2000000 in
set_option maxRecDepth 100000 in
theorem NorWorn_c (a0 : Int) (a1 : Int) (w : World) (w0 : (Lit.int .u8 a0).wf = true) (w1 : (Lit.int .u32 a1).wf = true) :
    Calls Try.prog 3 #[.int .u8 a0, .int .u32 a1] w fun e w' => e = .returned (.bool true) ∧ Below w.heap.size w w' := by
  obtain ⟨h0, h0'⟩ := wf_u8 w0
  obtain ⟨k0, k0'⟩ := wf_u32 w1
  clear w0 w1
  obtain ⟨s, hs, hss⟩ : ∃ s : Nat, s < 20 ∧ a0.tmod 20 = s := by
    have e := Int.tmod_eq_emod_of_nonneg (b := 20) h0
    exact ⟨(a0.tmod 20).toNat, by omega, by omega⟩
  have hs' : (s : Int) < 20 := by omega
  have H0 := Lib.hid (Nr.st_new s)
  have H1 := Lib.hid (Nr.programs_st (k := s) k0 k0')
  have H2 := Lib.hid (Nr.erases_sw s a1)
  have H3 : Hid (Nr.worn (Nr.sw s a1) 1 = s) := rfl
  have H4 : Hid (Nr.worn (Nr.sw s a1) 0 = 0) := rfl
  have H5 : Hid (Nr.reads (Nr.sw s a1) 70 = (a1, 0)) := reads_sw s a1
  have H6 : Hid ((!(Nr.sw s a1).off) = true) := rfl
  have HS : Hid (∀ j : Int, j < (s : Int) → Nr.erases (Nr.st s j) 1 = (0, Nr.st s (j + 1))) := fun j h => Nr.erases_st h
  generalize Nr.sw s a1 = cz at *
  go_enter Try.func3, Try.ntmps3
  go_wp2_with (first | (go_at_call 11; refine (Nor.alive_c _).mono ?_; rintro e w1 ⟨rfl, b1⟩) | (go_at_call 12; refine (Nor.new_o b1 (n := 2) (endure := s) (by decide) (by decide) (by omega) (Lib.hid (by omega)) H0).mono ?_; rintro e w2 ⟨g, bw, be, rfl, h1⟩))
  go_loopw [19] (fun i wr => ∃ j : Nat, j ≤ s ∧ i = .int .i64 j ∧ Own w wr g bw be (Nr.st s j)) (fun i _ => s - (intOf i).toNat)
  case atStart => exact ⟨0, Nat.zero_le _, rfl, h1⟩
  case round =>
    obtain ⟨j, hj, rfl, hO⟩ := hrel
    by_cases hlt : (j : Int) < (s : Int)
    · have q := Lib.hid (HS.out j hlt)
      go_wp2_with (first | (go_at_call 13; refine (Nor.erase_o hO q).mono ?_; rintro e w3 ⟨rfl, h3⟩; clear hO))
      go_roundw
      case rel => exact ⟨j + 1, by omega, by go_num, by rw [Int.natCast_succ]; exact h3⟩
      case measure => simp [intOf]; omega
    · have hjs : j = s := by omega
      subst hjs
      go_wp2_with (first | (go_at_call 14; refine (Nor.program_o hO k0 k0' H1).mono ?_; rintro e w3 ⟨rfl, h3⟩; clear hO) | (go_at_call 13; refine (Nor.erase_o h3 H2).mono ?_; rintro e w4 ⟨rfl, h4⟩; clear h3) | (go_at_call_of 15 (Value.int .i64 1); refine (Nor.wear_o h4 H3).mono ?_; rintro e w5 ⟨rfl, rfl⟩) | (go_at_call 15; refine (Nor.wear_o h4 H4).mono ?_; rintro e w5 ⟨rfl, rfl⟩) | (go_at_call 16; refine (Nor.read_o h4 H5).mono ?_; rintro e w5 ⟨rfl, rfl⟩) | (go_at_call 17; refine (Nor.up_o h4 H6).mono ?_; rintro e w5 ⟨rfl, rfl⟩))
      go_ret
      exact ⟨rfl, h4.below⟩
end L02Worn
end Go.Proofs.Ytmaakjabjpppkaa

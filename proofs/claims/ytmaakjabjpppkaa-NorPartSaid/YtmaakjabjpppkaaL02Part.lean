/- NorPart: a change that is done in part lies between what there was and what there would be. No condition. -/
import Derived.Test.YtmaakjabjpppkaaLive2
import Derived.Test.YtmaakjabjpppkaaNrLaws
import Derived.Test.YtmaakjabjpppkaaArgs
namespace Go.Proofs.Ytmaakjabjpppkaa
open Go.RowKit
set_option linter.unusedVariables false
attribute [local go_sem] max2_int min2_int max_two min_two
namespace L02Part
set_option maxHeartbeats 2000000 in
set_option maxRecDepth 100000 in
theorem NorPart_c (a0 : Int) (a1 : Int) (a2 : Int) (w : World) (w0 : (Lit.int .u32 a0).wf = true) (w1 : (Lit.int .u32 a1).wf = true) (w2 : (Lit.int .u32 a2).wf = true) :
    Calls Try.prog 8 #[.int .u32 a0, .int .u32 a1, .int .u32 a2] w fun e w' => e = .returned (.bool true) ∧ Below w.heap.size w w' := by
  obtain ⟨r0, r0'⟩ := wf_u32 w0
  obtain ⟨r1, r1'⟩ := wf_u32 w1
  obtain ⟨r2, r2'⟩ := wf_u32 w2
  clear w0 w1 w2
  obtain ⟨x, y, c0, c1, c2, c3, c4, c5, c6, c7, ⟨H0, H1, H2, H3, H4, H5, H6, H7, H8, H9, H10, H11, H12⟩, e1, e2, e3, e4, e5, e6, e7⟩ := Nr.part_chain r0 r0' r1 r1' r2 r2'
  by_cases p0 : a2 = 0
  · subst p0
    obtain rfl := e3 rfl
    obtain rfl := e6 rfl
    clear e3 e6 e4 e7
    go_enter Try.func8, Try.ntmps8
    go_wp2_with (first | (go_at_call 11; refine (Nor.alive_c _).mono ?_; rintro e w1 ⟨rfl, b1⟩) | (go_at_call 12; refine (Nor.new_o b1 (n := 1) (endure := 5) (by decide) (by decide) (by decide) (Lib.hid (by decide)) H0).mono ?_; rintro e w2 ⟨g, bw, be, rfl, h0⟩) | (go_at_call 14; refine (Nor.program_o h0 r0 r0' H1).mono ?_; rintro e w3 ⟨rfl, h1⟩; clear h0) | (go_at_call 22; refine (Nor.fuse_o h1 (Lib.hid (by decide)) r2 r2' H2).mono ?_; rintro e w4 ⟨rfl, h2⟩; clear h1) | (go_at_call 14; refine (Nor.program_o h2 r1 r1' H3).mono ?_; rintro e w5 ⟨rfl, h3⟩; clear h2) | (go_at_call 17; refine (Nor.up_o h3 H4).mono ?_; rintro e w6 ⟨rfl, rfl⟩) | (go_at_call 14; refine (Nor.program_o h3 (by decide) (by decide) H5).mono ?_; rintro e w6 ⟨rfl, h3'⟩; clear h3) | (go_at_call 23; refine (Nor.on_o h3' H6).mono ?_; rintro e w7 ⟨rfl, h4⟩; clear h3') | (go_at_call 16; refine (Nor.read_o h4 H7).mono ?_; rintro e w8 ⟨rfl, rfl⟩) | (go_at_call 22; refine (Nor.fuse_o h4 (Lib.hid (by decide)) r2 r2' H8).mono ?_; rintro e w8 ⟨rfl, h5⟩; clear h4) | (go_at_call 13; refine (Nor.erase_o h5 H9).mono ?_; rintro e w9 ⟨rfl, h6⟩; clear h5) | (go_at_call 15; refine (Nor.wear_o h6 H10).mono ?_; rintro e w10 ⟨rfl, rfl⟩) | (go_at_call 23; refine (Nor.on_o h6 H11).mono ?_; rintro e w10 ⟨rfl, h7⟩; clear h6) | (go_at_call 16; refine (Nor.read_o h7 H12).mono ?_; rintro e w11 ⟨rfl, rfl⟩))
    go_ret
    exact ⟨rfl, h7.below⟩
  · by_cases p1 : a2 = 4294967295
    · subst p1
      obtain rfl := e4 rfl
      obtain rfl := e7 rfl
      clear e3 e6 e4 e7 p0
      go_enter Try.func8, Try.ntmps8
      go_wp2_with (first | (go_at_call 11; refine (Nor.alive_c _).mono ?_; rintro e w1 ⟨rfl, b1⟩) | (go_at_call 12; refine (Nor.new_o b1 (n := 1) (endure := 5) (by decide) (by decide) (by decide) (Lib.hid (by decide)) H0).mono ?_; rintro e w2 ⟨g, bw, be, rfl, h0⟩) | (go_at_call 14; refine (Nor.program_o h0 r0 r0' H1).mono ?_; rintro e w3 ⟨rfl, h1⟩; clear h0) | (go_at_call 22; refine (Nor.fuse_o h1 (Lib.hid (by decide)) r2 r2' H2).mono ?_; rintro e w4 ⟨rfl, h2⟩; clear h1) | (go_at_call 14; refine (Nor.program_o h2 r1 r1' H3).mono ?_; rintro e w5 ⟨rfl, h3⟩; clear h2) | (go_at_call 17; refine (Nor.up_o h3 H4).mono ?_; rintro e w6 ⟨rfl, rfl⟩) | (go_at_call 14; refine (Nor.program_o h3 (by decide) (by decide) H5).mono ?_; rintro e w6 ⟨rfl, h3'⟩; clear h3) | (go_at_call 23; refine (Nor.on_o h3' H6).mono ?_; rintro e w7 ⟨rfl, h4⟩; clear h3') | (go_at_call 16; refine (Nor.read_o h4 H7).mono ?_; rintro e w8 ⟨rfl, rfl⟩) | (go_at_call 22; refine (Nor.fuse_o h4 (Lib.hid (by decide)) r2 r2' H8).mono ?_; rintro e w8 ⟨rfl, h5⟩; clear h4) | (go_at_call 13; refine (Nor.erase_o h5 H9).mono ?_; rintro e w9 ⟨rfl, h6⟩; clear h5) | (go_at_call 15; refine (Nor.wear_o h6 H10).mono ?_; rintro e w10 ⟨rfl, rfl⟩) | (go_at_call 23; refine (Nor.on_o h6 H11).mono ?_; rintro e w10 ⟨rfl, h7⟩; clear h6) | (go_at_call 16; refine (Nor.read_o h7 H12).mono ?_; rintro e w11 ⟨rfl, rfl⟩))
      go_ret
      exact ⟨rfl, h7.below⟩
    · clear e3 e6 e4 e7
      have q0 : (a2 == 0) = false := by simpa using p0
      have q1 : (a2 == 4294967295) = false := by simpa using p1
      have q2 : (a2 != 0) = true := by simpa using p0
      have q3 : (a2 != 4294967295) = true := by simpa using p1
      clear p0 p1
      go_enter Try.func8, Try.ntmps8
      go_wp2_with (first | (go_at_call 11; refine (Nor.alive_c _).mono ?_; rintro e w1 ⟨rfl, b1⟩) | (go_at_call 12; refine (Nor.new_o b1 (n := 1) (endure := 5) (by decide) (by decide) (by decide) (Lib.hid (by decide)) H0).mono ?_; rintro e w2 ⟨g, bw, be, rfl, h0⟩) | (go_at_call 14; refine (Nor.program_o h0 r0 r0' H1).mono ?_; rintro e w3 ⟨rfl, h1⟩; clear h0) | (go_at_call 22; refine (Nor.fuse_o h1 (Lib.hid (by decide)) r2 r2' H2).mono ?_; rintro e w4 ⟨rfl, h2⟩; clear h1) | (go_at_call 14; refine (Nor.program_o h2 r1 r1' H3).mono ?_; rintro e w5 ⟨rfl, h3⟩; clear h2) | (go_at_call 17; refine (Nor.up_o h3 H4).mono ?_; rintro e w6 ⟨rfl, rfl⟩) | (go_at_call 14; refine (Nor.program_o h3 (by decide) (by decide) H5).mono ?_; rintro e w6 ⟨rfl, h3'⟩; clear h3) | (go_at_call 23; refine (Nor.on_o h3' H6).mono ?_; rintro e w7 ⟨rfl, h4⟩; clear h3') | (go_at_call 16; refine (Nor.read_o h4 H7).mono ?_; rintro e w8 ⟨rfl, rfl⟩) | (go_at_call 22; refine (Nor.fuse_o h4 (Lib.hid (by decide)) r2 r2' H8).mono ?_; rintro e w8 ⟨rfl, h5⟩; clear h4) | (go_at_call 13; refine (Nor.erase_o h5 H9).mono ?_; rintro e w9 ⟨rfl, h6⟩; clear h5) | (go_at_call 15; refine (Nor.wear_o h6 H10).mono ?_; rintro e w10 ⟨rfl, rfl⟩) | (go_at_call 23; refine (Nor.on_o h6 H11).mono ?_; rintro e w10 ⟨rfl, h7⟩; clear h6) | (go_at_call 16; refine (Nor.read_o h7 H12).mono ?_; rintro e w11 ⟨rfl, rfl⟩))
      go_ret
      exact ⟨rfl, h7.below⟩
end L02Part
end Go.Proofs.Ytmaakjabjpppkaa

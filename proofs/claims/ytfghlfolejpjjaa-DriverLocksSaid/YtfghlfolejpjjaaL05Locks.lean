/- DriverLocks: what is locked is refused, and is as it was, till it is not locked any more. No condition. -/
import Derived.Test.YtfghlfolejpjjaaLive5
import Derived.Test.YtfghlfolejpjjaaDrLaws
import Derived.Test.YtfghlfolejpjjaaArgs
namespace Go.Proofs.Ytfghlfolejpjjaa
open Go.RowKit
set_option linter.unusedVariables false
attribute [local go_sem] max2_int min2_int max_two min_two
namespace L05Locks
set_option maxHeartbeats 4000000 in
set_option maxRecDepth 100000 in
theorem DriverLocks_c (a0 : Int) (a1 : Int) (a2 : Int) (w : World) (w0 : (Lit.int .u8 a0).wf = true) (w1 : (Lit.int .u8 a1).wf = true) (w2 : (Lit.int .u32 a2).wf = true) :
    Calls Try.prog 7 #[.int .u8 a0, .int .u8 a1, .int .u32 a2] w fun e w' => e = .returned (.bool true) ∧ Below w.heap.size w w' := by
  obtain ⟨r0, r0'⟩ := wf_u8 w0
  obtain ⟨r1, r1'⟩ := wf_u8 w1
  obtain ⟨r2, r2'⟩ := wf_u32 w2
  clear w0 w1 w2
  obtain ⟨k, hk, hkk⟩ : ∃ k : Nat, k < 3 ∧ a0 % 3 = k := ⟨(a0 % 3).toNat, by omega, by omega⟩
  obtain ⟨o, ho, hoo⟩ : ∃ k : Nat, k < 3 ∧ a1 % 3 = k := ⟨(a1 % 3).toNat, by omega, by omega⟩
  have hkk2 : a0.tmod 3 = k := (Int.tmod_eq_emod_of_nonneg r0).trans hkk
  have hoo2 : a1.tmod 3 = o := (Int.tmod_eq_emod_of_nonneg r1).trans hoo
  have hk3 : (k : Int) < 3 := by omega
  have ho3 : (o : Int) < 3 := by omega
  obtain ⟨s0, s1, s2, s3, s4, s5, s6, x, t2, t3, zs, H0, H1, H2, H3, H4, H5, hx, b2, b3, C0, C1, C2, C3, C4, H6, H7, hz, HZ, H8, H9, C5⟩ := Cf.locks5 hk ho r2 r2'
  have hz2 : (zs.length : Int) = 192 := by omega
  rw [show ((64 * o : Nat) : Int) = 64 * (o : Int) by omega] at H2
  rw [show ((64 * k : Nat) : Int) = 64 * (k : Int) by omega] at H6
  have hv1 : Hid (∀ i : Nat, 0 ≤ ([a2] : List Int).getD i 0 ∧ ([a2] : List Int).getD i 0 < 4294967296) := fun i => by
    match i with
    | 0 => exact ⟨r2, r2'⟩
    | i + 1 => exact ⟨by simp, by simp⟩
  have hv2 : ∀ i, i < ([a2] : List Int).length → (#[.int .u32 a2] : Array Value)[i]? = some (.int .u32 (([a2] : List Int).getD i 0)) := fun i hi => by
    match i, hi with
    | 0, _ => rfl
  obtain ⟨b20, b21⟩ := b2
  obtain ⟨b30, b31⟩ := b3
  by_cases hl : k = o
  all_goals (
    first | rw [if_pos hl] at hx | rw [if_neg hl] at hx
    subst hx
    have hlb : ((k : Int) == (o : Int)) = decide (k = o) := by
      rw [Bool.eq_iff_iff]; simp; omega
    rw [show decide (k = o) = _ from (by first | exact decide_eq_true hl | exact decide_eq_false hl)] at hlb
    clear hkk hoo hl
    go_enter Try.func7, Try.ntmps7
    go_wp2_with (first | (go_at_call 9; refine (Drv.alive_c _).mono ?_; rintro e w1 ⟨rfl, b1⟩) | (go_at_call 10; refine (Drv.begin_o b1 (n := 3) (endure := 5) (by decide) (by decide) (by decide) (Lib.hid (by decide)) H0).mono ?_; rintro e w2 ⟨g, bw, be, gf, dd, rfl, h0⟩; clear b1) |
      (go_at_call 18; refine (Drv.lockOn_o h0 C0.out (by omega) (by omega) H1).mono ?_; rintro e w3 ⟨rfl, h1⟩; clear h0) |
      (go_at_call 11; refine (Drv.program_lit h1 C1.out (by decide) (by decide) (by omega) (by omega) (by simp) hv1 hv2 H2).mono ?_; rintro e w4 ⟨rfl, h2⟩; clear h1) |
      (go_at_call 13; refine (Drv.erase_o h2 C2.out (by omega) (by omega) (by omega) (by omega) H3).mono ?_; rintro e w5 ⟨rfl, h3⟩; clear h2) |
      (go_at_call 18; refine (Drv.lockOff_o h3 C3.out (by omega) (by omega) H4).mono ?_; rintro e w6 ⟨rfl, h4⟩; clear h3) |
      (go_at_call 14; refine (Nor.wear_o h4.own H5).mono ?_; rintro e w7 ⟨rfl, rfl⟩) |
      (go_at_call 11; refine (Drv.program_lit h4 C4.out (by omega) (by omega) (by omega) (by omega) (by simp) hv1 hv2 H6).mono ?_; rintro e w8 ⟨rfl, h5⟩; clear h4) |
      (go_at_call 15; refine (Nor.words_o h5.own H7).mono ?_; rintro e w9 ⟨r1, kap1, rfl, p1, p2, p3, _, p5⟩; have h6 := h5.then p5; clear h5; have cx := p3.cell (i := 64 * k) (by omega); rw [HZ] at cx) |
      (go_at_call 13; refine (Drv.erase_o h6 C5.out (by omega) (by omega) (by omega) (by omega) H8).mono ?_; rintro e w10 ⟨rfl, h7⟩; clear h6) |
      (go_at_call 14; refine (Nor.wear_o h7.own H9).mono ?_; rintro e w11 ⟨rfl, rfl⟩))
    all_goals (
      go_ret
      exact ⟨rfl, h7.own.below⟩))
end L05Locks
end Go.Proofs.Ytfghlfolejpjjaa

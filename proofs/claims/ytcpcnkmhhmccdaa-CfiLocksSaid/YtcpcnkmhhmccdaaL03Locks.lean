/- CfiLocks: a block that is locked is neither programmed nor erased, the others are as ever; behind a Reset none is locked. No condition. -/
import Derived.Test.YtcpcnkmhhmccdaaLive3
import Derived.Test.YtcpcnkmhhmccdaaCfLaws2
import Derived.Test.YtcpcnkmhhmccdaaArgs
namespace Go.Proofs.Ytcpcnkmhhmccdaa
open Go.RowKit
set_option linter.unusedVariables false
attribute [local go_sem] max2_int min2_int max_two min_two
namespace L03Locks
set_option maxHeartbeats 4000000 in
set_option maxRecDepth 100000 in
theorem CfiLocks_c (a0 : Int) (a1 : Int) (a2 : Int) (w : World) (w0 : (Lit.int .u8 a0).wf = true) (w1 : (Lit.int .u8 a1).wf = true) (w2 : (Lit.int .u32 a2).wf = true) :
    Calls Try.prog 7 #[.int .u8 a0, .int .u8 a1, .int .u32 a2] w fun e w' => e = .returned (.bool true) ∧ Below w.heap.size w w' := by
  obtain ⟨r0, r0'⟩ := wf_u8 w0
  obtain ⟨r1, r1'⟩ := wf_u8 w1
  obtain ⟨r2, r2'⟩ := wf_u32 w2
  clear w0 w1 w2
  obtain ⟨k, hk, hkk⟩ : ∃ k : Nat, k < 128 ∧ a0 % 128 = k := ⟨(a0 % 128).toNat, by omega, by omega⟩
  obtain ⟨o, ho, hoo⟩ : ∃ k : Nat, k < 128 ∧ a1 % 128 = k := ⟨(a1 % 128).toNat, by omega, by omega⟩
  have hkk2 : a0.tmod 128 = k := (Int.tmod_eq_emod_of_nonneg r0).trans hkk
  have hoo2 : a1.tmod 128 = o := (Int.tmod_eq_emod_of_nonneg r1).trans hoo
  have hk3 : (k : Int) < 128 := by omega
  have ho3 : (o : Int) < 128 := by omega
  have H0 : Hid (Cf.new (Nr.new 2 5) = Cf.fl (Cf.c2 Cf.r128 [0, 0]) 0 0 0 Cf.noL none) := rfl
  obtain ⟨s1, H1, H2⟩ := Cf.locks_head hk
  obtain ⟨s3, H3, hmid⟩ := Cf.locks_mid ho (Cf.upd Cf.noL ((k : Int) / 64) true)
  by_cases hl : (k : Int) / 64 = (o : Int) / 64
  · have hL : Cf.upd Cf.noL ((k : Int) / 64) true ((o : Int) / 64) = true := by unfold Cf.upd; rw [if_pos hl.symm]
    obtain ⟨H4, H6, H5⟩ := (hmid a2 r2 r2').1 hL
    obtain ⟨s6, s7, s8, s9, G1, G2, G3, G4, G5, G6, G7⟩ := Cf.locks_tail hk Cf.r128 18
    have H7 : Hid ((Cf.fl (Cf.c2 Cf.r128 [0, 0]) 1 0 18 (Cf.upd Cf.noL ((k : Int) / 64) true) none).c.words = Cf.r128) := rfl
    have HZ := Cf.r128_get ho
    have hz : Cf.r128.length = 128 := by simp [Cf.r128]
    have hz2 : (Cf.r128.length : Int) = 128 := by omega
    obtain ⟨B, hB⟩ : ∃ B : Int, (k : Int) / 64 = B := ⟨_, rfl⟩
    have hBo : (o : Int) / 64 = B := hl.symm.trans hB
    have hB0 : 0 ≤ B := by omega
    have hB1 : B < 2 := by omega
    rw [hB] at G1 G3 G6
    rw [hB] at H2 H3 H4 H5 H6 H7
    clear hmid hL hkk hoo hl
    generalize Cf.fl (Cf.c2 Cf.r128 [0, 0]) 1 0 18 (Cf.upd Cf.noL B true) none = s5 at *
    generalize Cf.fl (Cf.c2 Cf.r128 [0, 0]) 1 0 0 (Cf.upd Cf.noL B true) none = s2 at *
    generalize Cf.fl (Cf.c2 Cf.r128 [0, 0]) 0 0 0 Cf.noL none = s0 at *
    generalize Cf.r128 = z at *
    go_enter Try.func7, Try.ntmps7
    go_wp2_with (first | (go_at_call 10; refine (Cfi.alive_c _).mono ?_; rintro e w1 ⟨rfl, b1⟩) | (go_at_call 11; refine (Cfi.begin_o b1 (n := 2) (endure := 5) (by decide) (by decide) (by decide) (Lib.hid (by decide)) H0).mono ?_; rintro e w2 ⟨g, bw, be, gf, rfl, h1⟩) | (go_at_call 14; refine (Cfi.write_o h1 (by decide) (by decide) H1).mono ?_; rintro e w5 ⟨rfl, h2, _⟩; clear h1) | (go_at_call 14; refine (Cfi.write_o h2 (by decide) (by decide) H2).mono ?_; rintro e w5 ⟨rfl, h3, _⟩; clear h2) | (go_at_call 14; refine (Cfi.write_o h3 (by decide) (by decide) H3).mono ?_; rintro e w5 ⟨rfl, h4, _⟩; clear h3) | (go_at_call 14; refine (Cfi.write_o h4 r2 r2' H4).mono ?_; rintro e w5 ⟨rfl, h5, _⟩; clear h4) | (go_at_call 17; refine (Cfi.status_o h5 H5).mono ?_; rintro e w5 ⟨rfl, rfl⟩) | (go_at_call 16; refine (Cfi.tick_o h5 H6).mono ?_; rintro e w5 ⟨rfl, h6, _⟩; clear h5) | (go_at_call 19; refine (Cfi.words_o h6 H7).mono ?_; rintro e w6 ⟨r1, kap1, rfl, p1, p2, p3, h7, p5⟩; clear h6; have cx := p3.cell (i := o) (by omega); rw [HZ] at cx) | (go_at_call 14; refine (Cfi.write_o h7 (by decide) (by decide) G1).mono ?_; rintro e w5 ⟨rfl, h8, _⟩; clear h7) | (go_at_call 14; refine (Cfi.write_o h8 (by decide) (by decide) G2).mono ?_; rintro e w5 ⟨rfl, h9, _⟩; clear h8) | (go_at_call 13; refine (Cfi.read_o h9 G3).mono ?_; rintro e w5 ⟨rfl, h10, _⟩; clear h9) | (go_at_call 15; refine (Cfi.reset_o h10 G4).mono ?_; rintro e w5 ⟨rfl, h11, _⟩; clear h10) | (go_at_call 14; refine (Cfi.write_o h11 (by decide) (by decide) G5).mono ?_; rintro e w5 ⟨rfl, h12, _⟩; clear h11) | (go_at_call 13; refine (Cfi.read_o h12 G6).mono ?_; rintro e w5 ⟨rfl, h13, _⟩; clear h12) | (go_at_call 17; refine (Cfi.status_o h13 G7).mono ?_; rintro e w5 ⟨rfl, rfl⟩))
    all_goals (
      go_ret
      exact ⟨rfl, h13.own.below⟩)
  · have hL : Cf.upd Cf.noL ((k : Int) / 64) true ((o : Int) / 64) = false := by unfold Cf.upd; rw [if_neg (fun e => hl e.symm)]; rfl
    obtain ⟨s4, H4, H6, H5⟩ := (hmid a2 r2 r2').2 hL
    obtain ⟨s6, s7, s8, s9, G1, G2, G3, G4, G5, G6, G7⟩ := Cf.locks_tail hk (Cf.r128.set o a2) 0
    have H7 : Hid ((Cf.fl (Cf.c2 (Cf.r128.set o a2) [0, 0]) 1 0 0 (Cf.upd Cf.noL ((k : Int) / 64) true) none).c.words = Cf.r128.set o a2) := rfl
    have HZ := Cf.r128_set ho a2
    have hz : (Cf.r128.set o a2).length = 128 := by simp [Cf.r128]
    have hz2 : ((Cf.r128.set o a2).length : Int) = 128 := by omega
    have hlb : ((k : Int) / 64 == (o : Int) / 64) = false := by simpa using hl
    clear hmid hL hkk hoo hl
    generalize Cf.fl (Cf.c2 (Cf.r128.set o a2) [0, 0]) 1 0 0 (Cf.upd Cf.noL ((k : Int) / 64) true) none = s5 at *
    generalize Cf.fl (Cf.c2 Cf.r128 [0, 0]) 1 0 0 (Cf.upd Cf.noL ((k : Int) / 64) true) none = s2 at *
    generalize Cf.fl (Cf.c2 Cf.r128 [0, 0]) 0 0 0 Cf.noL none = s0 at *
    generalize Cf.r128.set o a2 = z at *
    go_enter Try.func7, Try.ntmps7
    go_wp2_with (first | (go_at_call 10; refine (Cfi.alive_c _).mono ?_; rintro e w1 ⟨rfl, b1⟩) | (go_at_call 11; refine (Cfi.begin_o b1 (n := 2) (endure := 5) (by decide) (by decide) (by decide) (Lib.hid (by decide)) H0).mono ?_; rintro e w2 ⟨g, bw, be, gf, rfl, h1⟩) | (go_at_call 14; refine (Cfi.write_o h1 (by decide) (by decide) H1).mono ?_; rintro e w5 ⟨rfl, h2, _⟩; clear h1) | (go_at_call 14; refine (Cfi.write_o h2 (by decide) (by decide) H2).mono ?_; rintro e w5 ⟨rfl, h3, _⟩; clear h2) | (go_at_call 14; refine (Cfi.write_o h3 (by decide) (by decide) H3).mono ?_; rintro e w5 ⟨rfl, h4, _⟩; clear h3) | (go_at_call 14; refine (Cfi.write_o h4 r2 r2' H4).mono ?_; rintro e w5 ⟨rfl, h5, _⟩; clear h4) | (go_at_call 17; refine (Cfi.status_o h5 H5).mono ?_; rintro e w5 ⟨rfl, rfl⟩) | (go_at_call 16; refine (Cfi.tick_o h5 H6).mono ?_; rintro e w5 ⟨rfl, h6, _⟩; clear h5) | (go_at_call 19; refine (Cfi.words_o h6 H7).mono ?_; rintro e w6 ⟨r1, kap1, rfl, p1, p2, p3, h7, p5⟩; clear h6; have cx := p3.cell (i := o) (by omega); rw [HZ] at cx) | (go_at_call 14; refine (Cfi.write_o h7 (by decide) (by decide) G1).mono ?_; rintro e w5 ⟨rfl, h8, _⟩; clear h7) | (go_at_call 14; refine (Cfi.write_o h8 (by decide) (by decide) G2).mono ?_; rintro e w5 ⟨rfl, h9, _⟩; clear h8) | (go_at_call 13; refine (Cfi.read_o h9 G3).mono ?_; rintro e w5 ⟨rfl, h10, _⟩; clear h9) | (go_at_call 15; refine (Cfi.reset_o h10 G4).mono ?_; rintro e w5 ⟨rfl, h11, _⟩; clear h10) | (go_at_call 14; refine (Cfi.write_o h11 (by decide) (by decide) G5).mono ?_; rintro e w5 ⟨rfl, h12, _⟩; clear h11) | (go_at_call 13; refine (Cfi.read_o h12 G6).mono ?_; rintro e w5 ⟨rfl, h13, _⟩; clear h12) | (go_at_call 17; refine (Cfi.status_o h13 G7).mono ?_; rintro e w5 ⟨rfl, rfl⟩))
    all_goals (
      go_ret
      exact ⟨rfl, h13.own.below⟩)
end L03Locks
end Go.Proofs.Ytcpcnkmhhmccdaa

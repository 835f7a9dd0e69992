/- DecodeFields: registers are numbers below 32, numbers have their sign, and those of jumps and branches are even. No condition. -/
import Derived.Test.YtpdemjdjgehpgaaKit11
import Derived.Test.YtpdemjdjgehpgaaDcL5
namespace Go.Proofs.Ytpdemjdjgehpgaa
open Go.RowKit Dc
set_option linter.unusedVariables false
set_option linter.unusedSimpArgs false
namespace L11Fields
open Dec
theorem even32 {x : Int} (h : x % 2 = 0) : ((wrap32 x).tmod 2 == 0) = true := by
  refine beq_iff_eq.2 (Int.tmod_eq_zero_of_dvd ⟨wrap32 x / 2, ?_⟩)
  unfold wrap32
  omega
set_option maxHeartbeats 8000000 in
set_option maxRecDepth 100000 in
theorem DecodeFields_c (a0 : Int) (w : World) (w0 : (Lit.int .u32 a0).wf = true) :
    Calls Try.prog 6 #[.int .u32 a0] w fun e w' => e = .returned (.bool true) ∧ Below w.heap.size w w' := by
  obtain ⟨p0, p1⟩ := wf_u32 w0
  clear w0
  have hal := fun W => Dliv.alive_c W
  obtain ⟨r1, hr1⟩ : ∃ rs, Hid (word a0 = rs) := ⟨_, rfl⟩
  have W1 := fun W => Dec.word_r a0 W p0 p1 r1 hr1
  rcases r1 with _ | o
  · unfold wordv opv Dc.Op.z at W1
    go_enter Try.func6, Try.ntmps6
    go_wp2_with (first | (go_at_call 9; refine (hal _).mono ?_; rintro e w1 ⟨rfl, b1⟩) | (go_at_call 10; refine (W1 _).mono ?_; rintro e w2 ⟨rfl, b2⟩; have B := Below.then b1 b2))
    go_ret
    exact ⟨rfl, by first | exact B | exact below_al B _⟩
  · obtain ⟨hn, hi, f3, f5, f2, f25, f4, f28⟩ := fields_ok p0 p1 hr1.out
    obtain ⟨⟨d0, d1⟩, ⟨a2, a3⟩, ⟨b2, b3⟩⟩ := word_small hr1.out
    obtain ⟨n, rd, ra, rb, x⟩ := o
    dsimp only at hn hi f3 f5 f2 f25 f4 f28 d0 d1 a2 a3 b2 b3
    unfold wordv opv at W1
    dsimp only at W1
    clear hr1
    have hc : n = 3 ∨ (5 ≤ n ∧ n ≤ 10) ∨ n = 1 ∨ n = 2 ∨ (25 ≤ n ∧ n ≤ 27) ∨ n = 4 ∨ (11 ≤ n ∧ n ≤ 24) ∨ 28 ≤ n := by omega
    rcases hc with h | ⟨h, h'⟩ | h | h | ⟨h, h'⟩ | h | ⟨h, h'⟩ | h
    · obtain ⟨⟨g0, g1⟩, g2⟩ := f3 h
      have he := even32 g2
      subst h
      clear f3 f5 f2 f25 f4 f28
      go_enter Try.func6, Try.ntmps6
      go_wp2_with (first | (go_at_call 9; refine (hal _).mono ?_; rintro e w1 ⟨rfl, b1⟩) | (go_at_call 10; refine (W1 _).mono ?_; rintro e w2 ⟨rfl, b2⟩; have B := Below.then b1 b2))
      all_goals first | (go_ret; exact ⟨rfl, by first | exact B | exact below_al B _⟩) | (exfalso; rcases ‹_ ∨ _› with hq | hq <;> (have := eq_of_beq hq; omega))
    · obtain ⟨⟨g0, g1⟩, g2⟩ := f5 h h'
      have k1 : (n == 1) = false := beq_eq_false_iff_ne.2 (by omega)
      have k2 : (n == 2) = false := beq_eq_false_iff_ne.2 (by omega)
      have k3 : (n == 3) = false := beq_eq_false_iff_ne.2 (by omega)
      have k4 : (n == 4) = false := beq_eq_false_iff_ne.2 (by omega)
      have he := even32 g2
      clear g2
      clear f3 f5 f2 f25 f4 f28
      go_enter Try.func6, Try.ntmps6
      go_wp2_with (first | (go_at_call 9; refine (hal _).mono ?_; rintro e w1 ⟨rfl, b1⟩) | (go_at_call 10; refine (W1 _).mono ?_; rintro e w2 ⟨rfl, b2⟩; have B := Below.then b1 b2))
      all_goals first | (go_ret; exact ⟨rfl, by first | exact B | exact below_al B _⟩) | (exfalso; rcases ‹_ ∨ _› with hq | hq <;> (have := eq_of_beq hq; omega))
    · obtain ⟨g0, g1⟩ := f2 (by omega)
      have e1 : (x % 4096 == 0) = true := beq_iff_eq.2 g0
      have e2 : (x == bits .andNot .u32 a0 4095) = true := beq_iff_eq.2 g1
      clear g0 g1
      subst h
      clear f3 f5 f2 f25 f4 f28
      go_enter Try.func6, Try.ntmps6
      go_wp2_with (first | (go_at_call 9; refine (hal _).mono ?_; rintro e w1 ⟨rfl, b1⟩) | (go_at_call 10; refine (W1 _).mono ?_; rintro e w2 ⟨rfl, b2⟩; have B := Below.then b1 b2))
      all_goals first | (go_ret; exact ⟨rfl, by first | exact B | exact below_al B _⟩) | (exfalso; rcases ‹_ ∨ _› with hq | hq <;> (have := eq_of_beq hq; omega))
    · obtain ⟨g0, g1⟩ := f2 (by omega)
      have e1 : (x % 4096 == 0) = true := beq_iff_eq.2 g0
      have e2 : (x == bits .andNot .u32 a0 4095) = true := beq_iff_eq.2 g1
      clear g0 g1
      subst h
      clear f3 f5 f2 f25 f4 f28
      go_enter Try.func6, Try.ntmps6
      go_wp2_with (first | (go_at_call 9; refine (hal _).mono ?_; rintro e w1 ⟨rfl, b1⟩) | (go_at_call 10; refine (W1 _).mono ?_; rintro e w2 ⟨rfl, b2⟩; have B := Below.then b1 b2))
      all_goals first | (go_ret; exact ⟨rfl, by first | exact B | exact below_al B _⟩) | (exfalso; rcases ‹_ ∨ _› with hq | hq <;> (have := eq_of_beq hq; omega))
    · have g0 := f25 h h'
      have k1 : (n == 1) = false := beq_eq_false_iff_ne.2 (by omega)
      have k2 : (n == 2) = false := beq_eq_false_iff_ne.2 (by omega)
      have k3 : (n == 3) = false := beq_eq_false_iff_ne.2 (by omega)
      have k4 : (n == 4) = false := beq_eq_false_iff_ne.2 (by omega)
      clear f3 f5 f2 f25 f4 f28
      go_enter Try.func6, Try.ntmps6
      go_wp2_with (first | (go_at_call 9; refine (hal _).mono ?_; rintro e w1 ⟨rfl, b1⟩) | (go_at_call 10; refine (W1 _).mono ?_; rintro e w2 ⟨rfl, b2⟩; have B := Below.then b1 b2))
      all_goals first | (go_ret; exact ⟨rfl, by first | exact B | exact below_al B _⟩) | (exfalso; rcases ‹_ ∨ _› with hq | hq <;> (have := eq_of_beq hq; omega))
    · obtain ⟨g0, g1⟩ := f4 (.inl h)
      subst h
      clear f3 f5 f2 f25 f4 f28
      go_enter Try.func6, Try.ntmps6
      go_wp2_with (first | (go_at_call 9; refine (hal _).mono ?_; rintro e w1 ⟨rfl, b1⟩) | (go_at_call 10; refine (W1 _).mono ?_; rintro e w2 ⟨rfl, b2⟩; have B := Below.then b1 b2))
      all_goals first | (go_ret; exact ⟨rfl, by first | exact B | exact below_al B _⟩) | (exfalso; rcases ‹_ ∨ _› with hq | hq <;> (have := eq_of_beq hq; omega))
    · obtain ⟨g0, g1⟩ := f4 (.inr ⟨h, h'⟩)
      have k1 : (n == 1) = false := beq_eq_false_iff_ne.2 (by omega)
      have k2 : (n == 2) = false := beq_eq_false_iff_ne.2 (by omega)
      have k3 : (n == 3) = false := beq_eq_false_iff_ne.2 (by omega)
      have k4 : (n == 4) = false := beq_eq_false_iff_ne.2 (by omega)
      clear f3 f5 f2 f25 f4 f28
      go_enter Try.func6, Try.ntmps6
      go_wp2_with (first | (go_at_call 9; refine (hal _).mono ?_; rintro e w1 ⟨rfl, b1⟩) | (go_at_call 10; refine (W1 _).mono ?_; rintro e w2 ⟨rfl, b2⟩; have B := Below.then b1 b2))
      all_goals first | (go_ret; exact ⟨rfl, by first | exact B | exact below_al B _⟩) | (exfalso; rcases ‹_ ∨ _› with hq | hq <;> (have := eq_of_beq hq; omega))
    · have g0 := f28 h
      have k1 : (n == 1) = false := beq_eq_false_iff_ne.2 (by omega)
      have k2 : (n == 2) = false := beq_eq_false_iff_ne.2 (by omega)
      have k3 : (n == 3) = false := beq_eq_false_iff_ne.2 (by omega)
      have k4 : (n == 4) = false := beq_eq_false_iff_ne.2 (by omega)
      clear f3 f5 f2 f25 f4 f28
      go_enter Try.func6, Try.ntmps6
      go_wp2_with (first | (go_at_call 9; refine (hal _).mono ?_; rintro e w1 ⟨rfl, b1⟩) | (go_at_call 10; refine (W1 _).mono ?_; rintro e w2 ⟨rfl, b2⟩; have B := Below.then b1 b2))
      all_goals first | (go_ret; exact ⟨rfl, by first | exact B | exact below_al B _⟩) | (exfalso; rcases ‹_ ∨ _› with hq | hq <;> (have := eq_of_beq hq; omega))
end L11Fields
end Go.Proofs.Ytpdemjdjgehpgaa

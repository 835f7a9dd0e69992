/- Contracts of package walk: what a leaf lets through. -/
import Derived.Test.YtejgaldeamjplaaWalk2
namespace Go.Proofs.Ytejgaldeamjplaa
open Go.RowKit
set_option linter.unusedVariables false
namespace Walk
section
variable {x : Int} (hx : 0 ≤ x) (hx' : x < 4294967296)
include hx hx'
set_option maxRecDepth 100000 in
set_option maxHeartbeats 20000000 in
theorem lets_u (y : Int) (b : Bool) (a : Wk.Ask) (ha : a.Ok) (w : World) : Calls Try.prog 28 #[.agg #[.int .u32 y, .int .u32 x, .bool b], askv a] w fun e w' => e = .returned (.bool (Wk.lets x b a)) ∧ Below w.heap.size w w' := by
  rw [Wk.lets_B]
  have e1 := m2 hx hx'
  have e2 := m4 hx hx'
  have e3 := m8 hx hx'
  have e4 := m16 hx hx'
  have e18 := m18z ha.status0 ha.status1
  have e19 := m19 ha.status0 ha.status1
  have ef := frame_low hx hx'
  obtain ⟨va, satp, status, access, priv⟩ := a
  have hacc := ha.acc
  have hpri := ha.pri
  simp only at e18 e19 hacc hpri ⊢
  clear ha
  generalize Wk.bit x 1 = b1 at *
  generalize Wk.bit x 2 = b2 at *
  generalize Wk.bit x 3 = b3 at *
  generalize Wk.bit x 4 = b4 at *
  generalize Wk.bit status 18 = s18 at *
  generalize Wk.bit status 19 = s19 at *
  generalize decide (Bt.field x 10 10 = 0) = ff at *
  have key : (priv = 0 ∧ b4 = false) ∨ (priv = 1 ∧ b4 = true ∧ access = 0) ∨ (priv = 1 ∧ b4 = true ∧ access = 1 ∧ s18 = false) ∨ (priv = 1 ∧ b4 = true ∧ access = 2 ∧ s18 = false) ∨
    (((priv = 0 ∧ b4 = true) ∨ (priv = 1 ∧ b4 = false) ∨ (priv = 1 ∧ b4 = true ∧ ¬ access = 0 ∧ s18 = true) ∨ (priv = 3 ∧ b4 = false) ∨ (priv = 3 ∧ b4 = true)) ∧ (b = false ∨ (b = true ∧ ff = true) ∨ (b = true ∧ ff = false)) ∧ (access = 0 ∨ (access = 1 ∧ b1 = true) ∨ (access = 1 ∧ b1 = false ∧ b3 = false) ∨ (access = 1 ∧ b1 = false ∧ b3 = true) ∨ access = 2)) := by
    rcases hpri with rfl | rfl | rfl <;> rcases hacc with rfl | rfl | rfl <;> cases b4 <;> cases s18 <;> cases b <;> cases ff <;> cases b1 <;> cases b3 <;> decide
  clear hacc hpri
  rcases key with ⟨rfl, rfl⟩ | ⟨rfl, rfl, rfl⟩ | ⟨rfl, rfl, rfl, rfl⟩ | ⟨rfl, rfl, rfl, rfl⟩ | ⟨h1, h2, h3⟩
  rotate_right
  · have hx3 := hx
    rcases h1 with ⟨rfl, rfl⟩ | ⟨rfl, rfl⟩ | ⟨rfl, rfl, h1, rfl⟩ | ⟨rfl, rfl⟩ | ⟨rfl, rfl⟩ <;> rcases h2 with rfl | ⟨rfl, rfl⟩ | ⟨rfl, rfl⟩ <;> rcases h3 with rfl | ⟨rfl, rfl⟩ | ⟨rfl, rfl, rfl⟩ | ⟨rfl, rfl, rfl⟩ | rfl <;> try (exact absurd rfl h1)
    all_goals
      go_enter Try.func28, Try.ntmps28
      go_wp2_with (first | (go_at_call 40; refine (has_c _ _ _ _ _).mono ?_; rintro e w' ⟨rfl, rfl⟩) | (go_at_call 31; refine (frame_c _ _ _ _ hx hx').mono ?_; rintro e w' ⟨rfl, rfl⟩))
      go_ret
      refine ⟨?_, ?_⟩
      · first | rfl | (simp [Wk.letsB])
      · repeat (first | exact Below.refl _ _ | apply below_al)
  all_goals
    go_enter Try.func28, Try.ntmps28
    go_wp2_with (first | (go_at_call 40; refine (has_c _ _ _ _ _).mono ?_; rintro e w' ⟨rfl, rfl⟩) | (go_at_call 31; refine (frame_c _ _ _ _ hx hx').mono ?_; rintro e w' ⟨rfl, rfl⟩))
    go_ret
    refine ⟨?_, ?_⟩
    · first | rfl | (simp [Wk.letsB])
    · repeat (first | exact Below.refl _ _ | apply below_al)
end
end Walk
end Go.Proofs.Ytejgaldeamjplaa

/- Contracts of the reference of package walk: refused. -/
import Derived.Test.YtejgaldeamjplaaRef15
namespace Go.Proofs.Ytejgaldeamjplaa
open Go.RowKit
set_option linter.unusedVariables false
namespace Ref15
set_option maxHeartbeats 40000000 in
set_option maxRecDepth 100000 in
theorem refused_c {x : Int} (hx : 0 ≤ x) (hx' : x < 4294967296) (b : Bool) (a : Wk.Ask) (ha : a.Ok) (w : World) : Calls Try.prog 37 #[.agg #[.int .u32 a.va, .int .u32 a.satp, .int .u32 a.status, .int .i64 a.access, .int .i64 a.priv], .int .u32 x, .bool b] w fun e w' => e = .returned (.bool (!Wk.lets x b a)) ∧ Below w.heap.size w w' := by
  rw [Wk.lets_B]
  have h1 := fun W => bit_c x 1 W hx hx' (by decide) (by decide)
  have h2 := fun W => bit_c x 2 W hx hx' (by decide) (by decide)
  have h3 := fun W => bit_c x 3 W hx hx' (by decide) (by decide)
  have h4 := fun W => bit_c x 4 W hx hx' (by decide) (by decide)
  have k18 := fun W => bit_c a.status 18 W ha.status0 ha.status1 (by decide) (by decide)
  have k19 := fun W => bit_c a.status 19 W ha.status0 ha.status1 (by decide) (by decide)
  have hfl := fun W => Ref1.field_c x 10 10 W hx hx' (show Hid (-9223372036854775808 ≤ (10 : Int)) by show _ ≤ _; omega)
  have hff : (Bt.field x 10 10 != 0) = !decide (Bt.field x 10 10 = 0) := by rw [bne]; congr 1
  obtain ⟨va, satp, status, access, priv⟩ := a
  have hacc := ha.acc
  have hpri := ha.pri
  simp only at k18 k19 hacc hpri ⊢
  clear ha
  generalize Wk.bit x 1 = b1 at *
  generalize Wk.bit x 2 = b2 at *
  generalize Wk.bit x 3 = b3 at *
  generalize Wk.bit x 4 = b4 at *
  generalize Wk.bit status 18 = s18 at *
  generalize Wk.bit status 19 = s19 at *
  generalize decide (Bt.field x 10 10 = 0) = ff at *
  generalize Bt.field x 10 10 = fv at *
  have key : (priv = 0 ∧ b4 = false) ∨ (priv = 1 ∧ b4 = true ∧ access = 0) ∨ (priv = 1 ∧ b4 = true ∧ access = 1 ∧ s18 = false) ∨ (priv = 1 ∧ b4 = true ∧ access = 2 ∧ s18 = false) ∨
    (((priv = 0 ∧ b4 = true) ∨ (priv = 1 ∧ b4 = false) ∨ (priv = 1 ∧ b4 = true ∧ ¬ access = 0 ∧ s18 = true) ∨ (priv = 3 ∧ b4 = false) ∨ (priv = 3 ∧ b4 = true)) ∧ ((access = 0 ∧ b3 = false) ∨ (access = 0 ∧ b3 = true) ∨ (access = 1 ∧ b1 = true) ∨ (access = 1 ∧ b1 = false ∧ b3 = false) ∨ (access = 1 ∧ b1 = false ∧ b3 = true ∧ s19 = false) ∨ (access = 1 ∧ b1 = false ∧ b3 = true ∧ s19 = true) ∨ (access = 2 ∧ b2 = false) ∨ (access = 2 ∧ b2 = true))) := by
    rcases hpri with rfl | rfl | rfl <;> rcases hacc with rfl | rfl | rfl <;> cases b4 <;> cases s18 <;> cases b1 <;> cases b2 <;> cases b3 <;> cases s19 <;> decide
  clear hacc hpri
  cases b <;> cases ff
  all_goals
    rcases key with ⟨rfl, rfl⟩ | ⟨rfl, rfl, rfl⟩ | ⟨rfl, rfl, rfl, rfl⟩ | ⟨rfl, rfl, rfl, rfl⟩ | ⟨g1, g3⟩
    rotate_right
    · have hx3 := hx
      rcases g1 with ⟨rfl, rfl⟩ | ⟨rfl, rfl⟩ | ⟨rfl, rfl, g1, rfl⟩ | ⟨rfl, rfl⟩ | ⟨rfl, rfl⟩ <;> rcases g3 with ⟨rfl, rfl⟩ | ⟨rfl, rfl⟩ | ⟨rfl, rfl⟩ | ⟨rfl, rfl, rfl⟩ | ⟨rfl, rfl, rfl, rfl⟩ | ⟨rfl, rfl, rfl, rfl⟩ | ⟨rfl, rfl⟩ | ⟨rfl, rfl⟩ <;> try (exact absurd rfl g1)
      all_goals
        go_enter Try.func37, Try.ntmps37
        go_wp2_with (first | (go_at_call 21; first | ((with_reducible refine (h1 _).mono ?_); rintro e w' ⟨rfl, rfl⟩) | ((with_reducible refine (h2 _).mono ?_); rintro e w' ⟨rfl, rfl⟩) | ((with_reducible refine (h3 _).mono ?_); rintro e w' ⟨rfl, rfl⟩) | ((with_reducible refine (h4 _).mono ?_); rintro e w' ⟨rfl, rfl⟩) | ((with_reducible refine (k18 _).mono ?_); rintro e w' ⟨rfl, rfl⟩) | ((with_reducible refine (k19 _).mono ?_); rintro e w' ⟨rfl, rfl⟩)) | (go_at_call 22; refine (hfl _).mono ?_; rintro e w' ⟨rfl, rfl⟩))
        go_ret
        refine ⟨?_, ?_⟩
        · first | rfl | (simp [Wk.letsB])
        · repeat (first | exact Below.refl _ _ | apply Walk.below_al)
    all_goals
      go_enter Try.func37, Try.ntmps37
      go_wp2_with (first | (go_at_call 21; first | ((with_reducible refine (h1 _).mono ?_); rintro e w' ⟨rfl, rfl⟩) | ((with_reducible refine (h2 _).mono ?_); rintro e w' ⟨rfl, rfl⟩) | ((with_reducible refine (h3 _).mono ?_); rintro e w' ⟨rfl, rfl⟩) | ((with_reducible refine (h4 _).mono ?_); rintro e w' ⟨rfl, rfl⟩) | ((with_reducible refine (k18 _).mono ?_); rintro e w' ⟨rfl, rfl⟩) | ((with_reducible refine (k19 _).mono ?_); rintro e w' ⟨rfl, rfl⟩)) | (go_at_call 22; refine (hfl _).mono ?_; rintro e w' ⟨rfl, rfl⟩))
      go_ret
      refine ⟨?_, ?_⟩
      · first | rfl | (simp [Wk.letsB])
      · repeat (first | exact Below.refl _ _ | apply Walk.below_al)
end Ref15
end Go.Proofs.Ytejgaldeamjplaa

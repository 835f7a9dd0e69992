/- Words that are programmed one behind the other. Plain law. -/
import Derived.Test.YtfghlfolejpjjaaDr
namespace Go.Proofs.Ytfghlfolejpjjaa.Cf
open Go.RowKit
set_option linter.unusedVariables false
theorem pw_calm {s : Fl} (h : Calm s) (a v : Int) : Calm (pw s a v).2.2 := by
  unfold pw
  split
  · split
    · exact ⟨h.job, h.wait, h.errs⟩
    · exact ⟨h.job, h.wait, h.errs⟩
  · exact h
theorem pw_ticks (s : Fl) (a v : Int) : 0 ≤ (pw s a v).2.1 ∧ (pw s a v).2.1 ≤ 3 := by
  unfold pw
  split
  · split
    · exact ⟨by show (0 : Int) ≤ 0; decide, by show (0 : Int) ≤ 3; decide⟩
    · exact ⟨by show (0 : Int) ≤ 3; decide, by show (3 : Int) ≤ 3; decide⟩
  · exact ⟨by show (0 : Int) ≤ 0; decide, by show (0 : Int) ≤ 3; decide⟩
theorem ew_calm {s : Fl} (h : Calm s) (b : Int) : Calm (ew s b).2.2 := by
  unfold ew
  split
  · split
    · exact ⟨h.job, h.wait, h.errs⟩
    · exact ⟨h.job, h.wait, h.errs⟩
  · exact h
theorem lw_calm {s : Fl} (h : Calm s) (b : Int) (on : Bool) : Calm (lw s b on).2 := by
  unfold lw
  split
  · exact ⟨h.job, h.wait, h.errs⟩
  · exact h
/-- Words that are programmed one behind the other, up to the first error: the first k. -/
def pwN (s : Fl) (a : Int) (zs : List Int) : Nat → Int × Int × Fl
  | 0 => (0, 0, s)
  | k + 1 => if (pwN s a zs k).1 = 0 then ((pw (pwN s a zs k).2.2 (a + k) (zs.getD k 0)).1, (pwN s a zs k).2.1 + (pw (pwN s a zs k).2.2 (a + k) (zs.getD k 0)).2.1, (pw (pwN s a zs k).2.2 (a + k) (zs.getD k 0)).2.2) else pwN s a zs k
theorem pwN_calm {s : Fl} (h : Calm s) (a : Int) (zs : List Int) : ∀ k, Calm (pwN s a zs k).2.2
  | 0 => h
  | k + 1 => by unfold pwN; split; exact pw_calm (pwN_calm h a zs k) _ _; exact pwN_calm h a zs k
theorem pwN_ticks (s : Fl) (a : Int) (zs : List Int) : ∀ k : Nat, 0 ≤ (pwN s a zs k).2.1 ∧ (pwN s a zs k).2.1 ≤ 3 * k
  | 0 => ⟨by show (0 : Int) ≤ 0; decide, by show (0 : Int) ≤ 3 * ((0 : Nat) : Int); decide⟩
  | k + 1 => by
    have h1 := pwN_ticks s a zs k
    have h2 := pw_ticks (pwN s a zs k).2.2 (a + k) (zs.getD k 0)
    unfold pwN
    split
    · show 0 ≤ (pwN s a zs k).2.1 + (pw (pwN s a zs k).2.2 (a + k) (zs.getD k 0)).2.1 ∧ (pwN s a zs k).2.1 + (pw (pwN s a zs k).2.2 (a + k) (zs.getD k 0)).2.1 ≤ 3 * ((k + 1 : Nat) : Int); omega
    · omega
theorem pwN_step {s : Fl} {a : Int} {zs : List Int} {k : Nat} (h : (pwN s a zs k).1 = 0) : pwN s a zs (k + 1) = ((pw (pwN s a zs k).2.2 (a + k) (zs.getD k 0)).1, (pwN s a zs k).2.1 + (pw (pwN s a zs k).2.2 (a + k) (zs.getD k 0)).2.1, (pw (pwN s a zs k).2.2 (a + k) (zs.getD k 0)).2.2) := by
  rw [pwN, if_pos h]
theorem pwN_stop {s : Fl} {a : Int} {zs : List Int} {k : Nat} (h : ¬ (pwN s a zs k).1 = 0) : ∀ m, pwN s a zs (k + m) = pwN s a zs k
  | 0 => rfl
  | m + 1 => by
    have := pwN_stop h m
    rw [show k + (m + 1) = (k + m) + 1 by omega, pwN, this, if_neg h]
def pws (s : Fl) (a : Int) (zs : List Int) : Int × Int × Fl := pwN s a zs zs.length
end Go.Proofs.Ytfghlfolejpjjaa.Cf

/- Contracts of Writes, both. -/
import Derived.Test.YtpdemjdjgehpgaaRf2
namespace Go.Proofs.Ytpdemjdjgehpgaa
open Go.RowKit Dc
set_option linter.unusedVariables false
set_option linter.unusedSimpArgs false
namespace Dec
set_option maxHeartbeats 2000000 in
set_option maxRecDepth 100000 in
theorem writes_r (n : Int) (w : World) (q : Bool) (hq : Hid (writes n = q)) : Calls Try.prog 14 #[.int .i64 n] w fun e w' => e = .returned (.bool q) ∧ Below w.heap.size w w' := by
  by_cases h1 : n < 1 ∨ 69 < n
  · have hq2 : false = q := by rw [← hq.out]; unfold writes; rw [if_pos h1]
    subst hq2
    have h3 : n < 1 ∨ (1 ≤ n ∧ 69 < n) := by omega
    clear h1 hq
    rcases h3 with h3 | ⟨h3, h4⟩
    all_goals
      go_enter Try.func14, Try.ntmps14
      go_wp2_with (go_at_call 18; refine (rows_c _).mono ?_; rintro e w1 ⟨g, rfl, R, b1⟩)
      go_ret
      exact ⟨rfl, b1⟩
  · obtain ⟨j, hj⟩ : ∃ j : Nat, n = j + 1 := ⟨(n - 1).toNat, by omega⟩
    have hj69 : j < 69 := by omega
    have hw : writes n = (n != 57 && (frm (row j).2).d) := by unfold writes; rw [if_neg h1, show (n - 1).toNat = j by omega]
    rw [hw] at hq
    by_cases h57 : n = 57
    · have hq2 : false = q := by rw [← hq.out, h57]; rfl
      subst hq2
      rw [h57]
      go_enter Try.func14, Try.ntmps14
      go_wp2_with (go_at_call 18; refine (rows_c _).mono ?_; rintro e w1 ⟨g, rfl, R, b1⟩)
      go_ret
      exact ⟨rfl, b1⟩
    · have hlet := row_letter j hj69
      have SC := shape_c _ hlet
      have hq2 : (frm (row j).2).d = q := by rw [← hq.out]; simp [h57]
      have HD := fun a n cap => has_d (frm (row j).2) a n cap
      rw [hq2] at HD
      clear hw hq hq2
      have h2 : 1 ≤ n := by omega
      have h3 : n ≤ 69 := by omega
      have h4 : ¬ (j : Int) + 1 = 57 := by omega
      subst hj
      clear h1 h57
      go_enter Try.func14, Try.ntmps14
      go_wp2_with (first | (go_at_call 18; refine (rows_c _).mono ?_; rintro e w1 ⟨g, rfl, R, b1⟩; obtain ⟨c0, c1⟩ := R j hj69) | (go_at_call 19; refine (SC _).mono ?_; rintro e w3 ⟨a, n, cap, rfl, P, b3⟩) | (go_at_call 30; refine (HD _ _ _ _).mono ?_; rintro e w5 ⟨rfl, b5⟩))
      go_ret
      refine ⟨?_, Below.then (Below.then b1 b3) b5⟩
      show Ending.returned (.bool (((j : Int) + 1 != 57) && q)) = _
      rw [bne_iff_ne.2 h4, Bool.true_and]
end Dec
namespace Rf
open Dec
theorem ref_writes : ∀ k, k < 69 → ((frm (row k).2).d && (row k).2 != 70) = (((k : Int) + 1 != 57) && (frm (row k).2).d) := by decide +kernel
set_option maxHeartbeats 2000000 in
set_option maxRecDepth 100000 in
theorem writes_r (n : Int) (w : World) (q : Bool) (hq : Hid (writes n = q)) : Calls Try.prog 15 #[.int .i64 n] w fun e w' => e = .returned (.bool q) ∧ Below w.heap.size w w' := by
  have hfs : forms.size = 69 := rfl
  by_cases h1 : n < 1 ∨ 69 < n
  · have hq2 : false = q := by rw [← hq.out]; unfold writes; rw [if_pos h1]
    subst hq2
    have h3 : n < 1 ∨ (1 ≤ n ∧ 69 < n) := by omega
    clear h1 hq
    rcases h3 with h3 | ⟨h3, h4⟩
    all_goals
      go_enter Try.func15, Try.ntmps15
      go_wp2_with (go_at_call 22; refine (forms_c _).mono ?_; rintro e w' ⟨rfl, hw⟩; obtain rfl := hw.symm)
      go_ret
      exact ⟨rfl, Below.refl _ _⟩
  · obtain ⟨j, hj⟩ : ∃ j : Nat, n = j + 1 := ⟨(n - 1).toNat, by omega⟩
    have hj69 : j < 69 := by omega
    have hjf : j < forms.size := by rw [hfs]; exact hj69
    have hfj : (((forms[j]'hjf).toNat : Nat) : Int) = ((row j).2 : Int) := by rw [form_at j hj69]
    have hlet := row_letter j hj69
    have D4 := hs4 _ hlet
    have hw : writes n = (n != 57 && (frm (row j).2).d) := by unfold writes; rw [if_neg h1, show (n - 1).toNat = j by omega]
    rw [hw, hj, ← ref_writes j hj69, ← D4] at hq
    have HA := fun W => has_r ⟨#[85, 74, 73, 82, 72, 65, 76, 67]⟩ ((row j).2 : Int) W (by decide) q hq
    have h2 : 1 ≤ n := by omega
    have h3 : n ≤ 69 := by omega
    subst hj
    clear h1 hw hq D4
    go_enter Try.func15, Try.ntmps15
    go_wp2_with (first | (go_at_call 22; refine (forms_c _).mono ?_; rintro e w' ⟨rfl, hw⟩; obtain rfl := hw.symm) | (go_at_call 26; refine (HA _).mono ?_; rintro e w' ⟨rfl, hw⟩; obtain rfl := hw.symm))
    go_ret
    exact ⟨rfl, Below.refl _ _⟩
end Rf
end Go.Proofs.Ytpdemjdjgehpgaa

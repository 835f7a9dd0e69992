/- Contracts of package driver (4): all. -/
import Derived.Test.YtfghlfolejpjjaaDrv3
namespace Go.Proofs.Ytfghlfolejpjjaa
open Go.RowKit
set_option linter.unusedVariables false
attribute [local go_sem] max2_int min2_int max_two min_two
namespace Drv

set_option maxHeartbeats 1000000 in
set_option maxRecDepth 100000 in
theorem all_P {w : World} {r dd b0 b1 b2 b3 : Nat} {e1 e2 : Int} {R1 R2 : World → Prop} (c0 : w.cell? ⟨r, 0, none⟩ = some (.func (.func 37) #[] #[.pointer (some ⟨b0, 0, none⟩), .pointer (some ⟨b1, 0, none⟩), .pointer (some ⟨b2, 0, none⟩), .pointer (some ⟨b3, 0, none⟩)])) (c1 : w.cell? ⟨r, 1, none⟩ = some (.func (.func 39) #[.pointer (some ⟨dd, 0, none⟩)] #[]))
    (h1 : Calls Try.prog 37 #[.pointer (some ⟨b0, 0, none⟩), .pointer (some ⟨b1, 0, none⟩), .pointer (some ⟨b2, 0, none⟩), .pointer (some ⟨b3, 0, none⟩)] w fun x w' => x = .returned (.int .i64 e1) ∧ R1 w') (hk : Hid (∀ w', R1 w' → w'.cell? ⟨r, 1, none⟩ = some (.func (.func 39) #[.pointer (some ⟨dd, 0, none⟩)] #[])))
    (h2 : Hid (e1 = 0 → ∀ w1, R1 w1 → Calls Try.prog 39 #[.pointer (some ⟨dd, 0, none⟩)] w1 fun x w' => x = .returned (.int .i64 e2) ∧ R2 w')) :
    Calls Try.prog 36 #[.slice (some ⟨r, 0, none⟩) 2 2] w fun x w' => (e1 ≠ 0 ∧ x = .returned (.int .i64 e1) ∧ R1 w') ∨ (e1 = 0 ∧ x = .returned (.int .i64 e2) ∧ R2 w') := by
  by_cases he : e1 = 0
  · subst he
    by_cases h5 : e2 = 0
    · subst h5
      go_enter Try.func36, Try.ntmps36
      go_wp2
      refine wp_loop_rounds 4 ?_
      rw [rounds_succ]
      go_wp2_with (go_at_call 37; refine h1.mono ?_; rintro x w1 ⟨rfl, r1⟩; clear h1)
      have c1' := hk.out _ r1
      have h3 := h2.out trivial _ r1
      rw [rounds_succ]
      go_wp2_with (go_at_call 39; refine h3.mono ?_; rintro x w2 ⟨rfl, r2⟩; clear h3 r1)
      rw [rounds_succ]
      go_wp2
      go_ret
      exact .inr ⟨trivial, rfl, r2⟩
    · have hb1 : (e2 != 0) = true := by simpa using h5
      have hb2 : (e2 == 0) = false := by simpa using h5
      clear h5
      go_enter Try.func36, Try.ntmps36
      go_wp2
      refine wp_loop_rounds 4 ?_
      rw [rounds_succ]
      go_wp2_with (go_at_call 37; refine h1.mono ?_; rintro x w1 ⟨rfl, r1⟩; clear h1)
      have c1' := hk.out _ r1
      have h3 := h2.out trivial _ r1
      rw [rounds_succ]
      go_wp2_with (go_at_call 39; refine h3.mono ?_; rintro x w2 ⟨rfl, r2⟩; clear h3 r1)
      go_ret
      exact .inr ⟨trivial, rfl, r2⟩
  · have hb1 : (e1 != 0) = true := by simpa using he
    have hb2 : (e1 == 0) = false := by simpa using he
    have HE := Lib.hid he
    clear he
    go_enter Try.func36, Try.ntmps36
    go_wp2
    refine wp_loop_rounds 4 ?_
    rw [rounds_succ]
    go_wp2_with (go_at_call 37; refine h1.mono ?_; rintro x w1 ⟨rfl, r1⟩; clear h1)
    go_ret
    exact .inl ⟨HE.out, rfl, r1⟩

set_option maxHeartbeats 1000000 in
set_option maxRecDepth 100000 in
theorem all_E {w : World} {r dd b0 b1 : Nat} {e1 e2 : Int} {R1 R2 : World → Prop} (c0 : w.cell? ⟨r, 0, none⟩ = some (.func (.func 40) #[] #[.pointer (some ⟨b0, 0, none⟩), .pointer (some ⟨b1, 0, none⟩)])) (c1 : w.cell? ⟨r, 1, none⟩ = some (.func (.func 39) #[.pointer (some ⟨dd, 0, none⟩)] #[]))
    (h1 : Calls Try.prog 40 #[.pointer (some ⟨b0, 0, none⟩), .pointer (some ⟨b1, 0, none⟩)] w fun x w' => x = .returned (.int .i64 e1) ∧ R1 w') (hk : Hid (∀ w', R1 w' → w'.cell? ⟨r, 1, none⟩ = some (.func (.func 39) #[.pointer (some ⟨dd, 0, none⟩)] #[])))
    (h2 : Hid (e1 = 0 → ∀ w1, R1 w1 → Calls Try.prog 39 #[.pointer (some ⟨dd, 0, none⟩)] w1 fun x w' => x = .returned (.int .i64 e2) ∧ R2 w')) :
    Calls Try.prog 36 #[.slice (some ⟨r, 0, none⟩) 2 2] w fun x w' => (e1 ≠ 0 ∧ x = .returned (.int .i64 e1) ∧ R1 w') ∨ (e1 = 0 ∧ x = .returned (.int .i64 e2) ∧ R2 w') := by
  by_cases he : e1 = 0
  · subst he
    by_cases h5 : e2 = 0
    · subst h5
      go_enter Try.func36, Try.ntmps36
      go_wp2
      refine wp_loop_rounds 4 ?_
      rw [rounds_succ]
      go_wp2_with (go_at_call 40; refine h1.mono ?_; rintro x w1 ⟨rfl, r1⟩; clear h1)
      have c1' := hk.out _ r1
      have h3 := h2.out trivial _ r1
      rw [rounds_succ]
      go_wp2_with (go_at_call 39; refine h3.mono ?_; rintro x w2 ⟨rfl, r2⟩; clear h3 r1)
      rw [rounds_succ]
      go_wp2
      go_ret
      exact .inr ⟨trivial, rfl, r2⟩
    · have hb1 : (e2 != 0) = true := by simpa using h5
      have hb2 : (e2 == 0) = false := by simpa using h5
      clear h5
      go_enter Try.func36, Try.ntmps36
      go_wp2
      refine wp_loop_rounds 4 ?_
      rw [rounds_succ]
      go_wp2_with (go_at_call 40; refine h1.mono ?_; rintro x w1 ⟨rfl, r1⟩; clear h1)
      have c1' := hk.out _ r1
      have h3 := h2.out trivial _ r1
      rw [rounds_succ]
      go_wp2_with (go_at_call 39; refine h3.mono ?_; rintro x w2 ⟨rfl, r2⟩; clear h3 r1)
      go_ret
      exact .inr ⟨trivial, rfl, r2⟩
  · have hb1 : (e1 != 0) = true := by simpa using he
    have hb2 : (e1 == 0) = false := by simpa using he
    have HE := Lib.hid he
    clear he
    go_enter Try.func36, Try.ntmps36
    go_wp2
    refine wp_loop_rounds 4 ?_
    rw [rounds_succ]
    go_wp2_with (go_at_call 40; refine h1.mono ?_; rintro x w1 ⟨rfl, r1⟩; clear h1)
    go_ret
    exact .inl ⟨HE.out, rfl, r1⟩

set_option maxHeartbeats 1000000 in
set_option maxRecDepth 100000 in
theorem all_L {w : World} {r dd b0 b1 b2 : Nat} {e1 e2 : Int} {R1 R2 : World → Prop} (c0 : w.cell? ⟨r, 0, none⟩ = some (.func (.func 44) #[] #[.pointer (some ⟨b0, 0, none⟩), .pointer (some ⟨b1, 0, none⟩), .pointer (some ⟨b2, 0, none⟩)])) (c1 : w.cell? ⟨r, 1, none⟩ = some (.func (.func 45) #[.pointer (some ⟨dd, 0, none⟩)] #[]))
    (h1 : Calls Try.prog 44 #[.pointer (some ⟨b0, 0, none⟩), .pointer (some ⟨b1, 0, none⟩), .pointer (some ⟨b2, 0, none⟩)] w fun x w' => x = .returned (.int .i64 e1) ∧ R1 w') (hk : Hid (∀ w', R1 w' → w'.cell? ⟨r, 1, none⟩ = some (.func (.func 45) #[.pointer (some ⟨dd, 0, none⟩)] #[])))
    (h2 : Hid (e1 = 0 → ∀ w1, R1 w1 → Calls Try.prog 45 #[.pointer (some ⟨dd, 0, none⟩)] w1 fun x w' => x = .returned (.int .i64 e2) ∧ R2 w')) :
    Calls Try.prog 36 #[.slice (some ⟨r, 0, none⟩) 2 2] w fun x w' => (e1 ≠ 0 ∧ x = .returned (.int .i64 e1) ∧ R1 w') ∨ (e1 = 0 ∧ x = .returned (.int .i64 e2) ∧ R2 w') := by
  by_cases he : e1 = 0
  · subst he
    by_cases h5 : e2 = 0
    · subst h5
      go_enter Try.func36, Try.ntmps36
      go_wp2
      refine wp_loop_rounds 4 ?_
      rw [rounds_succ]
      go_wp2_with (go_at_call 44; refine h1.mono ?_; rintro x w1 ⟨rfl, r1⟩; clear h1)
      have c1' := hk.out _ r1
      have h3 := h2.out trivial _ r1
      rw [rounds_succ]
      go_wp2_with (go_at_call 45; refine h3.mono ?_; rintro x w2 ⟨rfl, r2⟩; clear h3 r1)
      rw [rounds_succ]
      go_wp2
      go_ret
      exact .inr ⟨trivial, rfl, r2⟩
    · have hb1 : (e2 != 0) = true := by simpa using h5
      have hb2 : (e2 == 0) = false := by simpa using h5
      clear h5
      go_enter Try.func36, Try.ntmps36
      go_wp2
      refine wp_loop_rounds 4 ?_
      rw [rounds_succ]
      go_wp2_with (go_at_call 44; refine h1.mono ?_; rintro x w1 ⟨rfl, r1⟩; clear h1)
      have c1' := hk.out _ r1
      have h3 := h2.out trivial _ r1
      rw [rounds_succ]
      go_wp2_with (go_at_call 45; refine h3.mono ?_; rintro x w2 ⟨rfl, r2⟩; clear h3 r1)
      go_ret
      exact .inr ⟨trivial, rfl, r2⟩
  · have hb1 : (e1 != 0) = true := by simpa using he
    have hb2 : (e1 == 0) = false := by simpa using he
    have HE := Lib.hid he
    clear he
    go_enter Try.func36, Try.ntmps36
    go_wp2
    refine wp_loop_rounds 4 ?_
    rw [rounds_succ]
    go_wp2_with (go_at_call 44; refine h1.mono ?_; rintro x w1 ⟨rfl, r1⟩; clear h1)
    go_ret
    exact .inl ⟨HE.out, rfl, r1⟩
end Drv
end Go.Proofs.Ytfghlfolejpjjaa

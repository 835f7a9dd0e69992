/- Contracts of package cfi (5): Write. -/
import Derived.Test.YtfghlfolejpjjaaCfi4
namespace Go.Proofs.Ytfghlfolejpjjaa
open Go.RowKit Go.Maps
set_option linter.unusedVariables false
attribute [local go_sem] max2_int min2_int max_two min_two
namespace Cf
theorem wrong_rng {s : Fl} (h : s.c.ok) {at_ : Int} (e : wrong s at_ = 0) : 0 ≤ at_ ∧ at_ < 4096 := by
  obtain ⟨m, rfl, hm⟩ := Nr.wrong_zero h e
  have := h.size
  have := h.most
  exact ⟨by omega, by omega⟩
theorem write_none {s : Fl} {at_ v : Int} (hw : wrong s at_ = 0) (hj : s.job = none) : write s at_ v = (0, if s.wait = 0 then command s v else waited s at_ v) := by
  unfold write; rw [if_pos hw]
  split
  · rename_i e; rw [hj] at e; cases e
  · rfl
end Cf
namespace Cfi
theorem nilWait (w : World) : (binOp .neq 91 .nilFunc .nilFunc).run Try.prog w = .ok (.bool false) w := by kernel_rfl
theorem someWait (w : World) (fn : Fn) : (binOp .neq 91 (.func fn #[] #[]) .nilFunc).run Try.prog w = .ok (.bool true) w := by kernel_rfl
section
variable {w0 w : World} {S : Nat → Prop} {gf g bw be : Nat} {s : Cf.Fl}
set_option maxHeartbeats 4000000 in
set_option maxRecDepth 100000 in
theorem write_c (h : FlashX S w0 w gf g bw be s) {at_ v : Int} (hv : 0 ≤ v) (hv' : v < 4294967296) :
    Calls Try.prog 54 #[.pointer (some ⟨gf, 0, none⟩), .int .i64 at_, .int .u32 v] w fun e w' => e = .returned (.int .i64 (Cf.write s at_ v).1) ∧ FlashX (Sx S w w') w0 w' gf g bw be (Cf.write s at_ v).2 ∧ Keep S w w' := by
  obtain ⟨mb, jp, hL, hJ, c0, c1, c2, c3, c4, c5⟩ := h.cells
  have f1 := h.free 1
  have f2 := h.free 2
  have hF := h
  have qn := nilWait
  have qs := someWait
  by_cases hw : Cf.wrong s at_ = 0
  case neg =>
    have HS := Lib.hid (show Cf.write s at_ v = (Cf.wrong s at_, s) from if_neg hw)
    rw [HS.out]
    generalize hn : Cf.wrong s at_ = n at hw
    have H0 := Lib.hid hn
    have ho' : (n == 0) = false := by simpa using hw
    have ho2 : (n != 0) = true := by simpa using hw
    clear hw hn HS
    go_enter Try.func54, Try.ntmps54
    go_wp2_with ((go_at_call 57; refine (check_c hF at_).mono ?_; rintro e w' ⟨rfl, rfl⟩; rw [H0.out]))
    go_ret
    exact ⟨rfl, hF.up hF.old, Keep.refl _ _⟩
  have H0 := Lib.hid hw
  obtain ⟨ha, ha'⟩ := Cf.wrong_rng h.own.chip.ok hw
  cases hj : s.job with
  | some j =>
    have HS := Lib.hid (show Cf.write s at_ v = (0, s) by unfold Cf.write; rw [if_pos hw, hj])
    rw [HS.out]
    rw [hj] at hJ
    obtain ⟨gj, clo, rfl, hf, hg, hc⟩ := hJ
    clear hw HS hg hc
    go_enter Try.func54, Try.ntmps54
    go_wp2_with ((go_at_call 57; refine (check_c hF at_).mono ?_; rintro e w' ⟨rfl, rfl⟩; rw [H0.out]))
    go_ret
    exact ⟨rfl, hF.up hF.old, Keep.refl _ _⟩
  | none =>
    rw [hj] at hJ
    obtain rfl : jp = .pointer none := hJ
    have tf := hF.mem.1
    by_cases h0 : s.wait = 0
    · have HS := Lib.hid (show Cf.write s at_ v = (0, Cf.command s v) by rw [Cf.write_none hw hj, if_pos h0])
      rw [HS.out]
      rw [show waitV s.wait = .nilFunc by rw [h0]; rfl] at c2
      clear hw HS
      go_enter Try.func54, Try.ntmps54
      go_wp2_with (first | (go_at_call 57; refine (check_c hF at_).mono ?_; rintro e w' ⟨rfl, rfl⟩; rw [H0.out]) | (go_at_call 66; refine (command_c hF hv hv').mono ?_; rintro e w' ⟨rfl, p1, p2⟩))
      go_ret
      exact ⟨rfl, p1.up hF.old, p2.mono fun k _ e => e ▸ tf⟩
    have F1 := (hF.set (s' := { s with wait := 0 }) 2 .nilFunc (hF.ok.wait_ hF.ok.mlo hF.ok.mhi (.inl rfl)) rfl rfl rfl (fun _ _ => rfl)).set (s' := { s with wait := 0, mode := 1 }) 1 (.int .i64 1) (hF.ok.wait_ (by decide) (by decide) (.inl rfl)) rfl rfl rfl (fun _ _ => rfl)
    have K1 := ((Keep.refl S w).setCell (p := ⟨gf, 2, none⟩) (.inl tf) .nilFunc).setCell (p := ⟨gf, 1, none⟩) (.inl tf) (.int .i64 1)
    by_cases h64 : s.wait = 64
    · have HS := Lib.hid (show Cf.write s at_ v = (0, Cf.prog1 { s with wait := 0, mode := 1 } at_ v) by rw [Cf.write_none hw hj, if_neg h0]; exact congrArg (Prod.mk 0) (if_pos h64))
      rw [HS.out]
      rw [show waitV s.wait = .func (.func 74) #[] #[] by rw [h64]; rfl] at c2
      clear hw HS
      go_enter Try.func54, Try.ntmps54
      go_wp2_with (first | (go_at_call 57; refine (check_c hF at_).mono ?_; rintro e w' ⟨rfl, rfl⟩; rw [H0.out]) | (go_at_call 74; refine (program_c F1 ha ha' hv hv').mono ?_; rintro e w' ⟨rfl, p1, p2⟩))
      go_ret
      exact ⟨rfl, by rw [← Sx_eq (S := S) (w' := w') (show ((w.setCell ⟨gf, 2, none⟩ .nilFunc).setCell ⟨gf, 1, none⟩ (.int .i64 1)).heap.size = w.heap.size by simp [World.setCell])]; exact p1, K1.trans (p2.mono fun k _ e => e ▸ tf)⟩
    by_cases h32 : s.wait = 32
    · have HS := Lib.hid (show Cf.write s at_ v = (0, Cf.eras1 { s with wait := 0, mode := 1 } at_ v) by rw [Cf.write_none hw hj, if_neg h0]; exact congrArg (Prod.mk 0) ((if_neg h64).trans (if_pos h32)))
      rw [HS.out]
      rw [show waitV s.wait = .func (.func 75) #[] #[] by rw [h32]; rfl] at c2
      clear hw HS
      go_enter Try.func54, Try.ntmps54
      go_wp2_with (first | (go_at_call 57; refine (check_c hF at_).mono ?_; rintro e w' ⟨rfl, rfl⟩; rw [H0.out]) | (go_at_call 75; refine (erase_c F1 ha ha' hv hv').mono ?_; rintro e w' ⟨rfl, p1, p2⟩))
      go_ret
      exact ⟨rfl, by rw [← Sx_eq (S := S) (w' := w') (show ((w.setCell ⟨gf, 2, none⟩ .nilFunc).setCell ⟨gf, 1, none⟩ (.int .i64 1)).heap.size = w.heap.size by simp [World.setCell])]; exact p1, K1.trans (p2.mono fun k _ e => e ▸ tf)⟩
    have h96 : s.wait = 96 := by rcases hF.ok.waits with e | e | e | e <;> first | exact e | exact absurd e ‹_›
    have HS := Lib.hid (show Cf.write s at_ v = (0, Cf.lock1 { s with wait := 0, mode := 1 } at_ v) by rw [Cf.write_none hw hj, if_neg h0]; exact congrArg (Prod.mk 0) ((if_neg h64).trans (if_neg h32)))
    rw [HS.out]
    rw [show waitV s.wait = .func (.func 76) #[] #[] by rw [h96]; rfl] at c2
    clear hw HS
    go_enter Try.func54, Try.ntmps54
    go_wp2_with (first | (go_at_call 57; refine (check_c hF at_).mono ?_; rintro e w' ⟨rfl, rfl⟩; rw [H0.out]) | (go_at_call 76; refine (lock_c F1 ha ha' hv hv').mono ?_; rintro e w' ⟨rfl, p1, p2⟩))
    go_ret
    exact ⟨rfl, by rw [← Sx_eq (S := S) (w' := w') (show ((w.setCell ⟨gf, 2, none⟩ .nilFunc).setCell ⟨gf, 1, none⟩ (.int .i64 1)).heap.size = w.heap.size by simp [World.setCell])]; exact p1, K1.trans (p2.mono fun k _ e => e)⟩
end
end Cfi
end Go.Proofs.Ytfghlfolejpjjaa

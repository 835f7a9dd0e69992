/- Contracts of package nor: Program and Erase. -/
import Derived.Test.YtfghlfolejpjjaaNor2
namespace Go.Proofs.Ytfghlfolejpjjaa
open Go.RowKit
set_option linter.unusedVariables false
attribute [local go_sem] max2_int min2_int max_two min_two
namespace Nor
section
variable {w : World} {g bw be : Nat} {c : Nr.C}

set_option maxHeartbeats 2000000 in
theorem program_c (h : Chip w g bw be c) (at_ v : Int) (hv0 : 0 ≤ v) (hv1 : v < 4294967296) : Calls Try.prog 87 #[.pointer (some ⟨g, 0, none⟩), .int .i64 at_, .int .u32 v] w fun e w' =>
    e = .returned (.int .i64 (Nr.programs c at_ v).1) ∧ Chip w' g bw be (Nr.programs c at_ v).2 ∧ Keep (fun k => k = g ∨ k = bw) w w' := by
  have hmf := @makeFunc_run Try.prog
  obtain ⟨l1, l2, l3⟩ := h.lt
  have K1 := (Keep.refl (fun k => k = g ∨ k = bw) w).alloc (.cells #[.int .u32 v] 34)
  have hB := h.below (((Keep.refl (fun _ => False) w).alloc (.cells #[.int .u32 v] 34)).to_below (fun _ _ => id))
  have hv := World.cell?_alloc_mark w #[.int .u32 v] 34 (0, 0) 0
  by_cases ho : Nr.wrong c at_ ((c.wear.length : Int) * 64) = 0
  · obtain ⟨m, rfl, hm⟩ := Nr.wrong_zero h.ok ho
    have hoff := Nr.wrong_on ho
    rw [show Nr.programs c m v = (Nr.ended c, Nr.program c m v) from if_pos ho]
    have H0 := Lib.hid ho
    clear ho
    go_enter Try.func87, Try.ntmps87
    go_wp2_with (first | (go_at_call 68; refine (check64_c hB _).mono ?_; rintro e w' ⟨rfl, rfl⟩; rw [H0.out]) | (go_at_call 94; refine (changeP_c hB hoff (at_ := m) (m := 1) (Nat.le_refl _) hm hv hv0 hv1 (by omega)).mono ?_; rintro e w' ⟨rfl, hC, hK⟩))
    go_ret
    exact ⟨rfl, hC, K1.trans hK⟩
  · rw [show Nr.programs c at_ v = (Nr.wrong c at_ ((c.wear.length : Int) * 64), c) from if_neg ho]
    generalize hn : Nr.wrong c at_ ((c.wear.length : Int) * 64) = n at ho
    have ho' : (n == 0) = false := by simpa using ho
    have ho2 : (n != 0) = true := by simpa using ho
    have H0 := Lib.hid hn
    clear ho hn
    go_enter Try.func87, Try.ntmps87
    go_wp2_with (go_at_call 68; refine (check64_c hB _).mono ?_; rintro e w' ⟨rfl, rfl⟩; rw [H0.out])
    go_ret
    exact ⟨rfl, hB, K1⟩

set_option maxHeartbeats 4000000 in
theorem erase_c (h : Chip w g bw be c) (b : Int) : Calls Try.prog 89 #[.pointer (some ⟨g, 0, none⟩), .int .i64 b] w fun e w' =>
    e = .returned (.int .i64 (Nr.erases c b).1) ∧ Chip w' g bw be (Nr.erases c b).2 ∧ Keep (fun k => k = g ∨ k = bw ∨ k = be) w w' := by
  have hmf := @makeFunc_run Try.prog
  obtain ⟨kw, ke, l1, l2, c0, c1, c2, c3, c4, c5⟩ := h.cells
  by_cases ho : Nr.wrong c b (c.wear.length : Int) = 0
  · obtain ⟨m, rfl, hm⟩ := Nr.wrong_zero1 ho
    have hoff := Nr.wrong_on ho
    have cw := h.worn hm
    have fw := h.wornFree m
    have hm2 : (m : Int) < (c.wear.length : Int) := by omega
    have hm3 : (m : Int) < 64 := by have := h.ok.most; omega
    have hl := h.ok.wear_lo m
    by_cases hw : c.wear.getD m 0 < c.endure
    · rw [show Nr.erases c m = (Nr.ended c, Nr.erase c m) from (if_pos ho).trans (if_pos hw)]
      have HE := Lib.hid (Nr.erase_ok1 h.ok hw)
      have H0 := Lib.hid ho
      have HC := Lib.hid h
      have hx : c.wear.getD m 0 + 1 ≤ 9223372036854775807 := by have := h.ok.endure_hi; omega
      have hwr : IntKind.i64.wrap (c.wear.getD m 0 + 1) = c.wear.getD m 0 + 1 := by rw [IntWalk.i64_left]; exact IntWalk.wrap64_in _ (by omega)
      have HX := Lib.hid (fun n => (h.drewN n).setWear hm HE.out)
      have hlen : m * 64 + 64 ≤ c.words.length := by have := h.ok.size; omega
      clear ho hx
      generalize hg : c.wear.getD m 0 = x at cw hw hl hwr HX
      have HG := Lib.hid hg
      clear hg
      go_enter Try.func89, Try.ntmps89
      go_wp2_with (go_at_call 68; refine (check1_c h _).mono ?_; rintro e w' ⟨rfl, rfl⟩; rw [H0.out])
      go_quiet (fail)
      go_wp2_with (go_at_call 94; rw [show ((m : Int) * 64) = ((m * 64 : Nat) : Int) by omega]; refine (changeE_c (HX.out nq) hoff (at_ := m * 64) (m := 64) (by decide) hlen).mono ?_; rintro e w' ⟨rfl, hC, hK⟩)
      go_ret
      refine ⟨rfl, ?_, (((Keep.refl _ w).drewN nq).setCell (p := ⟨be, m, none⟩) (.inl (.inr (.inr rfl))) _).trans (hK.mono (fun k _ s => s.imp_right .inl))⟩
      unfold Nr.erase
      rw [Int.toNat_natCast, HG.out]
      exact hC
    · rw [show Nr.erases c m = (5, c) from (if_pos ho).trans (if_neg hw)]
      have H0 := Lib.hid ho
      clear ho
      generalize c.wear.getD m 0 = x at cw hw hl
      have hw' : c.endure ≤ x := by omega
      clear hw
      go_enter Try.func89, Try.ntmps89
      go_wp2_with (go_at_call 68; refine (check1_c h _).mono ?_; rintro e w' ⟨rfl, rfl⟩; rw [H0.out])
      go_quiet (fail)
      go_wp2
      go_ret
      exact ⟨rfl, h.drewN _, (Keep.refl _ _).drewN _⟩
  · rw [show Nr.erases c b = (Nr.wrong c b (c.wear.length : Int), c) from if_neg ho]
    generalize hn : Nr.wrong c b (c.wear.length : Int) = n at ho
    have ho' : (n == 0) = false := by simpa using ho
    have ho2 : (n != 0) = true := by simpa using ho
    have H0 := Lib.hid hn
    clear ho hn
    go_enter Try.func89, Try.ntmps89
    go_wp2_with (go_at_call 68; refine (check1_c h _).mono ?_; rintro e w' ⟨rfl, rfl⟩; rw [H0.out])
    go_ret
    exact ⟨rfl, h, Keep.refl _ _⟩
end
end Nor
end Go.Proofs.Ytfghlfolejpjjaa

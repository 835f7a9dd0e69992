/- Contracts of package cfi: what each call makes of a flash in memory (1). -/
import Derived.Test.YtfghlfolejpjjaaFlash
namespace Go.Proofs.Ytfghlfolejpjjaa
open Go.RowKit Go.Maps
set_option linter.unusedVariables false
attribute [local go_sem] max2_int min2_int max_two min_two
namespace Cfi
section
variable {w0 w : World} {S : Nat → Prop} {gf g bw be : Nat} {s : Cf.Fl}
theorem good_c (h : FlashX S w0 w gf g bw be s) : Calls Try.prog 53 #[.pointer (some ⟨gf, 0, none⟩)] w fun e w' => e = .returned (.bool true) ∧ w = w' := by
  obtain ⟨mb, jp, hL, hJ, c0, c1, c2, c3, c4, c5⟩ := h.cells
  go_enter Try.func53, Try.ntmps53
  go_wp2
  go_ret
  exact ⟨rfl, rfl⟩
theorem status_c (h : FlashX S w0 w gf g bw be s) : Calls Try.prog 55 #[.pointer (some ⟨gf, 0, none⟩)] w fun e w' => e = .returned (.int .u32 (Cf.status s)) ∧ w = w' := by
  obtain ⟨mb, jp, hL, hJ, c0, c1, c2, c3, c4, c5⟩ := h.cells
  unfold Cf.status
  cases hj : s.job with
  | none =>
    rw [hj] at hJ
    obtain rfl : jp = .pointer none := hJ
    simp only
    go_enter Try.func55, Try.ntmps55
    go_wp2_with (go_at_call 53; refine (good_c h).mono ?_; rintro e w' ⟨rfl, rfl⟩)
    go_ret
    exact ⟨rfl, rfl⟩
  | some j =>
    rw [hj] at hJ
    obtain ⟨gj, clo, rfl, hf, hg, hc⟩ := hJ
    simp only
    go_enter Try.func55, Try.ntmps55
    go_wp2_with (go_at_call 53; refine (good_c h).mono ?_; rintro e w' ⟨rfl, rfl⟩)
    go_ret
    exact ⟨rfl, rfl⟩
theorem check_c (h : FlashX S w0 w gf g bw be s) (at_ : Int) : Calls Try.prog 57 #[.pointer (some ⟨gf, 0, none⟩), .int .i64 at_] w fun e w' => e = .returned (.int .i64 (Cf.wrong s at_)) ∧ w = w' := by
  obtain ⟨mb, jp, hL, hJ, c0, c1, c2, c3, c4, c5⟩ := h.cells
  have s1 : (1 : Int) ≤ (s.c.wear.length : Int) := by have := h.own.chip.ok.some_; omega
  have s2 : (s.c.wear.length : Int) ≤ 64 := by have := h.own.chip.ok.most; omega
  have HU := h.own.chip
  by_cases ho : s.c.off = true
  · have E := Lib.hid (show Cf.wrong s at_ = 4 from if_pos ho)
    have ho2 : (!s.c.off) = false := by simp [ho]
    go_enter Try.func57, Try.ntmps57
    go_wp2_with (first | (go_at_call 53; refine (good_c h).mono ?_; rintro e w' ⟨rfl, rfl⟩) | (go_at_call 23; refine (Nor.up_c HU).mono ?_; rintro e w' ⟨rfl, rfl⟩))
    go_ret
    exact ⟨ret_int E.out.symm, rfl⟩
  · have ho' : s.c.off = false := by simpa using ho
    have ho2 : (!s.c.off) = true := by simp [ho']
    clear ho
    by_cases h1 : at_ < 0
    · have E := Lib.hid (show Cf.wrong s at_ = 3 by unfold Cf.wrong Nr.wrong; rw [if_neg (by simp [ho']), if_pos (.inl h1)])
      go_enter Try.func57, Try.ntmps57
      go_wp2_with (first | (go_at_call 53; refine (good_c h).mono ?_; rintro e w' ⟨rfl, rfl⟩) | (go_at_call 23; refine (Nor.up_c HU).mono ?_; rintro e w' ⟨rfl, rfl⟩) | (go_at_call 41; refine (Nor.blocks_c HU).mono ?_; rintro e w' ⟨rfl, rfl⟩))
      go_ret
      exact ⟨ret_int E.out.symm, rfl⟩
    · by_cases h2 : (s.c.wear.length : Int) * 64 ≤ at_
      · have E := Lib.hid (show Cf.wrong s at_ = 3 by unfold Cf.wrong Nr.wrong; rw [if_neg (by simp [ho']), if_pos (.inr h2)])
        go_enter Try.func57, Try.ntmps57
        go_wp2_with (first | (go_at_call 53; refine (good_c h).mono ?_; rintro e w' ⟨rfl, rfl⟩) | (go_at_call 23; refine (Nor.up_c HU).mono ?_; rintro e w' ⟨rfl, rfl⟩) | (go_at_call 41; refine (Nor.blocks_c HU).mono ?_; rintro e w' ⟨rfl, rfl⟩))
        go_ret
        exact ⟨ret_int E.out.symm, rfl⟩
      · have E := Lib.hid (show Cf.wrong s at_ = 0 by unfold Cf.wrong Nr.wrong; rw [if_neg (by simp [ho']), if_neg (by omega)])
        go_enter Try.func57, Try.ntmps57
        go_wp2_with (first | (go_at_call 53; refine (good_c h).mono ?_; rintro e w' ⟨rfl, rfl⟩) | (go_at_call 23; refine (Nor.up_c HU).mono ?_; rintro e w' ⟨rfl, rfl⟩) | (go_at_call 41; refine (Nor.blocks_c HU).mono ?_; rintro e w' ⟨rfl, rfl⟩))
        go_ret
        exact ⟨ret_int E.out.symm, rfl⟩
theorem set_c (h : FlashX S w0 w gf g bw be s) {b : Int} (hb : 0 ≤ b) (hb' : b < 4294967296) : Calls Try.prog 67 #[.pointer (some ⟨gf, 0, none⟩), .int .u32 b] w fun e w' => e = .returned (.tuple #[]) ∧ FlashX S w0 w' gf g bw be (Cf.setE s b) ∧ Keep (· = gf) w w' := by
  obtain ⟨mb, jp, hL, hJ, c0, c1, c2, c3, c4, c5⟩ := h.cells
  have f3 := h.free 3
  have hF := h
  go_enter Try.func67, Try.ntmps67
  go_wp2
  go_end0
  exact ⟨rfl, hF.set 3 _ (Cf.setE_ok hF.ok hb hb') rfl rfl rfl (fun _ _ => rfl), (Keep.refl (fun x => x = gf) w).setCell (p := ⟨gf, 3, none⟩) (.inl rfl) _⟩
end
end Cfi
end Go.Proofs.Ytfghlfolejpjjaa

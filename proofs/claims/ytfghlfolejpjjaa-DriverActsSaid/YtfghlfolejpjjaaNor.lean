/- Contracts of package nor: what each call makes of a chip in memory. -/
import Derived.Test.YtfghlfolejpjjaaChip
import Derived.Test.YtfghlfolejpjjaaOpen
namespace Go.Proofs.Ytfghlfolejpjjaa
open Go.RowKit
set_option linter.unusedVariables false
attribute [local go_sem] max2_int min2_int max_two min_two
namespace Nor
section
variable {w : World} {g bw be : Nat} {c : Nr.C}

theorem blocks_c (h : Chip w g bw be c) : Calls Try.prog 41 #[.pointer (some ⟨g, 0, none⟩)] w fun e w' => e = .returned (.int .i64 (c.wear.length : Int)) ∧ w = w' := by
  obtain ⟨kw, ke, l1, l2, c0, c1, c2, c3, c4, c5⟩ := h.cells
  go_enter Try.func41, Try.ntmps41
  go_wp2
  go_ret
  exact ⟨rfl, rfl⟩

theorem up_c (h : Chip w g bw be c) : Calls Try.prog 23 #[.pointer (some ⟨g, 0, none⟩)] w fun e w' => e = .returned (.bool (!c.off)) ∧ w = w' := by
  obtain ⟨kw, ke, l1, l2, c0, c1, c2, c3, c4, c5⟩ := h.cells
  have s1 : (1 : Int) ≤ (c.wear.length : Int) := by have := h.ok.some_; omega
  have s2 : (c.wear.length : Int) ≤ 64 := by have := h.ok.most; omega
  have s3 : ((c.wear.length : Int) == 0) = false := by rw [beq_eq_false_iff_ne]; omega
  go_enter Try.func23, Try.ntmps23
  go_wp2_with (go_at_call 41; refine (blocks_c h).mono ?_; rintro e w' ⟨rfl, rfl⟩)
  go_ret
  exact ⟨rfl, rfl⟩

theorem check64_c (h : Chip w g bw be c) (at_ : Int) : Calls Try.prog 68 #[.pointer (some ⟨g, 0, none⟩), .int .i64 at_, .int .i64 64] w fun e w' => e = .returned (.int .i64 (Nr.wrong c at_ ((c.wear.length : Int) * 64))) ∧ w = w' := by
  obtain ⟨kw, ke, l1, l2, c0, c1, c2, c3, c4, c5⟩ := h.cells
  have s1 : (1 : Int) ≤ (c.wear.length : Int) := by have := h.ok.some_; omega
  have s2 : (c.wear.length : Int) ≤ 64 := by have := h.ok.most; omega
  have s3 : ((c.wear.length : Int) == 0) = false := by rw [beq_eq_false_iff_ne]; omega
  by_cases ho : c.off = true
  · have E := Lib.hid (show Nr.wrong c at_ ((c.wear.length : Int) * 64) = 4 from if_pos ho)
    go_enter Try.func68, Try.ntmps68
    go_wp2_with (go_at_call 41; refine (blocks_c h).mono ?_; rintro e w' ⟨rfl, rfl⟩)
    go_ret
    exact ⟨by rw [E.out]; rfl, rfl⟩
  · have ho' : c.off = false := by simpa using ho
    clear ho
    by_cases h1 : at_ < 0
    · have E := Lib.hid (show Nr.wrong c at_ ((c.wear.length : Int) * 64) = 3 by unfold Nr.wrong; rw [if_neg (by simp [ho']), if_pos (.inl h1)])
      go_enter Try.func68, Try.ntmps68
      go_wp2_with (go_at_call 41; refine (blocks_c h).mono ?_; rintro e w' ⟨rfl, rfl⟩)
      go_ret
      exact ⟨by rw [E.out]; rfl, rfl⟩
    · by_cases h2 : (c.wear.length : Int) * 64 ≤ at_
      · have E := Lib.hid (show Nr.wrong c at_ ((c.wear.length : Int) * 64) = 3 by unfold Nr.wrong; rw [if_neg (by simp [ho']), if_pos (.inr h2)])
        go_enter Try.func68, Try.ntmps68
        go_wp2_with (go_at_call 41; refine (blocks_c h).mono ?_; rintro e w' ⟨rfl, rfl⟩)
        go_ret
        exact ⟨by rw [E.out]; rfl, rfl⟩
      · have E := Lib.hid (show Nr.wrong c at_ ((c.wear.length : Int) * 64) = 0 by unfold Nr.wrong; rw [if_neg (by simp [ho']), if_neg (by omega)])
        go_enter Try.func68, Try.ntmps68
        go_wp2_with (go_at_call 41; refine (blocks_c h).mono ?_; rintro e w' ⟨rfl, rfl⟩)
        go_ret
        exact ⟨by rw [E.out]; rfl, rfl⟩

theorem check1_c (h : Chip w g bw be c) (at_ : Int) : Calls Try.prog 68 #[.pointer (some ⟨g, 0, none⟩), .int .i64 at_, .int .i64 1] w fun e w' => e = .returned (.int .i64 (Nr.wrong c at_ ((c.wear.length : Int)))) ∧ w = w' := by
  obtain ⟨kw, ke, l1, l2, c0, c1, c2, c3, c4, c5⟩ := h.cells
  have s1 : (1 : Int) ≤ (c.wear.length : Int) := by have := h.ok.some_; omega
  have s2 : (c.wear.length : Int) ≤ 64 := by have := h.ok.most; omega
  have s3 : ((c.wear.length : Int) == 0) = false := by rw [beq_eq_false_iff_ne]; omega
  by_cases ho : c.off = true
  · have E := Lib.hid (show Nr.wrong c at_ ((c.wear.length : Int)) = 4 from if_pos ho)
    go_enter Try.func68, Try.ntmps68
    go_wp2_with (go_at_call 41; refine (blocks_c h).mono ?_; rintro e w' ⟨rfl, rfl⟩)
    go_ret
    exact ⟨by rw [E.out]; rfl, rfl⟩
  · have ho' : c.off = false := by simpa using ho
    clear ho
    by_cases h1 : at_ < 0
    · have E := Lib.hid (show Nr.wrong c at_ ((c.wear.length : Int)) = 3 by unfold Nr.wrong; rw [if_neg (by simp [ho']), if_pos (.inl h1)])
      go_enter Try.func68, Try.ntmps68
      go_wp2_with (go_at_call 41; refine (blocks_c h).mono ?_; rintro e w' ⟨rfl, rfl⟩)
      go_ret
      exact ⟨by rw [E.out]; rfl, rfl⟩
    · by_cases h2 : (c.wear.length : Int) ≤ at_
      · have E := Lib.hid (show Nr.wrong c at_ ((c.wear.length : Int)) = 3 by unfold Nr.wrong; rw [if_neg (by simp [ho']), if_pos (.inr h2)])
        go_enter Try.func68, Try.ntmps68
        go_wp2_with (go_at_call 41; refine (blocks_c h).mono ?_; rintro e w' ⟨rfl, rfl⟩)
        go_ret
        exact ⟨by rw [E.out]; rfl, rfl⟩
      · have E := Lib.hid (show Nr.wrong c at_ ((c.wear.length : Int)) = 0 by unfold Nr.wrong; rw [if_neg (by simp [ho']), if_neg (by omega)])
        go_enter Try.func68, Try.ntmps68
        go_wp2_with (go_at_call 41; refine (blocks_c h).mono ?_; rintro e w' ⟨rfl, rfl⟩)
        go_ret
        exact ⟨by rw [E.out]; rfl, rfl⟩

/-- What a call that reads answers: the word, or why there is none. -/
theorem read_c (h : Chip w g bw be c) (at_ : Int) : Calls Try.prog 58 #[.pointer (some ⟨g, 0, none⟩), .int .i64 at_] w fun e w' => e = .returned (.tuple #[.int .u32 (if Nr.wrong c at_ ((c.wear.length : Int) * 64) = 0 then c.words.getD at_.toNat 0 else 0), .int .i64 (Nr.wrong c at_ ((c.wear.length : Int) * 64))]) ∧ w = w' := by
  obtain ⟨kw, ke, l1, l2, c0, c1, c2, c3, c4, c5⟩ := h.cells
  by_cases ho : Nr.wrong c at_ ((c.wear.length : Int) * 64) = 0
  · obtain ⟨m, rfl, hm⟩ := Nr.wrong_zero h.ok ho
    have cw := h.word hm
    have hm' : (m : Int) < (c.words.length : Int) := by omega
    rw [ho, if_pos rfl, Int.toNat_natCast]
    generalize c.words.getD m 0 = v at cw ⊢
    have H0 := Lib.hid ho
    clear ho
    go_enter Try.func58, Try.ntmps58
    go_wp2_with (go_at_call 68; refine (check64_c h _).mono ?_; rintro e w' ⟨rfl, rfl⟩; rw [H0.out])
    go_ret2
    exact ⟨rfl, rfl⟩
  · rw [if_neg ho]
    generalize hn : Nr.wrong c at_ ((c.wear.length : Int) * 64) = n at ho
    have ho' : (n == 0) = false := by simpa using ho
    have ho2 : (n != 0) = true := by simpa using ho
    have H0 := Lib.hid hn
    clear ho hn
    go_enter Try.func58, Try.ntmps58
    go_wp2_with (go_at_call 68; refine (check64_c h _).mono ?_; rintro e w' ⟨rfl, rfl⟩; rw [H0.out])
    go_ret2
    exact ⟨rfl, rfl⟩

theorem wear_c (h : Chip w g bw be c) (b : Int) : Calls Try.prog 14 #[.pointer (some ⟨g, 0, none⟩), .int .i64 b] w fun e w' => e = .returned (.int .i64 (if b < 0 then 0 else c.wear.getD b.toNat 0)) ∧ w = w' := by
  obtain ⟨kw, ke, l1, l2, c0, c1, c2, c3, c4, c5⟩ := h.cells
  by_cases h1 : b < 0
  · rw [if_pos h1]
    go_enter Try.func14, Try.ntmps14
    go_wp2_with (go_at_call 41; refine (blocks_c h).mono ?_; rintro e w' ⟨rfl, rfl⟩)
    go_ret
    exact ⟨rfl, rfl⟩
  · rw [if_neg h1]
    obtain ⟨m, rfl⟩ := Int.eq_ofNat_of_zero_le (show 0 ≤ b by omega)
    rw [Int.toNat_natCast]
    by_cases h2 : m < c.wear.length
    · have cw := h.worn h2
      have h3 : (m : Int) < (c.wear.length : Int) := by omega
      generalize c.wear.getD m 0 = v at cw ⊢
      go_enter Try.func14, Try.ntmps14
      go_wp2_with (go_at_call 41; refine (blocks_c h).mono ?_; rintro e w' ⟨rfl, rfl⟩)
      go_ret
      exact ⟨rfl, rfl⟩
    · have h3 : (c.wear.length : Int) ≤ (m : Int) := by omega
      rw [show c.wear.getD m 0 = 0 by simp [List.getD, h2]]
      clear h2
      go_enter Try.func14, Try.ntmps14
      go_wp2_with (go_at_call 41; refine (blocks_c h).mono ?_; rintro e w' ⟨rfl, rfl⟩)
      go_ret
      exact ⟨rfl, rfl⟩

theorem fuse_c (h : Chip w g bw be c) (n p : Int) (hn : Hid (n ≤ 9223372036854775807)) (hp : 0 ≤ p) (hp' : p < 4294967296) : Calls Try.prog 22 #[.pointer (some ⟨g, 0, none⟩), .int .i64 n, .int .u32 p] w fun e w' => e = .returned (.tuple #[]) ∧ Chip w' g bw be (Nr.fuse c n p) ∧ Keep (· = g) w w' := by
  obtain ⟨kw, ke, l1, l2, c0, c1, c2, c3, c4, c5⟩ := h.cells
  have s1 : (1 : Int) ≤ (c.wear.length : Int) := by have := h.ok.some_; omega
  have s2 : (c.wear.length : Int) ≤ 64 := by have := h.ok.most; omega
  have s3 : ((c.wear.length : Int) == 0) = false := by rw [beq_eq_false_iff_ne]; omega
  have f0 := h.free 3
  have f1 := h.free 4
  have hC := h
  go_enter Try.func22, Try.ntmps22
  go_wp2_with (go_at_call 41; refine (blocks_c h).mono ?_; rintro e w' ⟨rfl, rfl⟩)
  all_goals (go_end0; refine ⟨rfl, ?_, ((Keep.refl (fun x => x = g) w).setCell (p := ⟨g, 3, none⟩) (.inl rfl) _).setCell (p := ⟨g, 4, none⟩) (.inl rfl) _⟩)
  · rename_i h0
    have e : max n 0 = 0 := by omega
    refine (hC.set (c' := { c with fuse := 0 }) 3 _ (Nr.on_ok1 hC.ok) rfl rfl (fun _ _ => rfl)).set 4 _ (Nr.fuse_ok hC.ok hn.out hp hp') rfl rfl (fun _ _ => ?_)
    simp only [Nr.fuse, e]; rfl
  · rename_i h0
    have e : max n 0 = n := by omega
    have o := Nr.fuse_ok hC.ok hn.out hp hp'
    have o' := Nr.fuse_ok hC.ok hn.out hC.ok.pick_lo hC.ok.pick_hi
    simp only [Nr.fuse, e] at o o' ⊢
    exact (hC.set (c' := { c with fuse := n }) 3 _ o' rfl rfl (fun _ _ => rfl)).set 4 _ o rfl rfl (fun _ _ => rfl)


theorem on_c (h : Chip w g bw be c) : Calls Try.prog 30 #[.pointer (some ⟨g, 0, none⟩)] w fun e w' => e = .returned (.tuple #[]) ∧ Chip w' g bw be (Nr.on c) ∧ Keep (· = g) w w' := by
  obtain ⟨kw, ke, l1, l2, c0, c1, c2, c3, c4, c5⟩ := h.cells
  have s1 : (1 : Int) ≤ (c.wear.length : Int) := by have := h.ok.some_; omega
  have s2 : (c.wear.length : Int) ≤ 64 := by have := h.ok.most; omega
  have s3 : ((c.wear.length : Int) == 0) = false := by rw [beq_eq_false_iff_ne]; omega
  have f0 := h.free 5
  have f1 := h.free 3
  go_enter Try.func30, Try.ntmps30
  go_wp2_with (go_at_call 41; refine (blocks_c h).mono ?_; rintro e w' ⟨rfl, rfl⟩)
  all_goals (go_end0; refine ⟨rfl, ?_, ((Keep.refl (fun x => x = g) w).setCell (p := ⟨g, 5, none⟩) (.inl rfl) _).setCell (p := ⟨g, 3, none⟩) (.inl rfl) _⟩)
  exact (h.set (c' := { c with off := false }) 5 _ ⟨h.ok.size, h.ok.some_, h.ok.most, h.ok.words_lo, h.ok.words_hi, h.ok.wear_lo, h.ok.wear_hi, h.ok.endure_lo, h.ok.endure_hi, h.ok.fuse_lo, h.ok.fuse_hi, h.ok.pick_lo, h.ok.pick_hi⟩ rfl rfl (fun _ _ => rfl)).set 3 _ (Nr.on_ok h.ok) rfl rfl (fun _ _ => rfl)
end
end Nor
end Go.Proofs.Ytfghlfolejpjjaa

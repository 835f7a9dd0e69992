/- The reference's chip: a word is changed. -/
import Derived.Test.YtmaakjabjpppkaaRnor2
import Derived.Test.YtmaakjabjpppkaaRbox
namespace Go.Proofs.Ytmaakjabjpppkaa
open Go.RowKit
set_option linter.unusedVariables false
attribute [local go_sem] max2_int min2_int max_two min_two
namespace Rnor
theorem change_c {w : World} {bw kw be ke m : Nat} {c : Nr.C} (h : RAt w bw kw be ke c) (hm : m < c.words.length) (v p : Int) (burns : Bool) (hv : 0 ≤ v ∧ v < 4294967296) (hp : 0 ≤ p ∧ p < 4294967296) {u : Int} (hu : Hid (u = if burns = true then Bt.part (c.words.getD m 0) v p else v)) :
    Calls Try.prog 44 #[rv bw kw be ke c, .int .i64 m, .int .u32 v, .bool burns, .int .u32 p] w fun e w' => ∃ a kap, e = .returned (rv a kap be ke { c with words := c.words.set m u }) ∧ Row w' a (c.words.set m u) ∧ c.words.length ≤ kap ∧ w.heap.size ≤ a ∧ Below w.heap.size w w' := by
  have s0 : c.words.length ≤ 4096 := by have := h.ok.size; have := h.ok.most; omega
  unfold rv
  have hw := Lib.hid h.words
  have hk := h.kw
  cases burns
  · obtain rfl : u = v := by simpa using hu.out
    clear hu
    go_enter Try.func44, Try.ntmps44
    go_wp2_with (go_at_call 53; refine (put_c hm hk s0 (hw.out.below (alloc2_below w _ _))).mono ?_; rintro e w1 ⟨a, kap, rfl, p1, p2, p3, p4⟩; obtain ⟨e0, e1, B⟩ := alloc2_then p4; clear p4; have E1 := Lib.hid e1; have E0 := Lib.hid e0; obtain ⟨x0, x1, x2, x3, x4, x5, xf⟩ := cells6 e0; obtain ⟨y0, y1, y2, y3, y4, y5, yf⟩ := cells6 e1; clear e0 e1)
    have n1 : ¬ w.heap.size + 1 = w.heap.size := by omega
    have q2 : w.heap.size + 1 + 1 ≤ a := by simpa using p2
    refine bodyPost_ret (retC rfl _ _ (w.heap.size + 1) _ rfl (put6 ((set_away n1 _).trans E1.out) _ _ _ _ _ _) rfl) rfl ⟨a, kap, ?_, ?_, p1, by omega, put6_below (B.setCell (Nat.le_refl _) _) (by omega) _ _ _ _ _ _⟩
    · rw [List.length_set]
    · obtain ⟨cur, ea, hc⟩ := p3
      exact ⟨cur, ((put6_away (by omega) _ _ _ _ _ _).trans (set_away (by omega) _)).trans ea, hc⟩
  · have hu' : Hid (u = Bt.part (c.words.getD m 0) v p) := Lib.hid (by simpa using hu.out)
    clear hu
    go_enter Try.func44, Try.ntmps44
    have hcw : ∀ o1 o2, ((w.alloc o1).alloc o2).cell? ⟨bw, m, none⟩ = some (.int .u32 (c.words.getD m 0)) := fun o1 o2 => Lib.cell?_alloc_some _ (Lib.cell?_alloc_some _ (h.words.cell hm))
    have r1 := h.ok.words_lo m
    have r2 := h.ok.words_hi m
    generalize c.words.getD m 0 = x at hcw r1 r2 hu'
    go_wp2_with (first | (go_at_call 52; refine (Ref1.part_c _ _ _ _ r1 r2 hv.1 hv.2 hp.1 hp.2).mono ?_; rintro e w' ⟨rfl, rfl⟩; rw [← hu'.out]) | (go_at_call 53; refine (put_c hm hk s0 (hw.out.below (alloc2_below w _ _))).mono ?_; rintro e w1 ⟨a, kap, rfl, p1, p2, p3, p4⟩; obtain ⟨e0, e1, B⟩ := alloc2_then p4; clear p4; have E1 := Lib.hid e1; have E0 := Lib.hid e0; obtain ⟨x0, x1, x2, x3, x4, x5, xf⟩ := cells6 e0; obtain ⟨y0, y1, y2, y3, y4, y5, yf⟩ := cells6 e1; clear e0 e1))
    have n1 : ¬ w.heap.size + 1 = w.heap.size := by omega
    have q2 : w.heap.size + 1 + 1 ≤ a := by simpa using p2
    refine bodyPost_ret (retC rfl _ _ (w.heap.size + 1) _ rfl (put6 ((set_away n1 _).trans E1.out) _ _ _ _ _ _) rfl) rfl ⟨a, kap, ?_, ?_, p1, by omega, put6_below (B.setCell (Nat.le_refl _) _) (by omega) _ _ _ _ _ _⟩
    · rw [List.length_set]
    · obtain ⟨cur, ea, hc⟩ := p3
      exact ⟨cur, ((put6_away (by omega) _ _ _ _ _ _).trans (set_away (by omega) _)).trans ea, hc⟩
end Rnor
end Go.Proofs.Ytmaakjabjpppkaa

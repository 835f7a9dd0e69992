/- Contracts of package driver (6): one word, one erasure, one lock, by 'all'. -/
import Derived.Test.YtfghlfolejpjjaaDrv5
namespace Go.Proofs.Ytfghlfolejpjjaa
open Go.RowKit
set_option linter.unusedVariables false
attribute [local go_sem] max2_int min2_int max_two min_two
namespace Cf
theorem ended_04 (c : Nr.C) : Nr.ended c = 4 ∨ Nr.ended c = 0 := by unfold Nr.ended; split <;> simp
theorem wrong_at (s : Fl) (c' : Nr.C) (hc : c'.off = s.c.off ∧ c'.wear.length = s.c.wear.length) (m w e : Int) (L : Int → Bool) (j : Option Jb) (a : Int) : wrong ⟨c', m, w, e, L, j⟩ a = wrong s a := by unfold wrong Nr.wrong; simp only; rw [hc.1, hc.2]
/-- A job by its ticks. -/
theorem job_ticks {s : Fl} (h : Calm s) (hok : s.c.ok) (hw0 : wrong s 0 = 0) (j : Jb) {e : Int} {c' : Nr.C} (hd : does s.c j = (e, c')) (h5 : e = 4 ∨ e = 0 ∨ (e = 5 ∧ c' = s.c)) :
    (∀ l, status (Drv.at_ { s with mode := 1 } j l) = 0) ∧ (∀ l : Int, 1 < l → tick (Drv.at_ { s with mode := 1 } j l) 1 = (0, Drv.at_ { s with mode := 1 } j (l - 1))) ∧
    ∃ e1 s1, tick (Drv.at_ { s with mode := 1 } j 1) 1 = (e1, s1) ∧ ((e1 = 4 ∧ e = 4 ∧ s1 = { s with c := c', mode := 1 }) ∨ (e1 = 0 ∧ e = 0 ∧ s1 = { s with c := c', mode := 1 } ∧ status s1 = 128) ∨ (e1 = 0 ∧ e = 5 ∧ status s1 = 160 ∧ write s1 0 80 = (0, { s with c := c', mode := 1 }))) := by
  have hw : ∀ l, wrong (Drv.at_ { s with mode := 1 } j l) 0 = 0 := fun l => (wrong_at s s.c ⟨rfl, rfl⟩ _ _ _ _ _ 0).trans hw0
  refine ⟨fun l => (status_job rfl).trans h.errs, fun l hl => tick_wait (hw l) (by decide) rfl hl, ?_⟩
  have hn : ({ s with c := c', mode := 1, job := none } : Fl) = { s with c := c', mode := 1 } := by have := h.job; cases s; simp only at this; subst this; rfl
  by_cases h5' : e = 5
  · have hc : c' = s.c := by
      rcases h5 with h4 | h4 | h4
      · omega
      · omega
      · exact h4.2
    subst hc
    refine ⟨0, setE { s with mode := 1, job := none } 32, ?_, .inr (.inr ⟨rfl, h5', ?_, ?_⟩)⟩
    · exact tick_worn (hw 1) (by decide) rfl (by show ¬ (1 : Int) < 1; decide) (h5' ▸ hd)
    · refine (status_none rfl).trans ?_
      show bits .or .u32 (bits .or .u32 s.errs 32) 128 = 160
      rw [h.errs]; decide
    · have := clears h hw0 s.c ⟨rfl, rfl⟩ (bits .or .u32 s.errs 32)
      rw [← h.job] 
      exact this
  · refine ⟨e, { s with c := c', mode := 1, job := none }, tick_done (hw 1) (by decide) rfl (by show ¬ (1 : Int) < 1; decide) (c' := c') (e := e) hd h5', ?_⟩
    rw [hn]
    rcases h5 with h4 | h4 | h4
    · exact .inl ⟨h4, h4, rfl⟩
    · refine .inr (.inl ⟨h4, h4, rfl, (status_none h.job).trans ?_⟩)
      show bits .or .u32 s.errs 128 = 128
      rw [h.errs]; decide
    · exact absurd h4.1 h5'
end Cf
end Go.Proofs.Ytfghlfolejpjjaa

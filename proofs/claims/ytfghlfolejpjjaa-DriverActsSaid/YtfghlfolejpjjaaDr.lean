/- A driver: what each call makes of a flash that is calm. Plain law: no program. -/
import Derived.Test.YtfghlfolejpjjaaCfLaws2
namespace Go.Proofs.Ytfghlfolejpjjaa.Cf
open Go.RowKit
set_option linter.unusedVariables false
/-- Nothing is under way, nothing is awaited, no error is set. -/
structure Calm (s : Fl) : Prop where
  job : s.job = none
  wait : s.wait = 0
  errs : s.errs = 0
/-- Two words, one behind the other. -/
def both (s : Fl) (at_ a b : Int) : Int × Fl := if (write s at_ a).1 = 0 then write (write s at_ a).2 at_ b else write s at_ a
/-- One word is programmed: the answer, the ticks, what is behind. -/
def pw (s : Fl) (a v : Int) : Int × Int × Fl := if wrong s a = 0 then (if s.locks (a / 64) then (6, 0, { s with mode := 1 }) else ((Nr.programs s.c a v).1, 3, { s with c := (Nr.programs s.c a v).2, mode := 1 })) else (wrong s a, 0, s)
/-- A block is erased. -/
def ew (s : Fl) (b : Int) : Int × Int × Fl := if wrong s (b * 64) = 0 then (if s.locks (b * 64 / 64) then (6, 0, { s with mode := 1 }) else ((Nr.erases s.c (b * 64 / 64)).1, 20, { s with c := (Nr.erases s.c (b * 64 / 64)).2, mode := 1 })) else (wrong s (b * 64), 0, s)
/-- A block is locked, or open. -/
def lw (s : Fl) (b : Int) (on : Bool) : Int × Fl := if wrong s (b * 64) = 0 then (0, { s with mode := 1, locks := upd s.locks (b * 64 / 64) on }) else (wrong s (b * 64), s)
theorem both_off {s : Fl} {at_ a b : Int} (hw : ¬ wrong s at_ = 0) : both s at_ a b = (wrong s at_, s) := by
  have e : write s at_ a = (wrong s at_, s) := if_neg hw
  unfold both; rw [e, if_neg hw]
theorem both_on {s s1 : Fl} {at_ a b : Int} (h : write s at_ a = (0, s1)) : both s at_ a b = write s1 at_ b := by
  unfold both; rw [h, if_pos rfl]
theorem both_prog {s : Fl} (h : Calm s) {at_ v : Int} (hw : wrong s at_ = 0) : both s at_ 64 v = (0, prog1 { s with mode := 1, wait := 0 } at_ v) := by
  have e : write s at_ 64 = (0, { s with mode := 1, wait := 64 }) := (write_cmd hw h.job h.wait).trans rfl
  rw [both_on e]
  exact write_wait (s := { s with mode := 1, wait := 64 }) hw h.job (by show ¬ (64 : Int) = 0; decide)
theorem both_eras {s : Fl} (h : Calm s) {at_ : Int} (hw : wrong s at_ = 0) : both s at_ 32 208 = (0, eras1 { s with mode := 1, wait := 0 } at_ 208) := by
  have e : write s at_ 32 = (0, { s with mode := 1, wait := 32 }) := (write_cmd hw h.job h.wait).trans rfl
  rw [both_on e]
  exact write_wait (s := { s with mode := 1, wait := 32 }) hw h.job (by show ¬ (32 : Int) = 0; decide)
theorem both_lock {s : Fl} (h : Calm s) {at_ v : Int} (hw : wrong s at_ = 0) : both s at_ 96 v = (0, lock1 { s with mode := 1, wait := 0 } at_ v) := by
  have e : write s at_ 96 = (0, { s with mode := 1, wait := 96 }) := (write_cmd hw h.job h.wait).trans rfl
  rw [both_on e]
  exact write_wait (s := { s with mode := 1, wait := 96 }) hw h.job (by show ¬ (96 : Int) = 0; decide)
theorem wrong_0 {s : Fl} (h : s.c.ok) {at_ : Int} (hw : wrong s at_ = 0) : wrong s 0 = 0 := by
  have ho := Nr.wrong_on hw
  exact wrong_in (m := 0) ho (by have := h.some_; omega)
theorem calm_w {s : Fl} (h : Calm s) : ({ s with mode := 1, wait := 0 } : Fl) = { s with mode := 1 } := by
  have := h.wait
  cases s; simp only at this; subst this; rfl
theorem tick_worn {s : Fl} {n : Int} (hw : wrong s 0 = 0) (hn : ¬ n < 0) {j : Jb} (hj : s.job = some j) (hl : ¬ n < j.left) {c' : Nr.C} (hd : does s.c j = (5, c')) : tick s n = (0, setE { s with c := c', job := none } 32) := by
  unfold tick; rw [if_pos hw, if_neg hn]; split
  · rename_i e; rw [hj] at e; cases e
  · rename_i j' e; rw [hj] at e; cases e; rw [if_neg hl, hd, if_pos rfl]
/-- Errors that are set are cleared. -/
theorem clears {s : Fl} (h : Calm s) (hw : wrong s 0 = 0) (c' : Nr.C) (hc : c'.off = s.c.off ∧ c'.wear.length = s.c.wear.length) (E : Int) : write ({ s with c := c', mode := 1, errs := E } : Fl) 0 80 = (0, { s with c := c', mode := 1 }) := by
  have hw' : wrong ({ s with c := c', mode := 1, errs := E } : Fl) 0 = 0 := by
    have : wrong ({ s with c := c', mode := 1, errs := E } : Fl) 0 = wrong s 0 := by unfold wrong Nr.wrong; simp only; rw [hc.1, hc.2]
    rw [this]; exact hw
  refine (write_cmd hw' h.job h.wait).trans (congrArg (Prod.mk 0) ?_)
  have := h.errs
  cases s; simp only at this; subst this; rfl
end Go.Proofs.Ytfghlfolejpjjaa.Cf

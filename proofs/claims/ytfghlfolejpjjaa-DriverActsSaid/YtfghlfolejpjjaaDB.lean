/- The parts: Drv6 Drv7 Drv8 Drv9 Drv10 Drv11. -/
import Derived.Test.YtfghlfolejpjjaaDA
import Derived.Laws.EntriesVeiled
import Derived.Test.YtfghlfolejpjjaaArgs
import Derived.Test.YtfghlfolejpjjaaDr2
/- Contracts of package driver (6): one word, one erasure, one lock, by 'all'. -/
namespace Go.Proofs.Ytfghlfolejpjjaa
open Go.RowKit
set_option linter.unusedVariables false
attribute [local go_sem] max2_int min2_int max_two min_two
namespace Cf
theorem ended_04 (c : Nr.C) : Nr.ended c = 4 ∨ Nr.ended c = 0 := by unfold Nr.ended; split <;> simp
theorem wrong_at (s : Fl) (c' : Nr.C) (hc : c'.off = s.c.off ∧ c'.wear.length = s.c.wear.length) (m w e : Int) (L : Int → Bool) (j : Option Jb) (a : Int) : wrong ⟨c', m, w, e, L, j⟩ a = wrong s a := by unfold wrong Nr.wrong; simp only; rw [hc.1, hc.2]
/-- A job by its ticks. -/
theorem job_ticks {s : Fl} (h : Calm s) (hok : s.c.ok) (hw0 : wrong s 0 = 0) (j : Jb) {e : Int} {c' : Nr.C} (hd : does s.c j = (e, c')) (h5 : e = 4 ∨ e = 0 ∨ (e = 5 ∧ c' = s.c)) :
    (∀ l, status (Drv.at_ { s with mode := 1 } j l) = 0) ∧ (∀ l : Int, 1 < l → tick (Drv.at_ { s with mode := 1 } j l) 1 = (0, Drv.at_ { s with mode := 1 } j (l - 1))) ∧
    ∃ e1 s1, tick (Drv.at_ { s with mode := 1 } j 1) 1 = (e1, s1) ∧ ((e1 = 4 ∧ e = 4 ∧ s1 = { s with c := c', mode := 1 }) ∨ (e1 = 0 ∧ e = 0 ∧ s1 = { s with c := c', mode := 1 } ∧ status s1 = 128) ∨ (e1 = 0 ∧ e = 5 ∧ status s1 = 160 ∧ write s1 0 80 = (0, { s with c := c', mode := 1 }))) := by
  have hw : ∀ l, wrong (Drv.at_ { s with mode := 1 } j l) 0 = 0 := fun l => (wrong_at s s.c ⟨rfl, rfl⟩ _ _ _ _ _ 0).trans hw0
  refine ⟨fun l => (status_job rfl).trans h.errs, fun l hl => tick_wait (hw l) (by decide) rfl hl, ?_⟩
  have hn : ({ s with c := c', mode := 1, job := none } : Fl) = { s with c := c', mode := 1 } := by have := h.job; cases s; simp only at this; subst this; rfl
  by_cases h5' : e = 5
  · have hc : c' = s.c := by
      rcases h5 with h4 | h4 | h4
      · omega
      · omega
      · exact h4.2
    subst hc
    refine ⟨0, setE { s with mode := 1, job := none } 32, ?_, .inr (.inr ⟨rfl, h5', ?_, ?_⟩)⟩
    · exact tick_worn (hw 1) (by decide) rfl (by show ¬ (1 : Int) < 1; decide) (h5' ▸ hd)
    · refine (status_none rfl).trans ?_
      show bits .or .u32 (bits .or .u32 s.errs 32) 128 = 160
      rw [h.errs]; decide
    · have := clears h hw0 s.c ⟨rfl, rfl⟩ (bits .or .u32 s.errs 32)
      rw [← h.job] 
      exact this
  · refine ⟨e, { s with c := c', mode := 1, job := none }, tick_done (hw 1) (by decide) rfl (by show ¬ (1 : Int) < 1; decide) (c' := c') (e := e) hd h5', ?_⟩
    rw [hn]
    rcases h5 with h4 | h4 | h4
    · exact .inl ⟨h4, h4, rfl⟩
    · refine .inr (.inl ⟨h4, h4, rfl, (status_none h.job).trans ?_⟩)
      show bits .or .u32 s.errs 128 = 128
      rw [h.errs]; decide
    · exact absurd h4.1 h5'
end Cf
end Go.Proofs.Ytfghlfolejpjjaa

/- Contracts of package driver (7): one word, one erasure, one lock, by 'all'. -/
namespace Go.Proofs.Ytfghlfolejpjjaa
open Go.RowKit
set_option linter.unusedVariables false
namespace Drv
section
variable {S : Nat → Prop} {w0 w w' : World} {dd gf g bw be : Nat} {blocks ticks : Int} {s s' : Cf.Fl}
/-- What is so behind a call of the driver's. -/
def Post (S : Nat → Prop) (w0 w : World) (dd gf g bw be : Nat) (blocks t : Int) (s : Cf.Fl) (w' : World) : Prop := DrvAt (Sx S w w') w0 w' dd gf g bw be blocks t s ∧ Keep (Mine S dd) w w'
theorem Post.chain {w1 w2 : World} {t1 t2 : Int} {s1 s2 : Cf.Fl} (h : DrvAt S w0 w dd gf g bw be blocks ticks s) (h1 : Post S w0 w dd gf g bw be blocks t1 s1 w1) (h2 : Post (Sx S w w1) w0 w1 dd gf g bw be blocks t2 s2 w2) : Post S w0 w dd gf g bw be blocks t2 s2 w2 :=
  ⟨h.join h2.1 h1.2.size h2.2.size, h1.2.chain h2.2⟩
theorem word_c (h : DrvAt S w0 w dd gf g bw be blocks ticks s) (hc : Cf.Calm s) (t0 : 0 ≤ ticks) (t1 : ticks ≤ 1000000000) {r b0 b1 b2 b3 : Nat} {at_ i v : Int} (c0 : w.cell? ⟨b0, 0, none⟩ = some (.pointer (some ⟨dd, 0, none⟩))) (c1 : w.cell? ⟨b1, 0, none⟩ = some (.int .i64 at_)) (c2 : w.cell? ⟨b2, 0, none⟩ = some (.int .i64 i)) (c3 : w.cell? ⟨b3, 0, none⟩ = some (.int .u32 v))
    (hv : 0 ≤ v) (hv' : v < 4294967296) (ha : -100000000000000 ≤ at_ + i) (ha' : at_ + i ≤ 100000000000000) (nr : ¬ Mine S dd r)
    (r0 : w.cell? ⟨r, 0, none⟩ = some (.func (.func 37) #[] #[.pointer (some ⟨b0, 0, none⟩), .pointer (some ⟨b1, 0, none⟩), .pointer (some ⟨b2, 0, none⟩), .pointer (some ⟨b3, 0, none⟩)])) (r1 : w.cell? ⟨r, 1, none⟩ = some (.func (.func 39) #[.pointer (some ⟨dd, 0, none⟩)] #[])) :
    Calls Try.prog 36 #[.slice (some ⟨r, 0, none⟩) 2 2] w fun x w' => x = .returned (.int .i64 (Cf.pw s (at_ + i) v).1) ∧ Post S w0 w dd gf g bw be blocks (ticks + (Cf.pw s (at_ + i) v).2.1) (Cf.pw s (at_ + i) v).2.2 w' := by
  by_cases hw : Cf.wrong s (at_ + i) = 0
  · have hw0 := Cf.wrong_0 h.fl.own.chip.ok hw
    have hb := Cf.both_prog hc (v := v) hw
    rw [Cf.calm_w hc] at hb
    by_cases hl : s.locks ((at_ + i) / 64) = true
    · have e : Cf.pw s (at_ + i) v = (6, 0, { s with mode := 1 }) := by unfold Cf.pw; rw [if_pos hw, if_pos hl]
      rw [e]
      have e2 : Cf.prog1 { s with mode := 1 } (at_ + i) v = { s with mode := 1, errs := bits .or .u32 s.errs 18 } := by unfold Cf.prog1; rw [if_pos hl]; rfl
      rw [e2] at hb
      have hst : Cf.status ({ s with mode := 1, errs := bits .or .u32 s.errs 18 } : Cf.Fl) = 146 := by
        refine (Cf.status_none (s := { s with mode := 1, errs := bits .or .u32 s.errs 18 }) hc.job).trans ?_
        show bits .or .u32 (bits .or .u32 s.errs 18) 128 = 146
        rw [hc.errs]; decide
      have hcl := Cf.clears hc hw0 s.c ⟨rfl, rfl⟩ (bits .or .u32 s.errs 18)
      refine (all_P (e1 := 0) (e2 := 6) (R1 := Post S w0 w dd gf g bw be blocks ticks { s with mode := 1, errs := bits .or .u32 s.errs 18 }) (R2 := Post S w0 w dd gf g bw be blocks ticks { s with mode := 1 }) r0 r1 (firstP h c0 c1 c2 c3 hv hv' ha ha' hb) (fun w' p => Keep.cell p.2 r1 nr) (fun _ w1 p => ?_)).mono ?_
      · refine (wait_146 p.1 hst hcl).mono ?_
        rintro x w2 ⟨rfl, q1, q2⟩
        exact ⟨rfl, Post.chain h p ⟨q1, q2⟩⟩
      · rintro x w2 (⟨hne, _⟩ | ⟨_, rfl, p⟩)
        · exact absurd rfl hne
        · exact ⟨rfl, by rw [show ticks + 0 = ticks by omega]; exact p⟩
    · obtain ⟨e, c', hp⟩ : ∃ e c', Nr.programs s.c (at_ + i) v = (e, c') := ⟨_, _, rfl⟩
      have e1 : Cf.pw s (at_ + i) v = (e, 3, { s with c := c', mode := 1 }) := by unfold Cf.pw; rw [if_pos hw, if_neg hl, hp]
      rw [e1]
      have e2 : Cf.prog1 { s with mode := 1 } (at_ + i) v = Drv.at_ { s with mode := 1 } ⟨3, true, at_ + i, v⟩ ((3 : Nat) : Int) := by unfold Cf.prog1; rw [if_neg hl]; rfl
      rw [e2] at hb
      have h5 : e = 4 ∨ e = 0 ∨ (e = 5 ∧ c' = s.c) := by
        have : Nr.programs s.c (at_ + i) v = (Nr.ended s.c, Nr.program s.c (at_ + i) v) := if_pos hw
        rw [this] at hp
        have := (Prod.mk.inj hp).1
        rcases Cf.ended_04 s.c with h | h
        · exact .inl (this.symm.trans h)
        · exact .inr (.inl (this.symm.trans h))
      obtain ⟨j1, j2, x1, s1, j3, j4⟩ := Cf.job_ticks hc h.fl.own.chip.ok hw0 ⟨3, true, at_ + i, v⟩ (e := e) (c' := c') hp h5
      refine (all_P (e1 := 0) (e2 := e) (R1 := Post S w0 w dd gf g bw be blocks ticks (Drv.at_ { s with mode := 1 } ⟨3, true, at_ + i, v⟩ ((3 : Nat) : Int))) (R2 := Post S w0 w dd gf g bw be blocks (ticks + 3) { s with c := c', mode := 1 }) r0 r1 (firstP h c0 c1 c2 c3 hv hv' ha ha' hb) (fun w' p => Keep.cell p.2 r1 nr) (fun _ w1 p => ?_)).mono ?_
      · refine (wait_job (L := 3) p.1 (by decide) (by decide) t0 t1 j1 j2 j3 j4).mono ?_
        rintro x w2 ⟨rfl, q1, q2⟩
        exact ⟨rfl, Post.chain h p ⟨q1, q2⟩⟩
      · rintro x w2 (⟨hne, _⟩ | ⟨_, rfl, p⟩)
        · exact absurd rfl hne
        · exact ⟨rfl, p⟩
  · have e : Cf.pw s (at_ + i) v = (Cf.wrong s (at_ + i), 0, s) := if_neg hw
    rw [e]
    refine (all_P (e1 := Cf.wrong s (at_ + i)) (e2 := 0) (R1 := Post S w0 w dd gf g bw be blocks ticks s) (R2 := fun _ => True) r0 r1 (firstP h c0 c1 c2 c3 hv hv' ha ha' (Cf.both_off hw)) (fun w' p => Keep.cell p.2 r1 nr) (fun e0 => absurd e0 hw)).mono ?_
    rintro x w2 (⟨_, rfl, p⟩ | ⟨e0, _⟩)
    · exact ⟨rfl, by show Post _ _ _ _ _ _ _ _ _ (ticks + 0) s w2; rw [show ticks + 0 = ticks by omega]; exact p⟩
    · exact absurd e0 hw
theorem eras_c (h : DrvAt S w0 w dd gf g bw be blocks ticks s) (hc : Cf.Calm s) (t0 : 0 ≤ ticks) (t1 : ticks ≤ 1000000000) {r b0 b1 : Nat} {b : Int} (c0 : w.cell? ⟨b0, 0, none⟩ = some (.pointer (some ⟨dd, 0, none⟩))) (c1 : w.cell? ⟨b1, 0, none⟩ = some (.int .i64 b))
    (ha : -100000000000000 ≤ b) (ha' : b ≤ 100000000000000) (nr : ¬ Mine S dd r)
    (r0 : w.cell? ⟨r, 0, none⟩ = some (.func (.func 40) #[] #[.pointer (some ⟨b0, 0, none⟩), .pointer (some ⟨b1, 0, none⟩)])) (r1 : w.cell? ⟨r, 1, none⟩ = some (.func (.func 39) #[.pointer (some ⟨dd, 0, none⟩)] #[])) :
    Calls Try.prog 36 #[.slice (some ⟨r, 0, none⟩) 2 2] w fun x w' => x = .returned (.int .i64 (Cf.ew s b).1) ∧ Post S w0 w dd gf g bw be blocks (ticks + (Cf.ew s b).2.1) (Cf.ew s b).2.2 w' := by
  by_cases hw : Cf.wrong s (b * 64) = 0
  · have hw0 := Cf.wrong_0 h.fl.own.chip.ok hw
    have hb := Cf.both_eras hc hw
    rw [Cf.calm_w hc] at hb
    by_cases hl : s.locks (b * 64 / 64) = true
    · have e : Cf.ew s b = (6, 0, { s with mode := 1 }) := by unfold Cf.ew; rw [if_pos hw, if_pos hl]
      rw [e]
      have e2 : Cf.eras1 { s with mode := 1 } (b * 64) 208 = { s with mode := 1, errs := bits .or .u32 s.errs 34 } := by unfold Cf.eras1; rw [if_pos (by decide), if_pos hl]; rfl
      rw [e2] at hb
      have hst : Cf.status ({ s with mode := 1, errs := bits .or .u32 s.errs 34 } : Cf.Fl) = 162 := by
        refine (Cf.status_none (s := { s with mode := 1, errs := bits .or .u32 s.errs 34 }) hc.job).trans ?_
        show bits .or .u32 (bits .or .u32 s.errs 34) 128 = 162
        rw [hc.errs]; decide
      have hcl := Cf.clears hc hw0 s.c ⟨rfl, rfl⟩ (bits .or .u32 s.errs 34)
      refine (all_E (e1 := 0) (e2 := 6) (R1 := Post S w0 w dd gf g bw be blocks ticks { s with mode := 1, errs := bits .or .u32 s.errs 34 }) (R2 := Post S w0 w dd gf g bw be blocks ticks { s with mode := 1 }) r0 r1 (firstE h c0 c1 ha ha' hb) (fun w' p => Keep.cell p.2 r1 nr) (fun _ w1 p => ?_)).mono ?_
      · refine (wait_162 p.1 hst hcl).mono ?_
        rintro x w2 ⟨rfl, q1, q2⟩
        exact ⟨rfl, Post.chain h p ⟨q1, q2⟩⟩
      · rintro x w2 (⟨hne, _⟩ | ⟨_, rfl, p⟩)
        · exact absurd rfl hne
        · exact ⟨rfl, by rw [show ticks + 0 = ticks by omega]; exact p⟩
    · obtain ⟨e, c', hp⟩ : ∃ e c', Nr.erases s.c (b * 64 / 64) = (e, c') := ⟨_, _, rfl⟩
      have e1 : Cf.ew s b = (e, 20, { s with c := c', mode := 1 }) := by unfold Cf.ew; rw [if_pos hw, if_neg hl, hp]
      rw [e1]
      have e2 : Cf.eras1 { s with mode := 1 } (b * 64) 208 = Drv.at_ { s with mode := 1 } ⟨20, false, b * 64 / 64, 0⟩ ((20 : Nat) : Int) := by unfold Cf.eras1; rw [if_pos (by decide), if_neg hl]; rfl
      rw [e2] at hb
      have h5 : e = 4 ∨ e = 0 ∨ (e = 5 ∧ c' = s.c) := by
        have hw1 : Nr.wrong s.c (b * 64 / 64) (s.c.wear.length : Int) = 0 := by
          have ho := Nr.wrong_on hw
          obtain ⟨m, hm, hm2⟩ := Nr.wrong_zero h.fl.own.chip.ok hw
          have := h.fl.own.chip.ok.size
          unfold Nr.wrong
          rw [if_neg (by simp [ho]), if_neg (by omega)]
        unfold Nr.erases at hp
        rw [if_pos hw1] at hp
        split at hp
        · have := (Prod.mk.inj hp).1
          rcases Cf.ended_04 s.c with h | h
          · exact .inl (this.symm.trans h)
          · exact .inr (.inl (this.symm.trans h))
        · exact .inr (.inr ⟨(Prod.mk.inj hp).1.symm, (Prod.mk.inj hp).2.symm⟩)
      obtain ⟨j1, j2, x1, s1, j3, j4⟩ := Cf.job_ticks hc h.fl.own.chip.ok hw0 ⟨20, false, b * 64 / 64, 0⟩ (e := e) (c' := c') hp h5
      refine (all_E (e1 := 0) (e2 := e) (R1 := Post S w0 w dd gf g bw be blocks ticks (Drv.at_ { s with mode := 1 } ⟨20, false, b * 64 / 64, 0⟩ ((20 : Nat) : Int))) (R2 := Post S w0 w dd gf g bw be blocks (ticks + 20) { s with c := c', mode := 1 }) r0 r1 (firstE h c0 c1 ha ha' hb) (fun w' p => Keep.cell p.2 r1 nr) (fun _ w1 p => ?_)).mono ?_
      · refine (wait_job (L := 20) p.1 (by decide) (by decide) t0 t1 j1 j2 j3 j4).mono ?_
        rintro x w2 ⟨rfl, q1, q2⟩
        exact ⟨rfl, Post.chain h p ⟨q1, q2⟩⟩
      · rintro x w2 (⟨hne, _⟩ | ⟨_, rfl, p⟩)
        · exact absurd rfl hne
        · exact ⟨rfl, p⟩
  · have e : Cf.ew s b = (Cf.wrong s (b * 64), 0, s) := if_neg hw
    rw [e]
    refine (all_E (e1 := Cf.wrong s (b * 64)) (e2 := 0) (R1 := Post S w0 w dd gf g bw be blocks ticks s) (R2 := fun _ => True) r0 r1 (firstE h c0 c1 ha ha' (Cf.both_off hw)) (fun w' p => Keep.cell p.2 r1 nr) (fun e0 => absurd e0 hw)).mono ?_
    rintro x w2 (⟨_, rfl, p⟩ | ⟨e0, _⟩)
    · exact ⟨rfl, by show Post _ _ _ _ _ _ _ _ _ (ticks + 0) s w2; rw [show ticks + 0 = ticks by omega]; exact p⟩
    · exact absurd e0 hw
theorem lock_c (h : DrvAt S w0 w dd gf g bw be blocks ticks s) (hc : Cf.Calm s) {r b0 b1 b2 : Nat} {b v : Int} {on : Bool} (hon : v = if on then 1 else 208) (c0 : w.cell? ⟨b0, 0, none⟩ = some (.pointer (some ⟨dd, 0, none⟩))) (c1 : w.cell? ⟨b1, 0, none⟩ = some (.int .i64 b)) (c2 : w.cell? ⟨b2, 0, none⟩ = some (.int .u32 v))
    (ha : -100000000000000 ≤ b) (ha' : b ≤ 100000000000000) (nr : ¬ Mine S dd r)
    (r0 : w.cell? ⟨r, 0, none⟩ = some (.func (.func 44) #[] #[.pointer (some ⟨b0, 0, none⟩), .pointer (some ⟨b1, 0, none⟩), .pointer (some ⟨b2, 0, none⟩)])) (r1 : w.cell? ⟨r, 1, none⟩ = some (.func (.func 45) #[.pointer (some ⟨dd, 0, none⟩)] #[])) :
    Calls Try.prog 36 #[.slice (some ⟨r, 0, none⟩) 2 2] w fun x w' => x = .returned (.int .i64 (Cf.lw s b on).1) ∧ Post S w0 w dd gf g bw be blocks ticks (Cf.lw s b on).2 w' := by
  have hv : 0 ≤ v := by rw [hon]; split <;> decide
  have hv' : v < 4294967296 := by rw [hon]; split <;> decide
  by_cases hw : Cf.wrong s (b * 64) = 0
  · have hb := Cf.both_lock hc (v := v) hw
    rw [Cf.calm_w hc] at hb
    have e : Cf.lw s b on = (0, { s with mode := 1, locks := Cf.upd s.locks (b * 64 / 64) on }) := if_pos hw
    rw [e]
    have e2 : Cf.lock1 { s with mode := 1 } (b * 64) v = { s with mode := 1, locks := Cf.upd s.locks (b * 64 / 64) on } := by
      unfold Cf.lock1
      cases on
      · subst hon; rw [if_neg (by decide), if_pos (by decide)]
      · subst hon; rw [if_pos (by decide)]
    rw [e2] at hb
    have hst : Cf.status ({ s with mode := 1, locks := Cf.upd s.locks (b * 64 / 64) on } : Cf.Fl) = 128 := by
      refine (Cf.status_none (s := { s with mode := 1, locks := Cf.upd s.locks (b * 64 / 64) on }) hc.job).trans ?_
      show bits .or .u32 s.errs 128 = 128
      rw [hc.errs]; decide
    refine (all_L (e1 := 0) (e2 := 0) (R1 := Post S w0 w dd gf g bw be blocks ticks { s with mode := 1, locks := Cf.upd s.locks (b * 64 / 64) on }) (R2 := Post S w0 w dd gf g bw be blocks ticks { s with mode := 1, locks := Cf.upd s.locks (b * 64 / 64) on }) r0 r1 (firstL h c0 c1 c2 hv hv' ha ha' hb) (fun w' p => Keep.cell p.2 r1 nr) (fun _ w1 p => ?_)).mono ?_
    · refine (errors_ok p.1 hst).mono ?_
      rintro x w2 ⟨rfl, rfl⟩
      exact ⟨rfl, p⟩
    · rintro x w2 (⟨hne, _⟩ | ⟨_, rfl, p⟩)
      · exact absurd rfl hne
      · exact ⟨rfl, p⟩
  · have e : Cf.lw s b on = (Cf.wrong s (b * 64), s) := if_neg hw
    rw [e]
    refine (all_L (e1 := Cf.wrong s (b * 64)) (e2 := 0) (R1 := Post S w0 w dd gf g bw be blocks ticks s) (R2 := fun _ => True) r0 r1 (firstL h c0 c1 c2 hv hv' ha ha' (Cf.both_off hw)) (fun w' p => Keep.cell p.2 r1 nr) (fun e0 => absurd e0 hw)).mono ?_
    rintro x w2 (⟨_, rfl, p⟩ | ⟨e0, _⟩)
    · exact ⟨rfl, p⟩
    · exact absurd e0 hw
end
end Drv
end Go.Proofs.Ytfghlfolejpjjaa

/- Contracts of package driver (8): Erase, Lock. -/
namespace Go.Proofs.Ytfghlfolejpjjaa
open Go.RowKit
set_option linter.unusedVariables false
attribute [local go_sem] max2_int min2_int max_two min_two
namespace Drv
section
variable {S : Nat → Prop} {w0 w w' : World} {dd gf g bw be : Nat} {blocks ticks : Int} {s s' : Cf.Fl}
theorem Post.back {W w' : World} {t2 : Int} {s2 : Cf.Fl} (h : DrvAt S w0 w dd gf g bw be blocks ticks s) (K : Keep (Mine S dd) w W) (p : Post S w0 W dd gf g bw be blocks t2 s2 w') : Post S w0 w dd gf g bw be blocks t2 s2 w' :=
  ⟨h.lift' p.1 (K.trans p.2).size (fun k hk => hk.elim .inl (fun e => .inr ⟨Nat.le_trans K.size e.1, e.2⟩)), K.trans p.2⟩
set_option maxHeartbeats 1000000 in
set_option maxRecDepth 100000 in
theorem erase_c (h : DrvAt S w0 w dd gf g bw be blocks ticks s) (hc : Cf.Calm s) (t0 : 0 ≤ ticks) (t1 : ticks ≤ 1000000000) {b : Int} (ha : -100000000000000 ≤ b) (ha' : b ≤ 100000000000000) :
    Calls Try.prog 13 #[.pointer (some ⟨dd, 0, none⟩), .int .i64 b] w fun x w' => x = .returned (.int .i64 (Cf.ew s b).1) ∧ Post S w0 w dd gf g bw be blocks (ticks + (Cf.ew s b).2.1) (Cf.ew s b).2.2 w' := by
  have hmf := @makeFunc_run Try.prog
  have hW := (((h.then ((Below.refl _ _).alloc (Nat.le_refl _) (.cells #[.pointer (some ⟨dd, 0, none⟩)] 25))).then ((Below.refl _ _).alloc (Nat.le_refl _) (.cells #[.int .i64 b] 3))).then ((Below.refl _ _).alloc (Nat.le_refl _) (.cells #[.func (.func 40) #[] #[.pointer (some ⟨w.heap.size, 0, none⟩), .pointer (some ⟨w.heap.size + 1, 0, none⟩)], .func (.func 39) #[.pointer (some ⟨dd, 0, none⟩)] #[]] 78)))
  have KW := ((((Keep.refl (Mine S dd) w).alloc (.cells #[.pointer (some ⟨dd, 0, none⟩)] 25)).alloc (.cells #[.int .i64 b] 3)).alloc (.cells #[.func (.func 40) #[] #[.pointer (some ⟨w.heap.size, 0, none⟩), .pointer (some ⟨w.heap.size + 1, 0, none⟩)], .func (.func 39) #[.pointer (some ⟨dd, 0, none⟩)] #[]] 78))
  have q0 : (((w.alloc (.cells #[.pointer (some ⟨dd, 0, none⟩)] 25)).alloc (.cells #[.int .i64 b] 3)).alloc (.cells #[.func (.func 40) #[] #[.pointer (some ⟨w.heap.size, 0, none⟩), .pointer (some ⟨w.heap.size + 1, 0, none⟩)], .func (.func 39) #[.pointer (some ⟨dd, 0, none⟩)] #[]] 78)).cell? ⟨w.heap.size, 0, none⟩ = some (.pointer (some ⟨dd, 0, none⟩)) := by go_simp
  have q1 : (((w.alloc (.cells #[.pointer (some ⟨dd, 0, none⟩)] 25)).alloc (.cells #[.int .i64 b] 3)).alloc (.cells #[.func (.func 40) #[] #[.pointer (some ⟨w.heap.size, 0, none⟩), .pointer (some ⟨w.heap.size + 1, 0, none⟩)], .func (.func 39) #[.pointer (some ⟨dd, 0, none⟩)] #[]] 78)).cell? ⟨w.heap.size + 1, 0, none⟩ = some (.int .i64 b) := by go_simp
  have r0 : (((w.alloc (.cells #[.pointer (some ⟨dd, 0, none⟩)] 25)).alloc (.cells #[.int .i64 b] 3)).alloc (.cells #[.func (.func 40) #[] #[.pointer (some ⟨w.heap.size, 0, none⟩), .pointer (some ⟨w.heap.size + 1, 0, none⟩)], .func (.func 39) #[.pointer (some ⟨dd, 0, none⟩)] #[]] 78)).cell? ⟨w.heap.size + 1 + 1, 0, none⟩ = some (.func (.func 40) #[] #[.pointer (some ⟨w.heap.size, 0, none⟩), .pointer (some ⟨w.heap.size + 1, 0, none⟩)]) := by go_simp
  have r1 : (((w.alloc (.cells #[.pointer (some ⟨dd, 0, none⟩)] 25)).alloc (.cells #[.int .i64 b] 3)).alloc (.cells #[.func (.func 40) #[] #[.pointer (some ⟨w.heap.size, 0, none⟩), .pointer (some ⟨w.heap.size + 1, 0, none⟩)], .func (.func 39) #[.pointer (some ⟨dd, 0, none⟩)] #[]] 78)).cell? ⟨w.heap.size + 1 + 1, 1, none⟩ = some (.func (.func 39) #[.pointer (some ⟨dd, 0, none⟩)] #[]) := by go_simp
  have nr : ¬ Mine S dd (w.heap.size + 1 + 1) := fresh_not h (by omega)
  go_enter Try.func13, Try.ntmps13
  go_wp2_with (go_at_call 36; refine (eras_c hW hc t0 t1 q0 q1 ha ha' nr r0 r1).mono ?_; rintro x w5 ⟨rfl, p⟩; clear hW)
  go_ret
  exact ⟨rfl, Post.back h KW p⟩
set_option maxHeartbeats 1000000 in
set_option maxRecDepth 100000 in
theorem lockOn (h : DrvAt S w0 w dd gf g bw be blocks ticks s) (hc : Cf.Calm s) {b : Int} (ha : -100000000000000 ≤ b) (ha' : b ≤ 100000000000000) :
    Calls Try.prog 18 #[.pointer (some ⟨dd, 0, none⟩), .int .i64 b, .bool true] w fun x w' => x = .returned (.int .i64 (Cf.lw s b true).1) ∧ Post S w0 w dd gf g bw be blocks ticks (Cf.lw s b true).2 w' := by
  have hmf := @makeFunc_run Try.prog
  have hW := ((((h.then ((Below.refl _ _).alloc (Nat.le_refl _) (.cells #[.pointer (some ⟨dd, 0, none⟩)] 25))).then ((Below.refl _ _).alloc (Nat.le_refl _) (.cells #[.int .i64 b] 3))).then ((Below.refl _ _).alloc (Nat.le_refl _) (.cells #[.int .u32 1] 34))).then ((Below.refl _ _).alloc (Nat.le_refl _) (.cells #[.func (.func 44) #[] #[.pointer (some ⟨w.heap.size, 0, none⟩), .pointer (some ⟨w.heap.size + 1, 0, none⟩), .pointer (some ⟨w.heap.size + 1 + 1, 0, none⟩)], .func (.func 45) #[.pointer (some ⟨dd, 0, none⟩)] #[]] 78)))
  have KW := (((((Keep.refl (Mine S dd) w).alloc (.cells #[.pointer (some ⟨dd, 0, none⟩)] 25)).alloc (.cells #[.int .i64 b] 3)).alloc (.cells #[.int .u32 1] 34)).alloc (.cells #[.func (.func 44) #[] #[.pointer (some ⟨w.heap.size, 0, none⟩), .pointer (some ⟨w.heap.size + 1, 0, none⟩), .pointer (some ⟨w.heap.size + 1 + 1, 0, none⟩)], .func (.func 45) #[.pointer (some ⟨dd, 0, none⟩)] #[]] 78))
  have q0 : ((((w.alloc (.cells #[.pointer (some ⟨dd, 0, none⟩)] 25)).alloc (.cells #[.int .i64 b] 3)).alloc (.cells #[.int .u32 1] 34)).alloc (.cells #[.func (.func 44) #[] #[.pointer (some ⟨w.heap.size, 0, none⟩), .pointer (some ⟨w.heap.size + 1, 0, none⟩), .pointer (some ⟨w.heap.size + 1 + 1, 0, none⟩)], .func (.func 45) #[.pointer (some ⟨dd, 0, none⟩)] #[]] 78)).cell? ⟨w.heap.size, 0, none⟩ = some (.pointer (some ⟨dd, 0, none⟩)) := by go_simp
  have q1 : ((((w.alloc (.cells #[.pointer (some ⟨dd, 0, none⟩)] 25)).alloc (.cells #[.int .i64 b] 3)).alloc (.cells #[.int .u32 1] 34)).alloc (.cells #[.func (.func 44) #[] #[.pointer (some ⟨w.heap.size, 0, none⟩), .pointer (some ⟨w.heap.size + 1, 0, none⟩), .pointer (some ⟨w.heap.size + 1 + 1, 0, none⟩)], .func (.func 45) #[.pointer (some ⟨dd, 0, none⟩)] #[]] 78)).cell? ⟨w.heap.size + 1, 0, none⟩ = some (.int .i64 b) := by go_simp
  have q2 : ((((w.alloc (.cells #[.pointer (some ⟨dd, 0, none⟩)] 25)).alloc (.cells #[.int .i64 b] 3)).alloc (.cells #[.int .u32 1] 34)).alloc (.cells #[.func (.func 44) #[] #[.pointer (some ⟨w.heap.size, 0, none⟩), .pointer (some ⟨w.heap.size + 1, 0, none⟩), .pointer (some ⟨w.heap.size + 1 + 1, 0, none⟩)], .func (.func 45) #[.pointer (some ⟨dd, 0, none⟩)] #[]] 78)).cell? ⟨w.heap.size + 1 + 1, 0, none⟩ = some (.int .u32 1) := by go_simp
  have r0 : ((((w.alloc (.cells #[.pointer (some ⟨dd, 0, none⟩)] 25)).alloc (.cells #[.int .i64 b] 3)).alloc (.cells #[.int .u32 1] 34)).alloc (.cells #[.func (.func 44) #[] #[.pointer (some ⟨w.heap.size, 0, none⟩), .pointer (some ⟨w.heap.size + 1, 0, none⟩), .pointer (some ⟨w.heap.size + 1 + 1, 0, none⟩)], .func (.func 45) #[.pointer (some ⟨dd, 0, none⟩)] #[]] 78)).cell? ⟨w.heap.size + 1 + 1 + 1, 0, none⟩ = some (.func (.func 44) #[] #[.pointer (some ⟨w.heap.size, 0, none⟩), .pointer (some ⟨w.heap.size + 1, 0, none⟩), .pointer (some ⟨w.heap.size + 1 + 1, 0, none⟩)]) := by go_simp
  have r1 : ((((w.alloc (.cells #[.pointer (some ⟨dd, 0, none⟩)] 25)).alloc (.cells #[.int .i64 b] 3)).alloc (.cells #[.int .u32 1] 34)).alloc (.cells #[.func (.func 44) #[] #[.pointer (some ⟨w.heap.size, 0, none⟩), .pointer (some ⟨w.heap.size + 1, 0, none⟩), .pointer (some ⟨w.heap.size + 1 + 1, 0, none⟩)], .func (.func 45) #[.pointer (some ⟨dd, 0, none⟩)] #[]] 78)).cell? ⟨w.heap.size + 1 + 1 + 1, 1, none⟩ = some (.func (.func 45) #[.pointer (some ⟨dd, 0, none⟩)] #[]) := by go_simp
  have nr : ¬ Mine S dd (w.heap.size + 1 + 1 + 1) := fresh_not h (by omega)
  go_enter Try.func18, Try.ntmps18
  go_wp2_with (go_at_call 36; refine (lock_c (on := true) hW hc rfl q0 q1 q2 ha ha' nr r0 r1).mono ?_; rintro x w5 ⟨rfl, p⟩; clear hW)
  go_ret
  exact ⟨rfl, Post.back h KW p⟩
set_option maxHeartbeats 1000000 in
set_option maxRecDepth 100000 in
theorem lockOff (h : DrvAt S w0 w dd gf g bw be blocks ticks s) (hc : Cf.Calm s) {b : Int} (ha : -100000000000000 ≤ b) (ha' : b ≤ 100000000000000) :
    Calls Try.prog 18 #[.pointer (some ⟨dd, 0, none⟩), .int .i64 b, .bool false] w fun x w' => x = .returned (.int .i64 (Cf.lw s b false).1) ∧ Post S w0 w dd gf g bw be blocks ticks (Cf.lw s b false).2 w' := by
  have hmf := @makeFunc_run Try.prog
  have hW := ((((h.then ((Below.refl _ _).alloc (Nat.le_refl _) (.cells #[.pointer (some ⟨dd, 0, none⟩)] 25))).then ((Below.refl _ _).alloc (Nat.le_refl _) (.cells #[.int .i64 b] 3))).then ((Below.refl _ _).alloc (Nat.le_refl _) (.cells #[.int .u32 208] 34))).then ((Below.refl _ _).alloc (Nat.le_refl _) (.cells #[.func (.func 44) #[] #[.pointer (some ⟨w.heap.size, 0, none⟩), .pointer (some ⟨w.heap.size + 1, 0, none⟩), .pointer (some ⟨w.heap.size + 1 + 1, 0, none⟩)], .func (.func 45) #[.pointer (some ⟨dd, 0, none⟩)] #[]] 78)))
  have KW := (((((Keep.refl (Mine S dd) w).alloc (.cells #[.pointer (some ⟨dd, 0, none⟩)] 25)).alloc (.cells #[.int .i64 b] 3)).alloc (.cells #[.int .u32 208] 34)).alloc (.cells #[.func (.func 44) #[] #[.pointer (some ⟨w.heap.size, 0, none⟩), .pointer (some ⟨w.heap.size + 1, 0, none⟩), .pointer (some ⟨w.heap.size + 1 + 1, 0, none⟩)], .func (.func 45) #[.pointer (some ⟨dd, 0, none⟩)] #[]] 78))
  have q0 : ((((w.alloc (.cells #[.pointer (some ⟨dd, 0, none⟩)] 25)).alloc (.cells #[.int .i64 b] 3)).alloc (.cells #[.int .u32 208] 34)).alloc (.cells #[.func (.func 44) #[] #[.pointer (some ⟨w.heap.size, 0, none⟩), .pointer (some ⟨w.heap.size + 1, 0, none⟩), .pointer (some ⟨w.heap.size + 1 + 1, 0, none⟩)], .func (.func 45) #[.pointer (some ⟨dd, 0, none⟩)] #[]] 78)).cell? ⟨w.heap.size, 0, none⟩ = some (.pointer (some ⟨dd, 0, none⟩)) := by go_simp
  have q1 : ((((w.alloc (.cells #[.pointer (some ⟨dd, 0, none⟩)] 25)).alloc (.cells #[.int .i64 b] 3)).alloc (.cells #[.int .u32 208] 34)).alloc (.cells #[.func (.func 44) #[] #[.pointer (some ⟨w.heap.size, 0, none⟩), .pointer (some ⟨w.heap.size + 1, 0, none⟩), .pointer (some ⟨w.heap.size + 1 + 1, 0, none⟩)], .func (.func 45) #[.pointer (some ⟨dd, 0, none⟩)] #[]] 78)).cell? ⟨w.heap.size + 1, 0, none⟩ = some (.int .i64 b) := by go_simp
  have q2 : ((((w.alloc (.cells #[.pointer (some ⟨dd, 0, none⟩)] 25)).alloc (.cells #[.int .i64 b] 3)).alloc (.cells #[.int .u32 208] 34)).alloc (.cells #[.func (.func 44) #[] #[.pointer (some ⟨w.heap.size, 0, none⟩), .pointer (some ⟨w.heap.size + 1, 0, none⟩), .pointer (some ⟨w.heap.size + 1 + 1, 0, none⟩)], .func (.func 45) #[.pointer (some ⟨dd, 0, none⟩)] #[]] 78)).cell? ⟨w.heap.size + 1 + 1, 0, none⟩ = some (.int .u32 208) := by go_simp
  have r0 : ((((w.alloc (.cells #[.pointer (some ⟨dd, 0, none⟩)] 25)).alloc (.cells #[.int .i64 b] 3)).alloc (.cells #[.int .u32 208] 34)).alloc (.cells #[.func (.func 44) #[] #[.pointer (some ⟨w.heap.size, 0, none⟩), .pointer (some ⟨w.heap.size + 1, 0, none⟩), .pointer (some ⟨w.heap.size + 1 + 1, 0, none⟩)], .func (.func 45) #[.pointer (some ⟨dd, 0, none⟩)] #[]] 78)).cell? ⟨w.heap.size + 1 + 1 + 1, 0, none⟩ = some (.func (.func 44) #[] #[.pointer (some ⟨w.heap.size, 0, none⟩), .pointer (some ⟨w.heap.size + 1, 0, none⟩), .pointer (some ⟨w.heap.size + 1 + 1, 0, none⟩)]) := by go_simp
  have r1 : ((((w.alloc (.cells #[.pointer (some ⟨dd, 0, none⟩)] 25)).alloc (.cells #[.int .i64 b] 3)).alloc (.cells #[.int .u32 208] 34)).alloc (.cells #[.func (.func 44) #[] #[.pointer (some ⟨w.heap.size, 0, none⟩), .pointer (some ⟨w.heap.size + 1, 0, none⟩), .pointer (some ⟨w.heap.size + 1 + 1, 0, none⟩)], .func (.func 45) #[.pointer (some ⟨dd, 0, none⟩)] #[]] 78)).cell? ⟨w.heap.size + 1 + 1 + 1, 1, none⟩ = some (.func (.func 45) #[.pointer (some ⟨dd, 0, none⟩)] #[]) := by go_simp
  have nr : ¬ Mine S dd (w.heap.size + 1 + 1 + 1) := fresh_not h (by omega)
  go_enter Try.func18, Try.ntmps18
  go_wp2_with (go_at_call 36; refine (lock_c (on := false) hW hc rfl q0 q1 q2 ha ha' nr r0 r1).mono ?_; rintro x w5 ⟨rfl, p⟩; clear hW)
  go_ret
  exact ⟨rfl, Post.back h KW p⟩
end
end Drv
end Go.Proofs.Ytfghlfolejpjjaa

/- Contracts of package driver (9): Program. -/
namespace Go.Proofs.Ytfghlfolejpjjaa
open Go.RowKit
set_option linter.unusedVariables false
attribute [local go_sem] max2_int min2_int max_two min_two
namespace Drv
section
variable {S : Nat → Prop} {w0 w w' : World} {dd gf g bw be : Nat} {blocks ticks : Int} {s s' : Cf.Fl}
set_option maxHeartbeats 1000000 in
set_option maxRecDepth 100000 in
theorem program_c (h : DrvAt S w0 w dd gf g bw be blocks ticks s) (hc : Cf.Calm s) (t0 : 0 ≤ ticks) (t1 : ticks ≤ 900000000) {at_ : Int} (ha : -10000000000000 ≤ at_) (ha' : at_ ≤ 10000000000000) {zs : List Int} {a : Option Addr} {cap b off : Nat} (hlen : zs.length ≤ 64)
    (hz : Hid (∀ i : Nat, 0 ≤ zs.getD i 0 ∧ zs.getD i 0 < 4294967296)) (hA : ∀ i, i < zs.length → a = some ⟨b, off, none⟩) (hcell : Hid (∀ i, i < zs.length → w.cell? ⟨b, off + i, none⟩ = some (.int .u32 (zs.getD i 0)))) (nb : ¬ Mine S dd b) :
    Calls Try.prog 11 #[.pointer (some ⟨dd, 0, none⟩), .int .i64 at_, .slice a zs.length cap] w fun x w' => x = .returned (.int .i64 (Cf.pws s at_ zs).1) ∧ Post S w0 w dd gf g bw be blocks (ticks + (Cf.pws s at_ zs).2.1) (Cf.pws s at_ zs).2.2 w' := by
  have hmf := @makeFunc_run Try.prog
  have hlen2 : (zs.length : Int) ≤ 64 := by omega
  have hW := (h.then ((Below.refl _ _).alloc (Nat.le_refl _) (.cells #[.pointer (some ⟨dd, 0, none⟩)] 25))).then ((Below.refl _ _).alloc (Nat.le_refl _) (.cells #[.int .i64 at_] 3))
  have KW := ((Keep.refl (Mine S dd) w).alloc (.cells #[.pointer (some ⟨dd, 0, none⟩)] 25)).alloc (.cells #[.int .i64 at_] 3)
  have q0 : ((w.alloc (.cells #[.pointer (some ⟨dd, 0, none⟩)] 25)).alloc (.cells #[.int .i64 at_] 3)).cell? ⟨w.heap.size, 0, none⟩ = some (.pointer (some ⟨dd, 0, none⟩)) := by go_simp
  have q1 : ((w.alloc (.cells #[.pointer (some ⟨dd, 0, none⟩)] 25)).alloc (.cells #[.int .i64 at_] 3)).cell? ⟨w.heap.size + 1, 0, none⟩ = some (.int .i64 at_) := by go_simp
  have n0 : ¬ Mine S dd w.heap.size := fresh_not h (Nat.le_refl _)
  have n1 : ¬ Mine S dd (w.heap.size + 1) := fresh_not h (by omega)
  have h0 := h
  go_enter Try.func11, Try.ntmps11
  go_wp2_with (go_at_call 35; refine (good_c hW).mono ?_; rintro e w' ⟨rfl, rfl⟩)
  go_loopw [15] (fun i wr => ∃ k : Nat, k ≤ zs.length ∧ i = .int .i64 k ∧ (Cf.pwN s at_ zs k).1 = 0 ∧ Post S w0 ((w.alloc (.cells #[.pointer (some ⟨dd, 0, none⟩)] 25)).alloc (.cells #[.int .i64 at_] 3)) dd gf g bw be blocks (ticks + (Cf.pwN s at_ zs k).2.1) (Cf.pwN s at_ zs k).2.2 wr) (fun i _ => zs.length - (intOf i).toNat)
  case atStart => exact ⟨0, Nat.zero_le _, rfl, rfl, by
    show Post _ _ _ _ _ _ _ _ _ (ticks + 0) s _
    rw [show ticks + 0 = ticks by omega]
    exact ⟨hW.up hW, Keep.refl _ _⟩⟩
  case round =>
    obtain ⟨k, hk, rfl, hz0, hp⟩ := hrel
    by_cases hlt : k < zs.length
    · obtain rfl := hA k hlt
      have hlt2 : (k : Int) < (zs.length : Int) := by omega
      have cx := Keep.cell hp.2 (Keep.cell KW (hcell.out k hlt) nb) nb
      have e0 := Keep.cell hp.2 q0 n0
      have e1 := Keep.cell hp.2 q1 n1
      have hx := hz.out k
      have hcm := Cf.pwN_calm hc at_ zs k
      have htk := Cf.pwN_ticks s at_ zs k
      have hstep := Cf.pwN_step hz0
      generalize zs.getD k 0 = x at cx hx hstep
      have hx1 := hx.1
      have hx2 := hx.2
      have Q := hp.1
      have hW3 := ((Q.then ((Below.refl _ _).alloc (Nat.le_refl _) (.cells #[.int .i64 (k : Int)] 3))).then ((Below.refl _ _).alloc (Nat.le_refl _) (.cells #[.int .u32 x] 34))).then ((Below.refl _ _).alloc (Nat.le_refl _) (.cells #[.func (.func 37) #[] #[.pointer (some ⟨w.heap.size, 0, none⟩), .pointer (some ⟨w.heap.size + 1, 0, none⟩), .pointer (some ⟨wr.heap.size, 0, none⟩), .pointer (some ⟨wr.heap.size + 1, 0, none⟩)], .func (.func 39) #[.pointer (some ⟨dd, 0, none⟩)] #[]] 78))
      have KW3 := (((Keep.refl (Mine (Sx S ((w.alloc (.cells #[.pointer (some ⟨dd, 0, none⟩)] 25)).alloc (.cells #[.int .i64 at_] 3)) wr) dd) wr).alloc (.cells #[.int .i64 (k : Int)] 3)).alloc (.cells #[.int .u32 x] 34)).alloc (.cells #[.func (.func 37) #[] #[.pointer (some ⟨w.heap.size, 0, none⟩), .pointer (some ⟨w.heap.size + 1, 0, none⟩), .pointer (some ⟨wr.heap.size, 0, none⟩), .pointer (some ⟨wr.heap.size + 1, 0, none⟩)], .func (.func 39) #[.pointer (some ⟨dd, 0, none⟩)] #[]] 78)
      have B3 := (((Below.refl wr.heap.size wr).alloc (Nat.le_refl _) (.cells #[.int .i64 (k : Int)] 3)).alloc (by simp) (.cells #[.int .u32 x] 34)).alloc (by simp; omega) (.cells #[.func (.func 37) #[] #[.pointer (some ⟨w.heap.size, 0, none⟩), .pointer (some ⟨w.heap.size + 1, 0, none⟩), .pointer (some ⟨wr.heap.size, 0, none⟩), .pointer (some ⟨wr.heap.size + 1, 0, none⟩)], .func (.func 39) #[.pointer (some ⟨dd, 0, none⟩)] #[]] 78)
      have z0 := Sl.below_cell (((Below.refl wr.heap.size wr).alloc (Nat.le_refl _) (.cells #[.int .i64 (k : Int)] 3)).alloc (by simp) (.cells #[.int .u32 x] 34)) e0
      have y0 := Sl.below_cell B3 e0
      have y1 := Sl.below_cell B3 e1
      have y2 : (((wr.alloc (.cells #[.int .i64 (k : Int)] 3)).alloc (.cells #[.int .u32 x] 34)).alloc (.cells #[.func (.func 37) #[] #[.pointer (some ⟨w.heap.size, 0, none⟩), .pointer (some ⟨w.heap.size + 1, 0, none⟩), .pointer (some ⟨wr.heap.size, 0, none⟩), .pointer (some ⟨wr.heap.size + 1, 0, none⟩)], .func (.func 39) #[.pointer (some ⟨dd, 0, none⟩)] #[]] 78)).cell? ⟨wr.heap.size, 0, none⟩ = some (.int .i64 (k : Int)) := by go_simp
      have y3 : (((wr.alloc (.cells #[.int .i64 (k : Int)] 3)).alloc (.cells #[.int .u32 x] 34)).alloc (.cells #[.func (.func 37) #[] #[.pointer (some ⟨w.heap.size, 0, none⟩), .pointer (some ⟨w.heap.size + 1, 0, none⟩), .pointer (some ⟨wr.heap.size, 0, none⟩), .pointer (some ⟨wr.heap.size + 1, 0, none⟩)], .func (.func 39) #[.pointer (some ⟨dd, 0, none⟩)] #[]] 78)).cell? ⟨wr.heap.size + 1, 0, none⟩ = some (.int .u32 x) := by go_simp
      have y4 : (((wr.alloc (.cells #[.int .i64 (k : Int)] 3)).alloc (.cells #[.int .u32 x] 34)).alloc (.cells #[.func (.func 37) #[] #[.pointer (some ⟨w.heap.size, 0, none⟩), .pointer (some ⟨w.heap.size + 1, 0, none⟩), .pointer (some ⟨wr.heap.size, 0, none⟩), .pointer (some ⟨wr.heap.size + 1, 0, none⟩)], .func (.func 39) #[.pointer (some ⟨dd, 0, none⟩)] #[]] 78)).cell? ⟨wr.heap.size + 1 + 1, 0, none⟩ = some (.func (.func 37) #[] #[.pointer (some ⟨w.heap.size, 0, none⟩), .pointer (some ⟨w.heap.size + 1, 0, none⟩), .pointer (some ⟨wr.heap.size, 0, none⟩), .pointer (some ⟨wr.heap.size + 1, 0, none⟩)]) := by go_simp
      have y5 : (((wr.alloc (.cells #[.int .i64 (k : Int)] 3)).alloc (.cells #[.int .u32 x] 34)).alloc (.cells #[.func (.func 37) #[] #[.pointer (some ⟨w.heap.size, 0, none⟩), .pointer (some ⟨w.heap.size + 1, 0, none⟩), .pointer (some ⟨wr.heap.size, 0, none⟩), .pointer (some ⟨wr.heap.size + 1, 0, none⟩)], .func (.func 39) #[.pointer (some ⟨dd, 0, none⟩)] #[]] 78)).cell? ⟨wr.heap.size + 1 + 1, 1, none⟩ = some (.func (.func 39) #[.pointer (some ⟨dd, 0, none⟩)] #[]) := by go_simp
      have hword := word_c hW3 hcm (by omega) (by omega) y0 y1 y2 y3 hx1 hx2 (by omega) (by omega) (fresh_not Q (by omega)) y4 y5
      obtain ⟨pe, pt, ps, hpw⟩ : ∃ pe pt ps, Cf.pw (Cf.pwN s at_ zs k).2.2 (at_ + (k : Int)) x = (pe, pt, ps) := ⟨_, _, _, rfl⟩
      rw [hpw] at hword hstep
      have HS := Lib.hid hstep
      have HP := Lib.hid hp
      have HB := Lib.hid (fun (w5 : World) (t2 : Int) (s2 : Cf.Fl) (p : Post (Sx S ((w.alloc (.cells #[.pointer (some ⟨dd, 0, none⟩)] 25)).alloc (.cells #[.int .i64 at_] 3)) wr) w0 (((wr.alloc (.cells #[.int .i64 (k : Int)] 3)).alloc (.cells #[.int .u32 x] 34)).alloc (.cells #[.func (.func 37) #[] #[.pointer (some ⟨w.heap.size, 0, none⟩), .pointer (some ⟨w.heap.size + 1, 0, none⟩), .pointer (some ⟨wr.heap.size, 0, none⟩), .pointer (some ⟨wr.heap.size + 1, 0, none⟩)], .func (.func 39) #[.pointer (some ⟨dd, 0, none⟩)] #[]] 78)) dd gf g bw be blocks t2 s2 w5) => Post.chain hW hp (Post.back Q KW3 p))
      clear hcm hz0 hp Q hstep
      by_cases he : pe = 0
      · subst he
        go_wp2_with (go_at_call 36; refine hword.mono ?_; rintro x w5 ⟨rfl, p⟩; clear hword)
        go_roundw
        case rel => exact ⟨k + 1, by omega, by go_num, by rw [HS.out], by
          have := HB.out w5 _ _ p
          rw [HS.out]
          rw [show ticks + ((Cf.pwN s at_ zs k).2.1 + pt) = ticks + (Cf.pwN s at_ zs k).2.1 + pt by omega]
          exact this⟩
        case measure => simp [intOf]; omega
      · have hb1 : (pe != 0) = true := by simpa using he
        have hb2 : (pe == 0) = false := by simpa using he
        have HE := Lib.hid he
        clear he
        go_wp2_with (go_at_call 36; refine hword.mono ?_; rintro x w5 ⟨rfl, p⟩; clear hword)
        go_ret
        have e9 : Cf.pws s at_ zs = (pe, (Cf.pwN s at_ zs k).2.1 + pt, ps) := by
          unfold Cf.pws
          rw [show zs.length = (k + 1) + (zs.length - (k + 1)) by omega, Cf.pwN_stop (by rw [HS.out]; exact HE.out), HS.out]
        rw [e9]
        refine ⟨rfl, ?_⟩
        have := HB.out w5 _ _ p
        show Post _ _ _ _ _ _ _ _ _ (ticks + ((Cf.pwN s at_ zs k).2.1 + pt)) ps w5
        rw [show ticks + ((Cf.pwN s at_ zs k).2.1 + pt) = ticks + (Cf.pwN s at_ zs k).2.1 + pt by omega]
        exact Post.back h0 KW this
    · obtain rfl : k = zs.length := by omega
      have hlt2 : (zs.length : Int) ≤ (zs.length : Int) := Int.le_refl _
      have HZ := Lib.hid hz0
      have HP := Lib.hid hp
      clear hz0 hp
      go_wp2
      go_ret
      refine ⟨ret_int HZ.out.symm, Post.back h0 KW HP.out⟩
end
end Drv
end Go.Proofs.Ytfghlfolejpjjaa

/- Contracts of package driver (10): Read, New; drivers that no call made; dioptralaw05.Begin. -/
namespace Go.Proofs.Ytfghlfolejpjjaa
open Go.RowKit
set_option linter.unusedVariables false
attribute [local go_sem] max2_int min2_int max_two min_two
namespace Drv
section
variable {S : Nat → Prop} {w0 w w' : World} {dd gf g bw be : Nat} {blocks ticks : Int} {s s' : Cf.Fl}
set_option maxHeartbeats 1000000 in
set_option maxRecDepth 100000 in
theorem read_bad (h : DrvAt S w0 w dd gf g bw be blocks ticks s) {at_ : Int} {n : Nat} (n1 : 1 ≤ n) (n2 : n ≤ 64) {e : Int} (hw : Hid (Cf.wrong s at_ = e)) (he : ¬ e = 0) :
    Calls Try.prog 16 #[.pointer (some ⟨dd, 0, none⟩), .int .i64 at_, .int .i64 n] w fun x w' => x = .returned (.tuple #[.slice none 0 0, .int .i64 e]) ∧ Post S w0 w dd gf g bw be blocks ticks s w' := by
  have hb1 : (e != 0) = true := by simpa using he
  have hb2 : (e == 0) = false := by simpa using he
  have q : Hid (Cf.write s at_ 255 = (e, s)) := by
    have := hw.out
    show Cf.write s at_ 255 = _
    unfold Cf.write; rw [this, if_neg he]
  have hW := h.then ((Below.refl _ w).alloc (Nat.le_refl _) (.cells #[.int .u32 255] 34))
  have KW := (Keep.refl (Mine S dd) w).alloc (.cells #[.int .u32 255] 34)
  have cx := World.cell?_alloc_mark w #[.int .u32 255] 34 (0, 0) 0
  have m1 : (1 : Int) ≤ n := by omega
  have m2 : (n : Int) ≤ 64 := by omega
  have h0 := h
  clear he
  go_enter Try.func16, Try.ntmps16
  go_wp2_with (first | (go_at_call 35; refine (good_c h).mono ?_; rintro e w' ⟨rfl, rfl⟩) | (go_at_call 38; refine (write1_c hW (by decide) (by decide) cx q).mono ?_; rintro e w5 ⟨rfl, p1, p2⟩; clear hW))
  go_ret2
  exact ⟨rfl, Post.back h0 KW ⟨p1, p2⟩⟩
theorem read_0 (h : DrvAt S w0 w dd gf g bw be blocks ticks s) (at_ : Int) :
    Calls Try.prog 16 #[.pointer (some ⟨dd, 0, none⟩), .int .i64 at_, .int .i64 0] w fun x w' => x = .returned (.tuple #[.slice none 0 0, .int .i64 0]) ∧ w = w' := by
  go_enter Try.func16, Try.ntmps16
  go_wp2_with (first | (go_at_call 35; refine (good_c h).mono ?_; rintro e w' ⟨rfl, rfl⟩))
  go_ret2
  exact ⟨rfl, rfl⟩
theorem _root_.Go.Proofs.Ytfghlfolejpjjaa.DrvAt.other {Q : Nat → Prop} (h : DrvAt S w0 w dd gf g bw be blocks ticks s) (hK : Keep Q w w') (hQ : ∀ k, S k → ¬ Q k) (hd : ¬ Q dd) (hQ0 : ∀ k, Q k → w0.heap.size ≤ k) : DrvAt S w0 w' dd gf g bw be blocks ticks s :=
  ⟨h.fl.other hK hQ hQ0, h.ld, h.nd, (hK.block dd h.lt hd).trans h.head⟩
/-- A row of so many words, of which the first are these. -/
def RowN (w : World) (r n : Nat) (zs : List Int) : Prop := ∃ cur : Array Value, w.heap[r]? = some (.cells cur 34 (0, 0)) ∧ cur.size = n ∧ ∀ i, i < zs.length → cur[i]? = some (.int .u32 (zs.getD i 0))
set_option maxHeartbeats 2000000 in
set_option maxRecDepth 100000 in
theorem read_ok (h : DrvAt S w0 w dd gf g bw be blocks ticks s) (hc : Cf.Calm s) {at_ n : Nat} (n1 : 1 ≤ n) (n2 : n ≤ 64) (hin : at_ + n ≤ s.c.words.length) (hoff : s.c.off = false) {zs : List Int} (hl : zs.length = n) (hzs : Hid (∀ i, i < n → zs.getD i 0 = s.c.words.getD (at_ + i) 0)) :
    Calls Try.prog 16 #[.pointer (some ⟨dd, 0, none⟩), .int .i64 at_, .int .i64 n] w fun x w' => ∃ r S', x = .returned (.tuple #[.slice (some ⟨r, 0, none⟩) n n, .int .i64 0]) ∧ w.heap.size ≤ r ∧ Row w' r zs ∧ DrvAt S' w0 w' dd gf g bw be blocks ticks { s with mode := 0 } ∧ (∀ k, S' k → Sx S w w' k) ∧ ¬ Mine S' dd r ∧ Keep (Mine S dd) w w' := by
  have hat : (at_ : Int) ≤ 4096 := by have := h.fl.own.chip.ok.size; have := h.fl.own.chip.ok.most; omega
  have hmk := run_make_row' (P := Try.prog) 22 34 (.int .u32 0) 4 Sl.under32 Sl.info32 rfl .i64 .i64 n (by omega) (by omega)
  have hw : ∀ m : Nat, m < s.c.words.length → Cf.wrong s m = 0 := fun m hm => Cf.wrong_in hoff (by have := h.fl.own.chip.ok.size; omega)
  have q : Hid (Cf.write s at_ 255 = (0, { s with mode := 0 })) := (Cf.write_cmd (hw at_ (by omega)) hc.job hc.wait).trans rfl
  have hrd : Hid (∀ i : Nat, i < n → Cf.read { s with mode := 0 } ((at_ : Int) + (i : Int)) = (s.c.words.getD (at_ + i) 0, 0)) := fun i hi => by
    have := Cf.read_none (s := { s with mode := 0 }) (at_ := ((at_ + i : Nat) : Int)) (hw (at_ + i) (by omega)) hc.job
    rw [show ((at_ + i : Nat) : Int) = (at_ : Int) + (i : Int) by omega] at this
    rw [this]
    refine congrArg (·, (0 : Int)) ((if_pos rfl).trans ?_)
    rw [show ((at_ : Int) + (i : Int)).toNat = at_ + i by omega]
  have hW := h.then ((Below.refl _ w).alloc (Nat.le_refl _) (.cells #[.int .u32 255] 34))
  have KW := (Keep.refl (Mine S dd) w).alloc (.cells #[.int .u32 255] 34)
  have cx := World.cell?_alloc_mark w #[.int .u32 255] 34 (0, 0) 0
  have m1 : (1 : Int) ≤ n := by omega
  have m2 : (n : Int) ≤ 64 := by omega
  have h0 := h
  go_enter Try.func16, Try.ntmps16
  go_wp2_with (first | (go_at_call 35; refine (good_c h).mono ?_; rintro e w' ⟨rfl, rfl⟩) | (go_at_call 38; refine (write1_c hW (by decide) (by decide) cx q).mono ?_; rintro e w5 ⟨rfl, p1, p2⟩; clear hW))
  have hs5 := p2.size
  have e51 : (w.alloc (.cells #[.int .u32 255] 34)).heap.size = w.heap.size + 1 := by simp
  have old := h0.old
  have nR : ∀ k, Sx S (w.alloc (.cells #[.int .u32 255] 34)) w5 k → ¬ k = w5.heap.size := fun k hk e => by have := p1.fl.hi k hk; omega
  have nd : ¬ dd = w5.heap.size := by have := p1.lt; omega
  have D6 := p1.then ((Below.refl _ w5).alloc (Nat.le_refl _) (.cells (madeCells #[.int .u32 0] n) 34))
  have e6 : (w5.alloc (.cells (madeCells #[.int .u32 0] n) 34)).heap.size = w5.heap.size + 1 := by simp
  go_loopw [38] (fun i wr => ∃ k : Nat, k ≤ n ∧ i = .int .i64 k ∧ DrvAt (Sx S (w.alloc (.cells #[.int .u32 255] 34)) w5) w0 wr dd gf g bw be blocks ticks { s with mode := 0 } ∧ Keep (fun b => b = w5.heap.size) (w5.alloc (.cells (madeCells #[.int .u32 0] n) 34)) wr ∧
    ∃ cur : Array Value, wr.heap[w5.heap.size]? = some (.cells cur 34 (0, 0)) ∧ cur.size = n ∧ ∀ i, i < k → cur[i]? = some (.int .u32 (zs.getD i 0))) (fun i _ => n - (intOf i).toNat)
  case atStart => exact ⟨0, Nat.zero_le _, rfl, D6, Keep.refl _ _, _, heap_alloc_new w5 _, by simp [madeCells], fun i hi => absurd hi (by omega)⟩
  case round =>
    obtain ⟨k, hk, rfl, hD, hKr, cur, hg, hsz, hcu⟩ := hrel
    by_cases hlt : k < n
    · have hlt2 : (k : Int) < (n : Int) := by omega
      have hq := Lib.hid (hrd.out k hlt)
      have hzk := hzs.out k hlt
      generalize s.c.words.getD (at_ + k) 0 = x at hq hzk
      obtain ⟨c0, c1, c2⟩ := hD.cells
      have hgl : w5.heap.size < wr.heap.size := (Array.getElem?_eq_some_iff.1 hg).1
      have HD := Lib.hid hD
      have HG := Lib.hid hg
      have HKR := Lib.hid hKr
      have HCU := Lib.hid hcu
      have HZK := Lib.hid hzk
      have HF : Hid (∀ w6 : World, Below wr.heap.size wr w6 → w6.cell? ⟨w5.heap.size, k, none⟩ = some (cur[k]'(by omega)) ∧ w6.frozen? ⟨w5.heap.size, k, none⟩ = false ∧ w6.heap[w5.heap.size]? = some (.cells cur 34 (0, 0))) := fun w6 hb => by
        have e := (hb.block _ hgl).trans hg
        refine ⟨?_, ?_, e⟩
        · simp only [World.cell?, e]; simp [show k < cur.size by omega]
        · simp only [World.frozen?, e]; simp
      clear hD hg hKr hcu hzk D6
      go_wp2_with (first | (go_at_call 43; refine (flash_read HD.out hq).mono ?_; rintro y w6 ⟨rfl, p3, p4⟩; clear HD; obtain ⟨f1, f2, f3⟩ := HF.out w6 p4))
      go_roundw
      case rel =>
        have K6 := (Keep.refl (fun b => b = w5.heap.size) w6).setCell (p := ⟨w5.heap.size, k, none⟩) (.inl rfl) (.int .u32 x)
        refine ⟨k + 1, by omega, by go_num, p3.other K6 nR nd (fun b e => by omega), (HKR.out.below ⟨p4.os, p4.tape, p4.output, p4.size, p4.block⟩).trans K6, _, heap_set f3 k _, by simpa using hsz, fun i hi => ?_⟩
        by_cases e : k = i
        · subst e
          have : k < cur.size := by omega
          rw [HZK.out]; simp [this]
        · rw [Array.getElem?_setIfInBounds_ne e]; exact HCU.out i (by omega)
      case measure => simp [intOf]; omega
    · obtain rfl : k = n := by omega
      have hlt2 : (k : Int) ≤ (k : Int) := Int.le_refl _
      have HD := Lib.hid hD
      have HG := Lib.hid hg
      have HKR := Lib.hid hKr
      have HCU := Lib.hid hcu
      clear hD hg hKr hcu D6
      go_wp2
      go_ret2
      have s6 := HKR.out.size
      have KA : Keep (Mine S dd) w wr := (KW.trans p2).trans' (((Keep.refl (fun b => b = w5.heap.size) w5).alloc _).trans HKR.out) (fun b hb _ e => by omega)
      exact ⟨_, _, rfl, by omega, ⟨cur, HG.out, fun i hi => HCU.out i (by omega)⟩, HD.out, (fun b hb => hb.elim .inl (fun e => .inr ⟨by omega, by omega⟩)), (fun e => e.elim (fun e => nR _ e rfl) (fun e => nd e.symm)), KA⟩
end
end Drv
end Go.Proofs.Ytfghlfolejpjjaa

/- Contracts of package driver (11): Read, all its ways. -/
namespace Go.Proofs.Ytfghlfolejpjjaa
open Go.RowKit
set_option linter.unusedVariables false
set_option linter.unusedSimpArgs false
attribute [local go_sem] max2_int min2_int max_two min_two
namespace Drv
section
variable {S : Nat → Prop} {w0 w w' : World} {dd gf g bw be : Nat} {blocks ticks : Int} {s s' : Cf.Fl}
theorem read_arg (h : DrvAt S w0 w dd gf g bw be blocks ticks s) {at_ many : Int} (hm : many < 0 ∨ (0 ≤ many ∧ 64 < many)) (hm2 : -9223372036854775808 ≤ many ∧ many ≤ 9223372036854775807) :
    Calls Try.prog 16 #[.pointer (some ⟨dd, 0, none⟩), .int .i64 at_, .int .i64 many] w fun x w' => x = .returned (.tuple #[.slice none 0 0, .int .i64 2]) ∧ w = w' := by
  rcases hm with hm | ⟨m0, m1⟩
  all_goals
    go_enter Try.func16, Try.ntmps16
    go_wp2_with (first | (go_at_call 35; refine (good_c h).mono ?_; rintro e w' ⟨rfl, rfl⟩))
    go_ret2
    exact ⟨rfl, rfl⟩
set_option maxHeartbeats 2000000 in
set_option maxRecDepth 100000 in
theorem read_gen (h : DrvAt S w0 w dd gf g bw be blocks ticks s) {at_ f v : Int} {n m : Nat} {zs : List Int} {s0 : Cf.Fl} (n1 : 1 ≤ n) (n2 : n ≤ 64) (hat : -10000000000000 ≤ at_ ∧ at_ ≤ 10000000000000) (hm : m ≤ n) (hl : zs.length = m) (q : Hid (Cf.write s at_ 255 = (0, s0))) (qr : Hid (∀ i : Nat, i < m → Cf.read s0 (at_ + i) = (zs.getD i 0, 0))) (qe : Hid (m < n → Cf.read s0 (at_ + m) = (v, f) ∧ ¬ f = 0)) :
    Calls Try.prog 16 #[.pointer (some ⟨dd, 0, none⟩), .int .i64 at_, .int .i64 n] w fun x w' => (∃ S', DrvAt S' w0 w' dd gf g bw be blocks ticks s0 ∧ (∀ k, S' k → Sx S w w' k) ∧ ((m < n ∧ x = .returned (.tuple #[.slice none 0 0, .int .i64 f])) ∨ (m = n ∧ ∃ r, x = .returned (.tuple #[.slice (some ⟨r, 0, none⟩) n n, .int .i64 0]) ∧ w.heap.size ≤ r ∧ Row w' r zs ∧ ¬ Mine S' dd r))) ∧ Keep (Mine S dd) w w' := by
  have hmk := run_make_row' (P := Try.prog) 22 34 (.int .u32 0) 4 Sl.under32 Sl.info32 rfl .i64 .i64 n (by omega) (by omega)
  have ha1 := hat.1
  have ha2 := hat.2
  have hW := h.then ((Below.refl _ w).alloc (Nat.le_refl _) (.cells #[.int .u32 255] 34))
  have KW := (Keep.refl (Mine S dd) w).alloc (.cells #[.int .u32 255] 34)
  have cx := World.cell?_alloc_mark w #[.int .u32 255] 34 (0, 0) 0
  have m1 : (1 : Int) ≤ n := by omega
  have m2 : (n : Int) ≤ 64 := by omega
  have h0 := h
  go_enter Try.func16, Try.ntmps16
  go_wp2_with (first | (go_at_call 35; refine (good_c h).mono ?_; rintro e w' ⟨rfl, rfl⟩) | (go_at_call 38; refine (write1_c hW (by decide) (by decide) cx q).mono ?_; rintro e w5 ⟨rfl, p1, p2⟩; clear hW))
  have hs5 := p2.size
  have e51 : (w.alloc (.cells #[.int .u32 255] 34)).heap.size = w.heap.size + 1 := by simp
  have old := h0.old
  have nR : ∀ k, Sx S (w.alloc (.cells #[.int .u32 255] 34)) w5 k → ¬ k = w5.heap.size := fun k hk e => by have := p1.fl.hi k hk; omega
  have nd : ¬ dd = w5.heap.size := by have := p1.lt; omega
  have D6 := p1.then ((Below.refl _ w5).alloc (Nat.le_refl _) (.cells (madeCells #[.int .u32 0] n) 34))
  have e6 : (w5.alloc (.cells (madeCells #[.int .u32 0] n) 34)).heap.size = w5.heap.size + 1 := by simp
  go_loopw [38] (fun i wr => ∃ k : Nat, k ≤ m ∧ i = .int .i64 k ∧ DrvAt (Sx S (w.alloc (.cells #[.int .u32 255] 34)) w5) w0 wr dd gf g bw be blocks ticks s0 ∧ Keep (fun b => b = w5.heap.size) (w5.alloc (.cells (madeCells #[.int .u32 0] n) 34)) wr ∧
    ∃ cur : Array Value, wr.heap[w5.heap.size]? = some (.cells cur 34 (0, 0)) ∧ cur.size = n ∧ ∀ i, i < k → cur[i]? = some (.int .u32 (zs.getD i 0))) (fun i _ => n - (intOf i).toNat)
  case atStart => exact ⟨0, Nat.zero_le _, rfl, D6, Keep.refl _ _, _, heap_alloc_new w5 _, by simp [madeCells], fun i hi => absurd hi (by omega)⟩
  case round =>
    obtain ⟨k, hk, rfl, hD, hKr, cur, hg, hsz, hcu⟩ := hrel
    by_cases hlt : k < n
    · have hlt2 : (k : Int) < (n : Int) := by omega
      obtain ⟨x, e5, hq, hzk, h5⟩ : ∃ x e5, Hid (Cf.read s0 (at_ + k) = (x, e5)) ∧ (k < m → zs.getD k 0 = x) ∧ Hid ((k < m ∧ e5 = 0) ∨ (k = m ∧ ¬ e5 = 0 ∧ e5 = f)) := by
        by_cases h6 : k < m
        · exact ⟨_, _, qr.out k h6, fun _ => rfl, .inl ⟨h6, rfl⟩⟩
        · obtain rfl : k = m := by omega
          exact ⟨_, _, (qe.out hlt).1, fun d => absurd d h6, .inr ⟨rfl, (qe.out hlt).2, rfl⟩⟩
      obtain ⟨c0, c1, c2⟩ := hD.cells
      have hgl : w5.heap.size < wr.heap.size := (Array.getElem?_eq_some_iff.1 hg).1
      have HD := Lib.hid hD
      have HG := Lib.hid hg
      have HKR := Lib.hid hKr
      have HCU := Lib.hid hcu
      have HZK := Lib.hid hzk
      have HF : Hid (∀ w6 : World, Below wr.heap.size wr w6 → w6.cell? ⟨w5.heap.size, k, none⟩ = some (cur[k]'(by omega)) ∧ w6.frozen? ⟨w5.heap.size, k, none⟩ = false ∧ w6.heap[w5.heap.size]? = some (.cells cur 34 (0, 0))) := fun w6 hb => by
        have e := (hb.block _ hgl).trans hg
        refine ⟨?_, ?_, e⟩
        · simp only [World.cell?, e]; simp [show k < cur.size by omega]
        · simp only [World.frozen?, e]; simp
      clear hD hg hKr hcu hzk D6
      rcases h5.out with ⟨h6, rfl⟩ | ⟨rfl, h6, rfl⟩
      · go_wp2_with (first | (go_at_call 43; refine (flash_read HD.out hq).mono ?_; rintro y w6 ⟨rfl, p3, p4⟩; clear HD; obtain ⟨f1, f2, f3⟩ := HF.out w6 p4))
        go_roundw
        case rel =>
          have K6 := (Keep.refl (fun b => b = w5.heap.size) w6).setCell (p := ⟨w5.heap.size, k, none⟩) (.inl rfl) (.int .u32 x)
          refine ⟨k + 1, by omega, by go_num, p3.other K6 nR nd (fun b e => by omega), (HKR.out.below ⟨p4.os, p4.tape, p4.output, p4.size, p4.block⟩).trans K6, _, heap_set f3 k _, by simpa using hsz, fun i hi => ?_⟩
          by_cases e : k = i
          · subst e
            have : k < cur.size := by omega
            rw [HZK.out h6]; simp [this]
          · rw [Array.getElem?_setIfInBounds_ne e]; exact HCU.out i (by omega)
        case measure => simp [intOf]; omega
      · have hb1 : (e5 != 0) = true := by simpa using h6
        have hb2 : (e5 == 0) = false := by simpa using h6
        clear h6 h5 qe
        go_wp2_with (first | (go_at_call 43; refine (flash_read HD.out hq).mono ?_; rintro y w6 ⟨rfl, p3, p4⟩; clear HD))
        go_ret2
        have s6 := HKR.out.size
        have s7 := p4.size
        have KA : Keep (Mine S dd) w w6 := ((KW.trans p2).trans' (((Keep.refl (fun b => b = w5.heap.size) w5).alloc _).trans HKR.out) (fun b hb _ e => by omega)).below p4
        exact ⟨⟨_, p3, (fun b hb => hb.elim .inl (fun e => .inr ⟨by omega, by omega⟩)), .inl ⟨hlt, rfl⟩⟩, KA⟩
    · obtain rfl : k = n := by omega
      obtain rfl : k = m := by omega
      have hlt2 : (k : Int) ≤ (k : Int) := Int.le_refl _
      have HD := Lib.hid hD
      have HG := Lib.hid hg
      have HKR := Lib.hid hKr
      have HCU := Lib.hid hcu
      clear hD hg hKr hcu D6
      go_wp2
      go_ret2
      have s6 := HKR.out.size
      have KA : Keep (Mine S dd) w wr := (KW.trans p2).trans' (((Keep.refl (fun b => b = w5.heap.size) w5).alloc _).trans HKR.out) (fun b hb _ e => by omega)
      exact ⟨⟨_, HD.out, (fun b hb => hb.elim .inl (fun e => .inr ⟨by omega, by omega⟩)), ⟨_, rfl, by omega, ⟨cur, HG.out, fun i hi => HCU.out i (by omega)⟩, (fun e => e.elim (fun e => nR _ e rfl) (fun e => nd e.symm))⟩⟩, KA⟩
end
end Drv
end Go.Proofs.Ytfghlfolejpjjaa

/- Contracts of package driver (7): one word, one erasure, one lock, by 'all'. -/
import Derived.Test.YtfghlfolejpjjaaDrv6
namespace Go.Proofs.Ytfghlfolejpjjaa
open Go.RowKit
set_option linter.unusedVariables false
namespace Drv
section
variable {S : Nat → Prop} {w0 w w' : World} {dd gf g bw be : Nat} {blocks ticks : Int} {s s' : Cf.Fl}
/-- What is so behind a call of the driver's. -/
def Post (S : Nat → Prop) (w0 w : World) (dd gf g bw be : Nat) (blocks t : Int) (s : Cf.Fl) (w' : World) : Prop := DrvAt (Sx S w w') w0 w' dd gf g bw be blocks t s ∧ Keep (Mine S dd) w w'
theorem Post.chain {w1 w2 : World} {t1 t2 : Int} {s1 s2 : Cf.Fl} (h : DrvAt S w0 w dd gf g bw be blocks ticks s) (h1 : Post S w0 w dd gf g bw be blocks t1 s1 w1) (h2 : Post (Sx S w w1) w0 w1 dd gf g bw be blocks t2 s2 w2) : Post S w0 w dd gf g bw be blocks t2 s2 w2 :=
  ⟨h.join h2.1 h1.2.size h2.2.size, h1.2.chain h2.2⟩
theorem word_c (h : DrvAt S w0 w dd gf g bw be blocks ticks s) (hc : Cf.Calm s) (t0 : 0 ≤ ticks) (t1 : ticks ≤ 1000000000) {r b0 b1 b2 b3 : Nat} {at_ i v : Int} (c0 : w.cell? ⟨b0, 0, none⟩ = some (.pointer (some ⟨dd, 0, none⟩))) (c1 : w.cell? ⟨b1, 0, none⟩ = some (.int .i64 at_)) (c2 : w.cell? ⟨b2, 0, none⟩ = some (.int .i64 i)) (c3 : w.cell? ⟨b3, 0, none⟩ = some (.int .u32 v))
    (hv : 0 ≤ v) (hv' : v < 4294967296) (ha : -1000000000000 ≤ at_ + i) (ha' : at_ + i ≤ 1000000000000) (nr : ¬ Mine S dd r)
    (r0 : w.cell? ⟨r, 0, none⟩ = some (.func (.func 37) #[] #[.pointer (some ⟨b0, 0, none⟩), .pointer (some ⟨b1, 0, none⟩), .pointer (some ⟨b2, 0, none⟩), .pointer (some ⟨b3, 0, none⟩)])) (r1 : w.cell? ⟨r, 1, none⟩ = some (.func (.func 39) #[.pointer (some ⟨dd, 0, none⟩)] #[])) :
    Calls Try.prog 36 #[.slice (some ⟨r, 0, none⟩) 2 2] w fun x w' => x = .returned (.int .i64 (Cf.pw s (at_ + i) v).1) ∧ Post S w0 w dd gf g bw be blocks (ticks + (Cf.pw s (at_ + i) v).2.1) (Cf.pw s (at_ + i) v).2.2 w' := by
  by_cases hw : Cf.wrong s (at_ + i) = 0
  · have hw0 := Cf.wrong_0 h.fl.own.chip.ok hw
    have hb := Cf.both_prog hc (v := v) hw
    rw [Cf.calm_w hc] at hb
    by_cases hl : s.locks ((at_ + i) / 64) = true
    · have e : Cf.pw s (at_ + i) v = (6, 0, { s with mode := 1 }) := by unfold Cf.pw; rw [if_pos hw, if_pos hl]
      rw [e]
      have e2 : Cf.prog1 { s with mode := 1 } (at_ + i) v = { s with mode := 1, errs := bits .or .u32 s.errs 18 } := by unfold Cf.prog1; rw [if_pos hl]; rfl
      rw [e2] at hb
      have hst : Cf.status ({ s with mode := 1, errs := bits .or .u32 s.errs 18 } : Cf.Fl) = 146 := by
        refine (Cf.status_none (s := { s with mode := 1, errs := bits .or .u32 s.errs 18 }) hc.job).trans ?_
        show bits .or .u32 (bits .or .u32 s.errs 18) 128 = 146
        rw [hc.errs]; decide
      have hcl := Cf.clears hc hw0 s.c ⟨rfl, rfl⟩ (bits .or .u32 s.errs 18)
      refine (all_P (e1 := 0) (e2 := 6) (R1 := Post S w0 w dd gf g bw be blocks ticks { s with mode := 1, errs := bits .or .u32 s.errs 18 }) (R2 := Post S w0 w dd gf g bw be blocks ticks { s with mode := 1 }) r0 r1 (firstP h c0 c1 c2 c3 hv hv' ha ha' hb) (fun w' p => Keep.cell p.2 r1 nr) (fun _ w1 p => ?_)).mono ?_
      · refine (wait_146 p.1 hst hcl).mono ?_
        rintro x w2 ⟨rfl, q1, q2⟩
        exact ⟨rfl, Post.chain h p ⟨q1, q2⟩⟩
      · rintro x w2 (⟨hne, _⟩ | ⟨_, rfl, p⟩)
        · exact absurd rfl hne
        · exact ⟨rfl, by rw [show ticks + 0 = ticks by omega]; exact p⟩
    · obtain ⟨e, c', hp⟩ : ∃ e c', Nr.programs s.c (at_ + i) v = (e, c') := ⟨_, _, rfl⟩
      have e1 : Cf.pw s (at_ + i) v = (e, 3, { s with c := c', mode := 1 }) := by unfold Cf.pw; rw [if_pos hw, if_neg hl, hp]
      rw [e1]
      have e2 : Cf.prog1 { s with mode := 1 } (at_ + i) v = Drv.at_ { s with mode := 1 } ⟨3, true, at_ + i, v⟩ ((3 : Nat) : Int) := by unfold Cf.prog1; rw [if_neg hl]; rfl
      rw [e2] at hb
      have h5 : e = 4 ∨ e = 0 ∨ (e = 5 ∧ c' = s.c) := by
        have : Nr.programs s.c (at_ + i) v = (Nr.ended s.c, Nr.program s.c (at_ + i) v) := if_pos hw
        rw [this] at hp
        have := (Prod.mk.inj hp).1
        rcases Cf.ended_04 s.c with h | h
        · exact .inl (this.symm.trans h)
        · exact .inr (.inl (this.symm.trans h))
      obtain ⟨j1, j2, x1, s1, j3, j4⟩ := Cf.job_ticks hc h.fl.own.chip.ok hw0 ⟨3, true, at_ + i, v⟩ (e := e) (c' := c') hp h5
      refine (all_P (e1 := 0) (e2 := e) (R1 := Post S w0 w dd gf g bw be blocks ticks (Drv.at_ { s with mode := 1 } ⟨3, true, at_ + i, v⟩ ((3 : Nat) : Int))) (R2 := Post S w0 w dd gf g bw be blocks (ticks + 3) { s with c := c', mode := 1 }) r0 r1 (firstP h c0 c1 c2 c3 hv hv' ha ha' hb) (fun w' p => Keep.cell p.2 r1 nr) (fun _ w1 p => ?_)).mono ?_
      · refine (wait_job (L := 3) p.1 (by decide) (by decide) t0 t1 j1 j2 j3 j4).mono ?_
        rintro x w2 ⟨rfl, q1, q2⟩
        exact ⟨rfl, Post.chain h p ⟨q1, q2⟩⟩
      · rintro x w2 (⟨hne, _⟩ | ⟨_, rfl, p⟩)
        · exact absurd rfl hne
        · exact ⟨rfl, p⟩
  · have e : Cf.pw s (at_ + i) v = (Cf.wrong s (at_ + i), 0, s) := if_neg hw
    rw [e]
    refine (all_P (e1 := Cf.wrong s (at_ + i)) (e2 := 0) (R1 := Post S w0 w dd gf g bw be blocks ticks s) (R2 := fun _ => True) r0 r1 (firstP h c0 c1 c2 c3 hv hv' ha ha' (Cf.both_off hw)) (fun w' p => Keep.cell p.2 r1 nr) (fun e0 => absurd e0 hw)).mono ?_
    rintro x w2 (⟨_, rfl, p⟩ | ⟨e0, _⟩)
    · exact ⟨rfl, by show Post _ _ _ _ _ _ _ _ _ (ticks + 0) s w2; rw [show ticks + 0 = ticks by omega]; exact p⟩
    · exact absurd e0 hw
theorem eras_c (h : DrvAt S w0 w dd gf g bw be blocks ticks s) (hc : Cf.Calm s) (t0 : 0 ≤ ticks) (t1 : ticks ≤ 1000000000) {r b0 b1 : Nat} {b : Int} (c0 : w.cell? ⟨b0, 0, none⟩ = some (.pointer (some ⟨dd, 0, none⟩))) (c1 : w.cell? ⟨b1, 0, none⟩ = some (.int .i64 b))
    (ha : -100000000000000 ≤ b) (ha' : b ≤ 100000000000000) (nr : ¬ Mine S dd r)
    (r0 : w.cell? ⟨r, 0, none⟩ = some (.func (.func 40) #[] #[.pointer (some ⟨b0, 0, none⟩), .pointer (some ⟨b1, 0, none⟩)])) (r1 : w.cell? ⟨r, 1, none⟩ = some (.func (.func 39) #[.pointer (some ⟨dd, 0, none⟩)] #[])) :
    Calls Try.prog 36 #[.slice (some ⟨r, 0, none⟩) 2 2] w fun x w' => x = .returned (.int .i64 (Cf.ew s b).1) ∧ Post S w0 w dd gf g bw be blocks (ticks + (Cf.ew s b).2.1) (Cf.ew s b).2.2 w' := by
  by_cases hw : Cf.wrong s (b * 64) = 0
  · have hw0 := Cf.wrong_0 h.fl.own.chip.ok hw
    have hb := Cf.both_eras hc hw
    rw [Cf.calm_w hc] at hb
    by_cases hl : s.locks (b * 64 / 64) = true
    · have e : Cf.ew s b = (6, 0, { s with mode := 1 }) := by unfold Cf.ew; rw [if_pos hw, if_pos hl]
      rw [e]
      have e2 : Cf.eras1 { s with mode := 1 } (b * 64) 208 = { s with mode := 1, errs := bits .or .u32 s.errs 34 } := by unfold Cf.eras1; rw [if_pos (by decide), if_pos hl]; rfl
      rw [e2] at hb
      have hst : Cf.status ({ s with mode := 1, errs := bits .or .u32 s.errs 34 } : Cf.Fl) = 162 := by
        refine (Cf.status_none (s := { s with mode := 1, errs := bits .or .u32 s.errs 34 }) hc.job).trans ?_
        show bits .or .u32 (bits .or .u32 s.errs 34) 128 = 162
        rw [hc.errs]; decide
      have hcl := Cf.clears hc hw0 s.c ⟨rfl, rfl⟩ (bits .or .u32 s.errs 34)
      refine (all_E (e1 := 0) (e2 := 6) (R1 := Post S w0 w dd gf g bw be blocks ticks { s with mode := 1, errs := bits .or .u32 s.errs 34 }) (R2 := Post S w0 w dd gf g bw be blocks ticks { s with mode := 1 }) r0 r1 (firstE h c0 c1 ha ha' hb) (fun w' p => Keep.cell p.2 r1 nr) (fun _ w1 p => ?_)).mono ?_
      · refine (wait_162 p.1 hst hcl).mono ?_
        rintro x w2 ⟨rfl, q1, q2⟩
        exact ⟨rfl, Post.chain h p ⟨q1, q2⟩⟩
      · rintro x w2 (⟨hne, _⟩ | ⟨_, rfl, p⟩)
        · exact absurd rfl hne
        · exact ⟨rfl, by rw [show ticks + 0 = ticks by omega]; exact p⟩
    · obtain ⟨e, c', hp⟩ : ∃ e c', Nr.erases s.c (b * 64 / 64) = (e, c') := ⟨_, _, rfl⟩
      have e1 : Cf.ew s b = (e, 20, { s with c := c', mode := 1 }) := by unfold Cf.ew; rw [if_pos hw, if_neg hl, hp]
      rw [e1]
      have e2 : Cf.eras1 { s with mode := 1 } (b * 64) 208 = Drv.at_ { s with mode := 1 } ⟨20, false, b * 64 / 64, 0⟩ ((20 : Nat) : Int) := by unfold Cf.eras1; rw [if_pos (by decide), if_neg hl]; rfl
      rw [e2] at hb
      have h5 : e = 4 ∨ e = 0 ∨ (e = 5 ∧ c' = s.c) := by
        have hw1 : Nr.wrong s.c (b * 64 / 64) (s.c.wear.length : Int) = 0 := by
          have ho := Nr.wrong_on hw
          obtain ⟨m, hm, hm2⟩ := Nr.wrong_zero h.fl.own.chip.ok hw
          have := h.fl.own.chip.ok.size
          unfold Nr.wrong
          rw [if_neg (by simp [ho]), if_neg (by omega)]
        unfold Nr.erases at hp
        rw [if_pos hw1] at hp
        split at hp
        · have := (Prod.mk.inj hp).1
          rcases Cf.ended_04 s.c with h | h
          · exact .inl (this.symm.trans h)
          · exact .inr (.inl (this.symm.trans h))
        · exact .inr (.inr ⟨(Prod.mk.inj hp).1.symm, (Prod.mk.inj hp).2.symm⟩)
      obtain ⟨j1, j2, x1, s1, j3, j4⟩ := Cf.job_ticks hc h.fl.own.chip.ok hw0 ⟨20, false, b * 64 / 64, 0⟩ (e := e) (c' := c') hp h5
      refine (all_E (e1 := 0) (e2 := e) (R1 := Post S w0 w dd gf g bw be blocks ticks (Drv.at_ { s with mode := 1 } ⟨20, false, b * 64 / 64, 0⟩ ((20 : Nat) : Int))) (R2 := Post S w0 w dd gf g bw be blocks (ticks + 20) { s with c := c', mode := 1 }) r0 r1 (firstE h c0 c1 ha ha' hb) (fun w' p => Keep.cell p.2 r1 nr) (fun _ w1 p => ?_)).mono ?_
      · refine (wait_job (L := 20) p.1 (by decide) (by decide) t0 t1 j1 j2 j3 j4).mono ?_
        rintro x w2 ⟨rfl, q1, q2⟩
        exact ⟨rfl, Post.chain h p ⟨q1, q2⟩⟩
      · rintro x w2 (⟨hne, _⟩ | ⟨_, rfl, p⟩)
        · exact absurd rfl hne
        · exact ⟨rfl, p⟩
  · have e : Cf.ew s b = (Cf.wrong s (b * 64), 0, s) := if_neg hw
    rw [e]
    refine (all_E (e1 := Cf.wrong s (b * 64)) (e2 := 0) (R1 := Post S w0 w dd gf g bw be blocks ticks s) (R2 := fun _ => True) r0 r1 (firstE h c0 c1 ha ha' (Cf.both_off hw)) (fun w' p => Keep.cell p.2 r1 nr) (fun e0 => absurd e0 hw)).mono ?_
    rintro x w2 (⟨_, rfl, p⟩ | ⟨e0, _⟩)
    · exact ⟨rfl, by show Post _ _ _ _ _ _ _ _ _ (ticks + 0) s w2; rw [show ticks + 0 = ticks by omega]; exact p⟩
    · exact absurd e0 hw
theorem lock_c (h : DrvAt S w0 w dd gf g bw be blocks ticks s) (hc : Cf.Calm s) {r b0 b1 b2 : Nat} {b v : Int} {on : Bool} (hon : v = if on then 1 else 208) (c0 : w.cell? ⟨b0, 0, none⟩ = some (.pointer (some ⟨dd, 0, none⟩))) (c1 : w.cell? ⟨b1, 0, none⟩ = some (.int .i64 b)) (c2 : w.cell? ⟨b2, 0, none⟩ = some (.int .u32 v))
    (ha : -100000000000000 ≤ b) (ha' : b ≤ 100000000000000) (nr : ¬ Mine S dd r)
    (r0 : w.cell? ⟨r, 0, none⟩ = some (.func (.func 44) #[] #[.pointer (some ⟨b0, 0, none⟩), .pointer (some ⟨b1, 0, none⟩), .pointer (some ⟨b2, 0, none⟩)])) (r1 : w.cell? ⟨r, 1, none⟩ = some (.func (.func 45) #[.pointer (some ⟨dd, 0, none⟩)] #[])) :
    Calls Try.prog 36 #[.slice (some ⟨r, 0, none⟩) 2 2] w fun x w' => x = .returned (.int .i64 (Cf.lw s b on).1) ∧ Post S w0 w dd gf g bw be blocks ticks (Cf.lw s b on).2 w' := by
  have hv : 0 ≤ v := by rw [hon]; split <;> decide
  have hv' : v < 4294967296 := by rw [hon]; split <;> decide
  by_cases hw : Cf.wrong s (b * 64) = 0
  · have hb := Cf.both_lock hc (v := v) hw
    rw [Cf.calm_w hc] at hb
    have e : Cf.lw s b on = (0, { s with mode := 1, locks := Cf.upd s.locks (b * 64 / 64) on }) := if_pos hw
    rw [e]
    have e2 : Cf.lock1 { s with mode := 1 } (b * 64) v = { s with mode := 1, locks := Cf.upd s.locks (b * 64 / 64) on } := by
      unfold Cf.lock1
      cases on
      · subst hon; rw [if_neg (by decide), if_pos (by decide)]
      · subst hon; rw [if_pos (by decide)]
    rw [e2] at hb
    have hst : Cf.status ({ s with mode := 1, locks := Cf.upd s.locks (b * 64 / 64) on } : Cf.Fl) = 128 := by
      refine (Cf.status_none (s := { s with mode := 1, locks := Cf.upd s.locks (b * 64 / 64) on }) hc.job).trans ?_
      show bits .or .u32 s.errs 128 = 128
      rw [hc.errs]; decide
    refine (all_L (e1 := 0) (e2 := 0) (R1 := Post S w0 w dd gf g bw be blocks ticks { s with mode := 1, locks := Cf.upd s.locks (b * 64 / 64) on }) (R2 := Post S w0 w dd gf g bw be blocks ticks { s with mode := 1, locks := Cf.upd s.locks (b * 64 / 64) on }) r0 r1 (firstL h c0 c1 c2 hv hv' ha ha' hb) (fun w' p => Keep.cell p.2 r1 nr) (fun _ w1 p => ?_)).mono ?_
    · refine (errors_ok p.1 hst).mono ?_
      rintro x w2 ⟨rfl, rfl⟩
      exact ⟨rfl, p⟩
    · rintro x w2 (⟨hne, _⟩ | ⟨_, rfl, p⟩)
      · exact absurd rfl hne
      · exact ⟨rfl, p⟩
  · have e : Cf.lw s b on = (Cf.wrong s (b * 64), s) := if_neg hw
    rw [e]
    refine (all_L (e1 := Cf.wrong s (b * 64)) (e2 := 0) (R1 := Post S w0 w dd gf g bw be blocks ticks s) (R2 := fun _ => True) r0 r1 (firstL h c0 c1 c2 hv hv' ha ha' (Cf.both_off hw)) (fun w' p => Keep.cell p.2 r1 nr) (fun e0 => absurd e0 hw)).mono ?_
    rintro x w2 (⟨_, rfl, p⟩ | ⟨e0, _⟩)
    · exact ⟨rfl, p⟩
    · exact absurd e0 hw
end
end Drv
end Go.Proofs.Ytfghlfolejpjjaa

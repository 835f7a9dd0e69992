/- Contracts of package cfi (7): Tick. -/
import Derived.Test.YtfghlfolejpjjaaCfi6
import Derived.BigRegion
import Derived.StillTailTactics
namespace Go.Proofs.Ytfghlfolejpjjaa
open Go.RowKit Go.Maps
set_option linter.unusedVariables false
attribute [local go_sem] max2_int min2_int max_two min_two
namespace Cfi
section
variable {w0 w : World} {S : Nat → Prop} {gf g bw be : Nat} {s : Cf.Fl} {c c' : Nr.C}
set_option maxRecDepth 100000 in
theorem progJ_c (hO : Own w0 w g bw be c) (hf : w.cell? ⟨gf, 0, none⟩ = some (.pointer (some ⟨g, 0, none⟩))) {bf ba bv : Nat} {at_ v e : Int} (c1 : w.cell? ⟨bf, 0, none⟩ = some (.pointer (some ⟨gf, 0, none⟩))) (c2 : w.cell? ⟨ba, 0, none⟩ = some (.int .i64 at_)) (c3 : w.cell? ⟨bv, 0, none⟩ = some (.int .u32 v))
    (hv : 0 ≤ v) (hv' : v < 4294967296) (q : Hid (Nr.programs c at_ v = (e, c'))) : Calls Try.prog 86 #[.pointer (some ⟨bf, 0, none⟩), .pointer (some ⟨ba, 0, none⟩), .pointer (some ⟨bv, 0, none⟩)] w fun x w' => x = .returned (.int .i64 e) ∧ Own w0 w' g bw be c' ∧ Keep (Nor.Three g bw be) w w' := by
  go_enter Try.func86, Try.ntmps86
  go_wp2
  go_still_tail 6, (by kernel_rfl)
  change wpList _ _ _ _ _ w.drew
  go_wp2_with (go_at_call 87; refine (Nor.program_k (hO.drewN 1) hv hv' q).mono ?_; rintro e w' ⟨rfl, p1, p2⟩; clear hO)
  go_ret
  exact ⟨rfl, p1, ((Keep.refl _ w).drewN 1).trans p2⟩
set_option maxRecDepth 100000 in
theorem erasJ_c (hO : Own w0 w g bw be c) (hf : w.cell? ⟨gf, 0, none⟩ = some (.pointer (some ⟨g, 0, none⟩))) {bf bb : Nat} {b e : Int} (c1 : w.cell? ⟨bf, 0, none⟩ = some (.pointer (some ⟨gf, 0, none⟩))) (c2 : w.cell? ⟨bb, 0, none⟩ = some (.int .i64 b))
    (q : Hid (Nr.erases c b = (e, c'))) : Calls Try.prog 88 #[.pointer (some ⟨bf, 0, none⟩), .pointer (some ⟨bb, 0, none⟩)] w fun x w' => x = .returned (.int .i64 e) ∧ Own w0 w' g bw be c' ∧ Keep (Nor.Three g bw be) w w' := by
  go_enter Try.func88, Try.ntmps88
  go_wp2
  go_still_tail 5, (by kernel_rfl)
  change wpList _ _ _ _ _ w.drew
  go_wp2_with (go_at_call 89; refine (Nor.erase_k (hO.drewN 1) q).mono ?_; rintro e w' ⟨rfl, p1, p2⟩; clear hO)
  go_ret
  exact ⟨rfl, p1, ((Keep.refl _ w).drewN 1).trans p2⟩
set_option maxHeartbeats 4000000 in
set_option maxRecDepth 100000 in
theorem tick_c (h : FlashX S w0 w gf g bw be s) {n : Int} : Calls Try.prog 56 #[.pointer (some ⟨gf, 0, none⟩), .int .i64 n] w fun e w' => e = .returned (.int .i64 (Cf.tick s n).1) ∧ FlashX (Sx S w w') w0 w' gf g bw be (Cf.tick s n).2 ∧ Keep S w w' := by
  obtain ⟨mb, jp, hL, hJ, c0, c1, c2, c3, c4, c5⟩ := h.cells
  have hF := h
  have f5 := h.free 5
  by_cases hw : Cf.wrong s 0 = 0
  case neg =>
    have HS := Lib.hid (show Cf.tick s n = (Cf.wrong s 0, s) from if_neg hw)
    rw [HS.out]
    generalize hn : Cf.wrong s 0 = m at hw
    have H0 := Lib.hid hn
    have ho' : (m == 0) = false := by simpa using hw
    have ho2 : (m != 0) = true := by simpa using hw
    clear hw hn HS
    go_enter Try.func56, Try.ntmps56
    go_wp2_with (go_at_call 57; refine (check_c hF 0).mono ?_; rintro e w' ⟨rfl, rfl⟩; rw [H0.out])
    go_ret
    exact ⟨rfl, hF.up hF.old, Keep.refl _ _⟩
  have H0 := Lib.hid hw
  by_cases hn : n < 0
  · have HS := Lib.hid (show Cf.tick s n = (2, s) from (if_pos hw).trans (if_pos hn))
    rw [HS.out]
    clear hw HS
    go_enter Try.func56, Try.ntmps56
    go_wp2_with (go_at_call 57; refine (check_c hF 0).mono ?_; rintro e w' ⟨rfl, rfl⟩; rw [H0.out])
    go_ret
    exact ⟨rfl, hF.up hF.old, Keep.refl _ _⟩
  have hn0 : 0 ≤ n := by omega
  cases hj : s.job with
  | none =>
    have HS := Lib.hid (show Cf.tick s n = (0, s) by unfold Cf.tick; rw [if_pos hw, if_neg hn]; split <;> first | rfl | (rename_i e; rw [hj] at e; cases e))
    rw [HS.out]
    rw [hj] at hJ
    obtain rfl : jp = .pointer none := hJ
    clear hw HS hn
    go_enter Try.func56, Try.ntmps56
    go_wp2_with (go_at_call 57; refine (check_c hF 0).mono ?_; rintro e w' ⟨rfl, rfl⟩; rw [H0.out])
    go_ret
    exact ⟨rfl, hF.up hF.old, Keep.refl _ _⟩
  | some j =>
    rw [hj] at hJ
    obtain ⟨gj, clo, rfl, hf, hg, hc⟩ := hJ
    have o := hF.ok.jobs j hj
    have l0 := o.lo
    have l1 := o.hi
    have e0 : w.cell? ⟨gj, 0, none⟩ = some (.int .i64 j.left) := by simp only [World.cell?, hg]; rfl
    have e1 : w.cell? ⟨gj, 1, none⟩ = some clo := by simp only [World.cell?, hg]; rfl
    have e2 : w.frozen? ⟨gj, 0, none⟩ = false := by simp only [World.frozen?, hg]; simp
    by_cases hl : n < j.left
    · have HS := Lib.hid (show Cf.tick s n = (0, { s with job := some { j with left := j.left - n } }) by
        unfold Cf.tick; rw [if_pos hw, if_neg hn]; split
        · rename_i e; rw [hj] at e; cases e
        · rename_i j' e; rw [hj] at e; cases e; rw [if_pos hl])
      rw [HS.out]
      obtain ⟨p1, p2⟩ := hF.setLeft hj c5 (x := j.left - n) (by omega) (by omega)
      have HP1 := Lib.hid p1
      have HP2 := Lib.hid p2
      clear hw HS hn p1 p2
      go_enter Try.func56, Try.ntmps56
      go_wp2_with (go_at_call 57; refine (check_c hF 0).mono ?_; rintro e w' ⟨rfl, rfl⟩; rw [H0.out])
      go_region
      go_wp2
      go_ret
      exact ⟨rfl, (HP1.out.drewN 1).up hF.old, HP2.out.drew⟩
    · have hl2 : j.left ≤ n := by omega
      obtain ⟨p1, p2⟩ := hF.setLeft hj c5 (x := 0) (by decide) (by decide)
      have F2 := (p1.drewN 1).setJob (S' := S) (jp' := .pointer none) (o := none) (fun k hk => hk) (fun k hk => ⟨(p1.drewN 1).lo k hk, (p1.drewN 1).hi k hk⟩) (fun F _ => rfl) (fun j h => by cases h)
      have K2 := ((Keep.refl (fun k => k = gj ∨ k = gf) w).setCell (p := ⟨gj, 0, none⟩) (.inl (.inl rfl)) (.int .i64 0)).drew.setCell (p := ⟨gf, 5, none⟩) (.inl (.inr rfl)) (.pointer none)
      have K3 : Keep S w _ := K2.mono fun k _ e => e.elim (fun e => e ▸ hf.1) (fun e => e ▸ hF.mem.1)
      have F2c : FlashX S w0 (((w.setCell ⟨gj, 0, none⟩ (.int .i64 0)).drew).setCell ⟨gf, 5, none⟩ (.pointer none)) gf g bw be { s with job := none } := F2
      obtain ⟨_, _, _, _, d0, _, _, _, _, _⟩ := F2c.cells
      have O2 := F2c.own
      have HF2 := Lib.hid F2c
      have HK3 := Lib.hid K3
      have tf := hF.mem.1
      have t3 : ∀ k, Nor.Three g bw be k → S k := fun k hk => hF.three hk
      have f6 := (p1.drewN 1).free 5
      obtain ⟨_, _, _, _, _, _, _, _, _, d5⟩ := (p1.drewN 1).cells
      obtain ⟨ee, c', hq⟩ : ∃ ee c', Cf.does s.c j = (ee, c') := ⟨_, _, rfl⟩
      have HS := Lib.hid (show Cf.tick s n = if ee = 5 then (0, Cf.setE { s with c := c', job := none } 32) else (ee, { s with c := c', job := none }) by
        unfold Cf.tick; rw [if_pos hw, if_neg hn]; split
        · rename_i e; rw [hj] at e; cases e
        · rename_i j' e; rw [hj] at e; cases e; rw [if_neg hl, hq])
      clear hw hn hl F2 F2c p1 p2 K3
      rcases hc with ⟨hi, bf, ba, bv, q1, q2, q3, n1, n2, n3, rfl, b1, b2, b3⟩ | ⟨hi, bf, bb, q1, q2, n1, n2, rfl, b1, b2⟩
      · have HQ : Hid (Nr.programs s.c j.at_ j.v = (ee, c')) := by
          show Nr.programs s.c j.at_ j.v = _
          unfold Cf.does at hq; rw [if_pos hi] at hq; exact hq
        replace b1 := Keep.cell K2 b1 (by have := q1.2.1; show ¬ (bf = gj ∨ bf = gf); omega)
        replace b2 := Keep.cell K2 b2 (by have := q2.2.1; show ¬ (ba = gj ∨ ba = gf); omega)
        replace b3 := Keep.cell K2 b3 (by have := q3.2.1; show ¬ (bv = gj ∨ bv = gf); omega)
        clear hq K2
        by_cases h5 : ee = 5
        · subst h5
          rw [HS.out, if_pos rfl]
          clear HS
          rcases Int.lt_or_eq_of_le hl2 with hlt | hlt
          all_goals try subst hlt
          all_goals (
            go_enter Try.func56, Try.ntmps56
            go_wp2_with (go_at_call 57; refine (check_c hF 0).mono ?_; rintro e w' ⟨rfl, rfl⟩; rw [H0.out])
            go_region
            all_goals (
              go_wp2_with (first | (go_at_call 86; refine (progJ_c O2 d0 b1 b2 b3 o.vlo o.vhi HQ).mono ?_; rintro e w' ⟨rfl, r1, r2⟩; clear O2; have F3 := HF2.out.chip r1 r2 (fun j h => by cases h)) | (go_at_call 67; refine (set_c F3 (b := 32) (by decide) (by decide)).mono ?_; rintro e w' ⟨rfl, r3, r4⟩))
              go_ret
              exact ⟨rfl, r3.up hF.old, (HK3.out.trans (r2.mono fun k _ e => t3 k e)).trans (r4.mono fun k _ e => e ▸ tf)⟩))
        · rw [HS.out, if_neg h5]
          have j5 : (ee == 5) = false := by simpa using h5
          clear HS h5
          rcases Int.lt_or_eq_of_le hl2 with hlt | hlt
          all_goals try subst hlt
          all_goals (
            go_enter Try.func56, Try.ntmps56
            go_wp2_with (go_at_call 57; refine (check_c hF 0).mono ?_; rintro e w' ⟨rfl, rfl⟩; rw [H0.out])
            go_region
            all_goals (
              go_wp2_with (first | (go_at_call 86; refine (progJ_c O2 d0 b1 b2 b3 o.vlo o.vhi HQ).mono ?_; rintro e w' ⟨rfl, r1, r2⟩; clear O2; have F3 := HF2.out.chip r1 r2 (fun j h => by cases h)))
              go_ret
              exact ⟨rfl, F3.up hF.old, HK3.out.trans (r2.mono fun k _ e => t3 k e)⟩))
      · have HQ : Hid (Nr.erases s.c j.at_ = (ee, c')) := by
          show Nr.erases s.c j.at_ = _
          unfold Cf.does at hq; rw [if_neg (by simp [hi])] at hq; exact hq
        replace b1 := Keep.cell K2 b1 (by have := q1.2.1; show ¬ (bf = gj ∨ bf = gf); omega)
        replace b2 := Keep.cell K2 b2 (by have := q2.2.1; show ¬ (bb = gj ∨ bb = gf); omega)
        clear hq K2
        by_cases h5 : ee = 5
        · subst h5
          rw [HS.out, if_pos rfl]
          clear HS
          rcases Int.lt_or_eq_of_le hl2 with hlt | hlt
          all_goals try subst hlt
          all_goals (
            go_enter Try.func56, Try.ntmps56
            go_wp2_with (go_at_call 57; refine (check_c hF 0).mono ?_; rintro e w' ⟨rfl, rfl⟩; rw [H0.out])
            go_region
            all_goals (
              go_wp2_with (first | (go_at_call 88; refine (erasJ_c O2 d0 b1 b2 HQ).mono ?_; rintro e w' ⟨rfl, r1, r2⟩; clear O2; have F3 := HF2.out.chip r1 r2 (fun j h => by cases h)) | (go_at_call 67; refine (set_c F3 (b := 32) (by decide) (by decide)).mono ?_; rintro e w' ⟨rfl, r3, r4⟩))
              go_ret
              exact ⟨rfl, r3.up hF.old, (HK3.out.trans (r2.mono fun k _ e => t3 k e)).trans (r4.mono fun k _ e => e ▸ tf)⟩))
        · rw [HS.out, if_neg h5]
          have j5 : (ee == 5) = false := by simpa using h5
          clear HS h5
          rcases Int.lt_or_eq_of_le hl2 with hlt | hlt
          all_goals try subst hlt
          all_goals (
            go_enter Try.func56, Try.ntmps56
            go_wp2_with (go_at_call 57; refine (check_c hF 0).mono ?_; rintro e w' ⟨rfl, rfl⟩; rw [H0.out])
            go_region
            all_goals (
              go_wp2_with (first | (go_at_call 88; refine (erasJ_c O2 d0 b1 b2 HQ).mono ?_; rintro e w' ⟨rfl, r1, r2⟩; clear O2; have F3 := HF2.out.chip r1 r2 (fun j h => by cases h)))
              go_ret
              exact ⟨rfl, F3.up hF.old, HK3.out.trans (r2.mono fun k _ e => t3 k e)⟩))
end
end Cfi
end Go.Proofs.Ytfghlfolejpjjaa

/- Contracts of dioptraref11: same, Word. -/
import Derived.Test.YtpdemjdjgehpgaaRf
import Derived.Test.YtpdemjdjgehpgaaDcL2
import Derived.Test.YtpdemjdjgehpgaaDenc
namespace Go.Proofs.Ytpdemjdjgehpgaa
open Go.RowKit Dc
set_option linter.unusedVariables false
set_option linter.unusedSimpArgs false
namespace Rf
open Dec
def okb (a b m i : Int) : Bool := !(Bt.field m i 1 == 1) || (Bt.field a i 1 == Bt.field b i 1)
def allFrom (a b m : Int) (j : Nat) : Bool := ((List.range 32).drop j).all fun i => okb a b m i
theorem all_step (a b m : Int) (j : Nat) (h : j < 32) : allFrom a b m j = (okb a b m j && allFrom a b m (j + 1)) := by
  have hl : j < (List.range 32).length := by simpa using h
  unfold allFrom
  rw [List.drop_eq_getElem_cons hl, List.all_cons, List.getElem_range]
theorem all_end (a b m : Int) : allFrom a b m 32 = true := rfl
set_option maxHeartbeats 400000 in
theorem same_r (a b m : Int) (w : World) (ha : 0 ≤ a) (ha' : a < 4294967296) (hb : 0 ≤ b) (hb' : b < 4294967296) (hm : 0 ≤ m) (hm' : m < 4294967296) (q : Bool) (hq : Hid (allFrom a b m 0 = q)) :
    Calls Try.prog 23 #[.int .u32 a, .int .u32 b, .int .u32 m] w fun e w' => e = .returned (.bool q) ∧ w' = w := by
  have FA := fun i W => Ref1.field_c a i 1 W ha ha'
  have FB := fun i W => Ref1.field_c b i 1 W hb hb'
  have FM := fun i W => Ref1.field_c m i 1 W hm hm'
  go_enter Try.func23, Try.ntmps23
  go_wp2
  go_loopw [7] (fun iv wr => ∃ j : Nat, j ≤ 32 ∧ iv = .int .i64 j ∧ wr = w ∧ Hid (allFrom a b m j = q)) (fun i _ => 32 - (intOf i).toNat)
  case atStart => exact ⟨0, Nat.zero_le _, rfl, rfl, hq⟩
  case round =>
    obtain ⟨j, hj, rfl, rfl, hE⟩ := hrel
    by_cases hlt : j < 32
    · have hlt2 : (j : Int) < 32 := by omega
      have HJ : Hid (-9223372036854775808 ≤ (j : Int)) := by show _ ≤ _; omega
      have hE2 := hE.out
      rw [all_step a b m j hlt] at hE2
      obtain ⟨fa, hfa⟩ : ∃ fa, Hid (Bt.field a j 1 = fa) := ⟨_, rfl⟩
      obtain ⟨fb, hfb⟩ : ∃ fb, Hid (Bt.field b j 1 = fb) := ⟨_, rfl⟩
      obtain ⟨fm, hfm⟩ : ∃ fm, Hid (Bt.field m j 1 = fm) := ⟨_, rfl⟩
      unfold okb at hE2
      rw [hfa.out, hfb.out, hfm.out] at hE2
      have FA2 := fun W => FA (j : Int) W HJ
      have FB2 := fun W => FB (j : Int) W HJ
      have FM2 := fun W => FM (j : Int) W HJ
      rw [hfa.out] at FA2
      rw [hfb.out] at FB2
      rw [hfm.out] at FM2
      clear FA FB FM hE
      by_cases c1 : fm = 1
      · subst c1
        by_cases c2 : fa = fb
        · subst c2
          have hE3 := Lib.hid hE2
          rw [show ((!((1 : Int) == 1) || (fa == fa)) = true) by simp, Bool.true_and] at hE3
          clear hE2
          go_wp2_with (go_at_call 27; (first | (with_reducible refine (FM2 _).mono ?_) | (with_reducible refine (FA2 _).mono ?_) | (with_reducible refine (FB2 _).mono ?_)); rintro e w' ⟨rfl, rfl⟩)
          go_roundw
          case rel => exact ⟨j + 1, by omega, by go_num, by trivial, hE3⟩
          case measure => simp [intOf]; omega
        · rw [show ((!((1 : Int) == 1) || (fa == fb)) = false) by simp [c2], Bool.false_and] at hE2
          subst hE2
          have c3 : (fa == fb) = false := beq_eq_false_iff_ne.2 c2
          clear c2 hq hfa hfb hfm HJ
          go_wp2_with (go_at_call 27; (first | (with_reducible refine (FM2 _).mono ?_) | (with_reducible refine (FA2 _).mono ?_) | (with_reducible refine (FB2 _).mono ?_)); rintro e w' ⟨rfl, rfl⟩)
          go_ret
          exact ⟨rfl, rfl⟩
      · have hE3 := Lib.hid hE2
        rw [show ((!(fm == 1) || (fa == fb)) = true) by simp [c1], Bool.true_and] at hE3
        clear hE2
        go_wp2_with (go_at_call 27; (first | (with_reducible refine (FM2 _).mono ?_) | (with_reducible refine (FA2 _).mono ?_) | (with_reducible refine (FB2 _).mono ?_)); rintro e w' ⟨rfl, rfl⟩)
        go_roundw
        case rel => exact ⟨j + 1, by omega, by go_num, by trivial, hE3⟩
        case measure => simp [intOf]; omega
    · obtain rfl : j = 32 := by omega
      have hE2 : true = q := by rw [← hE.out]; exact (all_end a b m).symm
      subst hE2
      have hlt2 : ¬ ((32 : Nat) : Int) < 32 := by omega
      go_wp2
      go_ret
      exact ⟨rfl, rfl⟩
theorem field1 (w i : Int) : Bt.field w i 1 = if Bt.tb w i then 1 else 0 := by
  refine Bt.ext (Bt.field_rng _ _ _).1 (Bt.field_rng _ _ _).2 (by split <;> decide) (by split <;> decide) fun j hj hj' => ?_
  rw [Bt.tb_field hj hj']
  by_cases e : j = 0
  · subst e
    rw [Int.add_zero]
    cases Bt.tb w i <;> rfl
  · have h1 : ¬ j < 1 := by omega
    have h2 : Bt.tb 1 j = false := by
      obtain ⟨n, rfl⟩ := Int.eq_ofNat_of_zero_le hj
      obtain ⟨m, rfl⟩ : ∃ m, n = m + 1 := ⟨n - 1, by omega⟩
      simp [Bt.tb, Nat.testBit_succ]
    rw [decide_eq_false h1]
    cases Bt.tb w i
    · simp [Bt.tb_zero]
    · simp [h2]
theorem okb_iff (a b m i : Int) : okb a b m i = true ↔ (Bt.tb m i = true → Bt.tb a i = Bt.tb b i) := by
  unfold okb
  rw [field1, field1, field1]
  cases Bt.tb m i <;> cases Bt.tb a i <;> cases Bt.tb b i <;> simp
theorem same_hit (k : Nat) (hk : k < 69) (x : Int) (hx : 0 ≤ x) (hx' : x < 4294967296) : allFrom x (row k).1 (frm (row k).2).mask 0 = hit (row k) x := by
  have hm := mask_rng _ (row_letter k hk)
  have hp := row_rng k hk
  have hi := pat_in k hk
  unfold hit
  generalize (frm (row k).2).mask = m at *
  generalize (row k).1 = p at *
  have hpm : ∀ i, Bt.tb p i = true → Bt.tb m i = true := fun i h => by
    have := Bt.tb_and hp.1 hp.2 hm.1 hm.2 i
    rw [hi, h] at this
    simp only [Bool.true_and] at this
    exact this.symm
  have hr := Bt.rng_and hx hx' hm.1 hm.2
  rw [Bool.eq_iff_iff, beq_iff_eq]
  unfold allFrom
  rw [List.drop_zero, List.all_eq_true]
  constructor
  · intro h
    refine Bt.ext hr.1 hr.2 hp.1 hp.2 fun i hi0 hi1 => ?_
    obtain ⟨n, rfl⟩ := Int.eq_ofNat_of_zero_le hi0
    have := (okb_iff x p m n).1 (h n (by simp; omega))
    rw [Bt.tb_and hx hx' hm.1 hm.2]
    cases c : Bt.tb m n
    · cases d : Bt.tb p n
      · simp
      · rw [hpm _ d] at c; cases c
    · rw [this c]; simp
  · intro h n hn
    refine (okb_iff x p m n).2 fun c => ?_
    have := Bt.tb_and hx hx' hm.1 hm.2 n
    rw [h, c, Bool.and_true] at this
    exact this.symm
theorem hs1 : ∀ c ∈ letters, anyFrom ⟨#[85, 74, 73, 82, 72, 65, 76, 70, 67]⟩ 0 c = (frm c).d := by decide +kernel
theorem hs2 : ∀ c ∈ letters, anyFrom ⟨#[73, 66, 83, 82, 72, 65, 76, 70, 86, 67]⟩ 0 c = (frm c).r1 := by decide +kernel
theorem hs3 : ∀ c ∈ letters, anyFrom ⟨#[66, 83, 82, 65, 86]⟩ 0 c = (frm c).r2 := by decide +kernel
theorem hs4 : ∀ c ∈ letters, anyFrom ⟨#[85, 74, 73, 82, 72, 65, 76, 67]⟩ 0 c = ((frm c).d && c != 70) := by decide +kernel
theorem forms_size : forms.size = 69 := rfl
theorem form_at : ∀ k, (h : k < 69) → (forms[k]'(forms_size.symm ▸ h)).toNat = (row k).2 := by decide +kernel
end Rf
end Go.Proofs.Ytpdemjdjgehpgaa

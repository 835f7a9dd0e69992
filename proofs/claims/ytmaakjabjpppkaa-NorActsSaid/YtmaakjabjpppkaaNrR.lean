/- The reference's chip: plain laws that join it to the plain chip. No program. -/
import Derived.Test.YtmaakjabjpppkaaNr
namespace Go.Proofs.Ytmaakjabjpppkaa.Nr
open Go.RowKit
set_option linter.unusedSimpArgs false
/-- So many lowest bits of both words. -/
def andN (k : Nat) (a b : Int) : Int := Bt.W fun j => decide (j < k) && (Bt.tb a j && Bt.tb b j)
theorem andN_rng (k : Nat) (a b : Int) : 0 ≤ andN k a b ∧ andN k a b < 4294967296 := ⟨Bt.W_nonneg _, Bt.W_lt _⟩
theorem andN_zero (a b : Int) : andN 0 a b = 0 := Bt.ext (Bt.W_nonneg _) (Bt.W_lt _) (by decide) (by decide) fun i hi hi' => by
  unfold andN; rw [Bt.tb_W, Bt.tb_zero]
  have : decide (i < ((0 : Nat) : Int)) = false := decide_eq_false (by omega)
  rw [this, Bool.false_and, Bool.and_false]
theorem andN_end {a b : Int} (ha : 0 ≤ a) (ha' : a < 4294967296) (hb : 0 ≤ b) (hb' : b < 4294967296) : andN 32 a b = bits .and .u32 a b := by
  have hr := Bt.rng_and ha ha' hb hb'
  refine Bt.ext (Bt.W_nonneg _) (Bt.W_lt _) hr.1 hr.2 fun i hi hi' => ?_
  unfold andN
  rw [Bt.tb_W, Bt.tb_and ha ha' hb hb']
  have : i < ((32 : Nat) : Int) := by omega
  simp [hi, hi', this]
theorem field1 (w i : Int) : Bt.field w i 1 = if Bt.tb w i then 1 else 0 := by
  refine Bt.ext (Bt.field_rng _ _ _).1 (Bt.field_rng _ _ _).2 (by split <;> decide) (by split <;> decide) fun j hj hj' => ?_
  rw [Bt.tb_field hj hj']
  by_cases e : j = 0
  · subst e
    rw [Int.add_zero]
    cases Bt.tb w i <;> rfl
  · have h1 : ¬ j < 1 := by omega
    have h2 : Bt.tb 1 j = false := by
      obtain ⟨n, rfl⟩ := Int.eq_ofNat_of_zero_le hj
      obtain ⟨m, rfl⟩ : ∃ m, n = m + 1 := ⟨n - 1, by omega⟩
      simp [Bt.tb, Nat.testBit_succ]
    rw [decide_eq_false h1]
    cases Bt.tb w i
    · simp [Bt.tb_zero]
    · simp [h2]
theorem mul_bit (a b i : Int) : Bt.field a i 1 * Bt.field b i 1 = if Bt.tb a i && Bt.tb b i then 1 else 0 := by
  rw [field1, field1]
  cases Bt.tb a i <;> cases Bt.tb b i <;> rfl
theorem mul_rng (a b i : Int) : 0 ≤ Bt.field a i 1 * Bt.field b i 1 ∧ Bt.field a i 1 * Bt.field b i 1 ≤ 1 := by
  rw [mul_bit]; split <;> omega
theorem andN_succ {k : Nat} (a b : Int) (hk : k < 32) : Bt.put (andN k a b) k 1 (Bt.field a k 1 * Bt.field b k 1) = andN (k + 1) a b := by
  refine Bt.ext (Bt.put_rng _ _ _ _).1 (Bt.put_rng _ _ _ _).2 (Bt.W_nonneg _) (Bt.W_lt _) fun i hi hi' => ?_
  rw [Bt.tb_put hi hi', mul_bit]
  unfold andN
  rw [Bt.tb_W, Bt.tb_W]
  by_cases c : (k : Int) ≤ i ∧ i < k + 1 ∧ i < k + 32
  · rw [if_pos c]
    obtain rfl : i = k := by omega
    rw [Int.sub_self]
    have h1 : (k : Int) < ((k + 1 : Nat) : Int) := by omega
    have h2 : (k : Int) < 32 := by omega
    cases Bt.tb a k <;> cases Bt.tb b k <;> simp [hi, h1, h2, Bt.tb]
    all_goals omega
  · rw [if_neg c]
    have h1 : decide (i < ((k + 1 : Nat) : Int)) = decide (i < (k : Int)) := by
      by_cases d : i < (k : Int)
      · rw [decide_eq_true d, decide_eq_true (by omega)]
      · rw [decide_eq_false d, decide_eq_false (by omega)]
    rw [h1]
/-- One more word in the place of one. -/
theorem put_list (l : List Int) (at_ : Nat) (v : Int) (h : at_ < l.length) : l.take at_ ++ [v] ++ l.drop (at_ + 1) = l.set at_ v := by
  rw [List.set_eq_take_append_cons_drop, if_pos h, List.append_assoc]
  rfl
theorem turn_0 {w : Int} (hw : 0 ≤ w) (hw' : w < 4294967296) : Bt.turn w 0 = w := by
  refine (Bt.eq_W hw hw' fun i hi hi' => ?_).symm
  rw [Int.sub_zero, Int.emod_eq_of_lt hi (by omega)]
end Go.Proofs.Ytmaakjabjpppkaa.Nr

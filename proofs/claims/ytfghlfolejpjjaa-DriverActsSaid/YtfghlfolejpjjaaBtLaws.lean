/- Facts of fields, words on their way, turned words and signs that the laws of package bits say. Plain law: no program. -/
import Derived.Test.YtfghlfolejpjjaaBt
namespace Go.Proofs.Ytfghlfolejpjjaa.Bt
open Go.RowKit

theorem part_all {a b : Int} (hb : 0 ≤ b) (hb' : b < 4294967296) : (part a b 4294967295 == b) = true := by
  rw [beq_iff_eq]
  exact (eq_W hb hb' fun i hi hi' => by rw [tb_ones, decide_eq_true hi, decide_eq_true hi']; rfl).symm
theorem part_none {a b : Int} (ha : 0 ≤ a) (ha' : a < 4294967296) : (part a b 0 == a) = true := by
  rw [beq_iff_eq]
  exact (eq_W ha ha' fun i _ _ => by rw [tb_zero]; rfl).symm
theorem part_rng (a b p : Int) : 0 ≤ part a b p ∧ part a b p < 4294967296 := ⟨W_nonneg _, W_lt _⟩
theorem tb_part {a b p i : Int} (hi : 0 ≤ i) (hi' : i < 32) : tb (part a b p) i = if tb p i then tb b i else tb a i := by
  unfold part; rw [tb_W]; simp [hi, hi']
theorem part_two {a b p q : Int} (hp : 0 ≤ p) (hp' : p < 4294967296) (hq : 0 ≤ q) (hq' : q < 4294967296) : (part (part a b p) b q == part a b (bits .or .u32 p q)) = true := by
  rw [beq_iff_eq]
  apply W_congr
  intro i hi hi'
  rw [tb_part hi hi', tb_or hp hp' hq hq']
  cases tb q i <;> cases tb p i <;> rfl
theorem part_same {a b p : Int} (ha : 0 ≤ a) (ha' : a < 4294967296) (hb : 0 ≤ b) (hb' : b < 4294967296) : (bits .andNot .u32 (bits .xor .u32 (part a b p) a) (bits .xor .u32 a b) == 0) = true := by
  rw [beq_iff_eq]
  obtain ⟨p0, p1⟩ := part_rng a b p
  have x := rng_xor p0 p1 ha ha'
  have y := rng_xor ha ha' hb hb'
  have z := rng_andNot x.1 x.2 y.1 y.2
  refine ext z.1 z.2 (by decide) (by decide) fun i hi hi' => ?_
  rw [tb_andNot x.1 x.2 y.1 y.2, tb_xor p0 p1 ha ha', tb_xor ha ha' hb hb', tb_zero, tb_part hi hi']
  cases tb p i <;> cases tb a i <;> cases tb b i <;> rfl

theorem turn_rng (w k : Int) : 0 ≤ turn w k ∧ turn w k < 4294967296 := ⟨W_nonneg _, W_lt _⟩
theorem tb_turn {w k i : Int} (hi : 0 ≤ i) (hi' : i < 32) : tb (turn w k) i = tb w ((i - k) % 32) := by
  unfold turn; rw [tb_W]; simp [hi, hi']
theorem turn_turn (w a b : Int) : (turn (turn w a) b == turn w (a + b)) = true := by
  rw [beq_iff_eq]
  apply W_congr
  intro i hi hi'
  rw [tb_turn (by omega) (by omega)]
  congr 1; omega
theorem turn_32 {w : Int} (hw : 0 ≤ w) (hw' : w < 4294967296) : (turn w 32 == w) = true := by
  rw [beq_iff_eq]
  exact (eq_W hw hw' fun i hi hi' => by congr 1; omega).symm
theorem turn_back {w a : Int} (hw : 0 ≤ w) (hw' : w < 4294967296) : (turn (turn w a) (-a) == w) = true := by
  rw [beq_iff_eq]
  refine (eq_W hw hw' fun i hi hi' => ?_).symm
  rw [tb_turn (by omega) (by omega)]
  congr 1; omega

/-- How many of the lowest bits are set. -/
def ones (w : Int) : Nat → Int
  | 0 => 0
  | k + 1 => ones w k + bits .and .u32 (w / 2 ^ k) 1
theorem bit_and {w : Int} (k : Nat) (hw : 0 ≤ w) (hw' : w < 4294967296) : bits .and .u32 (w / 2 ^ k) 1 = if tb w k then 1 else 0 := by
  obtain ⟨h0, h1⟩ := rng_shr k hw hw'
  have t := tb_shr (x := w) (k := k) (i := 0) hw (by omega) (by decide)
  rw [Int.toNat_natCast, Int.zero_add] at t
  rw [← t]
  generalize w / 2 ^ k = y at *
  rw [u32_and y 1 h0 h1 (by decide) (by decide)]
  have : (1 : Int).toNat = 2 ^ 1 - 1 := rfl
  rw [this, Nat.and_two_pow_sub_one_eq_mod]
  have e : tb y 0 = decide (y.toNat % 2 = 1) := by simp [tb, Nat.testBit_zero]
  rw [e]
  have := Nat.mod_lt y.toNat (by decide : 2 > 0)
  by_cases c : y.toNat % 2 = 1
  · simp [c]
  · simp [show y.toNat % 2 = 0 by omega]
theorem ones_rng {w : Int} (hw : 0 ≤ w) (hw' : w < 4294967296) : ∀ k : Nat, 0 ≤ ones w k ∧ ones w k ≤ k
  | 0 => ⟨Int.le_refl _, Int.le_refl _⟩
  | k + 1 => by
    have h := ones_rng hw hw' k
    have b := bit_and k hw hw'
    simp only [ones]
    split at b <;> omega
theorem and_rng {w : Int} (k : Nat) (hw : 0 ≤ w) (hw' : w < 4294967296) : 0 ≤ bits .and .u32 (w / 2 ^ k) 1 ∧ bits .and .u32 (w / 2 ^ k) 1 ≤ 1 := by
  have b := bit_and k hw hw'
  split at b <;> omega
/-- A sum over the first n numbers. -/
def sum (g : Nat → Int) : Nat → Int
  | 0 => 0
  | k + 1 => sum g k + g k
theorem sum_congr {f g : Nat → Int} : ∀ n, (∀ i, i < n → f i = g i) → sum f n = sum g n
  | 0, _ => rfl
  | n + 1, h => by simp only [sum]; rw [sum_congr n fun i hi => h i (by omega), h n (by omega)]
theorem sum_shift (g : Nat → Int) : ∀ n, sum g (n + 1) = g 0 + sum (fun i => g (i + 1)) n
  | 0 => by simp [sum]
  | n + 1 => by
    have := sum_shift g n
    simp only [sum] at this ⊢
    omega
theorem ones_sum {w : Int} (hw : 0 ≤ w) (hw' : w < 4294967296) : ∀ k, ones w k = sum (fun i => if tb w i then 1 else 0) k
  | 0 => rfl
  | k + 1 => by simp only [ones, sum]; rw [ones_sum hw hw' k, bit_and k hw hw']
theorem sum_turn (f : Int → Int) : ∀ s : Nat, sum (fun i => f (((i : Int) - s) % 32)) 32 = sum (fun i => f i) 32
  | 0 => sum_congr _ fun i hi => by congr 1; omega
  | s + 1 => by
    rw [← sum_turn f s, sum_shift]
    show _ = sum _ 31 + f ((((31 : Nat) : Int) - s) % 32)
    rw [Int.add_comm]
    congr 1
    · apply sum_congr
      intro i hi
      congr 1; omega
    · congr 1; omega
theorem ones_turn {w : Int} (k : Int) (hw : 0 ≤ w) (hw' : w < 4294967296) : ones (turn w k) 32 = ones w 32 := by
  obtain ⟨t0, t1⟩ := turn_rng w k
  rw [ones_sum t0 t1, ones_sum hw hw', ← sum_turn (fun i => if tb w i then 1 else 0) (k % 32).toNat]
  apply sum_congr
  intro i hi
  have : tb (turn w k) i = tb w (((i : Int) - ((k % 32).toNat : Nat)) % 32) := by
    rw [tb_turn (by omega) (by omega)]; congr 1; omega
  rw [this]

theorem field_rng (w a m : Int) : 0 ≤ field w a m ∧ field w a m < 4294967296 := ⟨W_nonneg _, W_lt _⟩
theorem put_rng (w a m v : Int) : 0 ≤ put w a m v ∧ put w a m v < 4294967296 := ⟨W_nonneg _, W_lt _⟩
theorem sign_rng {v m : Int} (hv : 0 ≤ v) (hv' : v < 4294967296) : 0 ≤ sign v m ∧ sign v m < 4294967296 := by
  unfold sign; split
  · exact ⟨hv, hv'⟩
  · exact ⟨W_nonneg _, W_lt _⟩
theorem tb_field {w a m i : Int} (hi : 0 ≤ i) (hi' : i < 32) : tb (field w a m) i = (decide (i < m) && tb w (a + i)) := by
  unfold field; rw [tb_W]; simp [hi, hi']
theorem tb_put {w a m v i : Int} (hi : 0 ≤ i) (hi' : i < 32) : tb (put w a m v) i = if a ≤ i ∧ i < a + m ∧ i < a + 32 then tb v (i - a) else tb w i := by
  unfold put; rw [tb_W]; simp [hi, hi']
theorem parts {w k : Int} (hw : 0 ≤ w) (hw' : w < 4294967296) (hk : 0 ≤ k) (hk' : k ≤ 32) : (put (put 0 0 k (field w 0 k)) k (32 - k) (field w k (32 - k)) == w) = true := by
  rw [beq_iff_eq]
  refine (eq_W hw hw' fun i hi hi' => ?_).symm
  by_cases c : k ≤ i
  · rw [if_pos (by omega), tb_field (by omega) (by omega), decide_eq_true (by omega), Bool.true_and]; congr 1; omega
  · rw [if_neg (by omega), tb_put hi hi', if_pos (by omega), tb_field (by omega) (by omega), decide_eq_true (by omega), Bool.true_and]; congr 1; omega
theorem parts_high (w k : Int) : (field (field w k 32) 0 (32 - k) == field w k (32 - k)) = true := by
  rw [beq_iff_eq]
  apply W_congr
  intro i hi hi'
  rw [Int.zero_add, tb_field hi hi', decide_eq_true hi', Bool.true_and]

theorem small_of_bits {s : Int} (hs : 0 ≤ s) (m : Nat) (h : ∀ j : Int, m ≤ j → tb s j = false) : s < 2 ^ m := by
  obtain ⟨s, rfl⟩ := Int.eq_ofNat_of_zero_le hs
  have : s < 2 ^ m := by
    apply Nat.lt_pow_two_of_testBit
    intro j hj
    have := h j (by omega)
    simpa [tb] using this
  have e : (2 : Int) ^ m = ((2 ^ m : Nat) : Int) := by simp
  rw [e]; omega
theorem tb_sign {v k i : Int} (h : 1 ≤ k) (h' : k ≤ 31) (hi : 0 ≤ i) (hi' : i < 32) : tb (sign v k) i = if i < k then tb v i else tb v (k - 1) := by
  unfold sign; rw [if_neg (by omega), tb_W]; simp [hi, hi']
theorem top_bit {s : Int} (hs : 0 ≤ s) (hs' : s < 4294967296) : tb s 31 = decide (2147483648 ≤ s) := by
  obtain ⟨x, rfl⟩ := Int.eq_ofNat_of_zero_le hs
  simp only [tb, Int.toNat_natCast]
  have e2 : (31 : Int).toNat = 31 := rfl
  rw [e2, Nat.testBit_eq_decide_div_mod_eq]
  simp; omega
/-- A number with its sign lies between the ends of its bits. -/
theorem sign_ends {v k : Int} (hv : 0 ≤ v) (hv' : v < 4294967296) (h : 1 ≤ k) (h' : k ≤ 31) : -(2 ^ (k - 1).toNat) ≤ wrap32 (sign v k) ∧ wrap32 (sign v k) < 2 ^ (k - 1).toNat := by
  obtain ⟨s0, s1⟩ := sign_rng (m := k) hv hv'
  have t := tb_sign (v := v) (k := k) (i := 31) h h' (by decide) (by decide)
  rw [if_neg (by omega)] at t
  have tt := top_bit s0 s1
  have p : (0 : Int) < 2 ^ (k - 1).toNat := Int.pow_pos (by decide)
  by_cases c : 2147483648 ≤ sign v k
  · rw [decide_eq_true c, t] at tt
    have w1 : wrap32 (sign v k) = sign v k - 4294967296 := by unfold wrap32; omega
    have n0 : 0 ≤ bits .xor .u32 (sign v k) 4294967295 := (rng_xor s0 s1 (by decide) (by decide)).1
    have e : bits .xor .u32 (sign v k) 4294967295 = 4294967295 - sign v k := by
      refine ext n0 (rng_xor s0 s1 (by decide) (by decide)).2 (by omega) (by omega) fun i hi hi' => ?_
      rw [tb_xor s0 s1 (by decide) (by decide), tb_ones, decide_eq_true hi, decide_eq_true hi']
      obtain ⟨x, hx⟩ := Int.eq_ofNat_of_zero_le s0
      rw [hx] at s1 ⊢
      simp only [tb, Int.toNat_natCast]
      have e : (4294967295 - (x : Int)).toNat = 2 ^ 32 - (x + 1) := by omega
      rw [e, Nat.testBit_two_pow_sub_succ (by omega), decide_eq_true hi, decide_eq_true (show i.toNat < 32 by omega)]
      cases x.testBit i.toNat <;> rfl
    have sm := small_of_bits n0 (k - 1).toNat fun j hj => by
      by_cases c2 : j < 32
      · rw [tb_xor s0 s1 (by decide) (by decide), tb_ones, decide_eq_true (by omega), decide_eq_true c2, tb_sign h h' (by omega) c2]
        by_cases c3 : j < k
        · rw [if_pos c3, show j = k - 1 by omega, tt]; rfl
        · rw [if_neg c3, tt]; rfl
      · exact tb_high (rng_xor s0 s1 (by decide) (by decide)).2 (by omega)
    rw [e] at sm
    rw [w1]; omega
  · rw [decide_eq_false c, t] at tt
    have w1 : wrap32 (sign v k) = sign v k := by unfold wrap32; omega
    have sm := small_of_bits s0 (k - 1).toNat fun j hj => by
      by_cases c2 : j < 32
      · rw [tb_sign h h' (by omega) c2]
        by_cases c3 : j < k
        · rw [if_pos c3, show j = k - 1 by omega, tt]
        · rw [if_neg c3, tt]
      · exact tb_high s1 (by omega)
    rw [w1]; omega
theorem sign_ends' {v : Int} {m : Nat} (hv : 0 ≤ v) (hv' : v < 4294967296) (h : m ≤ 30) : -(2 ^ m) ≤ wrap32 (sign v (1 + (m : Int))) ∧ wrap32 (sign v (1 + (m : Int))) < 2 ^ m := by
  have := sign_ends (k := 1 + (m : Int)) hv hv' (by omega) (by omega)
  rwa [show (1 + (m : Int) - 1).toNat = m by omega] at this
theorem wrap32_rng (x : Int) : -2147483648 ≤ wrap32 x ∧ wrap32 x ≤ 2147483647 := by unfold wrap32; omega
theorem sign_low {v k : Int} (hv : 0 ≤ v) (hv' : v < 4294967296) (h : 1 ≤ k) (h' : k ≤ 31) : (field (wrap32 (sign v k) % 4294967296) 0 k == field v 0 k) = true := by
  obtain ⟨s0, s1⟩ := sign_rng (m := k) hv hv'
  have e : wrap32 (sign v k) % 4294967296 = sign v k := by unfold wrap32; omega
  rw [e, beq_iff_eq]
  apply W_congr
  intro i hi hi'
  by_cases c : i < k
  · rw [Int.zero_add, tb_sign h h' hi hi', if_pos c]
  · simp [c]
end Go.Proofs.Ytfghlfolejpjjaa.Bt

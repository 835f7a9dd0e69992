/- Words of 32 bits as numbers, bit by bit: what a field, what is put, a sign, a word on its way and a turned one are, and which formulas come to them. Plain law: no program. -/
import Derived.Laws.BitsAllLaws
import Derived.Laws.Bits64
import Derived.RowKit
namespace Go.Proofs.Ytfghlfolejpjjaa.Bt
open Go.RowKit

/-- Bit i of a number that is not negative. -/
def tb (w i : Int) : Bool := decide (0 ≤ i) && w.toNat.testBit i.toNat

def ofB (f : Nat → Bool) : Nat → Nat
  | 0 => 0
  | n + 1 => 2 ^ n * (f n).toNat + ofB f n

theorem ofB_lt (f : Nat → Bool) : ∀ n, ofB f n < 2 ^ n
  | 0 => by simp [ofB]
  | n + 1 => by
    have h := ofB_lt f n
    have h1 : (f n).toNat ≤ 1 := Bool.toNat_le (f n)
    have h2 : 2 ^ n * (f n).toNat ≤ 2 ^ n * 1 := Nat.mul_le_mul_left _ h1
    simp only [ofB, Nat.pow_succ]
    omega

theorem testBit_ofB (f : Nat → Bool) : ∀ n i, (ofB f n).testBit i = (decide (i < n) && f i)
  | 0, i => by simp [ofB]
  | n + 1, i => by
    simp only [ofB]
    rw [Nat.testBit_two_pow_mul_add _ (ofB_lt f n), testBit_ofB f n]
    by_cases h : i < n
    · rw [if_pos h]; simp [h, Nat.lt_succ_of_lt h]
    · rw [if_neg h]
      by_cases e : i = n
      · subst e; cases f i <;> simp
      · have h2 : ¬ i < n + 1 := by omega
        obtain ⟨k, hk⟩ : ∃ k, i - n = k + 1 := ⟨i - n - 1, by omega⟩
        rw [hk, Nat.testBit_succ]
        have : (f n).toNat / 2 = 0 := by cases f n <;> rfl
        rw [this]; simp [h2]

/-- The word with these bits. -/
def W (f : Int → Bool) : Int := (ofB (fun i => f i) 32 : Nat)

theorem W_nonneg (f : Int → Bool) : 0 ≤ W f := Int.natCast_nonneg _
theorem W_lt (f : Int → Bool) : W f < 4294967296 := by
  have := ofB_lt (fun i => f i) 32
  unfold W
  omega
theorem tb_W (f : Int → Bool) (i : Int) : tb (W f) i = (decide (0 ≤ i) && decide (i < 32) && f i) := by
  unfold tb W
  by_cases h : 0 ≤ i
  · obtain ⟨n, rfl⟩ := Int.eq_ofNat_of_zero_le h
    have e : ((n : Int) < 32) = (n < 32) := propext (by omega)
    simp [testBit_ofB, e]
  · simp [h]

theorem ext {a b : Int} (ha : 0 ≤ a) (ha' : a < 4294967296) (hb : 0 ≤ b) (hb' : b < 4294967296) (h : ∀ i, 0 ≤ i → i < 32 → tb a i = tb b i) : a = b := by
  obtain ⟨m, rfl⟩ := Int.eq_ofNat_of_zero_le ha
  obtain ⟨n, rfl⟩ := Int.eq_ofNat_of_zero_le hb
  have e : m = n := by
    apply Nat.eq_of_testBit_eq
    intro i
    by_cases hi : i < 32
    · have := h i (by omega) (by omega)
      simpa [tb] using this
    · have p : 2 ^ 32 ≤ 2 ^ i := Nat.pow_le_pow_right (by decide) (by omega)
      rw [Nat.testBit_lt_two_pow (by omega), Nat.testBit_lt_two_pow (by omega)]
  rw [e]

theorem tb_neg {w i : Int} (h : i < 0) : tb w i = false := by simp [tb, show ¬ (0 ≤ i) by omega]
theorem tb_high {w i : Int} (hw : w < 4294967296) (h : 32 ≤ i) : tb w i = false := by
  have p : 2 ^ 32 ≤ 2 ^ i.toNat := Nat.pow_le_pow_right (by decide) (by omega)
  simp only [tb]
  rw [Nat.testBit_lt_two_pow (by omega), Bool.and_false]
theorem tb_zero (i : Int) : tb 0 i = false := by simp [tb]
theorem tb_ones (i : Int) : tb 4294967295 i = (decide (0 ≤ i) && decide (i < 32)) := by
  simp only [tb]
  have h : (4294967295 : Int).toNat = 2 ^ 32 - 1 := rfl
  rw [h, Nat.testBit_two_pow_sub_one]
  by_cases hi : 0 ≤ i
  · simp [hi, Int.toNat_lt hi]
  · simp [hi]
theorem W_tb {w : Int} (h : 0 ≤ w) (h' : w < 4294967296) : W (tb w) = w :=
  ext (W_nonneg _) (W_lt _) h h' fun i hi hi' => by rw [tb_W]; simp [hi, hi']
theorem W_congr {f g : Int → Bool} (h : ∀ i, 0 ≤ i → i < 32 → f i = g i) : W f = W g :=
  ext (W_nonneg _) (W_lt _) (W_nonneg _) (W_lt _) fun i hi hi' => by rw [tb_W, tb_W]; simp [hi, hi', h]
/-- A word is told by its bits. -/
theorem eq_W {w : Int} {f : Int → Bool} (h : 0 ≤ w) (h' : w < 4294967296) (hf : ∀ i, 0 ≤ i → i < 32 → tb w i = f i) : w = W f :=
  ext h h' (W_nonneg _) (W_lt _) fun i hi hi' => by rw [tb_W]; simp [hi, hi', hf]

theorem tb_and {x y : Int} (hx : 0 ≤ x) (hx' : x < 4294967296) (hy : 0 ≤ y) (hy' : y < 4294967296) (i : Int) : tb (bits .and .u32 x y) i = (tb x i && tb y i) := by
  rw [u32_and x y hx hx' hy hy']; simp only [tb, Int.toNat_natCast, Nat.testBit_and]; cases decide (0 ≤ i) <;> simp
theorem tb_or {x y : Int} (hx : 0 ≤ x) (hx' : x < 4294967296) (hy : 0 ≤ y) (hy' : y < 4294967296) (i : Int) : tb (bits .or .u32 x y) i = (tb x i || tb y i) := by
  rw [u32_or x y hx hx' hy hy']; simp only [tb, Int.toNat_natCast, Nat.testBit_or]; cases decide (0 ≤ i) <;> simp
theorem tb_xor {x y : Int} (hx : 0 ≤ x) (hx' : x < 4294967296) (hy : 0 ≤ y) (hy' : y < 4294967296) (i : Int) : tb (bits .xor .u32 x y) i = (tb x i ^^ tb y i) := by
  rw [u32_xor x y hx hx' hy hy']; simp only [tb, Int.toNat_natCast, Nat.testBit_xor]; cases decide (0 ≤ i) <;> simp
theorem tb_andNot {x y : Int} (hx : 0 ≤ x) (hx' : x < 4294967296) (hy : 0 ≤ y) (hy' : y < 4294967296) (i : Int) : tb (bits .andNot .u32 x y) i = (tb x i && !tb y i) := by
  rw [u32_andNot x y hx hx' hy hy']
  simp only [tb, Int.toNat_natCast, Nat.testBit_and]
  have e : 4294967295 - y.toNat = 2 ^ 32 - (y.toNat + 1) := by omega
  rw [e, Nat.testBit_two_pow_sub_succ (by omega)]
  by_cases h : i.toNat < 32
  · cases decide (0 ≤ i) <;> simp [h]
  · have p : 2 ^ 32 ≤ 2 ^ i.toNat := Nat.pow_le_pow_right (by decide) (by omega)
    rw [Nat.testBit_lt_two_pow (x := x.toNat) (by omega)]; simp
theorem rng_and {x y : Int} (hx : 0 ≤ x) (hx' : x < 4294967296) (hy : 0 ≤ y) (hy' : y < 4294967296) : 0 ≤ bits .and .u32 x y ∧ bits .and .u32 x y < 4294967296 := by
  rw [u32_and x y hx hx' hy hy']
  have := Nat.and_lt_two_pow (x := x.toNat) (y := y.toNat) (n := 32) (by omega); omega
theorem rng_or {x y : Int} (hx : 0 ≤ x) (hx' : x < 4294967296) (hy : 0 ≤ y) (hy' : y < 4294967296) : 0 ≤ bits .or .u32 x y ∧ bits .or .u32 x y < 4294967296 := by
  rw [u32_or x y hx hx' hy hy']
  have := Nat.or_lt_two_pow (x := x.toNat) (y := y.toNat) (n := 32) (by omega) (by omega); omega
theorem rng_xor {x y : Int} (hx : 0 ≤ x) (hx' : x < 4294967296) (hy : 0 ≤ y) (hy' : y < 4294967296) : 0 ≤ bits .xor .u32 x y ∧ bits .xor .u32 x y < 4294967296 := by
  rw [u32_xor x y hx hx' hy hy']
  have := Nat.xor_lt_two_pow (x := x.toNat) (y := y.toNat) (n := 32) (by omega) (by omega); omega
theorem rng_andNot {x y : Int} (hx : 0 ≤ x) (hx' : x < 4294967296) (hy : 0 ≤ y) (hy' : y < 4294967296) : 0 ≤ bits .andNot .u32 x y ∧ bits .andNot .u32 x y < 4294967296 := by
  rw [u32_andNot x y hx hx' hy hy']
  have := Nat.and_lt_two_pow (x := x.toNat) (y := 4294967295 - y.toNat) (n := 32) (by omega); omega

/-- P1.1. -/
def field (w at_ many : Int) : Int := W fun i => decide (i < many) && tb w (at_ + i)
def put (w at_ many v : Int) : Int := W fun i => if at_ ≤ i ∧ i < at_ + many ∧ i < at_ + 32 then tb v (i - at_) else tb w i
/-- P1.2. -/
def sign (v many : Int) : Int := if many < 1 ∨ 31 < many then v else W fun i => if i < many then tb v i else tb v (many - 1)
/-- P1.3. -/
def part (a b p : Int) : Int := W fun i => if tb p i then tb b i else tb a i
/-- P1.4. -/
def turn (w by_ : Int) : Int := W fun i => tb w ((i - by_) % 32)

/-- So many lowest bits. -/
def mask (many : Int) : Int := (2 : Int) ^ (min (max many 0) 32).toNat - 1

theorem mask_nat (many : Int) : (mask many).toNat = 2 ^ (min (max many 0) 32).toNat - 1 := by
  unfold mask
  have : (0 : Int) < 2 ^ (min (max many 0) 32).toNat := Int.pow_pos (by decide)
  have e : ((2 : Int) ^ (min (max many 0) 32).toNat) = ((2 ^ (min (max many 0) 32).toNat : Nat) : Int) := by simp
  rw [e]; omega
theorem mask_rng (many : Int) : 0 ≤ mask many ∧ mask many < 4294967296 := by
  have p : 2 ^ (min (max many 0) 32).toNat ≤ 2 ^ 32 := Nat.pow_le_pow_right (by decide) (by omega)
  have q := Nat.two_pow_pos (min (max many 0) 32).toNat
  have e : ((2 : Int) ^ (min (max many 0) 32).toNat) = ((2 ^ (min (max many 0) 32).toNat : Nat) : Int) := by simp
  unfold mask
  rw [e]; omega
theorem tb_mask (many i : Int) : tb (mask many) i = (decide (0 ≤ i) && decide (i < 32) && decide (i < many)) := by
  simp only [tb]
  rw [mask_nat, Nat.testBit_two_pow_sub_one]
  by_cases h : 0 ≤ i
  · by_cases a : i < 32 <;> by_cases b : i < many <;> simp [h, a, b] <;> omega
  · simp [h]

theorem wrap_u64_id {x : Int} (h : 0 ≤ x) (h' : x < 18446744073709551616) : IntKind.u64.wrap x = x := by rw [IntKind.wrap_u64]; omega

/-- A word to the left, masked: what bits of it are. -/
theorem tb_left {w m k : Int} (hw : 0 ≤ w) (hw' : w < 4294967296) (hm : 0 ≤ m) (hm' : m < 4294967296) (hk : 0 ≤ k) {i : Int} (hi : 0 ≤ i) (hi' : i < 32) :
    tb (bits .and .u64 (IntKind.u64.wrap (IntKind.u64.wrap w * 2 ^ k.toNat)) m % 4294967296) i = (tb w (i - k) && tb m i) := by
  rw [wrap_u64_id hw (by omega), IntKind.wrap_u64]
  obtain ⟨w, rfl⟩ := Int.eq_ofNat_of_zero_le hw
  obtain ⟨m, rfl⟩ := Int.eq_ofNat_of_zero_le hm
  obtain ⟨k, rfl⟩ := Int.eq_ofNat_of_zero_le hk
  obtain ⟨i, rfl⟩ := Int.eq_ofNat_of_zero_le hi
  have e : ((w : Int) * 2 ^ (k : Int).toNat) % 18446744073709551616 = ((w * 2 ^ k % 18446744073709551616 : Nat) : Int) := by simp
  rw [e, u64_and_nat _ _ (Nat.mod_lt _ (by decide)) (by omega)]
  have e2 : (((w * 2 ^ k % 18446744073709551616 &&& m : Nat) : Int) % 4294967296) = (((w * 2 ^ k % 2 ^ 64 &&& m) % 2 ^ 32 : Nat) : Int) := by simp
  rw [e2]
  simp only [tb, Int.toNat_natCast, Nat.testBit_mod_two_pow, Nat.testBit_and, Nat.testBit_mul_two_pow]
  have h1 : i < 32 := by omega
  have h2 : i < 64 := by omega
  by_cases c : k ≤ i
  · have : (((i : Int) - (k : Int)).toNat) = i - k := by omega
    simp [h1, h2, c, this]
  · simp [c]

/-- A word to the right, masked. -/
theorem tb_right {w m k : Int} (hw : 0 ≤ w) (hw' : w < 4294967296) (hm : 0 ≤ m) (hm' : m < 4294967296) (hk : 0 ≤ k) {i : Int} (hi : 0 ≤ i) (hi' : i < 32) :
    tb (bits .and .u64 (IntKind.u64.wrap w / 2 ^ k.toNat) m % 4294967296) i = (tb w (i + k) && tb m i) := by
  rw [wrap_u64_id hw (by omega)]
  obtain ⟨w, rfl⟩ := Int.eq_ofNat_of_zero_le hw
  obtain ⟨m, rfl⟩ := Int.eq_ofNat_of_zero_le hm
  obtain ⟨k, rfl⟩ := Int.eq_ofNat_of_zero_le hk
  obtain ⟨i, rfl⟩ := Int.eq_ofNat_of_zero_le hi
  have e : (w : Int) / 2 ^ (k : Int).toNat = ((w / 2 ^ k : Nat) : Int) := by simp
  have l : w / 2 ^ k ≤ w := Nat.div_le_self _ _
  rw [e, u64_and_nat _ _ (by omega) (by omega)]
  have e2 : (((w / 2 ^ k &&& m : Nat) : Int) % 4294967296) = (((w / 2 ^ k &&& m) % 2 ^ 32 : Nat) : Int) := by simp
  rw [e2]
  simp only [tb, Int.toNat_natCast, Nat.testBit_mod_two_pow, Nat.testBit_and, Nat.testBit_div_two_pow]
  have h1 : i < 32 := by omega
  have h3 : ((i : Int) + (k : Int)).toNat = i + k := by omega
  have h4 : (0 : Int) ≤ (i : Int) + (k : Int) := by omega
  simp [h1, h3, h4]

theorem field_left {w at_ many k : Int} (hw : 0 ≤ w) (hw' : w < 4294967296) (hk : 0 ≤ k) (h : k = -at_ ∨ 32 ≤ k ∧ at_ ≤ -32) :
    bits .and .u64 (IntKind.u64.wrap (IntKind.u64.wrap w * 2 ^ k.toNat)) (mask many) % 4294967296 = field w at_ many := by
  refine eq_W (Int.emod_nonneg _ (by decide)) (Int.emod_lt_of_pos _ (by decide)) fun i hi hi' => ?_
  rw [tb_left hw hw' (mask_rng many).1 (mask_rng many).2 hk hi hi', tb_mask]
  rcases h with rfl | ⟨h1, h2⟩
  · rw [show i - -at_ = at_ + i by omega]; simp [hi, hi', Bool.and_comm]
  · rw [tb_neg (show i - k < 0 by omega), tb_neg (show at_ + i < 0 by omega)]; simp
theorem field_right {w at_ many k : Int} (hw : 0 ≤ w) (hw' : w < 4294967296) (hk : 0 ≤ k) (h : k = at_ ∨ 32 ≤ k ∧ 32 ≤ at_) :
    bits .and .u64 (IntKind.u64.wrap w / 2 ^ k.toNat) (mask many) % 4294967296 = field w at_ many := by
  refine eq_W (Int.emod_nonneg _ (by decide)) (Int.emod_lt_of_pos _ (by decide)) fun i hi hi' => ?_
  rw [tb_right hw hw' (mask_rng many).1 (mask_rng many).2 hk hi hi', tb_mask]
  rcases h with rfl | ⟨h1, h2⟩
  · rw [show i + k = k + i by omega]; simp [hi, hi', Bool.and_comm]
  · rw [tb_high hw' (show 32 ≤ i + k by omega), tb_high hw' (show 32 ≤ at_ + i by omega)]; simp

theorem tb_shl {x k : Int} (hx : 0 ≤ x) (hk : 0 ≤ k) {i : Int} (hi : 0 ≤ i) (hi' : i < 32) : tb (IntKind.u64.wrap (x * 2 ^ k.toNat) % 4294967296) i = tb x (i - k) := by
  rw [IntKind.wrap_u64]
  obtain ⟨x, rfl⟩ := Int.eq_ofNat_of_zero_le hx
  obtain ⟨k, rfl⟩ := Int.eq_ofNat_of_zero_le hk
  obtain ⟨i, rfl⟩ := Int.eq_ofNat_of_zero_le hi
  have e : ((x : Int) * 2 ^ (k : Int).toNat) % 18446744073709551616 % 4294967296 = ((x * 2 ^ k % 2 ^ 64 % 2 ^ 32 : Nat) : Int) := by simp
  rw [e]
  simp only [tb, Int.toNat_natCast, Nat.testBit_mod_two_pow, Nat.testBit_mul_two_pow]
  have h1 : i < 32 := by omega
  have h2 : i < 64 := by omega
  by_cases c : k ≤ i
  · have : (((i : Int) - (k : Int)).toNat) = i - k := by omega
    simp [h1, h2, c, this]
  · simp [c]
theorem tb_shl32 {x k : Int} (hx : 0 ≤ x) (hk : 0 ≤ k) {i : Int} (hi : 0 ≤ i) (hi' : i < 32) : tb (IntKind.u32.wrap (x * 2 ^ k.toNat)) i = tb x (i - k) := by
  rw [← tb_shl hx hk hi hi', IntKind.wrap_u64, IntKind.wrap_u32', Int.emod_emod_of_dvd _ (by decide : (4294967296 : Int) ∣ 18446744073709551616)]
theorem tb_shr {x k : Int} (hx : 0 ≤ x) (hk : 0 ≤ k) {i : Int} (hi : 0 ≤ i) : tb (x / 2 ^ k.toNat) i = tb x (i + k) := by
  obtain ⟨x, rfl⟩ := Int.eq_ofNat_of_zero_le hx
  obtain ⟨k, rfl⟩ := Int.eq_ofNat_of_zero_le hk
  obtain ⟨i, rfl⟩ := Int.eq_ofNat_of_zero_le hi
  have e : (x : Int) / 2 ^ (k : Int).toNat = ((x / 2 ^ k : Nat) : Int) := by simp
  rw [e]
  simp only [tb, Int.toNat_natCast, Nat.testBit_div_two_pow]
  have h3 : ((i : Int) + (k : Int)).toNat = i + k := by omega
  have h4 : (0 : Int) ≤ (i : Int) + (k : Int) := by omega
  simp [h3, h4]
theorem rng_shr {x : Int} (k : Nat) (hx : 0 ≤ x) (hx' : x < 4294967296) : 0 ≤ x / 2 ^ k ∧ x / 2 ^ k < 4294967296 := by
  obtain ⟨x, rfl⟩ := Int.eq_ofNat_of_zero_le hx
  have e : (x : Int) / 2 ^ k = ((x / 2 ^ k : Nat) : Int) := by simp
  have l : x / 2 ^ k ≤ x := Nat.div_le_self _ _
  rw [e]
  exact ⟨Int.natCast_nonneg _, by omega⟩
theorem rng_le {x : Int} (k : Nat) (hx : 0 ≤ x) : x / 2 ^ k ≤ x := by
  obtain ⟨x, rfl⟩ := Int.eq_ofNat_of_zero_le hx
  have e : (x : Int) / 2 ^ k = ((x / 2 ^ k : Nat) : Int) := by simp
  have l : x / 2 ^ k ≤ x := Nat.div_le_self _ _
  rw [e]; omega
theorem mod_small {x : Int} (hx : 0 ≤ x) (hx' : x < 4294967296) : x % 4294967296 = x := Int.emod_eq_of_lt hx hx'

/-- The lowest bits of a word. -/
theorem low_eq {v many : Int} (hv : 0 ≤ v) (hv' : v < 4294967296) : bits .and .u64 (IntKind.u64.wrap v) (mask many) = W fun i => decide (i < many) && tb v i := by
  obtain ⟨m0, m1⟩ := mask_rng many
  rw [wrap_u64_id hv (by omega), u64_and v (mask many) hv (by omega) m0 (by omega)]
  have := Nat.and_lt_two_pow (x := v.toNat) (y := (mask many).toNat) (n := 32) (by omega)
  refine eq_W (by omega) (by omega) fun i hi hi' => ?_
  have e := tb_mask many i
  simp only [tb, Int.toNat_natCast, Nat.testBit_and] at e ⊢
  rw [← Bool.and_assoc, Bool.and_comm (decide (0 ≤ i)), Bool.and_assoc, e]
  simp [hi, hi', Bool.and_comm]

theorem put_left {w at_ many v k : Int} (hw : 0 ≤ w) (hw' : w < 4294967296) (hv : 0 ≤ v) (hv' : v < 4294967296) (hk : 0 ≤ k) (h : k = at_ ∨ 32 ≤ k ∧ 32 ≤ at_) :
    bits .or .u32 (bits .andNot .u32 w (IntKind.u64.wrap (mask many * 2 ^ k.toNat) % 4294967296)) (IntKind.u64.wrap (bits .and .u64 (IntKind.u64.wrap v) (mask many) * 2 ^ k.toNat) % 4294967296) = put w at_ many v := by
  obtain ⟨m0, m1⟩ := mask_rng many
  have a0 := fun x : Int => Int.emod_nonneg x (by decide : (4294967296 : Int) ≠ 0)
  have a1 := fun x : Int => Int.emod_lt_of_pos x (by decide : (0 : Int) < 4294967296)
  rw [low_eq hv hv']
  have n0 := rng_andNot hw hw' (a0 (IntKind.u64.wrap (mask many * 2 ^ k.toNat))) (a1 _)
  refine eq_W (rng_or n0.1 n0.2 (a0 _) (a1 _)).1 (rng_or n0.1 n0.2 (a0 _) (a1 _)).2 fun i hi hi' => ?_
  rw [tb_or n0.1 n0.2 (a0 _) (a1 _), tb_andNot hw hw' (a0 _) (a1 _), tb_shl m0 hk hi hi', tb_shl (W_nonneg _) hk hi hi', tb_mask, tb_W]
  rcases h with rfl | ⟨h1, h2⟩
  · by_cases c : k ≤ i ∧ i < k + many ∧ i < k + 32
    · rw [if_pos c]
      rw [decide_eq_true (show 0 ≤ i - k by omega), decide_eq_true (show i - k < 32 by omega), decide_eq_true (show i - k < many by omega)]; simp
    · rw [if_neg c]
      have : (decide (0 ≤ i - k) && decide (i - k < 32) && decide (i - k < many)) = false := by
        rw [Bool.eq_false_iff]; simp; omega
      rw [this]
      have : (decide (0 ≤ i - k) && decide (i - k < 32) && (decide (i - k < many) && tb v (i - k))) = false := by
        rw [← Bool.and_assoc, this]; rfl
      rw [this]; simp
  · rw [if_neg (by omega)]
    rw [decide_eq_false (show ¬ (0 ≤ i - k) by omega)]; simp

theorem put_right {w at_ many v k : Int} (hw : 0 ≤ w) (hw' : w < 4294967296) (hv : 0 ≤ v) (hv' : v < 4294967296) (hk : 0 ≤ k) (h : k = -at_ ∨ 32 ≤ k ∧ at_ ≤ -32) :
    bits .or .u32 (bits .andNot .u32 w (mask many / 2 ^ k.toNat % 4294967296)) (bits .and .u64 (IntKind.u64.wrap v) (mask many) / 2 ^ k.toNat % 4294967296) = put w at_ many v := by
  obtain ⟨m0, m1⟩ := mask_rng many
  rw [low_eq hv hv']
  have b1 := rng_shr k.toNat m0 m1
  have b2 := rng_shr k.toNat (W_nonneg fun i => decide (i < many) && tb v i) (W_lt _)
  rw [mod_small b1.1 b1.2, mod_small b2.1 b2.2]
  have n0 := rng_andNot hw hw' b1.1 b1.2
  refine eq_W (rng_or n0.1 n0.2 b2.1 b2.2).1 (rng_or n0.1 n0.2 b2.1 b2.2).2 fun i hi hi' => ?_
  rw [tb_or n0.1 n0.2 b2.1 b2.2, tb_andNot hw hw' b1.1 b1.2, tb_shr m0 hk hi, tb_shr (W_nonneg _) hk hi, tb_mask, tb_W]
  rcases h with rfl | ⟨h1, h2⟩
  · rw [show i + -at_ = i - at_ by omega]
    by_cases c : at_ ≤ i ∧ i < at_ + many ∧ i < at_ + 32
    · rw [if_pos c]
      rw [decide_eq_true (show 0 ≤ i - at_ by omega), decide_eq_true (show i - at_ < 32 by omega), decide_eq_true (show i - at_ < many by omega)]; simp
    · rw [if_neg c]
      have : (decide (0 ≤ i - at_) && decide (i - at_ < 32) && decide (i - at_ < many)) = false := by
        rw [Bool.eq_false_iff]; simp; omega
      rw [this]
      have : (decide (0 ≤ i - at_) && decide (i - at_ < 32) && (decide (i - at_ < many) && tb v (i - at_))) = false := by
        rw [← Bool.and_assoc, this]; rfl
      rw [this]; simp
  · rw [if_neg (by omega)]
    simp [show ¬ (i + k < 32) by omega]

theorem sign_eq {v many : Int} (hv : 0 ≤ v) (_hv' : v < 4294967296) (h : 1 ≤ many) (h' : many ≤ 31) :
    wrap32 (IntKind.u32.wrap (v * 2 ^ (32 - many).toNat)) / 2 ^ (32 - many).toNat % 4294967296 = sign v many := by
  unfold sign
  rw [if_neg (by omega)]
  have n0 : 0 ≤ 32 - many := by omega
  have x0 : 0 ≤ IntKind.u32.wrap (v * 2 ^ (32 - many).toNat) := by rw [IntKind.wrap_u32']; exact Int.emod_nonneg _ (by decide)
  have x1 : IntKind.u32.wrap (v * 2 ^ (32 - many).toNat) < 4294967296 := by rw [IntKind.wrap_u32']; exact Int.emod_lt_of_pos _ (by decide)
  have xb := fun i (hi : 0 ≤ i) (hi' : i < 32) => tb_shl32 (k := 32 - many) (i := i) hv n0 hi hi'
  generalize IntKind.u32.wrap (v * 2 ^ (32 - many).toNat) = x at *
  have top := xb 31 (by decide) (by decide)
  rw [show (31 : Int) - (32 - many) = many - 1 by omega] at top
  obtain ⟨x, rfl⟩ := Int.eq_ofNat_of_zero_le x0
  obtain ⟨n, hn⟩ : ∃ n : Nat, 32 - many = n := ⟨(32 - many).toNat, by omega⟩
  rw [hn] at xb ⊢
  rw [Int.toNat_natCast]
  have hb := rng_shr n x0 x1
  have ee : ((x : Int) / 2 ^ n) = ((x / 2 ^ n : Nat) : Int) := by simp
  have xl : x / 2 ^ n < 2 ^ (32 - n) := by
    rw [Nat.div_lt_iff_lt_mul (Nat.two_pow_pos _), ← Nat.pow_add, show 32 - n + n = 32 by omega]; omega
  have bit31 : (tb (x : Int) 31 = true) ↔ 2147483648 ≤ x := by
    simp only [tb, Int.toNat_natCast]
    have e1 : x.testBit 31 = decide (x / 2 ^ 31 % 2 = 1) := by rw [Nat.testBit_eq_decide_div_mod_eq]
    have e2 : (31 : Int).toNat = 31 := rfl
    rw [e2, e1]
    simp; omega
  by_cases c : 2147483648 ≤ x
  · have ct : tb v (many - 1) = true := by rw [← top]; exact bit31.2 c
    have w1 : wrap32 (x : Int) = (x : Int) - 4294967296 := by unfold wrap32; omega
    have p2 : (2 : Int) ^ n * 2 ^ (32 - n) = 4294967296 := by rw [← Int.pow_add, show n + (32 - n) = 32 by omega]; decide
    have d1 : ((x : Int) - 4294967296) / 2 ^ n = (x : Int) / 2 ^ n - 2 ^ (32 - n) := by
      rw [← p2, Int.sub_mul_ediv_left]
      exact Int.ne_of_gt (Int.pow_pos (by decide))
    have q0 : (2 : Nat) ^ (32 - n) < 2 ^ 32 := Nat.pow_lt_pow_right (by decide) (by omega)
    have q1 : ((2 : Int) ^ (32 - n)) = ((2 ^ (32 - n) : Nat) : Int) := by simp
    have r1 : ((x : Int) / 2 ^ n - 2 ^ (32 - n)) % 4294967296 = (2 ^ (32 - n) * (2 ^ n - 1) + x / 2 ^ n : Nat) := by
      have p3 : 2 ^ (32 - n) * (2 ^ n - 1) = 4294967296 - 2 ^ (32 - n) := by
        rw [Nat.mul_sub, ← Nat.pow_add, show 32 - n + n = 32 by omega, Nat.mul_one]
      rw [p3, ee, q1]; omega
    rw [w1, d1, r1]
    have r2 : 2 ^ (32 - n) * (2 ^ n - 1) + x / 2 ^ n < 4294967296 := by
      have p3 : 2 ^ (32 - n) * (2 ^ n - 1) = 4294967296 - 2 ^ (32 - n) := by
        rw [Nat.mul_sub, ← Nat.pow_add, show 32 - n + n = 32 by omega, Nat.mul_one]
      omega
    refine eq_W (by omega) (by omega) fun i hi hi' => ?_
    obtain ⟨i, rfl⟩ := Int.eq_ofNat_of_zero_le hi
    simp only [tb, Int.toNat_natCast]
    rw [Nat.testBit_two_pow_mul_add _ xl]
    by_cases ci : i < 32 - n
    · rw [if_pos ci, if_pos (by omega)]
      have := xb ((i : Int) + n) (by omega) (by omega)
      rw [show (i : Int) + n - n = i by omega] at this
      simp only [tb] at this
      rw [Nat.testBit_div_two_pow, ← show ((i : Int) + n).toNat = i + n by omega]
      rw [decide_eq_true (show (0 : Int) ≤ (i : Int) + n by omega)] at this
      simpa using this
    · rw [if_neg ci, if_neg (by omega), Nat.testBit_two_pow_sub_one]
      simp only [tb] at ct
      rw [ct]; simp; omega
  · have ct : tb v (many - 1) = false := by rw [← top]; rw [Bool.eq_false_iff]; intro h; exact c (bit31.1 h)
    have w1 : wrap32 (x : Int) = (x : Int) := by unfold wrap32; omega
    rw [w1, mod_small hb.1 hb.2]
    refine eq_W hb.1 hb.2 fun i hi hi' => ?_
    have t := tb_shr (x := x) (k := n) (i := i) x0 (by omega) hi
    rw [Int.toNat_natCast] at t
    rw [t]
    by_cases ci : i < many
    · rw [if_pos ci, xb (i + n) (by omega) (by omega), show i + (n : Int) - n = i by omega]
    · rw [if_neg ci, ct, tb_high x1 (by omega)]

theorem part_eq {a b p : Int} (ha : 0 ≤ a) (ha' : a < 4294967296) (hb : 0 ≤ b) (hb' : b < 4294967296) (hp : 0 ≤ p) (hp' : p < 4294967296) :
    bits .or .u32 (bits .andNot .u32 a p) (bits .and .u32 b p) = part a b p := by
  have n0 := rng_andNot ha ha' hp hp'
  have n1 := rng_and hb hb' hp hp'
  refine eq_W (rng_or n0.1 n0.2 n1.1 n1.2).1 (rng_or n0.1 n0.2 n1.1 n1.2).2 fun i _ _ => ?_
  rw [tb_or n0.1 n0.2 n1.1 n1.2, tb_andNot ha ha' hp hp', tb_and hb hb' hp hp']
  cases tb p i <;> simp

/-- The number by which RotateLeft32 turns. -/
theorem and31 (k : Int) : bits .and .u64 (IntKind.u64.wrap k) 31 = k % 32 := by
  rw [IntKind.wrap_u64]
  have h0 := Int.emod_nonneg k (by decide : (18446744073709551616 : Int) ≠ 0)
  have h1 := Int.emod_lt_of_pos k (by decide : (0 : Int) < 18446744073709551616)
  have h2 : k % 18446744073709551616 % 32 = k % 32 := Int.emod_emod_of_dvd _ (by decide : (32 : Int) ∣ 18446744073709551616)
  rw [← h2]
  generalize k % 18446744073709551616 = y at *
  rw [u64_and y 31 h0 h1 (by decide) (by decide)]
  have : (31 : Int).toNat = 2 ^ 5 - 1 := rfl
  rw [this, Nat.and_two_pow_sub_one_eq_mod]; omega

theorem turn_mod {w a b : Int} (h : a % 32 = b % 32) : turn w a = turn w b := by
  unfold turn
  apply W_congr
  intro i _ _
  congr 1; omega
theorem turn_tmod (w by_ : Int) : turn w (by_.tmod 32) = turn w by_ := turn_mod (by have := Int.tmod_def by_ 32; omega)

theorem turn_eq {w by_ : Int} (hw : 0 ≤ w) (hw' : w < 4294967296) :
    bits .or .u32 (IntKind.u32.wrap (w * 2 ^ (by_ % 32).toNat)) (w / 2 ^ (32 - by_ % 32).toNat) = turn w by_ := by
  have s0 := Int.emod_nonneg by_ (by decide : (32 : Int) ≠ 0)
  have s1 := Int.emod_lt_of_pos by_ (by decide : (0 : Int) < 32)
  have x0 : 0 ≤ IntKind.u32.wrap (w * 2 ^ (by_ % 32).toNat) := by rw [IntKind.wrap_u32']; exact Int.emod_nonneg _ (by decide)
  have x1 : IntKind.u32.wrap (w * 2 ^ (by_ % 32).toNat) < 4294967296 := by rw [IntKind.wrap_u32']; exact Int.emod_lt_of_pos _ (by decide)
  have b1 := rng_shr (32 - by_ % 32).toNat hw hw'
  refine eq_W (rng_or x0 x1 b1.1 b1.2).1 (rng_or x0 x1 b1.1 b1.2).2 fun i hi hi' => ?_
  rw [tb_or x0 x1 b1.1 b1.2, tb_shl32 hw s0 hi hi', tb_shr hw (by omega) hi]
  by_cases c : by_ % 32 ≤ i
  · rw [tb_high hw' (show 32 ≤ i + (32 - by_ % 32) by omega), Bool.or_false]
    congr 1; omega
  · rw [tb_neg (show i - by_ % 32 < 0 by omega), Bool.false_or]
    congr 1; omega

theorem fl1 {x at_ many : Int} (hx : 0 ≤ x) (hx' : x < 4294967296) (h : at_ < -40) : bits .and .u64 (IntKind.u64.wrap (x * 1099511627776)) (mask many) % 4294967296 = field x at_ many := by
  have := field_left (many := many) (k := 40) hx hx' (by decide) (.inr ⟨by decide, by omega⟩ : (40 : Int) = -at_ ∨ (32 : Int) ≤ 40 ∧ at_ ≤ -32)
  rw [wrap_u64_id hx (by omega)] at this
  exact this
theorem fl2 {x at_ many : Int} (hx : 0 ≤ x) (hx' : x < 4294967296) (h : at_ < 0) : bits .and .u64 (IntKind.u64.wrap (x * 2 ^ (-at_).toNat)) (mask many) % 4294967296 = field x at_ many := by
  have := field_left (many := many) (k := -at_) hx hx' (by omega) (.inl rfl)
  rw [wrap_u64_id hx (by omega)] at this
  exact this
theorem fl3 {x at_ many : Int} (hx : 0 ≤ x) (hx' : x < 4294967296) (h : 40 < at_) : bits .and .u64 (x / 1099511627776) (mask many) % 4294967296 = field x at_ many := by
  have := field_right (many := many) (k := 40) hx hx' (by decide) (.inr ⟨by decide, by omega⟩ : (40 : Int) = at_ ∨ (32 : Int) ≤ 40 ∧ 32 ≤ at_)
  rw [wrap_u64_id hx (by omega)] at this
  exact this
theorem fl4 {x at_ many : Int} (hx : 0 ≤ x) (hx' : x < 4294967296) (h : 0 ≤ at_) : bits .and .u64 (x / 2 ^ at_.toNat) (mask many) % 4294967296 = field x at_ many := by
  have := field_right (many := many) (k := at_) hx hx' h (.inl rfl)
  rw [wrap_u64_id hx (by omega)] at this
  exact this
theorem pl1 {x at_ many : Int} (hx : 0 ≤ x) (hx' : x < 4294967296) {v : Int} (hv : 0 ≤ v) (hv' : v < 4294967296) (h : at_ < -40) : bits .or .u32 (bits .andNot .u32 x (mask many / 1099511627776 % 4294967296)) (bits .and .u64 v (mask many) / 1099511627776 % 4294967296) = put x at_ many v := by
  have := put_right (many := many) (k := 40) hx hx' hv hv' (by decide) (.inr ⟨by decide, by omega⟩ : (40 : Int) = -at_ ∨ (32 : Int) ≤ 40 ∧ at_ ≤ -32)
  rw [wrap_u64_id hv (by omega)] at this
  exact this
theorem pl2 {x at_ many : Int} (hx : 0 ≤ x) (hx' : x < 4294967296) {v : Int} (hv : 0 ≤ v) (hv' : v < 4294967296) (h : at_ < 0) : bits .or .u32 (bits .andNot .u32 x (mask many / 2 ^ (-at_).toNat % 4294967296)) (bits .and .u64 v (mask many) / 2 ^ (-at_).toNat % 4294967296) = put x at_ many v := by
  have := put_right (many := many) (k := -at_) hx hx' hv hv' (by omega) (.inl rfl)
  rw [wrap_u64_id hv (by omega)] at this
  exact this
theorem pl3 {x at_ many : Int} (hx : 0 ≤ x) (hx' : x < 4294967296) {v : Int} (hv : 0 ≤ v) (hv' : v < 4294967296) (h : 40 < at_) : bits .or .u32 (bits .andNot .u32 x (IntKind.u64.wrap (mask many * 1099511627776) % 4294967296)) (IntKind.u64.wrap (bits .and .u64 v (mask many) * 1099511627776) % 4294967296) = put x at_ many v := by
  have := put_left (many := many) (k := 40) hx hx' hv hv' (by decide) (.inr ⟨by decide, by omega⟩ : (40 : Int) = at_ ∨ (32 : Int) ≤ 40 ∧ 32 ≤ at_)
  rw [wrap_u64_id hv (by omega)] at this
  exact this
theorem pl4 {x at_ many : Int} (hx : 0 ≤ x) (hx' : x < 4294967296) {v : Int} (hv : 0 ≤ v) (hv' : v < 4294967296) (h : 0 ≤ at_) : bits .or .u32 (bits .andNot .u32 x (IntKind.u64.wrap (mask many * 2 ^ at_.toNat) % 4294967296)) (IntKind.u64.wrap (bits .and .u64 v (mask many) * 2 ^ at_.toNat) % 4294967296) = put x at_ many v := by
  have := put_left (many := many) (k := at_) hx hx' hv hv' h (.inl rfl)
  rw [wrap_u64_id hv (by omega)] at this
  exact this
theorem u32_wrap (x : Int) : IntKind.u32.wrap x = x % 4294967296 := IntKind.wrap_u32' x
theorem turn_fin {x : Int} (hx : 0 ≤ x) (hx' : x < 4294967296) (k : Int) : bits .or .u32 (x * 2 ^ (bits .and .u64 (IntKind.u64.wrap k) 31).toNat % 4294967296) (x / 2 ^ (32 - bits .and .u64 (IntKind.u64.wrap k) 31).toNat) = turn x k := by
  rw [and31, ← u32_wrap]
  exact turn_eq hx hx'
theorem sign_fin {x many : Int} (hx : 0 ≤ x) (hx' : x < 4294967296) (h : 1 ≤ many) (h' : many ≤ 31) : wrap32 (x * 2 ^ (32 - many).toNat % 4294967296) / 2 ^ (32 - many).toNat % 4294967296 = sign x many := by
  rw [← sign_eq hx hx' h h', IntKind.wrap_u32']

/-! ### the reference: a word set bit by bit -/
def bitv (w i : Int) : Int := if tb w i then 1 else 0
def setb (w i b : Int) : Int := W fun j => if j = i then decide (b = 1) else tb w j
theorem bitv_01 (w i : Int) : bitv w i = 0 ∨ bitv w i = 1 := by unfold bitv; split <;> simp
theorem bitv_rng (w i : Int) : 0 ≤ bitv w i ∧ bitv w i ≤ 1 := by rcases bitv_01 w i with h | h <;> omega
theorem bitv_one (w i : Int) : decide (bitv w i = 1) = tb w i := by unfold bitv; cases tb w i <;> simp
theorem power_step {k : Nat} (h : k < 31) : (2 : Int) ^ k * 2 % 4294967296 = 2 ^ (k + 1) := by
  have p : (2 : Nat) ^ (k + 1) < 2 ^ 32 := Nat.pow_lt_pow_right (by decide) (by omega)
  have e : (2 : Int) ^ k * 2 = ((2 ^ (k + 1) : Nat) : Int) := by rw [Nat.pow_succ]; simp
  have e' : (2 : Int) ^ (k + 1) = ((2 ^ (k + 1) : Nat) : Int) := by simp
  rw [e, e']
  generalize 2 ^ (k + 1) = q at *
  omega
theorem power_rng {k : Nat} (h : k ≤ 31) : 1 ≤ (2 : Int) ^ k ∧ (2 : Int) ^ k ≤ 2147483648 := by
  have p : (2 : Nat) ^ k ≤ 2 ^ 31 := Nat.pow_le_pow_right (by decide) h
  have q := Nat.two_pow_pos k
  have e : (2 : Int) ^ k = ((2 ^ k : Nat) : Int) := by simp
  rw [e]; omega
theorem bit_low {w i : Int} (h : i < 0) : (0 : Int) = bitv w i := by unfold bitv; rw [tb_neg h]; rfl
theorem bit_high {w i : Int} (hw : w < 4294967296) (h : 31 < i) : (0 : Int) = bitv w i := by unfold bitv; rw [tb_high hw (by omega)]; rfl
theorem bit_mid {w i : Int} (hw : 0 ≤ w) (h : 0 ≤ i) : w / 2 ^ i.toNat % 2 = bitv w i := by
  obtain ⟨w, rfl⟩ := Int.eq_ofNat_of_zero_le hw
  obtain ⟨i, rfl⟩ := Int.eq_ofNat_of_zero_le h
  have e : (w : Int) / 2 ^ (i : Int).toNat % 2 = ((w / 2 ^ i % 2 : Nat) : Int) := by simp
  rw [e]
  unfold bitv tb
  simp only [Int.toNat_natCast, Nat.testBit_eq_decide_div_mod_eq]
  have := Nat.mod_lt (w / 2 ^ i) (by decide : 2 > 0)
  generalize w / 2 ^ i % 2 = r at *
  have : r = 0 ∨ r = 1 := by omega
  rcases this with rfl | rfl <;> simp
theorem set_out {w i b : Int} (hw : 0 ≤ w) (hw' : w < 4294967296) (h : i < 0 ∨ 31 < i) : w = setb w i b :=
  eq_W hw hw' fun j hj hj' => by rw [if_neg (by omega)]

theorem set_eq (w p b : Nat) : w - (w / 2 ^ p % 2) * 2 ^ p + b * 2 ^ p = 2 ^ p * (2 * (w / 2 ^ p / 2) + b) + w % 2 ^ p := by
  have h1 := Nat.div_add_mod w (2 ^ p)
  have h2 := Nat.div_add_mod (w / 2 ^ p) 2
  generalize w / 2 ^ p = q at *
  generalize w % 2 ^ p = l at *
  generalize q % 2 = r at *
  generalize q / 2 = t at *
  subst h2
  have : 2 ^ p * (2 * t + r) = 2 ^ p * (2 * t) + r * 2 ^ p := by rw [Nat.mul_add, Nat.mul_comm (2 ^ p) r]
  have h3 : 2 ^ p * (2 * t + b) = 2 ^ p * (2 * t) + b * 2 ^ p := by rw [Nat.mul_add, Nat.mul_comm (2 ^ p) b]
  omega
theorem set_testBit (w p b j : Nat) (hb : b < 2) : (w - (w / 2 ^ p % 2) * 2 ^ p + b * 2 ^ p).testBit j = if j = p then decide (b = 1) else w.testBit j := by
  rw [set_eq, Nat.testBit_two_pow_mul_add _ (Nat.mod_lt _ (Nat.two_pow_pos _))]
  split
  · rename_i h
    rw [if_neg (by omega), Nat.testBit_mod_two_pow]; simp [h]
  · rename_i h
    by_cases e : j = p
    · subst e; simp only [Nat.sub_self, if_true, Nat.testBit_zero]
      have : b = 0 ∨ b = 1 := by omega
      rcases this with rfl | rfl <;> simp <;> omega
    · rw [if_neg e]
      obtain ⟨k, rfl⟩ : ∃ k, j = p + 1 + k := ⟨j - p - 1, by omega⟩
      rw [show p + 1 + k - p = k + 1 from by omega, Nat.testBit_succ, show (2 * (w / 2 ^ p / 2) + b) / 2 = w / 2 ^ p / 2 from by omega, Nat.div_div_eq_div_mul, ← Nat.pow_succ, Nat.testBit_div_two_pow]
      congr 1; omega

/-- What the reference's 'set' reckons. -/
theorem set_in {w i b : Int} (hw : 0 ≤ w) (hw' : w < 4294967296) (h : 0 ≤ i) (h' : i ≤ 31) (hb : 0 ≤ b) (hb' : b ≤ 1) :
    ((w - bitv w i * 2 ^ i.toNat % 4294967296) % 4294967296 + b * 2 ^ i.toNat % 4294967296) % 4294967296 = setb w i b := by
  rw [← bit_mid hw h]
  obtain ⟨w, rfl⟩ := Int.eq_ofNat_of_zero_le hw
  obtain ⟨i, rfl⟩ := Int.eq_ofNat_of_zero_le h
  obtain ⟨b, rfl⟩ := Int.eq_ofNat_of_zero_le hb
  have p31 : (2 : Nat) ^ i ≤ 2 ^ 31 := Nat.pow_le_pow_right (by decide) (by omega)
  have t := set_testBit w i b
  have l1 : w / 2 ^ i % 2 * 2 ^ i ≤ w := by
    have a := Nat.mod_le (w / 2 ^ i) 2
    have c := Nat.mul_le_mul_right (2 ^ i) a
    have d := Nat.div_mul_le_self w (2 ^ i)
    omega
  have l2 : b * 2 ^ i ≤ 2 ^ i := by
    have := Nat.mul_le_mul_right (2 ^ i) (show b ≤ 1 by omega)
    omega
  have l3 : w - w / 2 ^ i % 2 * 2 ^ i + b * 2 ^ i < 2 ^ 32 := by
    apply Nat.lt_pow_two_of_testBit
    intro j hj
    rw [t j (by omega), if_neg (by omega)]
    apply Nat.testBit_lt_two_pow
    have : 2 ^ 32 ≤ 2 ^ j := Nat.pow_le_pow_right (by decide) hj
    omega
  have e1 : ((w : Int) / 2 ^ (i : Int).toNat % 2 * 2 ^ (i : Int).toNat) = ((w / 2 ^ i % 2 * 2 ^ i : Nat) : Int) := by simp
  have e2 : ((b : Int) * 2 ^ (i : Int).toNat) = ((b * 2 ^ i : Nat) : Int) := by simp
  have e3 : (((w : Int) - ((w / 2 ^ i % 2 * 2 ^ i : Nat) : Int) % 4294967296) % 4294967296 + ((b * 2 ^ i : Nat) : Int) % 4294967296) % 4294967296 = ((w - w / 2 ^ i % 2 * 2 ^ i + b * 2 ^ i : Nat) : Int) := by omega
  rw [e1, e2, e3]
  refine eq_W (by omega) (by omega) fun j hj hj' => ?_
  obtain ⟨j, rfl⟩ := Int.eq_ofNat_of_zero_le hj
  simp only [tb, Int.toNat_natCast]
  rw [t j (by omega)]
  by_cases c : j = i
  · subst c; rw [if_pos rfl, if_pos rfl]
    have : ((b : Int) = 1) = (b = 1) := propext (by omega)
    simp [this]
  · rw [if_neg c, if_neg (by omega)]

theorem set_fin {w i b : Int} (hw : 0 ≤ w) (hw' : w < 4294967296) (h : 0 ≤ i) (h' : i ≤ 31) (hb : 0 ≤ b) (hb' : b ≤ 1) :
    ((w - bitv w i * 2 ^ i.toNat) % 4294967296 + b * 2 ^ i.toNat % 4294967296) % 4294967296 = setb w i b := by
  rw [← set_in hw hw' h h' hb hb', Int.sub_emod_emod]

theorem wrap64_add {a : Int} {k : Nat} (h : -9223372036854775808 ≤ a) (h' : a + k < 1000) : wrap64 (a + k) = a + k := by unfold wrap64; omega

/-! the loops of the reference, a round -/
theorem setb_rng (w i b : Int) : 0 ≤ setb w i b ∧ setb w i b < 4294967296 := ⟨W_nonneg _, W_lt _⟩
def fieldN (k : Nat) (w at_ : Int) : Int := W fun j => decide (j < k) && tb w (at_ + j)
theorem fieldN_rng (k : Nat) (w at_ : Int) : 0 ≤ fieldN k w at_ ∧ fieldN k w at_ < 4294967296 := ⟨W_nonneg _, W_lt _⟩
theorem fieldN_zero (w at_ : Int) : fieldN 0 w at_ = 0 := ext (W_nonneg _) (W_lt _) (by decide) (by decide) fun i hi _ => by unfold fieldN; rw [tb_W, tb_zero]; simp; try omega
theorem fieldN_succ (k : Nat) (w at_ : Int) : setb (fieldN k w at_) k (bitv w (at_ + k)) = fieldN (k + 1) w at_ := by
  apply W_congr
  intro j hj hj'
  unfold fieldN
  rw [bitv_one, tb_W]
  by_cases c : j = k
  · subst c; rw [if_pos rfl, decide_eq_true (show (k : Int) < ((k + 1 : Nat) : Int) by omega)]; simp
  · rw [if_neg c]
    have e : decide (j < ((k + 1 : Nat) : Int)) = decide (j < (k : Int)) := by simp; omega
    rw [e]; simp [hj, hj']
theorem fieldN_end {k : Nat} {w at_ many : Int} (h : (k : Int) = many ∨ (many < 0 ∧ k = 0) ∨ (k = 32 ∧ 32 ≤ many)) : fieldN k w at_ = field w at_ many := by
  apply W_congr
  intro j hj hj'
  congr 1; simp; omega
theorem field_far {w at_ many : Int} (hw : w < 4294967296) (h : 32 ≤ at_) : (0 : Int) = field w at_ many :=
  eq_W (by decide) (by decide) fun i hi hi' => by rw [tb_zero, tb_high hw (by omega)]; simp
def putN (k : Nat) (w at_ v : Int) : Int := W fun j => if at_ ≤ j ∧ j < at_ + k then tb v (j - at_) else tb w j
theorem putN_rng (k : Nat) (w at_ v : Int) : 0 ≤ putN k w at_ v ∧ putN k w at_ v < 4294967296 := ⟨W_nonneg _, W_lt _⟩
theorem putN_zero {w at_ v : Int} (hw : 0 ≤ w) (hw' : w < 4294967296) : putN 0 w at_ v = w := (eq_W hw hw' fun j _ _ => by rw [if_neg (by omega)]).symm
theorem putN_succ (k : Nat) (w at_ v : Int) : setb (putN k w at_ v) (at_ + k) (bitv v k) = putN (k + 1) w at_ v := by
  apply W_congr
  intro j hj hj'
  unfold putN
  rw [bitv_one, tb_W]
  by_cases c : j = at_ + k
  · subst c; rw [if_pos rfl, if_pos (by omega)]; congr 1; omega
  · rw [if_neg c]
    by_cases d : at_ ≤ j ∧ j < at_ + k
    · rw [if_pos d, if_pos (by omega)]; simp [hj, hj']
    · rw [if_neg d, if_neg (by omega)]; simp [hj, hj']
theorem putN_end {k : Nat} {w at_ many v : Int} (h : (k : Int) = many ∨ (many < 0 ∧ k = 0) ∨ (k = 32 ∧ 32 ≤ many)) (hk : k ≤ 32) : putN k w at_ v = put w at_ many v := by
  apply W_congr
  intro j hj hj'
  have : (at_ ≤ j ∧ j < at_ + k) ↔ (at_ ≤ j ∧ j < at_ + many ∧ j < at_ + 32) := by omega
  simp only [this]
theorem put_far {w at_ many v : Int} (hw : 0 ≤ w) (hw' : w < 4294967296) (h : 32 ≤ at_) : w = put w at_ many v :=
  eq_W hw hw' fun i hi hi' => by rw [if_neg (by omega)]
def signN (k : Nat) (v many : Int) : Int := W fun j => if j < many then tb v j else if j < k then tb v (many - 1) else tb v j
theorem signN_rng (k : Nat) (v many : Int) : 0 ≤ signN k v many ∧ signN k v many < 4294967296 := ⟨W_nonneg _, W_lt _⟩
theorem signN_start {v many : Int} (hv : 0 ≤ v) (hv' : v < 4294967296) (_h : 0 ≤ many) : signN many.toNat v many = v := by
  refine (eq_W hv hv' fun j _ _ => ?_).symm
  by_cases c : j < many
  · rw [if_pos c]
  · rw [if_neg c, if_neg (by omega)]
theorem signN_start' {v : Int} {m : Nat} (hv : 0 ≤ v) (hv' : v < 4294967296) : signN m v m = v := signN_start (many := m) hv hv' (Int.natCast_nonneg m)
theorem signN_bit {k : Nat} {v many : Int} (_h : 1 ≤ many) (_h' : many ≤ 31) : bitv (signN k v many) (many - 1) = bitv v (many - 1) := by
  unfold bitv signN; rw [tb_W, if_pos (show many - 1 < many by omega), decide_eq_true (show 0 ≤ many - 1 by omega), decide_eq_true (show many - 1 < 32 by omega)]; simp
theorem signN_succ {k : Nat} {v many : Int} (h : 1 ≤ many) (h' : many ≤ 31) (hk : many ≤ k) : setb (signN k v many) k (bitv (signN k v many) (many - 1)) = signN (k + 1) v many := by
  rw [signN_bit h h']
  apply W_congr
  intro j hj hj'
  rw [bitv_one]
  unfold signN
  rw [tb_W]
  by_cases c : j = k
  · subst c; rw [if_pos rfl, if_neg (by omega), if_pos (by omega)]
  · rw [if_neg c]
    by_cases d : j < many
    · rw [if_pos d, if_pos d]; simp [hj, hj']
    · rw [if_neg d, if_neg d]
      by_cases e : j < k
      · rw [if_pos e, if_pos (by omega)]; simp [hj, hj']
      · rw [if_neg e, if_neg (by omega)]; simp [hj, hj']
theorem signN_end {v many : Int} (h : 1 ≤ many) (h' : many ≤ 31) : signN 32 v many = sign v many := by
  unfold sign; rw [if_neg (by omega)]
  apply W_congr
  intro j hj hj'
  by_cases d : j < many
  · rw [if_pos d, if_pos d]
  · rw [if_neg d, if_neg d, if_pos (by omega)]
def partN (k : Nat) (a b p : Int) : Int := W fun j => if j < k ∧ tb p j = true then tb b j else tb a j
theorem partN_rng (k : Nat) (a b p : Int) : 0 ≤ partN k a b p ∧ partN k a b p < 4294967296 := ⟨W_nonneg _, W_lt _⟩
theorem partN_zero {a b p : Int} (ha : 0 ≤ a) (ha' : a < 4294967296) : partN 0 a b p = a := (eq_W ha ha' fun j _ _ => by rw [if_neg (by omega)]).symm
theorem partN_yes {k : Nat} {a b p : Int} (h : tb p k = true) : setb (partN k a b p) k (bitv b k) = partN (k + 1) a b p := by
  apply W_congr
  intro j hj hj'
  rw [bitv_one]
  unfold partN
  rw [tb_W]
  by_cases c : j = k
  · subst c; rw [if_pos rfl, if_pos ⟨by omega, h⟩]
  · rw [if_neg c]
    by_cases d : j < k ∧ tb p j = true
    · rw [if_pos d, if_pos ⟨by omega, d.2⟩]; simp [hj, hj']
    · rw [if_neg d, if_neg (fun e => d ⟨by omega, e.2⟩)]; simp [hj, hj']
theorem partN_no {k : Nat} {a b p : Int} (h : tb p k = false) : partN k a b p = partN (k + 1) a b p := by
  apply W_congr
  intro j hj hj'
  by_cases c : j = k
  · subst c; rw [if_neg (by simp [h]), if_neg (by simp [h])]
  · have : (j < (k : Int) ∧ tb p j = true) ↔ (j < ((k + 1 : Nat) : Int) ∧ tb p j = true) := by
      constructor <;> rintro ⟨x, y⟩ <;> exact ⟨by omega, y⟩
    simp only [this]
theorem partN_end (a b p : Int) : partN 32 a b p = part a b p := by
  apply W_congr
  intro j hj hj'
  have : (j < ((32 : Nat) : Int) ∧ tb p j = true) ↔ tb p j = true := ⟨fun h => h.2, fun h => ⟨by omega, h⟩⟩
  simp only [this]
theorem tmod32 (n : Int) : -31 ≤ n.tmod 32 ∧ n.tmod 32 ≤ 31 := by
  have h : (n.tmod 32).natAbs = n.natAbs % 32 := Int.natAbs_tmod n 32
  have := Nat.mod_lt n.natAbs (by decide : 32 > 0)
  omega
def turnN (k : Nat) (w s : Int) : Int := W fun j => decide ((j - s) % 32 < k) && tb w ((j - s) % 32)
theorem turnN_rng (k : Nat) (w s : Int) : 0 ≤ turnN k w s ∧ turnN k w s < 4294967296 := ⟨W_nonneg _, W_lt _⟩
theorem turnN_zero (w s : Int) : turnN 0 w s = 0 := ext (W_nonneg _) (W_lt _) (by decide) (by decide) fun i hi _ => by unfold turnN; rw [tb_W, tb_zero]; simp; omega
theorem turnN_succ {k : Nat} (w s : Int) (hk : k < 32) : setb (turnN k w s) ((k + s) % 32) (bitv w k) = turnN (k + 1) w s := by
  apply W_congr
  intro j hj hj'
  rw [bitv_one]
  unfold turnN
  rw [tb_W]
  by_cases c : j = (k + s) % 32
  · rw [if_pos c]
    have : (j - s) % 32 = k := by omega
    rw [this, decide_eq_true (show (k : Int) < ((k + 1 : Nat) : Int) by omega)]; simp
  · rw [if_neg c]
    have : decide ((j - s) % 32 < ((k + 1 : Nat) : Int)) = decide ((j - s) % 32 < (k : Int)) := by simp; omega
    rw [this]; simp [hj, hj']
theorem turnN_end (w s : Int) : turnN 32 w s = turn w s := by
  apply W_congr
  intro j hj hj'
  have : (j - s) % 32 < ((32 : Nat) : Int) := by omega
  rw [decide_eq_true this]; simp

end Go.Proofs.Ytfghlfolejpjjaa.Bt

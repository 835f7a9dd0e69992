/- What two numbers of 32 bits come to, by name. Plain law: no program. -/
import Derived.Test.YtjecffjiaappoaaBt
import Derived.Test.YtjecffjiaappoaaBtLaws
namespace Go.Proofs.Ytjecffjiaappoaa.Al
open Go.RowKit

def add (a b : Int) : Int := (a + b) % 4294967296
def sub (a b : Int) : Int := (a - b) % 4294967296
def sll (a b : Int) : Int := a * 2 ^ (b % 32).toNat % 4294967296
def srl (a b : Int) : Int := a / 2 ^ (b % 32).toNat
def sra (a b : Int) : Int := wrap32 a / 2 ^ (b % 32).toNat % 4294967296
def slt (a b : Int) : Int := if wrap32 a < wrap32 b then 1 else 0
def sltu (a b : Int) : Int := if a < b then 1 else 0
def xor (a b : Int) : Int := bits .xor .u32 a b
def or (a b : Int) : Int := bits .or .u32 a b
def and (a b : Int) : Int := bits .and .u32 a b
def mul (a b : Int) : Int := a * b % 4294967296
def mulh (a b : Int) : Int := wrap32 a * wrap32 b / 4294967296 % 4294967296
def mulhsu (a b : Int) : Int := wrap32 a * b / 4294967296 % 4294967296
def mulhu (a b : Int) : Int := a * b / 4294967296
def div (a b : Int) : Int := if b = 0 then 4294967295 else (wrap32 a).tdiv (wrap32 b) % 4294967296
def divu (a b : Int) : Int := if b = 0 then 4294967295 else a / b
def rem (a b : Int) : Int := if b = 0 then a else (wrap32 a).tmod (wrap32 b) % 4294967296
def remu (a b : Int) : Int := if b = 0 then a else a % b

theorem and31 {b : Int} (h : 0 ≤ b) (h' : b < 4294967296) : bits .and .u32 b 31 = b % 32 := by
  rw [u32_and b 31 h h' (by decide) (by decide)]
  have : (31 : Int).toNat = 2 ^ 5 - 1 := rfl
  rw [this, Nat.and_two_pow_sub_one_eq_mod]; omega
theorem and31_rng {b : Int} (h : 0 ≤ b) (h' : b < 4294967296) : 0 ≤ bits .and .u32 b 31 ∧ bits .and .u32 b 31 ≤ 31 := by rw [and31 h h']; omega

/-- A product of two numbers of 32 bits. -/
theorem mul_rng {a b : Int} (ha : 0 ≤ a) (ha' : a < 4294967296) (hb : 0 ≤ b) (hb' : b < 4294967296) : 0 ≤ a * b ∧ a * b ≤ 18446744065119617025 := by
  refine ⟨Int.mul_nonneg ha hb, ?_⟩
  have h1 : a * b ≤ 4294967295 * b := Int.mul_le_mul_of_nonneg_right (by omega) hb
  omega
theorem wrap32_cases {a : Int} (ha : 0 ≤ a) (ha' : a < 4294967296) : (a < 2147483648 ∧ wrap32 a = a) ∨ (2147483648 ≤ a ∧ wrap32 a = a - 4294967296) := by unfold wrap32; omega
theorem abs_mul_le {x y : Int} {m n : Nat} (hx : -(m : Int) ≤ x ∧ x ≤ m) (hy : -(n : Int) ≤ y ∧ y ≤ n) : -((m * n : Nat) : Int) ≤ x * y ∧ x * y ≤ ((m * n : Nat) : Int) := by
  have h1 : (x * y).natAbs ≤ m * n := by rw [Int.natAbs_mul]; exact Nat.mul_le_mul (by omega) (by omega)
  omega
theorem wrap64_id {x : Int} (h : -9223372036854775808 ≤ x) (h' : x ≤ 9223372036854775807) : wrap64 x = x := by unfold wrap64; omega
theorem mulh_fin (a b : Int) : wrap64 (wrap64 (wrap32 a) * wrap64 (wrap32 b)) / 4294967296 % 4294967296 = mulh a b := by
  have ha := Bt.wrap32_rng a
  have hb := Bt.wrap32_rng b
  unfold mulh
  rw [wrap64_id (x := wrap32 a) (by omega) (by omega), wrap64_id (x := wrap32 b) (by omega) (by omega)]
  have h := abs_mul_le (m := 2147483648) (n := 2147483648) (x := wrap32 a) (y := wrap32 b) ⟨by omega, by omega⟩ ⟨by omega, by omega⟩
  rw [wrap64_id (by omega) (by omega)]
theorem mulhsu_fin {a b : Int} (hb : 0 ≤ b) (hb' : b < 4294967296) : wrap64 (wrap64 (wrap32 a) * b) / 4294967296 % 4294967296 = mulhsu a b := by
  have ha := Bt.wrap32_rng a
  unfold mulhsu
  rw [wrap64_id (x := wrap32 a) (by omega) (by omega)]
  have h := abs_mul_le (m := 2147483648) (n := 4294967295) (x := wrap32 a) (y := b) ⟨by omega, by omega⟩ ⟨by omega, by omega⟩
  rw [wrap64_id (by omega) (by omega)]
theorem div_zero (a : Int) : (4294967295 : Int) = div a 0 := rfl
theorem divu_zero (a : Int) : (4294967295 : Int) = divu a 0 := rfl
theorem rem_zero (a : Int) : a = rem a 0 := rfl
theorem remu_zero (a : Int) : a = remu a 0 := rfl
theorem div_32 {a b : Int} (h : ¬ b = 0) : wrap32 ((wrap32 a).tdiv (wrap32 b)) % 4294967296 = div a b := by
  unfold div; rw [if_neg h]; generalize (wrap32 a).tdiv (wrap32 b) = x; unfold wrap32; omega
theorem div_64 {a b : Int} (h : ¬ b = 0) : wrap64 ((wrap32 a).tdiv (wrap32 b)) % 4294967296 = div a b := by
  unfold div; rw [if_neg h]; generalize (wrap32 a).tdiv (wrap32 b) = x; unfold wrap64; omega
theorem rem_fin {a b : Int} (h : ¬ b = 0) : (wrap32 a).tmod (wrap32 b) % 4294967296 = rem a b := by unfold rem; rw [if_neg h]
theorem divu_fin {a b : Int} (h : ¬ b = 0) : a / b = divu a b := by unfold divu; rw [if_neg h]
theorem remu_fin {a b : Int} (h : ¬ b = 0) : a % b = remu a b := by unfold remu; rw [if_neg h]
theorem div_le {a b : Int} (ha : 0 ≤ a) (hb : 0 ≤ b) : 0 ≤ a / b ∧ a / b ≤ a := ⟨Int.ediv_nonneg ha hb, Int.ediv_le_self b ha⟩
theorem divu_mod {a b : Int} (ha : 0 ≤ a) (ha' : a < 4294967296) (hb : 0 ≤ b) (h : ¬ b = 0) : a / b % 4294967296 = divu a b := by
  rw [← divu_fin h]
  have := div_le ha hb
  exact Int.emod_eq_of_lt this.1 (by omega)
theorem remu_mod {a b : Int} (hb : 0 ≤ b) (hb' : b < 4294967296) (h : ¬ b = 0) : a % b % 4294967296 = remu a b := by
  rw [← remu_fin h]
  have h1 := Int.emod_nonneg a h
  have h2 := Int.emod_lt_of_pos a (show 0 < b by omega)
  exact Int.emod_eq_of_lt h1 (by omega)

theorem high0 {a b : Int} : a * b / 4294967296 = mulhu a b := rfl
theorem sub_mul_m (a b : Int) : (a - 4294967296) * b = a * b - 4294967296 * b := Int.sub_mul ..
theorem sub_sub_mul (a b : Int) : (a - 4294967296) * (b - 4294967296) = a * b - 4294967296 * a - 4294967296 * b + 18446744073709551616 := by
  rw [Int.sub_mul, Int.mul_sub, Int.mul_sub]; omega
theorem high1 {a b : Int} (h : 2147483648 ≤ a) (h' : a < 4294967296) : (a * b / 4294967296 - b) % 4294967296 = mulhsu a b := by
  unfold mulhsu
  rw [show wrap32 a = a - 4294967296 by unfold wrap32; omega, sub_mul_m]
  generalize a * b = p; omega
theorem high1' {a b : Int} (h : a < 2147483648) (ha : 0 ≤ a) (hb : 0 ≤ b) (hb' : b < 4294967296) : a * b / 4294967296 = mulhsu a b := by
  have m := mul_rng ha (by omega) hb hb'
  unfold mulhsu
  rw [show wrap32 a = a by unfold wrap32; omega]
  generalize a * b = p at *; omega
theorem high2 {a b : Int} (h : 2147483648 ≤ a) (h' : a < 4294967296) (k : 2147483648 ≤ b) (k' : b < 4294967296) : ((a * b / 4294967296 - b) % 4294967296 - a) % 4294967296 = mulh a b := by
  unfold mulh
  rw [show wrap32 a = a - 4294967296 by unfold wrap32; omega, show wrap32 b = b - 4294967296 by unfold wrap32; omega, sub_sub_mul]
  generalize a * b = p; omega
theorem high2a {a b : Int} (h : 2147483648 ≤ a) (h' : a < 4294967296) (k : b < 2147483648) (k' : 0 ≤ b) : (a * b / 4294967296 - b) % 4294967296 = mulh a b := by
  unfold mulh
  rw [show wrap32 a = a - 4294967296 by unfold wrap32; omega, show wrap32 b = b by unfold wrap32; omega, sub_mul_m]
  generalize a * b = p; omega
theorem high2b {a b : Int} (h : a < 2147483648) (h' : 0 ≤ a) (k : 2147483648 ≤ b) (k' : b < 4294967296) : (a * b / 4294967296 - a) % 4294967296 = mulh a b := by
  unfold mulh
  rw [show wrap32 a = a by unfold wrap32; omega, show wrap32 b = b - 4294967296 by unfold wrap32; omega, Int.mul_sub]
  generalize a * b = p; omega
theorem high2c {a b : Int} (h : a < 2147483648) (h' : 0 ≤ a) (k : b < 2147483648) (k' : 0 ≤ b) : a * b / 4294967296 = mulh a b := by
  have m := mul_rng h' (by omega) k' (by omega)
  unfold mulh
  rw [show wrap32 a = a by unfold wrap32; omega, show wrap32 b = b by unfold wrap32; omega]
  generalize a * b = p at *; omega

theorem sub_div (x : Int) {n : Nat} (hn : n ≤ 32) : (x - 4294967296) / 2 ^ n = x / 2 ^ n - 2 ^ (32 - n) := by
  have p2 : (2 : Int) ^ n * 2 ^ (32 - n) = 4294967296 := by rw [← Int.pow_add, show n + (32 - n) = 32 by omega]; decide
  rw [← p2, Int.sub_mul_ediv_left]
  exact Int.ne_of_gt (Int.pow_pos (by decide))

theorem sra_core {a c : Int} {n : Nat} (hn : n ≤ 32) (hc : 0 ≤ c) (hc' : c ≤ a) (ge : 2147483648 ≤ a → 2147483648 ≤ c) (back : c / 2 ^ n = a / 2 ^ n) (ha' : a < 4294967296) :
    wrap32 a / 2 ^ n % 4294967296 = wrap32 c / 2 ^ n % 4294967296 := by
  by_cases c2 : 2147483648 ≤ a
  · have g := ge c2
    have w1 : wrap32 a = a - 4294967296 := by clear back; unfold wrap32; omega
    have w2 : wrap32 c = c - 4294967296 := by clear back; unfold wrap32; omega
    rw [w1, w2, sub_div _ hn, sub_div _ hn, back]
  · have w1 : wrap32 a = a := by clear back; unfold wrap32; omega
    have w2 : wrap32 c = c := by clear back; unfold wrap32; omega
    rw [w1, w2, back]

/-- A shift to the right with its sign, by a field's sign. -/
theorem sra_sign {a b : Int} (ha : 0 ≤ a) (ha' : a < 4294967296) : Bt.sign (a / 2 ^ (b % 32).toNat) (32 - b % 32) = sra a b := by
  obtain ⟨n, hn⟩ : ∃ n : Nat, b % 32 = n := ⟨(b % 32).toNat, by omega⟩
  have hn' : n < 32 := by omega
  unfold sra
  rw [hn, Int.toNat_natCast]
  obtain ⟨q0, q1⟩ := Bt.rng_shr n ha ha'
  by_cases c : n = 0
  · subst c
    unfold Bt.sign
    rw [if_pos (by omega)]
    unfold wrap32; simp; omega
  · have e := Bt.sign_eq (v := a / 2 ^ n) (many := 32 - (n : Int)) q0 q1 (by omega) (by omega)
    rw [show 32 - (32 - (n : Int)) = n by omega, Int.toNat_natCast] at e
    rw [← e, IntKind.wrap_u32']
    obtain ⟨a, rfl⟩ := Int.eq_ofNat_of_zero_le ha
    have ee : ((a : Int) / 2 ^ n) = ((a / 2 ^ n : Nat) : Int) := by simp
    have ep : ((2 : Int) ^ n) = ((2 ^ n : Nat) : Int) := by simp
    have pp : 2 ^ n * 2 ^ (32 - n) = 4294967296 := by rw [← Nat.pow_add, show n + (32 - n) = 32 by omega]
    have p31 : 2 ^ n * 2 ^ (31 - n) = 2147483648 := by rw [← Nat.pow_add, show n + (31 - n) = 31 by omega]
    have d := Nat.div_add_mod a (2 ^ n)
    have m := Nat.mod_lt a (Nat.two_pow_pos n)
    have pos := Nat.two_pow_pos n
    have le : a / 2 ^ n * 2 ^ n ≤ a := Nat.div_mul_le_self a (2 ^ n)
    have em : ((a : Int) / 2 ^ n * 2 ^ n) % 4294967296 = ((a / 2 ^ n * 2 ^ n : Nat) : Int) := by
      rw [ee, ep, ← Int.natCast_mul]
      exact Int.emod_eq_of_lt (Int.natCast_nonneg _) (Int.lt_of_le_of_lt (Int.ofNat_le.2 le) ha')
    rw [em]
    have ge : 2147483648 ≤ a → 2147483648 ≤ a / 2 ^ n * 2 ^ n := fun h => by
      have h1 : 2 ^ (31 - n) ≤ a / 2 ^ n := by rw [Nat.le_div_iff_mul_le pos, Nat.mul_comm, p31]; exact h
      have h2 := Nat.mul_le_mul_right (2 ^ n) h1
      rw [Nat.mul_comm (2 ^ (31 - n)), p31] at h2
      exact h2
    have pos' : ((2 : Int) ^ n) ≠ 0 := by rw [ep]; omega
    have back : ((a / 2 ^ n * 2 ^ n : Nat) : Int) / 2 ^ n = (a : Int) / 2 ^ n := by
      rw [Int.natCast_mul, ← ep, Int.mul_ediv_cancel _ pos', ← ee]
    exact (sra_core (by omega) (Int.natCast_nonneg _) (Int.ofNat_le.2 le) (fun h => Int.ofNat_le.2 (ge (Int.ofNat_le.1 h))) back ha').symm
def smin (a b : Int) : Int := if wrap32 a < wrap32 b then a else b
def smax (a b : Int) : Int := if wrap32 b < wrap32 a then a else b
def umin (a b : Int) : Int := if a < b then a else b
def umax (a b : Int) : Int := if b < a then a else b
theorem back {a : Int} (ha : 0 ≤ a) (ha' : a < 4294967296) : wrap32 a % 4294967296 = a := by unfold wrap32; omega
theorem three_s (a b : Int) (ha : 0 ≤ a) (ha' : a < 4294967296) (hb : 0 ≤ b) (hb' : b < 4294967296) :
    (wrap32 a < wrap32 b ∧ ¬ wrap32 b < wrap32 a ∧ smin a b = a ∧ smax a b = b) ∨ (wrap32 b < wrap32 a ∧ ¬ wrap32 a < wrap32 b ∧ smin a b = b ∧ smax a b = a) ∨ (a = b ∧ smin a b = b ∧ smax a b = b) := by
  unfold smin smax
  have h1 := back ha ha'
  have h2 := back hb hb'
  generalize wrap32 a = x at *
  generalize wrap32 b = y at *
  by_cases c : x < y
  · exact .inl ⟨c, by omega, by rw [if_pos c], by rw [if_neg (by omega)]⟩
  · by_cases d : y < x
    · exact .inr (.inl ⟨d, c, by rw [if_neg c], by rw [if_pos d]⟩)
    · exact .inr (.inr ⟨by omega, by rw [if_neg c], by rw [if_neg d]⟩)
theorem three_u (a b : Int) (_ha : 0 ≤ a) (_ha' : a < 4294967296) (_hb : 0 ≤ b) (_hb' : b < 4294967296) :
    (a < b ∧ ¬ b < a ∧ umin a b = a ∧ umax a b = b) ∨ (b < a ∧ ¬ a < b ∧ umin a b = b ∧ umax a b = a) ∨ (a = b ∧ umin a b = b ∧ umax a b = b) := by
  unfold umin umax
  by_cases c : a < b
  · exact .inl ⟨c, by omega, by rw [if_pos c], by rw [if_neg (by omega)]⟩
  · by_cases d : b < a
    · exact .inr (.inl ⟨d, c, by rw [if_neg c], by rw [if_pos d]⟩)
    · exact .inr (.inr ⟨by omega, by rw [if_neg c], by rw [if_neg d]⟩)
theorem and255 {a : Int} (ha : 0 ≤ a) (ha' : a < 4294967296) : bits .and .u32 a 255 = a % 256 := by
  rw [u32_and a 255 ha ha' (by decide) (by decide), show (255 : Int).toNat = 2 ^ 8 - 1 from rfl, Nat.and_two_pow_sub_one_eq_mod]; omega
theorem and65535 {a : Int} (ha : 0 ≤ a) (ha' : a < 4294967296) : bits .and .u32 a 65535 = a % 65536 := by
  rw [u32_and a 65535 ha ha' (by decide) (by decide), show (65535 : Int).toNat = 2 ^ 16 - 1 from rfl, Nat.and_two_pow_sub_one_eq_mod]; omega
theorem sw_ne {n c k : Int} (h : -9223372036854775808 ≤ n ∧ n ≤ 9223372036854775807) (hc : 0 ≤ c) (hc' : c ≤ 1000) (hk : 0 ≤ k) (hk' : k ≤ 1000) (hne : n ≠ c + k) : (wrap64 (n - c) == k) = false := by
  rw [beq_eq_false_iff_ne]; unfold wrap64; omega
end Go.Proofs.Ytjecffjiaappoaa.Al

/- Facts of quotients, products and shifts that the laws of package alu say. Plain law: no program. -/
import Derived.Test.YtjecffjiaappoaaAl
namespace Go.Proofs.Ytjecffjiaappoaa.Al
open Go.RowKit

theorem divu_back {a b : Int} (ha : 0 ≤ a) (ha' : a < 4294967296) (_hb : 0 ≤ b) (_hb' : b < 4294967296) (h : ¬ b = 0) : (divu a b * b + remu a b) % 4294967296 = a := by
  rw [← divu_fin h, ← remu_fin h, Int.ediv_mul_add_emod]
  exact Int.emod_eq_of_lt ha ha'
theorem remu_lt (a : Int) {b : Int} (hb : 0 ≤ b) (h : ¬ b = 0) : remu a b < b := by
  rw [← remu_fin h]; exact Int.emod_lt_of_pos a (by omega)
theorem mod_mul (x b : Int) : (x % 4294967296 * b) % 4294967296 = (x * wrap32 b) % 4294967296 := by
  have e : wrap32 b % 4294967296 = b % 4294967296 := by unfold wrap32; omega
  rw [Int.mul_emod, Int.emod_emod_of_dvd _ (Int.dvd_refl _), ← e, ← Int.mul_emod]
theorem div_back {a b : Int} (ha : 0 ≤ a) (ha' : a < 4294967296) (_hb : 0 ≤ b) (_hb' : b < 4294967296) (h : ¬ b = 0) : (div a b * b + rem a b) % 4294967296 = a := by
  unfold div rem
  rw [if_neg h, if_neg h, Int.add_emod, mod_mul, Int.emod_emod_of_dvd _ (Int.dvd_refl _), ← Int.add_emod, Int.mul_comm, Int.mul_tdiv_add_tmod]
  unfold wrap32; omega
theorem tmod_sign (x y : Int) (h : y ≠ 0) : (x < 0 → x.tmod y ≤ 0) ∧ (0 ≤ x → 0 ≤ x.tmod y) ∧ (x.tmod y).natAbs < y.natAbs ∧ (x.tmod y).natAbs ≤ x.natAbs := by
  have e : (x.tmod y).natAbs = x.natAbs % y.natAbs := Int.natAbs_tmod x y
  have l : x.natAbs % y.natAbs < y.natAbs := Nat.mod_lt _ (by omega)
  have l2 : x.natAbs % y.natAbs ≤ x.natAbs := Nat.mod_le _ _
  refine ⟨fun hx => ?_, fun hx => Int.tmod_nonneg _ hx, by omega, by omega⟩
  have n : 0 ≤ (-x).tmod y := Int.tmod_nonneg _ (by omega)
  rw [Int.neg_tmod] at n
  omega
theorem wrap32_ne {b : Int} (hb : 0 ≤ b) (hb' : b < 4294967296) (h : ¬ b = 0) : wrap32 b ≠ 0 := by unfold wrap32; omega
theorem rem_wrap {a b : Int} (hb : 0 ≤ b) (hb' : b < 4294967296) (h : ¬ b = 0) : wrap32 (rem a b) = (wrap32 a).tmod (wrap32 b) := by
  unfold rem; rw [if_neg h]
  have t := tmod_sign (wrap32 a) (wrap32 b) (wrap32_ne hb hb' h)
  have u := Bt.wrap32_rng a
  have v := Bt.wrap32_rng b
  obtain ⟨_, _, t3, t4⟩ := t
  generalize (wrap32 a).tmod (wrap32 b) = x at *
  generalize wrap32 a = y at *
  generalize wrap32 b = z at *
  unfold wrap32; omega
theorem rem_sign {a b : Int} (hb : 0 ≤ b) (hb' : b < 4294967296) (h : ¬ b = 0) :
    (wrap32 a < 0 → 0 ≤ -wrap32 (rem a b) ∧ (wrap32 b < 0 → -wrap32 (rem a b) < -wrap32 b) ∧ (0 ≤ wrap32 b → -wrap32 (rem a b) < wrap32 b)) ∧
    (0 ≤ wrap32 a → 0 ≤ wrap32 (rem a b) ∧ (wrap32 b < 0 → wrap32 (rem a b) < -wrap32 b) ∧ (0 ≤ wrap32 b → wrap32 (rem a b) < wrap32 b)) := by
  obtain ⟨t1, t2, t3, _⟩ := tmod_sign (wrap32 a) (wrap32 b) (wrap32_ne hb hb' h)
  rw [rem_wrap hb hb' h]
  refine ⟨fun c => ?_, fun c => ?_⟩
  · have := t1 c; refine ⟨by omega, fun _ => by omega, fun _ => by omega⟩
  · have := t2 c; refine ⟨by omega, fun _ => by omega, fun _ => by omega⟩

/-- Two halves, put together. -/
theorem join {h l : Int} (h0 : 0 ≤ h) (h1 : h < 4294967296) (l0 : 0 ≤ l) (l1 : l < 4294967296) :
    bits .or .u64 (IntKind.u64.wrap (IntKind.u64.wrap h * 4294967296)) (IntKind.u64.wrap l) = h * 4294967296 + l := by
  rw [Bt.wrap_u64_id h0 (by omega), Bt.wrap_u64_id l0 (by omega), Bt.wrap_u64_id (x := h * 4294967296) (by omega) (by omega), u64_or _ _ (by omega) (by omega) (by omega) (by omega)]
  obtain ⟨h, rfl⟩ := Int.eq_ofNat_of_zero_le h0
  obtain ⟨l, rfl⟩ := Int.eq_ofNat_of_zero_le l0
  have e : ((h : Int) * 4294967296).toNat = 2 ^ 32 * h := by omega
  rw [e, Int.toNat_natCast, ← Nat.two_pow_add_eq_or_of_lt (by omega)]
  omega
theorem mod_rng (x : Int) : 0 ≤ x % 4294967296 ∧ x % 4294967296 < 4294967296 := ⟨Int.emod_nonneg _ (by decide), Int.emod_lt_of_pos _ (by decide)⟩
theorem halves_u {a b : Int} (ha : 0 ≤ a) (ha' : a < 4294967296) (hb : 0 ≤ b) (hb' : b < 4294967296) :
    bits .or .u64 (IntKind.u64.wrap (IntKind.u64.wrap (mulhu a b) * 4294967296)) (IntKind.u64.wrap (mul a b)) = IntKind.u64.wrap (a * b) := by
  have m := mul_rng ha ha' hb hb'
  unfold mulhu mul
  generalize a * b = p at *
  rw [join (by omega) (by omega) (by omega) (by omega), Bt.wrap_u64_id (by omega) (by omega)]
  omega
theorem halves {p q : Int} (h : -9223372036854775808 ≤ p) (h' : p ≤ 9223372036854775807) (e : q % 4294967296 = p % 4294967296) :
    wrap64 (bits .or .u64 (IntKind.u64.wrap (IntKind.u64.wrap (p / 4294967296 % 4294967296) * 4294967296)) (IntKind.u64.wrap (q % 4294967296))) = p := by
  rw [e, join (by omega) (by omega) (by omega) (by omega)]
  unfold wrap64; omega
theorem mul_mod (a b : Int) : a * b % 4294967296 = a * wrap32 b % 4294967296 := by
  have := mod_mul a b
  rwa [Int.mul_emod, Int.emod_emod_of_dvd _ (Int.dvd_refl _), ← Int.mul_emod] at this
theorem halves_ss {a b : Int} : wrap64 (bits .or .u64 (IntKind.u64.wrap (IntKind.u64.wrap (mulh a b) * 4294967296)) (IntKind.u64.wrap (mul a b))) = wrap64 (wrap64 (wrap32 a) * wrap64 (wrap32 b)) := by
  have ha := Bt.wrap32_rng a
  have hb := Bt.wrap32_rng b
  have r := abs_mul_le (m := 2147483648) (n := 2147483648) (x := wrap32 a) (y := wrap32 b) ⟨by omega, by omega⟩ ⟨by omega, by omega⟩
  rw [wrap64_id (x := wrap32 a) (by omega) (by omega), wrap64_id (x := wrap32 b) (by omega) (by omega), wrap64_id (x := wrap32 a * wrap32 b) (by omega) (by omega)]
  unfold mulh mul
  refine halves (by omega) (by omega) ?_
  rw [mul_mod a b, Int.mul_comm a, mul_mod (wrap32 b) a, Int.mul_comm]
theorem halves_su {a b : Int} (hb : 0 ≤ b) (hb' : b < 4294967296) : wrap64 (bits .or .u64 (IntKind.u64.wrap (IntKind.u64.wrap (mulhsu a b) * 4294967296)) (IntKind.u64.wrap (mul a b))) = wrap64 (wrap64 (wrap32 a) * b) := by
  have ha := Bt.wrap32_rng a
  have r := abs_mul_le (m := 2147483648) (n := 4294967295) (x := wrap32 a) (y := b) ⟨by omega, by omega⟩ ⟨by omega, by omega⟩
  rw [wrap64_id (x := wrap32 a) (by omega) (by omega), wrap64_id (x := wrap32 a * b) (by omega) (by omega)]
  unfold mulhsu mul
  refine halves (by omega) (by omega) ?_
  rw [Int.mul_comm a, mul_mod b a, Int.mul_comm]

/-! shifts -/
theorem small_mod {x : Int} (h : 0 ≤ x) (h' : x < 32) : x % 32 = x := Int.emod_eq_of_lt h h'
theorem pow_toNat {x y : Int} (hx : 0 ≤ x) (hy : 0 ≤ y) : (2 : Int) ^ (x + y).toNat = 2 ^ x.toNat * 2 ^ y.toNat := by rw [← Int.pow_add]; congr 1; omega
theorem sll_sll {a x y : Int} (hx : 0 ≤ x) (hy : 0 ≤ y) (h : x + y < 32) : sll (sll a x) y = sll a (x + y) := by
  unfold sll
  rw [small_mod hx (by omega), small_mod hy (by omega), small_mod (by omega) h, pow_toNat hx hy, Int.mul_emod, Int.emod_emod_of_dvd _ (Int.dvd_refl _), ← Int.mul_emod, Int.mul_assoc]
theorem srl_srl {a x y : Int} (hx : 0 ≤ x) (hy : 0 ≤ y) (h : x + y < 32) : srl (srl a x) y = srl a (x + y) := by
  unfold srl
  rw [small_mod hx (by omega), small_mod hy (by omega), small_mod (by omega) h, pow_toNat hx hy, Int.ediv_ediv_of_nonneg]
  exact Int.le_of_lt (Int.pow_pos (by decide))
theorem div_pow_rng {x : Int} (n : Nat) (h : -2147483648 ≤ x) (h' : x ≤ 2147483647) : -2147483648 ≤ x / 2 ^ n ∧ x / 2 ^ n ≤ 2147483647 := by
  have p : (0 : Int) < 2 ^ n := Int.pow_pos (by decide)
  constructor
  · rw [Int.le_ediv_iff_mul_le p]
    have : (2147483648 : Int) * 1 ≤ 2147483648 * 2 ^ n := Int.mul_le_mul_of_nonneg_left (by omega) (by decide)
    omega
  · have h1 : x / 2 ^ n < 2147483648 := by
      rw [Int.ediv_lt_iff_lt_mul p]
      have : (2147483648 : Int) * 1 ≤ 2147483648 * 2 ^ n := Int.mul_le_mul_of_nonneg_left (by omega) (by decide)
      omega
    omega
theorem sra_sra {a x y : Int} (hx : 0 ≤ x) (hy : 0 ≤ y) (h : x + y < 32) : sra (sra a x) y = sra a (x + y) := by
  unfold sra
  rw [small_mod hx (by omega), small_mod hy (by omega), small_mod (by omega) h, pow_toNat hx hy]
  have u := Bt.wrap32_rng a
  have r := div_pow_rng x.toNat u.1 u.2
  have e : wrap32 (wrap32 a / 2 ^ x.toNat % 4294967296) = wrap32 a / 2 ^ x.toNat := by
    generalize wrap32 a / 2 ^ x.toNat = z at *; unfold wrap32; omega
  rw [e, Int.ediv_ediv_of_nonneg]
  exact Int.le_of_lt (Int.pow_pos (by decide))
theorem sll_32 {a x : Int} : sll a (x + 32) = sll a x := by unfold sll; rw [show (x + 32) % 32 = x % 32 by omega]
theorem srl_32 {a x : Int} : srl a (x + 32) = srl a x := by unfold srl; rw [show (x + 32) % 32 = x % 32 by omega]
theorem sra_32 {a x : Int} : sra a (x + 32) = sra a x := by unfold sra; rw [show (x + 32) % 32 = x % 32 by omega]
theorem sra_31 {a : Int} (ha : 0 ≤ a) (ha' : a < 4294967296) : sra a 31 = -(a / 2147483648) % 4294967296 := by
  unfold sra
  have e : (2 : Int) ^ ((31 : Int) % 32).toNat = 2147483648 := by decide
  rw [e]; unfold wrap32; omega
theorem sll_rng (a x : Int) : 0 ≤ sll a x ∧ sll a x < 4294967296 := mod_rng _
theorem sra_rng (a x : Int) : 0 ≤ sra a x ∧ sra a x < 4294967296 := mod_rng _
theorem srl_rng {a : Int} (x : Int) (ha : 0 ≤ a) (ha' : a < 4294967296) : 0 ≤ srl a x ∧ srl a x < 4294967296 := Bt.rng_shr _ ha ha'
end Go.Proofs.Ytjecffjiaappoaa.Al

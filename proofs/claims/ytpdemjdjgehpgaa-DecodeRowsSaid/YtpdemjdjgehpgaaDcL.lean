/- Plain laws of words and what they say. No program. -/
import Derived.Test.YtpdemjdjgehpgaaDc
namespace Go.Proofs.Ytpdemjdjgehpgaa.Dc
open Go.Proofs.Ytpdemjdjgehpgaa.Bt
set_option linter.unusedSimpArgs false
theorem add_or {x y : Nat} (hx : x < 4294967296) (hy : y < 4294967296) (h : x &&& y = 0) : (x + y) % 4294967296 = x ||| y := by
  have h2 := BitVec.add_eq_or_of_and_eq_zero (BitVec.ofNat 32 x) (BitVec.ofNat 32 y) (by
    apply BitVec.eq_of_toNat_eq
    rw [BitVec.toNat_and, BitVec.toNat_ofNat, BitVec.toNat_ofNat, Nat.mod_eq_of_lt hx, Nat.mod_eq_of_lt hy, h]; rfl)
  have h3 := congrArg BitVec.toNat h2
  rw [BitVec.toNat_add, BitVec.toNat_or, BitVec.toNat_ofNat, BitVec.toNat_ofNat, Nat.mod_eq_of_lt hx, Nat.mod_eq_of_lt hy] at h3
  exact h3
theorem tb_add {x y : Int} (hx : 0 ≤ x) (hx' : x < 4294967296) (hy : 0 ≤ y) (hy' : y < 4294967296) (h : ∀ i, 0 ≤ i → i < 32 → tb x i = true → tb y i = false) {i : Int} (hi : 0 ≤ i) : tb ((x + y) % 4294967296) i = (tb x i || tb y i) := by
  obtain ⟨x, rfl⟩ := Int.eq_ofNat_of_zero_le hx
  obtain ⟨y, rfl⟩ := Int.eq_ofNat_of_zero_le hy
  have e0 : x &&& y = 0 := by
    apply Nat.eq_of_testBit_eq
    intro j
    rw [Nat.testBit_and, Nat.zero_testBit]
    by_cases hj : j < 32
    · have := h j (by omega) (by omega)
      simp only [tb, Int.toNat_natCast] at this
      have z : (0 : Int) ≤ (j : Int) := by omega
      simp only [z, decide_true, Bool.true_and] at this
      cases c : x.testBit j
      · rfl
      · rw [this c]; rfl
    · have p : 2 ^ 32 ≤ 2 ^ j := Nat.pow_le_pow_right (by decide) (by omega)
      rw [Nat.testBit_lt_two_pow (x := x) (by omega)]; rfl
  have e : ((x : Int) + (y : Int)) % 4294967296 = ((x ||| y : Nat) : Int) := by
    rw [← add_or (by omega) (by omega) e0]; simp
  rw [e]
  simp only [tb, Int.toNat_natCast, Nat.testBit_or]
  cases decide (0 ≤ i) <;> simp
/-- What is put where nothing is, is added. -/
theorem put_add {n v : Int} {t m : Int} (hn : 0 ≤ n) (hn' : n < 4294967296) (h : ∀ i, 0 ≤ i → i < 32 → t ≤ i → i < t + m → tb n i = false) : put n t m v = (n + put 0 t m v) % 4294967296 := by
  refine ext (put_rng _ _ _ _).1 (put_rng _ _ _ _).2 (Int.emod_nonneg _ (by decide)) (Int.emod_lt_of_pos _ (by decide)) fun i hi hi' => ?_
  rw [tb_add hn hn' (put_rng _ _ _ _).1 (put_rng _ _ _ _).2 (fun j hj hj' hb => ?_) hi, tb_put hi hi', tb_put hi hi', tb_zero]
  · by_cases c : t ≤ i ∧ i < t + m ∧ i < t + 32
    · rw [if_pos c, if_pos c, h i hi hi' c.1 c.2.1]; simp
    · rw [if_neg c, if_neg c]; simp
  · rw [tb_put hj hj', tb_zero]
    by_cases c : t ≤ j ∧ j < t + m ∧ j < t + 32
    · rw [h j hj hj' c.1 c.2.1] at hb; cases hb
    · rw [if_neg c]
/-- The reference's sum. -/
def pt (w a m t : Int) : Int := put 0 t m (field w a m)
theorem pt_rng (w a m t : Int) : 0 ≤ pt w a m t ∧ pt w a m t < 4294967296 := put_rng _ _ _ _
def add (x y : Int) : Int := (x + y) % 4294967296
theorem add_rng (x y : Int) : 0 ≤ add x y ∧ add x y < 4294967296 := ⟨Int.emod_nonneg _ (by decide), Int.emod_lt_of_pos _ (by decide)⟩
theorem add4 (a b c d : Int) : add (add (add a b) c) d = (a + b + c + d) % 4294967296 := by unfold add; omega
theorem add4' (a b c d : Int) : add (add (add a b) c) d = ((a + b + c) % 4294967296 + d) % 4294967296 := by unfold add; omega
def immR (c : Nat) (w : Int) : Int :=
  if c = 85 then pt w 12 20 12
  else if c = 74 then sign (add (add (add (pt w 31 1 20) (pt w 12 8 12)) (pt w 20 1 11)) (pt w 21 10 1)) 21
  else if c = 73 then sign (pt w 20 12 0) 12
  else if c = 66 then sign (add (add (add (pt w 31 1 12) (pt w 7 1 11)) (pt w 25 6 5)) (pt w 8 4 1)) 13
  else if c = 83 then sign (add (pt w 25 7 5) (pt w 7 5 0)) 12
  else if c = 72 then pt w 20 5 0
  else if c = 65 ∨ c = 76 then pt w 25 2 0
  else if c = 70 ∨ c = 67 then pt w 20 12 0
  else 0
/-- The reference's number of a word to be. -/
def numR (c : Nat) (n : Int) : Int :=
  if c = 85 then pt n 12 20 12
  else if c = 74 then add (add (add (pt n 20 1 31) (pt n 12 8 12)) (pt n 11 1 20)) (pt n 1 10 21)
  else if c = 66 then add (add (add (pt n 12 1 31) (pt n 11 1 7)) (pt n 5 6 25)) (pt n 1 4 8)
  else if c = 83 then add (pt n 5 7 25) (pt n 0 5 7)
  else if c = 72 then pt n 0 5 20
  else if c = 65 ∨ c = 76 then pt n 0 2 25
  else if c = 73 ∨ c = 70 ∨ c = 67 then pt n 0 12 20
  else 0
theorem put_pt {n w a m t : Int} (hn : 0 ≤ n) (hn' : n < 4294967296) (h : ∀ i, 0 ≤ i → i < 32 → t ≤ i → i < t + m → tb n i = false) : put n t m (field w a m) = add n (pt w a m t) := put_add hn hn' h
theorem tb_pt0 {w a m t i : Int} (hi : 0 ≤ i) (hi' : i < 32) (h : ¬ (t ≤ i ∧ i < t + m)) : tb (pt w a m t) i = false := by
  unfold pt; rw [tb_put hi hi', if_neg (fun c => h ⟨c.1, c.2.1⟩), tb_zero]
theorem tb_put_out {n t m v i : Int} (hi : 0 ≤ i) (hi' : i < 32) (h : ¬ (t ≤ i ∧ i < t + m)) : tb (put n t m v) i = tb n i := by
  rw [tb_put hi hi', if_neg (fun c => h ⟨c.1, c.2.1⟩)]
theorem imm_eq (c : Nat) (hc : c ∈ letters) (w : Int) : immR c w = number (frm c) w := by
  simp only [letters, List.mem_cons, List.not_mem_nil, or_false] at hc
  have s0 : ∀ v : Int, sign v 0 = v := fun v => by unfold sign; rw [if_pos (by omega)]
  rcases hc with rfl | rfl | rfl | rfl | rfl | rfl | rfl | rfl | rfl | rfl | rfl | rfl | rfl
  · exact (s0 _).symm
  · show sign _ 21 = sign (put (put (put (pt w 31 1 20) 12 8 (field w 12 8)) 11 1 (field w 20 1)) 1 10 (field w 21 10)) 21
    refine congrArg (fun z => sign z 21) (Eq.symm ?_)
    rw [put_pt (put_rng _ _ _ _).1 (put_rng _ _ _ _).2, put_pt (put_rng _ _ _ _).1 (put_rng _ _ _ _).2, put_pt (pt_rng _ _ _ _).1 (pt_rng _ _ _ _).2]
    · intro i hi hi' h1 h2; exact tb_pt0 hi hi' (by omega)
    · intro i hi hi' h1 h2; rw [tb_put_out hi hi' (by omega)]; exact tb_pt0 hi hi' (by omega)
    · intro i hi hi' h1 h2; rw [tb_put_out hi hi' (by omega), tb_put_out hi hi' (by omega)]; exact tb_pt0 hi hi' (by omega)
  · rfl
  · show sign _ 13 = sign (put (put (put (pt w 31 1 12) 11 1 (field w 7 1)) 5 6 (field w 25 6)) 1 4 (field w 8 4)) 13
    refine congrArg (fun z => sign z 13) (Eq.symm ?_)
    rw [put_pt (put_rng _ _ _ _).1 (put_rng _ _ _ _).2, put_pt (put_rng _ _ _ _).1 (put_rng _ _ _ _).2, put_pt (pt_rng _ _ _ _).1 (pt_rng _ _ _ _).2]
    · intro i hi hi' h1 h2; exact tb_pt0 hi hi' (by omega)
    · intro i hi hi' h1 h2; rw [tb_put_out hi hi' (by omega)]; exact tb_pt0 hi hi' (by omega)
    · intro i hi hi' h1 h2; rw [tb_put_out hi hi' (by omega), tb_put_out hi hi' (by omega)]; exact tb_pt0 hi hi' (by omega)
  · show sign _ 12 = sign (put (pt w 25 7 5) 0 5 (field w 7 5)) 12
    refine congrArg (fun z => sign z 12) (Eq.symm ?_)
    rw [put_pt (pt_rng _ _ _ _).1 (pt_rng _ _ _ _).2]
    intro i hi hi' h1 h2; exact tb_pt0 hi hi' (by omega)
  · exact (s0 _).symm
  · exact (s0 _).symm
  · exact (s0 _).symm
  · exact (s0 _).symm
  · exact (s0 _).symm
  · exact (s0 _).symm
  · exact (s0 _).symm
  · exact (s0 _).symm
end Go.Proofs.Ytpdemjdjgehpgaa.Dc

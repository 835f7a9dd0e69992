/- Plain laws of words and what they say: other registers, and what the fields are. No program. -/
import Derived.Test.YtpdemjdjgehpgaaDcL4
namespace Go.Proofs.Ytpdemjdjgehpgaa.Dc
open Go.Proofs.Ytpdemjdjgehpgaa.Bt Go.RowKit
set_option linter.unusedSimpArgs false
set_option linter.unusedVariables false
theorem tb3968 : ∀ n, n < 32 → tb 3968 (n : Nat) = (decide (7 ≤ n) && decide (n < 12)) := by decide +kernel
theorem tb1015808 : ∀ n, n < 32 → tb 1015808 (n : Nat) = (decide (15 ≤ n) && decide (n < 20)) := by decide +kernel
theorem tb31 : ∀ n, n < 32 → tb 31 (n : Nat) = decide (n < 5) := by decide +kernel
theorem tb4095 : ∀ n, n < 32 → tb 4095 (n : Nat) = decide (n < 12) := by decide +kernel
theorem andNot_eq {x y M : Int} (hx : 0 ≤ x) (hx' : x < 4294967296) (hy : 0 ≤ y) (hy' : y < 4294967296) (hM : 0 ≤ M) (hM' : M < 4294967296) (h : ∀ i, 0 ≤ i → i < 32 → tb M i = false → tb x i = tb y i) : bits .andNot .u32 x M = bits .andNot .u32 y M := by
  have r1 := rng_andNot hx hx' hM hM'
  have r2 := rng_andNot hy hy' hM hM'
  refine ext r1.1 r1.2 r2.1 r2.2 fun i hi hi' => ?_
  rw [tb_andNot hx hx' hM hM', tb_andNot hy hy' hM hM']
  cases c : tb M i
  · rw [h i hi hi' c]
  · simp
theorem shr_field {x : Int} (t : Nat) (hx : 0 ≤ x) (hx' : x < 4294967296) (ht : t + 5 ≤ 32) : bits .and .u32 (x / 2 ^ t) 31 = field x t 5 := by
  have r0 := rng_shr t hx hx'
  have r1 := rng_and r0.1 r0.2 (show (0 : Int) ≤ 31 by decide) (show (31 : Int) < 4294967296 by decide)
  refine ext r1.1 r1.2 (field_rng _ _ _).1 (field_rng _ _ _).2 fun i hi hi' => ?_
  rw [tb_and r0.1 r0.2 (by decide) (by decide), tb_field hi hi']
  obtain ⟨n, rfl⟩ := Int.eq_ofNat_of_zero_le hi
  have e := tb_shr (x := x) (k := (t : Int)) hx (by omega) (i := (n : Int)) hi
  rw [Int.toNat_natCast] at e
  rw [e, tb31 n (by omega), Int.add_comm]
  by_cases c : n < 5
  · have : (n : Int) < 5 := by omega
    simp [c, this]
  · have : ¬ (n : Int) < 5 := by omega
    simp [c, this]
theorem name_of {j : Nat} (w : Int) : (opOf (frm (row j).2) (j + 1 : Nat) w).name = (j : Int) + 1 := by show ((j + 1 : Nat) : Int) = _; omega
theorem regs_of {j : Nat} (w : Int) : ((frm (row j).2).d = false → (opOf (frm (row j).2) (j + 1 : Nat) w).rd = 0) ∧ ((frm (row j).2).r1 = false → (opOf (frm (row j).2) (j + 1 : Nat) w).r1 = 0) ∧ ((frm (row j).2).r2 = false → (opOf (frm (row j).2) (j + 1 : Nat) w).r2 = 0) := by
  refine ⟨fun h => ?_, fun h => ?_, fun h => ?_⟩ <;> (unfold opOf; dsimp only; rw [if_neg (by rw [h]; decide)])
theorem regs_d {w : Int} {o : Op} (hw : 0 ≤ w) (hw' : w < 4294967296) (h : word w = some o) (hwr : writes o.name = true) {k : Int} (k0 : 0 ≤ k) (k1 : k < 32) :
    ∃ x, encode ⟨o.name, k, o.r1, o.r2, o.imm⟩ = some x ∧ bits .andNot .u32 x 3968 = bits .andNot .u32 w 3968 ∧ bits .and .u32 (x / 2 ^ 7) 31 = k := by
  have hs := word_small h
  obtain ⟨j, hj, hh, rfl⟩ := word_sound h
  have hn := name_of (j := j) w
  have hg := regs_of (j := j) w
  have hd : (frm (row j).2).d = true := by
    unfold writes at hwr
    rw [hn] at hwr
    rw [if_neg (by omega), show ((j : Int) + 1 - 1).toNat = j by omega] at hwr
    simp only [Bool.and_eq_true] at hwr
    exact hwr.2
  have hb0 := build_back hj hw hw' hh (j + 1 : Nat)
  have him : (opOf (frm (row j).2) (j + 1 : Nat) w).imm = number (frm (row j).2) w := rfl
  generalize opOf (frm (row j).2) (j + 1 : Nat) w = o at *
  have hp := row_rng j hj
  have hb := build_rng (frm (row j).2) (row j).1 ⟨o.name, k, o.r1, o.r2, o.imm⟩ hp.1 hp.2
  have hek := encode_ok hj ⟨o.name, k, o.r1, o.r2, o.imm⟩ hn k0 k1 hs.2.1.1 hs.2.1.2 hs.2.2.1 hs.2.2.2 (fun e => by rw [hd] at e; cases e) hg.2.1 hg.2.2 (number_same hj ⟨o.name, k, o.r1, o.r2, o.imm⟩ w him)
  refine ⟨_, hek, ?_, ?_⟩
  · conv => rhs; rw [← hb0]
    have hb1 := build_rng (frm (row j).2) (row j).1 o hp.1 hp.2
    refine andNot_eq hb.1 hb.2 hb1.1 hb1.2 (by decide) (by decide) fun i hi hi' hm => build_same hj ⟨o.name, k, o.r1, o.r2, o.imm⟩ o rfl hi hi' (fun _ h1 h2 => ?_) (fun _ _ _ => rfl) (fun _ _ _ => rfl)
    obtain ⟨n, rfl⟩ := Int.eq_ofNat_of_zero_le hi
    rw [tb3968 n (by omega)] at hm
    have a : 7 ≤ n := by omega
    have b : n < 12 := by omega
    simp [a, b] at hm
  · rw [shr_field 7 hb.1 hb.2 (by decide)]
    exact field_eq k0 k1 (by decide) (by decide) (fun i h1 h2 => build_d (by omega) (by omega) hd h1 (by omega))
theorem regs_1 {w : Int} {o : Op} (hw : 0 ≤ w) (hw' : w < 4294967296) (h : word w = some o) {k y : Int} (k0 : 0 ≤ k) (k1 : k < 32) (hne : ¬ k = o.r1) (hy : encode ⟨o.name, o.rd, k, o.r2, o.imm⟩ = some y) :
    bits .andNot .u32 y 1015808 = bits .andNot .u32 w 1015808 ∧ bits .and .u32 (y / 2 ^ 15) 31 = k := by
  have hs := word_small h
  obtain ⟨j, hj, hh, rfl⟩ := word_sound h
  have hn := name_of (j := j) w
  have hg := regs_of (j := j) w
  have hb0 := build_back hj hw hw' hh (j + 1 : Nat)
  generalize opOf (frm (row j).2) (j + 1 : Nat) w = o at *
  have hy2 := encode_is (o := ⟨o.name, o.rd, k, o.r2, o.imm⟩) hj hn hy
  have hp := row_rng j hj
  have h1 : (frm (row j).2).r1 = true := by
    cases c : (frm (row j).2).r1
    · obtain ⟨j2, hj2, hh2, e⟩ := word_sound (word_encode hy)
      have e0 : (j2 : Int) + 1 = o.name := by have := name_of (j := j2) y; rw [← e] at this; exact this.symm
      obtain rfl : j2 = j := by rw [hn] at e0; omega
      have e1 := (regs_of (j := j2) y).2.1 c
      rw [← e] at e1
      exact absurd (e1.trans (hg.2.1 c).symm) hne
    · rfl
  subst hy2
  have hb := build_rng (frm (row j).2) (row j).1 ⟨o.name, o.rd, k, o.r2, o.imm⟩ hp.1 hp.2
  refine ⟨?_, ?_⟩
  · conv => rhs; rw [← hb0]
    have hb1 := build_rng (frm (row j).2) (row j).1 o hp.1 hp.2
    refine andNot_eq hb.1 hb.2 hb1.1 hb1.2 (by decide) (by decide) fun i hi hi' hm => build_same hj ⟨o.name, o.rd, k, o.r2, o.imm⟩ o rfl hi hi' (fun _ _ _ => rfl) (fun _ h1 h2 => ?_) (fun _ _ _ => rfl)
    obtain ⟨n, rfl⟩ := Int.eq_ofNat_of_zero_le hi
    rw [tb1015808 n (by omega)] at hm
    have a : 15 ≤ n := by omega
    have b : n < 20 := by omega
    simp [a, b] at hm
  · rw [shr_field 15 hb.1 hb.2 (by decide)]
    exact field_eq k0 k1 (by decide) (by decide) (fun i h2 h3 => build_1 (by omega) (by omega) h1 h2 (by omega))
/-! What the fields are. -/
theorem letter_of : ∀ j, j < 69 → (j = 2 → (row j).2 = 74) ∧ (4 ≤ j → j ≤ 9 → (row j).2 = 66) ∧ (j ≤ 1 → (row j).2 = 85) ∧ (24 ≤ j → j ≤ 26 → (row j).2 = 72) ∧ ((j = 3 ∨ (10 ≤ j ∧ j ≤ 23)) → (row j).2 = 73 ∨ (row j).2 = 83) := by decide +kernel
theorem late : ∀ j, j < 69 → 27 ≤ j → (frm (row j).2).sg = 0 ∧ ((frm (row j).2).ps.all fun q => decide (q.2.2 + q.2.1 ≤ 12)) = true := by decide +kernel
theorem even_of {x : Int} (hx : 0 ≤ x) (h : tb x 0 = false) : x % 2 = 0 := by
  obtain ⟨n, rfl⟩ := Int.eq_ofNat_of_zero_le hx
  simp only [tb, Int.toNat_natCast] at h
  have : n.testBit 0 = false := by simpa using h
  rw [Nat.testBit_zero] at this
  simp at this
  omega
theorem low_zero {x : Int} (hx : 0 ≤ x) (h : ∀ i, 0 ≤ i → i < 12 → tb x i = false) : x % 4096 = 0 := by
  obtain ⟨n, rfl⟩ := Int.eq_ofNat_of_zero_le hx
  have e : n % 2 ^ 12 = 0 := by
    apply Nat.eq_of_testBit_eq
    intro i
    rw [Nat.testBit_mod_two_pow, Nat.zero_testBit]
    by_cases c : i < 12
    · have := h i (by omega) (by omega)
      simp only [tb, Int.toNat_natCast] at this
      have z : (0 : Int) ≤ (i : Int) := by omega
      simp only [z, decide_true, Bool.true_and] at this
      simp [this]
    · simp [c]
  have : (2 : Nat) ^ 12 = 4096 := rfl
  omega
theorem sign_0 (v : Int) : sign v 0 = v := by unfold sign; rw [if_pos (by omega)]
theorem number_small {f : Frm} (hs : f.sg = 0) (m : Nat) (hm : m ≤ 32) (h : ∀ q ∈ f.ps, q.2.2 + q.2.1 ≤ m) (w : Int) : number f w < 2 ^ m := by
  unfold number
  rw [hs, sign_0]
  have hr := numFrom_rng f.ps w 0 (by decide) (by decide)
  exact small_of_bits hr.1 m (fun i hi => by
    by_cases c : i < 32
    · rw [num_out f.ps w 0 i (by omega) c (fun q hq hh => by have := h q hq; omega), tb_zero]
    · exact tb_high hr.2 (by omega))
theorem number_even {f : Frm} (hf : Fits f) (h : ∀ q ∈ f.ps, 1 ≤ q.2.2) (w : Int) : number f w % 2 = 0 := by
  refine even_of (number_rng f w).1 ?_
  have h2 : f.sg = 0 ∨ 0 < f.sg := by have := hf.2.2.1; omega
  rw [tb_number hf w (by decide) (by decide) h2, num_out f.ps w 0 0 (by decide) (by decide) (fun q hq hh => by have := h q hq; omega), tb_zero]
theorem number_upper (w : Int) (hw : 0 ≤ w) (hw' : w < 4294967296) : number (frm 85) w % 4096 = 0 ∧ number (frm 85) w = bits .andNot .u32 w 4095 := by
  have hr := number_rng (frm 85) w
  have hb : ∀ i, 0 ≤ i → i < 32 → tb (number (frm 85) w) i = (decide (12 ≤ i) && tb w i) := fun i h0 h1 => by
    show tb (sign (put 0 12 20 (field w 12 20)) 0) i = _
    rw [sign_0, tb_put h0 h1]
    by_cases c : 12 ≤ i
    · rw [if_pos ⟨c, by omega, by omega⟩, tb_field (by omega) (by omega), decide_eq_true (by omega), decide_eq_true c, Bool.true_and, Bool.true_and]
      congr 1; omega
    · rw [if_neg (fun hh => c hh.1), decide_eq_false c, tb_zero, Bool.false_and]
  refine ⟨low_zero hr.1 fun i h0 h1 => by rw [hb i h0 (by omega), decide_eq_false (by omega), Bool.false_and], ?_⟩
  have r2 := rng_andNot hw hw' (show (0 : Int) ≤ 4095 by decide) (show (4095 : Int) < 4294967296 by decide)
  refine ext hr.1 hr.2 r2.1 r2.2 fun i h0 h1 => ?_
  rw [hb i h0 h1, tb_andNot hw hw' (by decide) (by decide)]
  obtain ⟨n, rfl⟩ := Int.eq_ofNat_of_zero_le h0
  rw [tb4095 n (by omega), Bool.and_comm]
  by_cases c : n < 12
  · have c2 : ¬ (12 : Int) ≤ n := by omega
    simp [c, c2]
  · have c2 : (12 : Int) ≤ n := by omega
    simp [c, c2]
/-- What a word's op is like. -/
theorem fields_ok {w : Int} {o : Op} (hw : 0 ≤ w) (hw' : w < 4294967296) (h : word w = some o) :
    (1 ≤ o.name ∧ o.name ≤ 69) ∧ (0 ≤ o.imm ∧ o.imm < 4294967296) ∧
    (o.name = 3 → (-1048576 ≤ wrap32 o.imm ∧ wrap32 o.imm < 1048576) ∧ o.imm % 2 = 0) ∧
    (5 ≤ o.name → o.name ≤ 10 → (-4096 ≤ wrap32 o.imm ∧ wrap32 o.imm < 4096) ∧ o.imm % 2 = 0) ∧
    (o.name ≤ 2 → o.imm % 4096 = 0 ∧ o.imm = bits .andNot .u32 w 4095) ∧
    (25 ≤ o.name → o.name ≤ 27 → o.imm < 32) ∧
    ((o.name = 4 ∨ (11 ≤ o.name ∧ o.name ≤ 24)) → -2048 ≤ wrap32 o.imm ∧ wrap32 o.imm < 2048) ∧
    (28 ≤ o.name → o.imm < 4096) := by
  obtain ⟨j, hj, hh, rfl⟩ := word_sound h
  have hn := name_of (j := j) w
  have him : (opOf (frm (row j).2) (j + 1 : Nat) w).imm = number (frm (row j).2) w := rfl
  rw [hn, him]
  obtain ⟨l3, l5, l1, l25, l4⟩ := letter_of j hj
  have hr := number_rng (frm (row j).2) w
  have hf := fits _ (row_letter j hj)
  refine ⟨by omega, hr, fun e => ?_, fun e e2 => ?_, fun e => ?_, fun e e2 => ?_, fun e => ?_, fun e => ?_⟩
  · have := l3 (by omega)
    rw [this] at hf ⊢
    have hv := numFrom_rng (frm 74).ps w 0 (by decide) (by decide)
    exact ⟨sign_ends hv.1 hv.2 (by decide) (by decide), number_even hf (by decide) w⟩
  · have := l5 (by omega) (by omega)
    rw [this] at hf ⊢
    have hv := numFrom_rng (frm 66).ps w 0 (by decide) (by decide)
    exact ⟨sign_ends hv.1 hv.2 (by decide) (by decide), number_even hf (by decide) w⟩
  · have := l1 (by omega)
    rw [this]
    exact number_upper w hw hw'
  · have := l25 (by omega) (by omega)
    rw [this]
    exact number_small (f := frm 72) rfl 5 (by decide) (by decide) w
  · rcases l4 (by omega) with this | this
    · rw [this]
      have hv := numFrom_rng (frm 73).ps w 0 (by decide) (by decide)
      exact sign_ends hv.1 hv.2 (by decide) (by decide)
    · rw [this]
      have hv := numFrom_rng (frm 83).ps w 0 (by decide) (by decide)
      exact sign_ends hv.1 hv.2 (by decide) (by decide)
  · obtain ⟨s0, hq⟩ := late j hj (by omega)
    exact number_small s0 12 (by decide) (fun q h => by have := List.all_eq_true.1 hq q h; simpa using this) w
end Go.Proofs.Ytpdemjdjgehpgaa.Dc

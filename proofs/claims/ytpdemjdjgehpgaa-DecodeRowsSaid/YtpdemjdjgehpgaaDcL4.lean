/- Plain laws of words and what they say: each op of a row's form has a word; other registers. No program. -/
import Derived.Test.YtpdemjdjgehpgaaDcL3
namespace Go.Proofs.Ytpdemjdjgehpgaa.Dc
open Go.Proofs.Ytpdemjdjgehpgaa.Bt
set_option linter.unusedSimpArgs false
set_option linter.unusedVariables false
def apartB : Bool := (List.range 69).all fun j => (List.range 69).all fun k => j == k || (((row j).1.toNat ^^^ (row k).1.toNat) &&& (frm (row j).2).mask.toNat &&& (frm (row k).2).mask.toNat) != 0
theorem apart_all : apartB = true := by decide +kernel
theorem apart_rows {j k : Nat} (hj : j < 69) (hk : k < 69) (h : ¬ j = k) : (((row j).1.toNat ^^^ (row k).1.toNat) &&& (frm (row j).2).mask.toNat &&& (frm (row k).2).mask.toNat) ≠ 0 := by
  have h1 := List.all_eq_true.1 apart_all j (by simpa using hj)
  have h2 := List.all_eq_true.1 h1 k (by simpa using hk)
  simp only [Bool.or_eq_true, beq_iff_eq, bne_iff_ne] at h2
  exact h2.resolve_left h
theorem hit_nat {j : Nat} (hj : j < 69) {w : Int} (hw : 0 ≤ w) (hw' : w < 4294967296) (h : hit (row j) w = true) : (row j).1.toNat = w.toNat &&& (frm (row j).2).mask.toNat := by
  have hm := mask_rng _ (row_letter j hj)
  unfold hit at h
  have e := eq_of_beq h
  rw [u32_and _ _ hw hw' hm.1 hm.2] at e
  rw [← e, Int.toNat_natCast]
theorem hit_one {j k : Nat} (hj : j < 69) (hk : k < 69) {w : Int} (hw : 0 ≤ w) (hw' : w < 4294967296) (h1 : hit (row j) w = true) (h2 : hit (row k) w = true) : j = k := by
  by_cases c : j = k
  · exact c
  · refine absurd ?_ (apart_rows hj hk c)
    rw [hit_nat hj hw hw' h1, hit_nat hk hw hw' h2]
    apply Nat.eq_of_testBit_eq
    intro i
    simp only [Nat.testBit_and, Nat.testBit_xor, Nat.zero_testBit]
    cases w.toNat.testBit i <;> cases (frm (row j).2).mask.toNat.testBit i <;> cases (frm (row k).2).mask.toNat.testBit i <;> rfl
theorem wordFrom_some {w : Int} : ∀ (m k j : Nat), k + m = 69 → k ≤ j → j < 69 → hit (row j) w = true → wordFrom (rows.drop k) k w ≠ none
  | 0, k, j, hm, h1, h2, _ => by omega
  | m + 1, k, j, hm, h1, h2, hh => by
    rw [wordFrom_drop k (by omega)]
    by_cases c : hit (row k) w = true
    · rw [if_pos c]; simp
    · rw [if_neg c]
      have : ¬ k = j := fun e => c (e ▸ hh)
      exact wordFrom_some m (k + 1) j (by omega) (by omega) h2 hh
/-- What meets a row is said by it. -/
theorem word_hit {j : Nat} (hj : j < 69) {w : Int} (hw : 0 ≤ w) (hw' : w < 4294967296) (hh : hit (row j) w = true) : word w = some (opOf (frm (row j).2) (j + 1 : Nat) w) := by
  have hn := wordFrom_some 69 0 j rfl (Nat.zero_le _) hj hh
  cases h : word w with
  | none => exact absurd h hn
  | some o =>
    obtain ⟨k, hk, h2, rfl⟩ := word_sound h
    obtain rfl := hit_one hj hk hw hw' hh h2
    rfl
theorem tb_small {v i : Int} (hv : 0 ≤ v) (hv' : v < 32) (hi : 5 ≤ i) : tb v i = false := by
  have p : 2 ^ 5 ≤ 2 ^ i.toNat := Nat.pow_le_pow_right (by decide) (by omega)
  simp only [tb]
  rw [Nat.testBit_lt_two_pow (by omega), Bool.and_false]
theorem field_eq {x v t : Int} (hv : 0 ≤ v) (hv' : v < 32) (ht : 0 ≤ t) (ht' : t + 5 ≤ 32) (h : ∀ i, t ≤ i → i < t + 5 → tb x i = tb (v % 4294967296) (i - t)) : field x t 5 = v := by
  refine ext (field_rng _ _ _).1 (field_rng _ _ _).2 hv (by omega) fun i hi hi' => ?_
  rw [tb_field hi hi']
  by_cases c : i < 5
  · rw [decide_eq_true c, Bool.true_and, h (t + i) (by omega) (by omega), show t + i - t = i by omega, show v % 4294967296 = v by omega]
  · rw [decide_eq_false c, Bool.false_and, tb_small hv hv' (by omega)]
theorem build_hit {j : Nat} (hj : j < 69) (o : Op) : hit (row j) (build (frm (row j).2) (row j).1 o) = true := by
  have hlet := row_letter j hj
  have hp := row_rng j hj
  have hm := mask_rng _ hlet
  have hb := build_rng (frm (row j).2) (row j).1 o hp.1 hp.2
  have hr := rng_and hb.1 hb.2 hm.1 hm.2
  unfold hit
  refine beq_iff_eq.2 (ext hr.1 hr.2 hp.1 hp.2 fun i hi hi' => ?_)
  rw [tb_and hb.1 hb.2 hm.1 hm.2]
  have e : ((i.toNat : Nat) : Int) = i := by omega
  cases hl : loose (row j).2 i.toNat
  · have := tight_mask _ hlet i.toNat (by omega) hl
    rw [e] at this
    rw [build_tight _ hi hi' hl, this, Bool.and_true]
  · have := loose_mask _ hlet i.toNat (by omega) hl
    rw [e] at this
    rw [this, Bool.and_false, pat_loose j hj i hi hi' hl]
/-- Each op that fits a row's form has a word. -/
theorem encode_ok {j : Nat} (hj : j < 69) (o : Op) (hn : o.name = (j : Int) + 1) (d0 : 0 ≤ o.rd) (d1 : o.rd < 32) (a0 : 0 ≤ o.r1) (a1 : o.r1 < 32) (b0 : 0 ≤ o.r2) (b1 : o.r2 < 32)
    (nd : (frm (row j).2).d = false → o.rd = 0) (n1 : (frm (row j).2).r1 = false → o.r1 = 0) (n2 : (frm (row j).2).r2 = false → o.r2 = 0)
    (hi : number (frm (row j).2) (build (frm (row j).2) (row j).1 o) = o.imm) : encode o = some (build (frm (row j).2) (row j).1 o) := by
  have hp := row_rng j hj
  have hb := build_rng (frm (row j).2) (row j).1 o hp.1 hp.2
  have hw := word_hit hj hb.1 hb.2 (build_hit hj o)
  have ho : opOf (frm (row j).2) (j + 1 : Nat) (build (frm (row j).2) (row j).1 o) = o := by
    have e0 : ((j + 1 : Nat) : Int) = o.name := by rw [hn]; omega
    have e1 : (if (frm (row j).2).d = true then field (build (frm (row j).2) (row j).1 o) 7 5 else 0) = o.rd := by
      cases h : (frm (row j).2).d
      · exact (nd h).symm
      · exact field_eq d0 d1 (by decide) (by decide) (fun i h1 h2 => build_d (by omega) (by omega) h h1 (by omega))
    have e2 : (if (frm (row j).2).r1 = true then field (build (frm (row j).2) (row j).1 o) 15 5 else 0) = o.r1 := by
      cases h : (frm (row j).2).r1
      · exact (n1 h).symm
      · exact field_eq a0 a1 (by decide) (by decide) (fun i h1 h2 => build_1 (by omega) (by omega) h h1 (by omega))
    have e3 : (if (frm (row j).2).r2 = true then field (build (frm (row j).2) (row j).1 o) 20 5 else 0) = o.r2 := by
      cases h : (frm (row j).2).r2
      · exact (n2 h).symm
      · exact field_eq b0 b1 (by decide) (by decide) (fun i h1 h2 => build_2 (by omega) (by omega) h h1 (by omega))
    unfold opOf
    rw [e0, e1, e2, e3, hi]
  unfold encode
  rw [if_neg (by omega), show (o.name - 1).toNat = j by omega]
  dsimp only
  rw [hw, ho, if_pos rfl]
theorem encode_is {j : Nat} (hj : j < 69) {o : Op} {y : Int} (hn : o.name = (j : Int) + 1) (h : encode o = some y) : y = build (frm (row j).2) (row j).1 o := by
  unfold encode at h
  rw [if_neg (by omega), show (o.name - 1).toNat = j by omega] at h
  dsimp only at h
  split at h
  · cases h; rfl
  · cases h
theorem field_congr {x y a m : Int} (ha : 0 ≤ a) (hm : a + m ≤ 32) (h : ∀ i, a ≤ i → i < a + m → tb x i = tb y i) : field x a m = field y a m := by
  unfold field
  refine W_congr fun i hi hi' => ?_
  by_cases c : i < m
  · rw [h (a + i) (by omega) (by omega)]
  · rw [decide_eq_false c, Bool.false_and, Bool.false_and]
theorem numFrom_congr {x y : Int} : ∀ (ps : List Pc) (n : Int), (∀ q ∈ ps, 0 ≤ q.1 ∧ q.1 + q.2.1 ≤ 32 ∧ ∀ i, q.1 ≤ i → i < q.1 + q.2.1 → tb x i = tb y i) → numFrom ps x n = numFrom ps y n
  | [], _, _ => rfl
  | q :: ps, n, h => by
    obtain ⟨h1, h2, h3⟩ := h q (List.mem_cons_self ..)
    show numFrom ps x (put n q.2.2 q.2.1 (field x q.1 q.2.1)) = numFrom ps y (put n q.2.2 q.2.1 (field y q.1 q.2.1))
    rw [field_congr h1 h2 h3]
    exact numFrom_congr ps _ (fun r hr => h r (List.mem_cons_of_mem _ hr))
theorem put_zero (t m : Int) : put 0 t m 0 = 0 := by
  refine ext (put_rng _ _ _ _).1 (put_rng _ _ _ _).2 (by decide) (by decide) fun i hi hi' => ?_
  rw [tb_put hi hi', tb_zero, tb_zero]; simp
theorem field_zero (a m : Int) : field 0 a m = 0 := by
  refine ext (field_rng _ _ _).1 (field_rng _ _ _).2 (by decide) (by decide) fun i hi hi' => ?_
  rw [tb_field hi hi', tb_zero, tb_zero, Bool.and_false]
theorem numFrom_zero : ∀ (ps : List Pc), numFrom ps 0 0 = 0
  | [] => rfl
  | q :: ps => by
    show numFrom ps 0 (put 0 q.2.2 q.2.1 (field 0 q.1 q.2.1)) = 0
    rw [field_zero, put_zero]
    exact numFrom_zero ps
theorem sign_zero (k : Int) : sign 0 k = 0 := by
  unfold sign
  split
  · rfl
  · refine ext (W_nonneg _) (W_lt _) (by decide) (by decide) fun i hi hi' => ?_
    rw [tb_W, tb_zero]
    simp [tb_zero]
theorem pcs (c : Nat) (hc : c ∈ letters) (q : Pc) (hq : q ∈ (frm c).ps) : 0 ≤ q.1 ∧ 0 ≤ q.2.1 ∧ q.1 + q.2.1 ≤ 32 := by
  obtain ⟨_, p2, _, _⟩ := fits c hc
  obtain ⟨a0, a1, a2, a3, a4, a5⟩ := p2 q hq
  exact ⟨a0, a2, a3⟩
/-- The number that a number is put as. -/
theorem number_zero {j : Nat} (hj : j < 69) (o : Op) (h0 : o.imm = 0) : number (frm (row j).2) (build (frm (row j).2) (row j).1 o) = o.imm := by
  have hlet := row_letter j hj
  rw [h0]
  unfold number
  rw [numFrom_congr (y := 0) _ _ (fun q hq => ⟨(pcs _ hlet q hq).1, (pcs _ hlet q hq).2.2, fun i h1 h2 => by
    have := pcs _ hlet q hq
    rw [build_pc _ hlet hq (by omega) (by omega) h1 h2, h0, tb_zero, tb_zero]⟩), numFrom_zero, sign_zero]
theorem number_same {j : Nat} (hj : j < 69) (o : Op) (w : Int) (h0 : o.imm = number (frm (row j).2) w) : number (frm (row j).2) (build (frm (row j).2) (row j).1 o) = o.imm := by
  have hlet := row_letter j hj
  rw [h0]
  unfold number
  rw [numFrom_congr (y := w) _ _ (fun q hq => ⟨(pcs _ hlet q hq).1, (pcs _ hlet q hq).2.2, fun i h1 h2 => by
    have := pcs _ hlet q hq
    rw [build_pc _ hlet hq (by omega) (by omega) h1 h2, h0]
    exact number_bit (fits _ hlet) w hq h1 h2⟩)]
/-- Two ops that differ in one register alone: their words differ there alone. -/
theorem build_same {j : Nat} (hj : j < 69) (o p : Op) (hi : o.imm = p.imm) {i : Int} (h0 : 0 ≤ i) (h1 : i < 32) (hd : (frm (row j).2).d = true → 7 ≤ i → i < 12 → o.rd = p.rd) (ha : (frm (row j).2).r1 = true → 15 ≤ i → i < 20 → o.r1 = p.r1) (hb : (frm (row j).2).r2 = true → 20 ≤ i → i < 25 → o.r2 = p.r2) :
    tb (build (frm (row j).2) (row j).1 o) i = tb (build (frm (row j).2) (row j).1 p) i := by
  have hlet := row_letter j hj
  cases hl : loose (row j).2 i.toNat
  · rw [build_tight _ h0 h1 hl, build_tight _ h0 h1 hl]
  · rcases where_bit _ _ rfl h0 hl with ⟨q, hq, h2, h3⟩ | ⟨h, h2, h3⟩ | ⟨h, h2, h3⟩ | ⟨h, h2, h3⟩
    · rw [build_pc _ hlet hq h0 h1 h2 h3, build_pc _ hlet hq h0 h1 h2 h3, hi]
    · rw [build_d h0 h1 h h2 h3, build_d h0 h1 h h2 h3, hd h h2 h3]
    · rw [build_1 h0 h1 h h2 h3, build_1 h0 h1 h h2 h3, ha h h2 h3]
    · rw [build_2 h0 h1 h h2 h3, build_2 h0 h1 h h2 h3, hb h h2 h3]
end Go.Proofs.Ytpdemjdjgehpgaa.Dc

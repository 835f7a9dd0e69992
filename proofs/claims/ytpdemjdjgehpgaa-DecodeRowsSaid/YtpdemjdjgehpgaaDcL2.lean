/- Plain laws of words and what they say: sums. No program. -/
import Derived.Test.YtpdemjdjgehpgaaDcL
namespace Go.Proofs.Ytpdemjdjgehpgaa.Dc
open Go.Proofs.Ytpdemjdjgehpgaa.Bt
set_option linter.unusedSimpArgs false
/-- No bit of a form's mask is a bit of its number or of a register. -/
def loose (c : Nat) (n : Nat) : Bool := ((frm c).ps.any fun p => decide (p.1 ≤ n) && decide ((n : Int) < p.1 + p.2.1)) || ((frm c).d && decide (7 ≤ n) && decide (n < 12)) || ((frm c).r1 && decide (15 ≤ n) && decide (n < 20)) || ((frm c).r2 && decide (20 ≤ n) && decide (n < 25))
theorem loose_mask : ∀ c ∈ letters, ∀ n, n < 32 → loose c n = true → tb (frm c).mask n = false := by decide +kernel
theorem pat_in : ∀ k, k < 69 → bits .and .u32 (row k).1 (frm (row k).2).mask = (row k).1 := by decide +kernel
theorem mask_rng : ∀ c ∈ letters, 0 ≤ (frm c).mask ∧ (frm c).mask < 4294967296 := by decide
theorem pat_loose (k : Nat) (hk : k < 69) (i : Int) (hi : 0 ≤ i) (hi' : i < 32) (h : loose (row k).2 i.toNat = true) : tb (row k).1 i = false := by
  have hl := row_letter k hk
  have hm := mask_rng _ hl
  have hp := row_rng k hk
  have e := tb_and hp.1 hp.2 hm.1 hm.2 i
  rw [pat_in k hk] at e
  have := loose_mask _ hl i.toNat (by omega) h
  rw [show ((i.toNat : Nat) : Int) = i by omega] at this
  rw [e, this, Bool.and_false]
theorem put_low (a t m v : Int) : put a t m v = put a t m (field v 0 m) := by
  refine ext (put_rng _ _ _ _).1 (put_rng _ _ _ _).2 (put_rng _ _ _ _).1 (put_rng _ _ _ _).2 fun i hi hi' => ?_
  rw [tb_put hi hi', tb_put hi hi']
  by_cases c : t ≤ i ∧ i < t + m ∧ i < t + 32
  · rw [if_pos c, if_pos c, tb_field (by omega) (by omega), decide_eq_true (show i - t < m by omega), Bool.true_and, Int.zero_add]
  · rw [if_neg c, if_neg c]
theorem add_assoc' (a b c : Int) : add (add a b) c = add a (add b c) := by unfold add; omega
theorem add_zero' {a : Int} (h : 0 ≤ a) (h' : a < 4294967296) : add a 0 = a := by unfold add; omega
set_option maxHeartbeats 2000000 in
theorem imm_sum (c : Nat) (hc : c ∈ letters) (p n : Int) (hp : 0 ≤ p) (hp' : p < 4294967296) (hl : ∀ i, 0 ≤ i → i < 32 → loose c i.toNat = true → tb p i = false) : immFrom (frm c).ps n p = add p (numR c n) := by
  simp only [letters, List.mem_cons, List.not_mem_nil, or_false] at hc
  rcases hc with rfl | rfl | rfl | rfl | rfl | rfl | rfl | rfl | rfl | rfl | rfl | rfl | rfl
  · show put (p) 12 20 (field n 12 20) = add p (numR 85 n)
    have e0 : put (p) 12 20 (field n 12 20) = add (p) (pt n 12 20 12) := put_pt hp hp' (by intro i hi hi' h1 h2; exact hl i hi hi' (by simp [loose, frm]; omega))
    rw [e0]
    rfl
  · show put (put (put (put (p) 31 1 (field n 20 1)) 12 8 (field n 12 8)) 20 1 (field n 11 1)) 21 10 (field n 1 10) = add p (numR 74 n)
    have e0 : put (p) 31 1 (field n 20 1) = add (p) (pt n 20 1 31) := put_pt hp hp' (by intro i hi hi' h1 h2; exact hl i hi hi' (by simp [loose, frm]; omega))
    have e1 : put (put (p) 31 1 (field n 20 1)) 12 8 (field n 12 8) = add (put (p) 31 1 (field n 20 1)) (pt n 12 8 12) := put_pt (put_rng _ _ _ _).1 (put_rng _ _ _ _).2 (by intro i hi hi' h1 h2; rw [tb_put_out hi hi' (by omega)]; exact hl i hi hi' (by simp [loose, frm]; omega))
    have e2 : put (put (put (p) 31 1 (field n 20 1)) 12 8 (field n 12 8)) 20 1 (field n 11 1) = add (put (put (p) 31 1 (field n 20 1)) 12 8 (field n 12 8)) (pt n 11 1 20) := put_pt (put_rng _ _ _ _).1 (put_rng _ _ _ _).2 (by intro i hi hi' h1 h2; rw [tb_put_out hi hi' (by omega)]; rw [tb_put_out hi hi' (by omega)]; exact hl i hi hi' (by simp [loose, frm]; omega))
    have e3 : put (put (put (put (p) 31 1 (field n 20 1)) 12 8 (field n 12 8)) 20 1 (field n 11 1)) 21 10 (field n 1 10) = add (put (put (put (p) 31 1 (field n 20 1)) 12 8 (field n 12 8)) 20 1 (field n 11 1)) (pt n 1 10 21) := put_pt (put_rng _ _ _ _).1 (put_rng _ _ _ _).2 (by intro i hi hi' h1 h2; rw [tb_put_out hi hi' (by omega)]; rw [tb_put_out hi hi' (by omega)]; rw [tb_put_out hi hi' (by omega)]; exact hl i hi hi' (by simp [loose, frm]; omega))
    rw [e3, e2, e1, e0]
    show add (add (add (add p _) _) _) _ = add p (add (add (add _ _) _) _)
    rw [add_assoc', add_assoc', add_assoc', add_assoc', add_assoc']
  · show put (p) 20 12 (field n 0 12) = add p (numR 73 n)
    have e0 : put (p) 20 12 (field n 0 12) = add (p) (pt n 0 12 20) := put_pt hp hp' (by intro i hi hi' h1 h2; exact hl i hi hi' (by simp [loose, frm]; omega))
    rw [e0]
    rfl
  · show put (put (put (put (p) 31 1 (field n 12 1)) 7 1 (field n 11 1)) 25 6 (field n 5 6)) 8 4 (field n 1 4) = add p (numR 66 n)
    have e0 : put (p) 31 1 (field n 12 1) = add (p) (pt n 12 1 31) := put_pt hp hp' (by intro i hi hi' h1 h2; exact hl i hi hi' (by simp [loose, frm]; omega))
    have e1 : put (put (p) 31 1 (field n 12 1)) 7 1 (field n 11 1) = add (put (p) 31 1 (field n 12 1)) (pt n 11 1 7) := put_pt (put_rng _ _ _ _).1 (put_rng _ _ _ _).2 (by intro i hi hi' h1 h2; rw [tb_put_out hi hi' (by omega)]; exact hl i hi hi' (by simp [loose, frm]; omega))
    have e2 : put (put (put (p) 31 1 (field n 12 1)) 7 1 (field n 11 1)) 25 6 (field n 5 6) = add (put (put (p) 31 1 (field n 12 1)) 7 1 (field n 11 1)) (pt n 5 6 25) := put_pt (put_rng _ _ _ _).1 (put_rng _ _ _ _).2 (by intro i hi hi' h1 h2; rw [tb_put_out hi hi' (by omega)]; rw [tb_put_out hi hi' (by omega)]; exact hl i hi hi' (by simp [loose, frm]; omega))
    have e3 : put (put (put (put (p) 31 1 (field n 12 1)) 7 1 (field n 11 1)) 25 6 (field n 5 6)) 8 4 (field n 1 4) = add (put (put (put (p) 31 1 (field n 12 1)) 7 1 (field n 11 1)) 25 6 (field n 5 6)) (pt n 1 4 8) := put_pt (put_rng _ _ _ _).1 (put_rng _ _ _ _).2 (by intro i hi hi' h1 h2; rw [tb_put_out hi hi' (by omega)]; rw [tb_put_out hi hi' (by omega)]; rw [tb_put_out hi hi' (by omega)]; exact hl i hi hi' (by simp [loose, frm]; omega))
    rw [e3, e2, e1, e0]
    show add (add (add (add p _) _) _) _ = add p (add (add (add _ _) _) _)
    rw [add_assoc', add_assoc', add_assoc', add_assoc', add_assoc']
  · show put (put (p) 25 7 (field n 5 7)) 7 5 (field n 0 5) = add p (numR 83 n)
    have e0 : put (p) 25 7 (field n 5 7) = add (p) (pt n 5 7 25) := put_pt hp hp' (by intro i hi hi' h1 h2; exact hl i hi hi' (by simp [loose, frm]; omega))
    have e1 : put (put (p) 25 7 (field n 5 7)) 7 5 (field n 0 5) = add (put (p) 25 7 (field n 5 7)) (pt n 0 5 7) := put_pt (put_rng _ _ _ _).1 (put_rng _ _ _ _).2 (by intro i hi hi' h1 h2; rw [tb_put_out hi hi' (by omega)]; exact hl i hi hi' (by simp [loose, frm]; omega))
    rw [e1, e0]
    exact add_assoc' _ _ _
  · show p = add p 0
    rw [add_zero' hp hp']
  · show put (p) 20 5 (field n 0 5) = add p (numR 72 n)
    have e0 : put (p) 20 5 (field n 0 5) = add (p) (pt n 0 5 20) := put_pt hp hp' (by intro i hi hi' h1 h2; exact hl i hi hi' (by simp [loose, frm]; omega))
    rw [e0]
    rfl
  · show put (p) 25 2 (field n 0 2) = add p (numR 65 n)
    have e0 : put (p) 25 2 (field n 0 2) = add (p) (pt n 0 2 25) := put_pt hp hp' (by intro i hi hi' h1 h2; exact hl i hi hi' (by simp [loose, frm]; omega))
    rw [e0]
    rfl
  · show put (p) 25 2 (field n 0 2) = add p (numR 76 n)
    have e0 : put (p) 25 2 (field n 0 2) = add (p) (pt n 0 2 25) := put_pt hp hp' (by intro i hi hi' h1 h2; exact hl i hi hi' (by simp [loose, frm]; omega))
    rw [e0]
    rfl
  · show put (p) 20 12 (field n 0 12) = add p (numR 70 n)
    have e0 : put (p) 20 12 (field n 0 12) = add (p) (pt n 0 12 20) := put_pt hp hp' (by intro i hi hi' h1 h2; exact hl i hi hi' (by simp [loose, frm]; omega))
    rw [e0]
    rfl
  · show p = add p 0
    rw [add_zero' hp hp']
  · show p = add p 0
    rw [add_zero' hp hp']
  · show put (p) 20 12 (field n 0 12) = add p (numR 67 n)
    have e0 : put (p) 20 12 (field n 0 12) = add (p) (pt n 0 12 20) := put_pt hp hp' (by intro i hi hi' h1 h2; exact hl i hi hi' (by simp [loose, frm]; omega))
    rw [e0]
    rfl
theorem imm_out : ∀ (ps : List (Int × Int × Int)) (n p i : Int), 0 ≤ i → i < 32 → (∀ q ∈ ps, ¬ (q.1 ≤ i ∧ i < q.1 + q.2.1)) → tb (immFrom ps n p) i = tb p i
  | [], _, _, _, _, _, _ => rfl
  | q :: ps, n, p, i, hi, hi', h => by
    show tb (immFrom ps n (put p q.1 q.2.1 (field n q.2.2 q.2.1))) i = tb p i
    rw [imm_out ps n _ i hi hi' (fun r hr => h r (List.mem_cons_of_mem _ hr)), tb_put_out hi hi' (h q (List.mem_cons_self ..))]
theorem imm_rng : ∀ (ps : List (Int × Int × Int)) (n p : Int), 0 ≤ p → p < 4294967296 → 0 ≤ immFrom ps n p ∧ immFrom ps n p < 4294967296
  | [], _, _, h, h' => ⟨h, h'⟩
  | q :: ps, n, p, _, _ => imm_rng ps n _ (put_rng _ _ _ _).1 (put_rng _ _ _ _).2
theorem clear_d : ∀ c ∈ letters, (frm c).d = true → ∀ q ∈ (frm c).ps, q.1 + q.2.1 ≤ 7 ∨ 12 ≤ q.1 := by decide
theorem clear_1 : ∀ c ∈ letters, (frm c).r1 = true → ∀ q ∈ (frm c).ps, q.1 + q.2.1 ≤ 15 ∨ 20 ≤ q.1 := by decide
theorem clear_2 : ∀ c ∈ letters, (frm c).r2 = true → ∀ q ∈ (frm c).ps, q.1 + q.2.1 ≤ 20 ∨ 25 ≤ q.1 := by decide
theorem reg_put {a v t : Int} (ha : 0 ≤ a) (ha' : a < 4294967296) (hv : 0 ≤ v) (hv' : v < 32) (hz : ∀ i, 0 ≤ i → i < 32 → t ≤ i → i < t + 5 → tb a i = false) : put a t 5 (v % 4294967296) = add a (pt v 0 5 t) := by
  rw [show v % 4294967296 = v by omega, put_low]
  exact put_add ha ha' hz
/-- What is built is the sum. -/
theorem build_sum (k : Nat) (hk : k < 69) (o : Op) (d0 : 0 ≤ o.rd) (d1 : o.rd < 32) (a0 : 0 ≤ o.r1) (a1 : o.r1 < 32) (b0 : 0 ≤ o.r2) (b1 : o.r2 < 32) :
    build (frm (row k).2) (row k).1 o = (let a := add (row k).1 (numR (row k).2 o.imm); let b := if (frm (row k).2).d = true then add a (pt o.rd 0 5 7) else a; let c := if (frm (row k).2).r1 = true then add b (pt o.r1 0 5 15) else b; if (frm (row k).2).r2 = true then add c (pt o.r2 0 5 20) else c) := by
  have hl := row_letter k hk
  have hp := row_rng k hk
  have hz := pat_loose k hk
  have cd := clear_d _ hl
  have c1 := clear_1 _ hl
  have c2 := clear_2 _ hl
  have hA := imm_sum _ hl (row k).1 o.imm hp.1 hp.2 hz
  have hAr := imm_rng (frm (row k).2).ps o.imm (row k).1 hp.1 hp.2
  have hAo := fun i h0 h1 h => imm_out (frm (row k).2).ps o.imm (row k).1 i h0 h1 h
  unfold loose at hz
  dsimp only
  rw [← hA]
  unfold build
  dsimp only
  generalize immFrom (frm (row k).2).ps o.imm (row k).1 = A at *
  generalize (row k).1 = p at *
  generalize frm (row k).2 = f at *
  have zd : f.d = true → ∀ i, 0 ≤ i → i < 32 → 7 ≤ i → i < 7 + 5 → tb A i = false := fun h i h0 h1 h2 h3 => by
    rw [hAo i h0 h1 (fun q hq => by have := cd h q hq; omega)]
    exact hz i h0 h1 (by have e1 : 7 ≤ i.toNat := by omega
                         have e2 : i.toNat < 12 := by omega
                         simp [h, e1, e2])
  have z1 : f.r1 = true → ∀ i, 0 ≤ i → i < 32 → 15 ≤ i → i < 15 + 5 → tb A i = false := fun h i h0 h1 h2 h3 => by
    rw [hAo i h0 h1 (fun q hq => by have := c1 h q hq; omega)]
    exact hz i h0 h1 (by have e1 : 15 ≤ i.toNat := by omega
                         have e2 : i.toNat < 20 := by omega
                         simp [h, e1, e2])
  have z2 : f.r2 = true → ∀ i, 0 ≤ i → i < 32 → 20 ≤ i → i < 20 + 5 → tb A i = false := fun h i h0 h1 h2 h3 => by
    rw [hAo i h0 h1 (fun q hq => by have := c2 h q hq; omega)]
    exact hz i h0 h1 (by have e1 : 20 ≤ i.toNat := by omega
                         have e2 : i.toNat < 25 := by omega
                         simp [h, e1, e2])
  clear hz cd c1 c2 hAo hA hl hp
  obtain ⟨B, hB⟩ : ∃ B, (if f.d = true then put A 7 5 (o.rd % 4294967296) else A) = B := ⟨_, rfl⟩
  have hB2 : B = if f.d = true then add A (pt o.rd 0 5 7) else A := by
    rw [← hB]
    by_cases h : f.d = true
    · rw [if_pos h, if_pos h, reg_put hAr.1 hAr.2 d0 d1 (zd h)]
    · rw [if_neg h, if_neg h]
  have hBr : 0 ≤ B ∧ B < 4294967296 := by rw [← hB]; split; exact put_rng _ _ _ _; exact hAr
  have hBo : ∀ i, 0 ≤ i → i < 32 → 12 ≤ i → tb B i = tb A i := fun i h0 h1 h2 => by
    rw [← hB]; split
    · exact tb_put_out h0 h1 (by omega)
    · rfl
  rw [hB, ← hB2]
  clear hB hB2 zd
  obtain ⟨C, hC⟩ : ∃ C, (if f.r1 = true then put B 15 5 (o.r1 % 4294967296) else B) = C := ⟨_, rfl⟩
  have hC2 : C = if f.r1 = true then add B (pt o.r1 0 5 15) else B := by
    rw [← hC]
    by_cases h : f.r1 = true
    · rw [if_pos h, if_pos h, reg_put hBr.1 hBr.2 a0 a1 (fun i h0 h1 h2 h3 => by rw [hBo i h0 h1 (by omega)]; exact z1 h i h0 h1 h2 h3)]
    · rw [if_neg h, if_neg h]
  have hCr : 0 ≤ C ∧ C < 4294967296 := by rw [← hC]; split; exact put_rng _ _ _ _; exact hBr
  have hCo : ∀ i, 0 ≤ i → i < 32 → 20 ≤ i → tb C i = tb A i := fun i h0 h1 h2 => by
    rw [← hC]; split
    · rw [tb_put_out h0 h1 (by omega), hBo i h0 h1 (by omega)]
    · exact hBo i h0 h1 (by omega)
  rw [hC, ← hC2]
  clear hC hC2 z1
  by_cases h : f.r2 = true
  · rw [if_pos h, if_pos h, reg_put hCr.1 hCr.2 b0 b1 (fun i h0 h1 h2 h3 => by rw [hCo i h0 h1 h2]; exact z2 h i h0 h1 h2 h3)]
  · rw [if_neg h, if_neg h]
theorem wordFrom_sound : ∀ (m k : Nat) (w : Int) (o : Op), k + m = 69 → wordFrom (rows.drop k) k w = some o → ∃ j, k ≤ j ∧ j < 69 ∧ hit (row j) w = true ∧ o = opOf (frm (row j).2) (j + 1 : Nat) w
  | 0, k, w, o, hm, h => by
    obtain rfl : k = 69 := by omega
    cases h
  | m + 1, k, w, o, hm, h => by
    rw [wordFrom_drop k (by omega)] at h
    by_cases hh : hit (row k) w = true
    · rw [if_pos hh] at h
      cases h
      exact ⟨k, Nat.le_refl _, by omega, hh, rfl⟩
    · rw [if_neg hh] at h
      obtain ⟨j, h1, h2, h3, h4⟩ := wordFrom_sound m (k + 1) w o (by omega) h
      exact ⟨j, by omega, h2, h3, h4⟩
/-- What a word says is what one row says. -/
theorem word_sound {w : Int} {o : Op} (h : word w = some o) : ∃ j, j < 69 ∧ hit (row j) w = true ∧ o = opOf (frm (row j).2) (j + 1 : Nat) w := by
  obtain ⟨j, _, h2, h3, h4⟩ := wordFrom_sound 69 0 w o rfl h
  exact ⟨j, h2, h3, h4⟩
theorem field5 (w a : Int) : 0 ≤ field w a 5 ∧ field w a 5 < 32 := by
  refine ⟨(field_rng _ _ _).1, ?_⟩
  have := small_of_bits (field_rng w a 5).1 5 (fun j hj => by
    by_cases h : j < 32
    · rw [tb_field (by omega) h, decide_eq_false (by omega), Bool.false_and]
    · exact tb_high (field_rng w a 5).2 (by omega))
  simpa using this
theorem word_small {w : Int} {o : Op} (h : word w = some o) : (0 ≤ o.rd ∧ o.rd < 32) ∧ (0 ≤ o.r1 ∧ o.r1 < 32) ∧ (0 ≤ o.r2 ∧ o.r2 < 32) := by
  obtain ⟨j, _, _, rfl⟩ := word_sound h
  refine ⟨?_, ?_, ?_⟩ <;> (unfold opOf; dsimp only; split; exact field5 _ _; omega)
theorem encode_small (o : Op) (v : Int) (h : encode o = some v) : (1 ≤ o.name ∧ o.name ≤ 69) ∧ (0 ≤ o.rd ∧ o.rd < 32) ∧ (0 ≤ o.r1 ∧ o.r1 < 32) ∧ (0 ≤ o.r2 ∧ o.r2 < 32) := by
  unfold encode at h
  split at h
  · cases h
  · rename_i hn
    dsimp only at h
    split at h
    · rename_i hw
      exact ⟨by omega, word_small hw⟩
    · cases h
end Go.Proofs.Ytpdemjdjgehpgaa.Dc

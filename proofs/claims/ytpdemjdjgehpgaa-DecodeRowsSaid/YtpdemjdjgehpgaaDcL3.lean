/- Plain laws of words and what they say: there and back. No program. -/
import Derived.Test.YtpdemjdjgehpgaaDcL2
namespace Go.Proofs.Ytpdemjdjgehpgaa.Dc
open Go.Proofs.Ytpdemjdjgehpgaa.Bt
set_option linter.unusedSimpArgs false
set_option linter.unusedVariables false
abbrev Pc := Int × Int × Int
/-- Two pieces lie apart, in the word and in the number. -/
def Apart (a b : Pc) : Prop := (a.1 + a.2.1 ≤ b.1 ∨ b.1 + b.2.1 ≤ a.1) ∧ (a.2.2 + a.2.1 ≤ b.2.2 ∨ b.2.2 + b.2.1 ≤ a.2.2)
instance (a b : Pc) : Decidable (Apart a b) := by unfold Apart; infer_instance
def Fits (f : Frm) : Prop := f.ps.Pairwise Apart ∧ (∀ q ∈ f.ps, 0 ≤ q.1 ∧ 0 ≤ q.2.2 ∧ 0 ≤ q.2.1 ∧ q.1 + q.2.1 ≤ 32 ∧ q.2.2 + q.2.1 ≤ 32 ∧ (f.sg = 0 ∨ q.2.2 + q.2.1 ≤ f.sg)) ∧ 0 ≤ f.sg ∧ f.sg ≤ 31
instance (f : Frm) : Decidable (Fits f) := by unfold Fits; infer_instance
theorem fits : ∀ c ∈ letters, Fits (frm c) := by decide
theorem imm_in : ∀ (ps : List Pc) (n p i : Int) (q : Pc), 0 ≤ i → i < 32 → q ∈ ps → ps.Pairwise Apart → q.2.1 ≤ 32 → q.1 ≤ i → i < q.1 + q.2.1 → tb (immFrom ps n p) i = tb (field n q.2.2 q.2.1) (i - q.1)
  | [], _, _, _, _, _, _, h, _, _, _, _ => by cases h
  | r :: rs, n, p, i, q, hi, hi', hq, hd, hm, h1, h2 => by
    obtain ⟨d1, d2⟩ := List.pairwise_cons.1 hd
    show tb (immFrom rs n (put p r.1 r.2.1 (field n r.2.2 r.2.1))) i = _
    rcases List.mem_cons.1 hq with rfl | hq
    · rw [imm_out rs n _ i hi hi' (fun s hs => by have := (d1 s hs).1; omega), tb_put hi hi', if_pos ⟨h1, h2, by omega⟩]
    · exact imm_in rs n _ i q hi hi' hq d2 hm h1 h2
theorem num_out : ∀ (ps : List Pc) (w n i : Int), 0 ≤ i → i < 32 → (∀ q ∈ ps, ¬ (q.2.2 ≤ i ∧ i < q.2.2 + q.2.1)) → tb (numFrom ps w n) i = tb n i
  | [], _, _, _, _, _, _ => rfl
  | q :: ps, w, n, i, hi, hi', h => by
    show tb (numFrom ps w (put n q.2.2 q.2.1 (field w q.1 q.2.1))) i = tb n i
    rw [num_out ps w _ i hi hi' (fun r hr => h r (List.mem_cons_of_mem _ hr)), tb_put_out hi hi' (h q (List.mem_cons_self ..))]
theorem num_in : ∀ (ps : List Pc) (w n i : Int) (q : Pc), 0 ≤ i → i < 32 → q ∈ ps → ps.Pairwise Apart → q.2.1 ≤ 32 → q.2.2 ≤ i → i < q.2.2 + q.2.1 → tb (numFrom ps w n) i = tb (field w q.1 q.2.1) (i - q.2.2)
  | [], _, _, _, _, _, _, h, _, _, _, _ => by cases h
  | r :: rs, w, n, i, q, hi, hi', hq, hd, hm, h1, h2 => by
    obtain ⟨d1, d2⟩ := List.pairwise_cons.1 hd
    show tb (numFrom rs w (put n r.2.2 r.2.1 (field w r.1 r.2.1))) i = _
    rcases List.mem_cons.1 hq with rfl | hq
    · rw [num_out rs w _ i hi hi' (fun s hs => by have := (d1 s hs).2; omega), tb_put hi hi', if_pos ⟨h1, h2, by omega⟩]
    · exact num_in rs w _ i q hi hi' hq d2 hm h1 h2
theorem numFrom_rng : ∀ (ps : List Pc) (w n : Int), 0 ≤ n → n < 4294967296 → 0 ≤ numFrom ps w n ∧ numFrom ps w n < 4294967296
  | [], _, _, h, h' => ⟨h, h'⟩
  | q :: ps, w, n, _, _ => numFrom_rng ps w _ (put_rng _ _ _ _).1 (put_rng _ _ _ _).2
theorem number_rng (f : Frm) (w : Int) : 0 ≤ number f w ∧ number f w < 4294967296 := by
  have h := numFrom_rng f.ps w 0 (by omega) (by omega)
  exact sign_rng h.1 h.2
theorem tb_number {f : Frm} (hf : Fits f) (w : Int) {i : Int} (hi : 0 ≤ i) (hi' : i < 32) (h : f.sg = 0 ∨ i < f.sg) : tb (number f w) i = tb (numFrom f.ps w 0) i := by
  obtain ⟨_, _, s0, s1⟩ := hf
  unfold number
  by_cases c : f.sg < 1
  · unfold sign; rw [if_pos (.inl c)]
  · rw [tb_sign (by omega) s1 hi hi', if_pos (by omega)]
/-- A bit of the number is a bit of the word. -/
theorem number_bit {f : Frm} (hf : Fits f) (w : Int) {q : Pc} (hq : q ∈ f.ps) {i : Int} (h1 : q.1 ≤ i) (h2 : i < q.1 + q.2.1) : tb (number f w) (q.2.2 + (i - q.1)) = tb w i := by
  have hf2 := hf
  obtain ⟨p1, p2, s0, s1⟩ := hf
  obtain ⟨a0, a1, a2, a3, a4, a5⟩ := p2 q hq
  rw [tb_number hf2 w (by omega) (by omega) (by omega), num_in f.ps w 0 _ q (by omega) (by omega) hq p1 (by omega) (by omega) (by omega), tb_field (by omega) (by omega), decide_eq_true (by omega), Bool.true_and]
  congr 1
  omega
theorem tight_mask : ∀ c ∈ letters, ∀ n, n < 32 → loose c n = false → tb (frm c).mask n = true := by decide +kernel
theorem hit_bit {j : Nat} (hj : j < 69) {w : Int} (hw : 0 ≤ w) (hw' : w < 4294967296) (hh : hit (row j) w = true) {i : Int} (hi : 0 ≤ i) (hi' : i < 32) (hl : loose (row j).2 i.toNat = false) : tb w i = tb (row j).1 i := by
  have hlet := row_letter j hj
  have hm := mask_rng _ hlet
  have ht := tight_mask _ hlet i.toNat (by omega) hl
  rw [show ((i.toNat : Nat) : Int) = i by omega] at ht
  have e := tb_and hw hw' hm.1 hm.2 i
  unfold hit at hh
  rw [eq_of_beq hh, ht, Bool.and_true] at e
  exact e.symm
/-- Where a bit of a word lies. -/
theorem where_bit (f : Frm) (c : Nat) (hf : f = frm c) {i : Int} (hi : 0 ≤ i) (hl : loose c i.toNat = true) : (∃ q ∈ f.ps, q.1 ≤ i ∧ i < q.1 + q.2.1) ∨ (f.d = true ∧ 7 ≤ i ∧ i < 12) ∨ (f.r1 = true ∧ 15 ≤ i ∧ i < 20) ∨ (f.r2 = true ∧ 20 ≤ i ∧ i < 25) := by
  subst hf
  unfold loose at hl
  simp only [Bool.or_eq_true, Bool.and_eq_true, List.any_eq_true, decide_eq_true_eq] at hl
  rcases hl with ((⟨q, hq, h1, h2⟩ | ⟨⟨h, h1⟩, h2⟩) | ⟨⟨h, h1⟩, h2⟩) | ⟨⟨h, h1⟩, h2⟩
  · exact .inl ⟨q, hq, by omega, by omega⟩
  · exact .inr (.inl ⟨h, by omega, by omega⟩)
  · exact .inr (.inr (.inl ⟨h, by omega, by omega⟩))
  · exact .inr (.inr (.inr ⟨h, by omega, by omega⟩))
theorem build_rng (f : Frm) (p : Int) (o : Op) (hp : 0 ≤ p) (hp' : p < 4294967296) : 0 ≤ build f p o ∧ build f p o < 4294967296 := by
  have h := imm_rng f.ps o.imm p hp hp'
  unfold build
  dsimp only
  split
  · exact put_rng _ _ _ _
  · split
    · exact put_rng _ _ _ _
    · split
      · exact put_rng _ _ _ _
      · exact h
theorem reg_bit (v i t : Int) (hv : 0 ≤ v) (hv' : v < 32) : tb (v % 4294967296) (i - t) = tb v (i - t) := by rw [show v % 4294967296 = v by omega]
/-- The bits of what is built. -/
theorem build_2 {f : Frm} {p : Int} {o : Op} {i : Int} (hi : 0 ≤ i) (hi' : i < 32) (h : f.r2 = true) (h1 : 20 ≤ i) (h2 : i < 25) : tb (build f p o) i = tb (o.r2 % 4294967296) (i - 20) := by
  unfold build; dsimp only
  rw [if_pos h, tb_put hi hi', if_pos ⟨h1, by omega, by omega⟩]
theorem build_1 {f : Frm} {p : Int} {o : Op} {i : Int} (hi : 0 ≤ i) (hi' : i < 32) (h : f.r1 = true) (h1 : 15 ≤ i) (h2 : i < 20) : tb (build f p o) i = tb (o.r1 % 4294967296) (i - 15) := by
  unfold build; dsimp only
  rw [if_pos h]
  split
  · rw [tb_put_out hi hi' (by omega), tb_put hi hi', if_pos ⟨h1, by omega, by omega⟩]
  · rw [tb_put hi hi', if_pos ⟨h1, by omega, by omega⟩]
theorem build_d {f : Frm} {p : Int} {o : Op} {i : Int} (hi : 0 ≤ i) (hi' : i < 32) (h : f.d = true) (h1 : 7 ≤ i) (h2 : i < 12) : tb (build f p o) i = tb (o.rd % 4294967296) (i - 7) := by
  unfold build; dsimp only
  rw [if_pos h]
  have e : ∀ x : Int, tb (put x 7 5 (o.rd % 4294967296)) i = tb (o.rd % 4294967296) (i - 7) := fun x => by rw [tb_put hi hi', if_pos ⟨h1, by omega, by omega⟩]
  split <;> split
  · rw [tb_put_out hi hi' (by omega), tb_put_out hi hi' (by omega), e]
  · rw [tb_put_out hi hi' (by omega), e]
  · rw [tb_put_out hi hi' (by omega), e]
  · exact e _
theorem build_out {f : Frm} {p : Int} {o : Op} {i : Int} (hi : 0 ≤ i) (hi' : i < 32) (hd : f.d = true → ¬ (7 ≤ i ∧ i < 12)) (h1 : f.r1 = true → ¬ (15 ≤ i ∧ i < 20)) (h2 : f.r2 = true → ¬ (20 ≤ i ∧ i < 25)) : tb (build f p o) i = tb (immFrom f.ps o.imm p) i := by
  unfold build; dsimp only
  have eb : tb (if f.d = true then put (immFrom f.ps o.imm p) 7 5 (o.rd % 4294967296) else immFrom f.ps o.imm p) i = tb (immFrom f.ps o.imm p) i := by
    split
    · rename_i h; exact tb_put_out hi hi' (hd h)
    · rfl
  generalize (if f.d = true then put (immFrom f.ps o.imm p) 7 5 (o.rd % 4294967296) else immFrom f.ps o.imm p) = b at *
  have ec : tb (if f.r1 = true then put b 15 5 (o.r1 % 4294967296) else b) i = tb b i := by
    split
    · rename_i h; exact tb_put_out hi hi' (h1 h)
    · rfl
  generalize (if f.r1 = true then put b 15 5 (o.r1 % 4294967296) else b) = c at *
  split
  · rename_i h; rw [tb_put_out hi hi' (h2 h), ec, eb]
  · rw [ec, eb]
theorem regs_apart : ∀ c ∈ letters, ∀ q ∈ (frm c).ps, ((frm c).d = true → q.1 + q.2.1 ≤ 7 ∨ 12 ≤ q.1) ∧ ((frm c).r1 = true → q.1 + q.2.1 ≤ 15 ∨ 20 ≤ q.1) ∧ ((frm c).r2 = true → q.1 + q.2.1 ≤ 20 ∨ 25 ≤ q.1) := by decide
theorem build_pc (c : Nat) (hc : c ∈ letters) {p : Int} {o : Op} {q : Pc} (hq : q ∈ (frm c).ps) {i : Int} (hi : 0 ≤ i) (hi' : i < 32) (h1 : q.1 ≤ i) (h2 : i < q.1 + q.2.1) : tb (build (frm c) p o) i = tb o.imm (q.2.2 + (i - q.1)) := by
  obtain ⟨p1, p2, _, _⟩ := fits c hc
  obtain ⟨a0, a1, a2, a3, a4, a5⟩ := p2 q hq
  obtain ⟨r0, r1, r2⟩ := regs_apart c hc q hq
  rw [build_out hi hi' (fun h => by have := r0 h; omega) (fun h => by have := r1 h; omega) (fun h => by have := r2 h; omega), imm_in _ _ _ _ q hi hi' hq p1 (by omega) h1 h2, tb_field (by omega) (by omega), decide_eq_true (by omega), Bool.true_and]
theorem build_tight (c : Nat) {p : Int} {o : Op} {i : Int} (hi : 0 ≤ i) (hi' : i < 32) (hl : loose c i.toNat = false) : tb (build (frm c) p o) i = tb p i := by
  unfold loose at hl
  simp only [Bool.or_eq_false_iff] at hl
  obtain ⟨⟨⟨l0, l1⟩, l2⟩, l3⟩ := hl
  have e : ((i.toNat : Nat) : Int) = i := by omega
  rw [build_out hi hi' (fun h hh => by
      have a : 7 ≤ i.toNat := by omega
      have b : i.toNat < 12 := by omega
      simp [h, a, b] at l1) (fun h hh => by
      have a : 15 ≤ i.toNat := by omega
      have b : i.toNat < 20 := by omega
      simp [h, a, b] at l2) (fun h hh => by
      have a : 20 ≤ i.toNat := by omega
      have b : i.toNat < 25 := by omega
      simp [h, a, b] at l3), imm_out _ _ _ _ hi hi']
  intro q hq hh
  have := List.any_eq_false.1 l0 q hq
  rw [e] at this
  simp [hh.1, hh.2] at this
/-- A word is built of what it says. -/
theorem build_back {j : Nat} (hj : j < 69) {w : Int} (hw : 0 ≤ w) (hw' : w < 4294967296) (hh : hit (row j) w = true) (k : Int) : build (frm (row j).2) (row j).1 (opOf (frm (row j).2) k w) = w := by
  have hlet := row_letter j hj
  have hp := row_rng j hj
  have hr := build_rng (frm (row j).2) (row j).1 (opOf (frm (row j).2) k w) hp.1 hp.2
  refine ext hr.1 hr.2 hw hw' fun i hi hi' => ?_
  cases hl : loose (row j).2 i.toNat
  · rw [build_tight _ hi hi' hl, hit_bit hj hw hw' hh hi hi' hl]
  · have f5 : ∀ a, tb (field w a 5 % 4294967296) (i - a) = tb (field w a 5) (i - a) := fun a => by have := field_rng w a 5; rw [show field w a 5 % 4294967296 = field w a 5 by omega]
    rcases where_bit _ _ rfl hi hl with ⟨q, hq, h1, h2⟩ | ⟨h, h1, h2⟩ | ⟨h, h1, h2⟩ | ⟨h, h1, h2⟩
    · rw [build_pc _ hlet hq hi hi' h1 h2]
      exact number_bit (fits _ hlet) w hq h1 h2
    · rw [build_d hi hi' h h1 h2]
      have e : (opOf (frm (row j).2) k w).rd = field w 7 5 := by unfold opOf; dsimp only; rw [if_pos h]
      rw [e, f5, tb_field (by omega) (by omega), decide_eq_true (by omega), Bool.true_and]
      congr 1; omega
    · rw [build_1 hi hi' h h1 h2]
      have e : (opOf (frm (row j).2) k w).r1 = field w 15 5 := by unfold opOf; dsimp only; rw [if_pos h]
      rw [e, f5, tb_field (by omega) (by omega), decide_eq_true (by omega), Bool.true_and]
      congr 1; omega
    · rw [build_2 hi hi' h h1 h2]
      have e : (opOf (frm (row j).2) k w).r2 = field w 20 5 := by unfold opOf; dsimp only; rw [if_pos h]
      rw [e, f5, tb_field (by omega) (by omega), decide_eq_true (by omega), Bool.true_and]
      congr 1; omega
/-- Words come back from their ops. -/
theorem encode_word {w : Int} {o : Op} (hw : 0 ≤ w) (hw' : w < 4294967296) (h : word w = some o) : encode o = some w := by
  obtain ⟨j, hj, hh, rfl⟩ := word_sound h
  have hn : (opOf (frm (row j).2) (j + 1 : Nat) w).name = (j : Int) + 1 := by show ((j + 1 : Nat) : Int) = _; omega
  unfold encode
  rw [if_neg (by omega), hn, show ((j : Int) + 1 - 1).toNat = j by omega]
  dsimp only
  rw [build_back hj hw hw' hh, if_pos h]
theorem word_encode {o : Op} {w : Int} (h : encode o = some w) : word w = some o := by
  unfold encode at h
  split at h
  · cases h
  · dsimp only at h
    split at h
    · cases h; assumption
    · cases h
end Go.Proofs.Ytpdemjdjgehpgaa.Dc

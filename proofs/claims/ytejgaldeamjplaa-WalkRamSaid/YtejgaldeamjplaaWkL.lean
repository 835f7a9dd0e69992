/- Laws of the walk through tables. Plain: no program. -/
import Derived.Test.YtejgaldeamjplaaWk
namespace Go.Proofs.Ytejgaldeamjplaa.Wk
open Go.RowKit
set_option linter.unusedVariables false
theorem field_page {x y k : Int} (hx : 0 ≤ x) (hy : 0 ≤ y) (h : x / 4096 = y / 4096) (hk : 12 ≤ k) : Bt.field x k 10 = Bt.field y k 10 := by
  unfold Bt.field
  refine Bt.W_congr fun i hi hi' => ?_
  congr 1
  have e1 := Bt.tb_shr (x := x) (k := 12) hx (by decide) (i := k + i - 12) (by omega)
  have e2 := Bt.tb_shr (x := y) (k := 12) hy (by decide) (i := k + i - 12) (by omega)
  rw [show k + i - 12 + 12 = k + i by omega] at e1 e2
  rw [← e1, ← e2]
  have : (2 : Int) ^ (12 : Int).toNat = 4096 := by decide
  rw [this, h]
theorem entry_page {base : Int} {zs : List Int} {f x y l : Int} (hx : 0 ≤ x) (hy : 0 ≤ y) (h : x / 4096 = y / 4096) (hl : 0 ≤ l) : entry base zs f x l = entry base zs f y l := by
  unfold entry at_
  rw [field_page hx hy h (by omega)]
theorem leaf_page {base : Int} {zs : List Int} {satp x y : Int} (hx : 0 ≤ x) (hy : 0 ≤ y) (h : x / 4096 = y / 4096) : leaf base zs satp x = leaf base zs satp y := by
  unfold leaf
  simp only [entry_page hx hy h (show (0 : Int) ≤ 1 by decide), entry_page hx hy h (show (0 : Int) ≤ 0 by decide)]
theorem pages {base : Int} {zs : List Int} {a b : Ask} (hx : 0 ≤ a.va) (hy : 0 ≤ b.va) (h : a.va / 4096 = b.va / 4096) (e1 : a.satp = b.satp) (e2 : a.status = b.status) (e3 : a.access = b.access) (e4 : a.priv = b.priv) :
    (to base zs a).is = (to base zs b).is ∧ (to base zs a).cause = (to base zs b).cause ∧ ((to base zs a).is = true → (to base zs a).pa - a.va % 4096 = (to base zs b).pa - b.va % 4096 ∧ a.va % 4096 ≤ (to base zs a).pa ∧ b.va % 4096 ≤ (to base zs b).pa) := by
  unfold to
  rw [← e4, ← e1]
  by_cases hc : a.priv = 3 ∨ bit a.satp 31 = false
  · rw [if_pos hc, if_pos hc]
    exact ⟨rfl, rfl, fun _ => by show a.va - a.va % 4096 = b.va - b.va % 4096 ∧ a.va % 4096 ≤ a.va ∧ b.va % 4096 ≤ b.va; omega⟩
  · rw [if_neg hc, if_neg hc]
    unfold walked
    rw [← e1, ← leaf_page hx hy h, ← e3]
    cases leaf base zs a.satp a.va with
    | error p => exact ⟨rfl, rfl, fun h => by cases h⟩
    | ok r =>
      obtain ⟨i, first⟩ := r
      have el : lets (zs.getD i 0) first b = lets (zs.getD i 0) first a := by unfold lets; rw [e2, e3, e4]
      have ef : frameOf (zs.getD i 0) first b.va = frameOf (zs.getD i 0) first a.va := by unfold frameOf; rw [field_page hx hy h (by decide)]
      dsimp only
      unfold fin
      rw [el, ef, ← e3]
      split
      · exact ⟨rfl, rfl, fun h => by cases h⟩
      · split
        · exact ⟨rfl, rfl, fun h => by cases h⟩
        · have hf : 0 ≤ frameOf (zs.getD i 0) first a.va := by
            unfold frameOf frame; split
            · exact (Bt.put_rng _ _ _ _).1
            · exact (Bt.field_rng _ _ _).1
          exact ⟨rfl, rfl, fun _ => by
            show _ * 4096 + a.va % 4096 - a.va % 4096 = _ * 4096 + b.va % 4096 - b.va % 4096 ∧ a.va % 4096 ≤ _ * 4096 + a.va % 4096 ∧ b.va % 4096 ≤ _ * 4096 + b.va % 4096
            omega⟩
/-- The same page, another place. -/
def other (va low : Int) : Int := bits .or .u32 (bits .andNot .u32 va 4095) (bits .and .u32 low 4095)
theorem m4095 : (4095 : Int) = Bt.mask 12 := by decide
theorem other_ok {va low : Int} (h0 : 0 ≤ va) (h1 : va < 4294967296) (l0 : 0 ≤ low) (l1 : low < 4294967296) : 0 ≤ other va low ∧ other va low < 4294967296 ∧ va / 4096 = other va low / 4096 := by
  have a := Bt.rng_andNot h0 h1 (show (0 : Int) ≤ 4095 by decide) (by decide)
  have b := Bt.rng_and l0 l1 (show (0 : Int) ≤ 4095 by decide) (by decide)
  have c := Bt.rng_or a.1 a.2 b.1 b.2
  refine ⟨c.1, c.2, ?_⟩
  have p : (2 : Int) ^ (12 : Int).toNat = 4096 := by decide
  rw [← p]
  have r1 := Bt.rng_shr 12 h0 h1
  have r2 := Bt.rng_shr 12 c.1 c.2
  refine Bt.ext r1.1 r1.2 r2.1 r2.2 fun i hi hi' => ?_
  rw [Bt.tb_shr h0 (by decide) hi, show other va low = bits .or .u32 (bits .andNot .u32 va 4095) (bits .and .u32 low 4095) from rfl, Bt.tb_shr c.1 (by decide) hi]
  rw [Bt.tb_or a.1 a.2 b.1 b.2, Bt.tb_andNot h0 h1 (by decide) (by decide), Bt.tb_and l0 l1 (by decide) (by decide), m4095, Bt.tb_mask]
  have : decide (i + 12 < 12) = false := decide_eq_false (by omega)
  rw [this]
  simp
theorem and4095 {x : Int} (h0 : 0 ≤ x) (h1 : x < 4294967296) : bits .and .u32 x 4095 = x % 4096 := by
  have b := Bt.rng_and h0 h1 (show (0 : Int) ≤ 4095 by decide) (by decide)
  refine Bt.ext b.1 b.2 (by omega) (by omega) fun i hi hi' => ?_
  rw [Bt.tb_and h0 h1 (by decide) (by decide), m4095, Bt.tb_mask]
  unfold Bt.tb
  obtain ⟨n, rfl⟩ : ∃ n : Nat, x = n := ⟨x.toNat, by omega⟩
  have : ((n : Int) % 4096).toNat = n % 2 ^ 12 := by omega
  rw [this, Nat.testBit_mod_two_pow, decide_eq_true hi, decide_eq_true hi']
  have : decide (i < 12) = decide (i.toNat < 12) := by congr 1; simp only [eq_iff_iff]; omega
  rw [this]
  cases decide (i.toNat < 12) <;> simp
/-! Who may store, may load. -/
theorem needs_plain {base : Int} {zs : List Int} {a : Ask} (h : bit a.satp 31 = false) : to base zs a = ⟨a.va, 0, true, zs⟩ := by
  unfold to; rw [if_pos (.inr h)]
theorem lets_store {w : Int} {first : Bool} {a b : Ask} (h1 : bit w 2 = true → bit w 1 = true) (e : a.access = 2) (e' : b.access = 1) (e2 : a.status = b.status) (e4 : a.priv = b.priv) (h : lets w first a = true) : lets w first b = true := by
  unfold lets at *
  rw [e, ← e2, ← e4] at *
  rw [e']
  simp only [show ¬ (2 : Int) = 0 by decide, show ¬ (1 : Int) = 0 by decide, show ¬ (2 : Int) = 1 by decide, if_true, if_false, false_or] at *
  split at h
  · cases h
  · rename_i k1
    split at h
    · cases h
    · rename_i k2
      split at h
      · cases h
      · rename_i k3
        rw [if_neg k1, if_neg k2, if_neg k3, h1 h]; rfl
theorem needs_store {base : Int} {zs : List Int} {a b : Ask} (e : a.access = 2) (e' : b.access = 1) (e0 : a.va = b.va) (e1 : a.satp = b.satp) (e2 : a.status = b.status) (e4 : a.priv = b.priv) (h : (to base zs a).is = true) : (to base zs b).is = true ∧ (to base zs a).pa = (to base zs b).pa := by
  unfold to at h ⊢
  rw [← e4, ← e1]
  by_cases hc : a.priv = 3 ∨ bit a.satp 31 = false
  · rw [if_pos hc, if_pos hc]
    exact ⟨rfl, e0⟩
  · rw [if_neg hc] at h
    rw [if_neg hc, if_neg hc]
    unfold walked at h ⊢
    rw [← e1, ← e0]
    cases hl : leaf base zs a.satp a.va with
    | error p => rw [hl] at h; cases h
    | ok r =>
      obtain ⟨i, first⟩ := r
      rw [hl] at h
      dsimp only at h ⊢
      unfold fin at h ⊢
      have hw := (leaf_lt hl).2.2
      split at h
      · cases h
      · rename_i k1
        have k1' : lets (zs.getD i 0) first a = true := by simpa using k1
        have k2 := lets_store hw e e' e2 e4 k1'
        split at h
        · cases h
        · rename_i k3
          rw [if_neg k1, if_neg (by rw [k2]; decide), if_neg k3, ← e0, if_neg k3]
          exact ⟨rfl, rfl⟩
theorem needs_user {base : Int} {zs : List Int} {a b : Ask} (p0 : a.priv = 0) (p1 : b.priv = 1) (e : b.access = 1) (s : bit b.status 18 = false) (e0 : a.va = b.va) (e1 : a.satp = b.satp) (hs : bit a.satp 31 = true) (h : (to base zs a).is = true) : (to base zs b).is = false := by
  unfold to at h ⊢
  rw [← e1]
  have hc : ¬ (a.priv = 3 ∨ bit a.satp 31 = false) := by rw [p0, hs]; simp
  have hc2 : ¬ (b.priv = 3 ∨ bit a.satp 31 = false) := by rw [p1, hs]; simp
  rw [if_neg hc] at h
  rw [if_neg hc2]
  unfold walked at h ⊢
  rw [← e1, ← e0]
  cases hl : leaf base zs a.satp a.va with
  | error p => rfl
  | ok r =>
    obtain ⟨i, first⟩ := r
    rw [hl] at h
    dsimp only at h ⊢
    unfold fin at h ⊢
    split at h
    · cases h
    · rename_i k1
      have k4 : bit (zs.getD i 0) 4 = true := by
        cases hb : bit (zs.getD i 0) 4
        · exact absurd (by unfold lets; rw [if_pos ⟨p0, hb⟩]) k1
        · rfl
      have k2 : lets (zs.getD i 0) first b = false := by
        unfold lets
        rw [if_neg (by rw [p1]; simp), if_pos ⟨p1, k4, .inr s⟩]
      rw [if_pos k2]
/-! Asked once more. -/
theorem bit_marked {w acc j : Int} (hj : 0 ≤ j) (hj' : j < 32) : bit (marked w acc) j = (bit w j || (decide (j = 6) || (decide (acc = 2) && decide (j = 7)))) := by
  have h0 : Bt.tb 1 0 = true := by decide
  unfold marked bit
  by_cases ha : acc = 2
  · rw [if_pos ha, Bt.tb_put hj hj', Bt.tb_put hj hj', decide_eq_true ha]
    by_cases h7 : j = 7
    · subst h7; rw [if_pos (by omega), show (7 : Int) - 7 = 0 by decide, h0]; simp
    · rw [if_neg (by omega), decide_eq_false h7]
      by_cases h6 : j = 6
      · subst h6; rw [if_pos (by omega), show (6 : Int) - 6 = 0 by decide, h0]; simp
      · rw [if_neg (by omega), decide_eq_false h6]; simp
  · rw [if_neg ha, Bt.tb_put hj hj', decide_eq_false ha]
    by_cases h6 : j = 6
    · subst h6; rw [if_pos (by omega), show (6 : Int) - 6 = 0 by decide, h0]; simp
    · rw [if_neg (by omega), decide_eq_false h6]; simp
theorem marked_rng (w acc : Int) : 0 ≤ marked w acc ∧ marked w acc < 4294967296 := by
  unfold marked; split <;> exact Bt.put_rng _ _ _ _
/-- Words that say the same, but for A and D. -/
structure Like (u v : Int) : Prop where
  b0 : bit u 0 = bit v 0
  b1 : bit u 1 = bit v 1
  b2 : bit u 2 = bit v 2
  b3 : bit u 3 = bit v 3
  b4 : bit u 4 = bit v 4
  fr : frame u = frame v
  lo : Bt.field u 10 10 = Bt.field v 10 10
theorem Like.refl (u : Int) : Like u u := ⟨rfl, rfl, rfl, rfl, rfl, rfl, rfl⟩
theorem like_marked {w acc : Int} (h' : w < 4294967296) : Like (marked w acc) w := by
  have f : ∀ m, Bt.field (marked w acc) 10 m = Bt.field w 10 m := fun m => by
    unfold Bt.field
    refine Bt.W_congr fun i hi hi' => ?_
    congr 1
    by_cases h : 10 + i < 32
    · have := bit_marked (w := w) (acc := acc) (j := 10 + i) (by omega) h
      unfold bit at this
      rw [this, decide_eq_false (show ¬ 10 + i = 6 by omega), decide_eq_false (show ¬ 10 + i = 7 by omega)]
      simp
    · rw [Bt.tb_high (marked_rng _ _).2 (by omega), Bt.tb_high h' (by omega)]
  refine ⟨?_, ?_, ?_, ?_, ?_, f 22, f 10⟩
  all_goals
    rw [bit_marked (by decide) (by decide)]
    simp
theorem marked_marked {w acc : Int} : marked (marked w acc) acc = marked w acc := by
  have r1 := marked_rng (marked w acc) acc
  have r2 := marked_rng w acc
  refine Bt.ext r1.1 r1.2 r2.1 r2.2 fun i hi hi' => ?_
  have e1 := bit_marked (w := marked w acc) (acc := acc) hi hi'
  have e2 := bit_marked (w := w) (acc := acc) hi hi'
  rw [e2] at e1
  unfold bit at e1 e2
  rw [e1, e2]
  cases Bt.tb w i <;> simp
theorem entry_like {base : Int} {zs ys : List Int} (hl : ys.length = zs.length) (h : ∀ j, Like (ys.getD j 0) (zs.getD j 0)) (f va l : Int) : entry base ys f va l = entry base zs f va l := by
  unfold entry
  rw [hl]
  cases place base zs.length (at_ f va l) with
  | none => rfl
  | some i => dsimp only; rw [(h i).b0, (h i).b1, (h i).b2]
theorem leaf_like {base : Int} {zs ys : List Int} (hl : ys.length = zs.length) (h : ∀ j, Like (ys.getD j 0) (zs.getD j 0)) (satp va : Int) : leaf base ys satp va = leaf base zs satp va := by
  have il : ∀ j, isLeaf (ys.getD j 0) = isLeaf (zs.getD j 0) := fun j => by unfold isLeaf; rw [(h j).b1, (h j).b3]
  unfold leaf
  rw [entry_like hl h]
  cases entry base zs (Bt.field satp 0 22) va 1 with
  | error p => rfl
  | ok i =>
    dsimp only
    rw [il, (h i).fr, entry_like hl h]
    cases entry base zs (frame (zs.getD i 0)) va 0 with
    | error p => rfl
    | ok j => dsimp only; rw [il]
theorem getD_setI (l : List Int) (i j : Nat) (v : Int) : (l.set i v).getD j 0 = if i = j ∧ i < l.length then v else l.getD j 0 := by
  simp only [List.getD, List.getElem?_set]
  by_cases h : i = j
  · subst h
    by_cases h2 : i < l.length <;> simp [h2]
  · simp [h]
/-- What was asked changes none but A and D; asked once more the answer is the same. -/
theorem again {base : Int} {zs : List Int} {a : Ask} (hz : ∀ j, 0 ≤ zs.getD j 0 ∧ zs.getD j 0 < 4294967296) :
    to base (to base zs a).zs a = to base zs a ∧ (to base zs a).zs.length = zs.length ∧ ∀ j, (to base zs a).zs.getD j 0 = zs.getD j 0 ∨ (to base zs a).zs.getD j 0 = marked (zs.getD j 0) a.access := by
  have key : (to base zs a).zs = zs ∨ ∃ i first, ¬ (a.priv = 3 ∨ bit a.satp 31 = false) ∧ leaf base zs a.satp a.va = .ok (i, first) ∧ lets (zs.getD i 0) first a = true ∧ (to base zs a).zs = zs.set i (marked (zs.getD i 0) a.access) := by
    unfold to
    by_cases hc : a.priv = 3 ∨ bit a.satp 31 = false
    · rw [if_pos hc]; exact .inl rfl
    · rw [if_neg hc]
      unfold walked
      cases hl : leaf base zs a.satp a.va with
      | error p => exact .inl rfl
      | ok r =>
        obtain ⟨i, first⟩ := r
        dsimp only
        unfold fin
        cases ht : lets (zs.getD i 0) first a with
        | false => rw [if_pos rfl]; exact .inl rfl
        | true =>
          refine .inr ⟨i, first, hc, rfl, ht, ?_⟩
          rw [if_neg (by decide)]
          split <;> rfl
  rcases key with h | ⟨i, first, hc, hl, ht, h⟩
  · rw [h]; exact ⟨rfl, rfl, fun _ => .inl rfl⟩
  · have hi := (leaf_lt hl).1
    have hg := fun j => getD_setI zs i j (marked (zs.getD i 0) a.access)
    have lk : ∀ j, Like ((zs.set i (marked (zs.getD i 0) a.access)).getD j 0) (zs.getD j 0) := fun j => by
      rw [hg]
      split
      · rename_i e; rw [← e.1]; exact like_marked (hz i).2
      · exact Like.refl _
    have hlen : (zs.set i (marked (zs.getD i 0) a.access)).length = zs.length := List.length_set
    refine ⟨?_, by rw [h]; exact hlen, fun j => by rw [h, hg]; split; (rename_i e; rw [← e.1]; exact .inr rfl); exact .inl rfl⟩
    rw [h]
    unfold to
    rw [if_neg hc, if_neg hc]
    unfold walked
    rw [leaf_like hlen lk, hl]
    dsimp only
    have hgi : (zs.set i (marked (zs.getD i 0) a.access)).getD i 0 = marked (zs.getD i 0) a.access := by rw [hg, if_pos ⟨rfl, hi⟩]
    have k := like_marked (w := zs.getD i 0) (acc := a.access) (hz i).2
    unfold fin
    rw [hgi, marked_marked, List.set_set]
    have e1 : lets (marked (zs.getD i 0) a.access) first a = lets (zs.getD i 0) first a := by rw [lets_B, lets_B, k.b1, k.b2, k.b3, k.b4, k.lo]
    have e2 : frameOf (marked (zs.getD i 0) a.access) first a.va = frameOf (zs.getD i 0) first a.va := by unfold frameOf; rw [k.fr]
    rw [e1, e2, ht]
    rfl
/-- But for A and D the words are the same; none goes. -/
theorem only {u w acc : Int} (h0 : 0 ≤ w) (h1 : w < 4294967296) (h : u = w ∨ u = marked w acc) : bits .andNot .u32 (bits .xor .u32 u w) 192 = 0 ∧ bits .andNot .u32 w u = 0 := by
  have ru : 0 ≤ u ∧ u < 4294967296 := by
    rcases h with h | h
    · rw [h]; exact ⟨h0, h1⟩
    · rw [h]; exact marked_rng _ _
  have x := Bt.rng_xor ru.1 ru.2 h0 h1
  have y := Bt.rng_andNot x.1 x.2 (show (0 : Int) ≤ 192 by decide) (by decide)
  have z := Bt.rng_andNot h0 h1 ru.1 ru.2
  have b : ∀ i, 0 ≤ i → i < 32 → Bt.tb u i = Bt.tb w i ∨ (Bt.tb u i = true ∧ (i = 6 ∨ i = 7)) := fun i hi hi' => by
    rcases h with h | h
    · rw [h]; exact .inl rfl
    · have := bit_marked (w := w) (acc := acc) hi hi'
      unfold bit at this
      rw [h, this]
      by_cases h6 : i = 6
      · exact .inr ⟨by simp [h6], .inl h6⟩
      · by_cases h7 : i = 7
        · by_cases ha : acc = 2
          · exact .inr ⟨by simp [h7, ha], .inr h7⟩
          · exact .inl (by simp [h6, ha])
        · exact .inl (by simp [h6, h7])
  have c6 : Bt.tb 192 6 = true := by decide
  have c7 : Bt.tb 192 7 = true := by decide
  constructor
  · refine Bt.ext y.1 y.2 (by decide) (by decide) fun i hi hi' => ?_
    rw [Bt.tb_andNot x.1 x.2 (by decide) (by decide), Bt.tb_xor ru.1 ru.2 h0 h1, Bt.tb_zero]
    rcases b i hi hi' with e | ⟨_, e | e⟩
    · rw [e]; simp
    · rw [e, c6]; simp
    · rw [e, c7]; simp
  · refine Bt.ext z.1 z.2 (by decide) (by decide) fun i hi hi' => ?_
    rw [Bt.tb_andNot h0 h1 ru.1 ru.2, Bt.tb_zero]
    rcases b i hi hi' with e | ⟨e, _⟩
    · rw [e]; simp
    · rw [e]; simp
end Go.Proofs.Ytejgaldeamjplaa.Wk

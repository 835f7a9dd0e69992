/- What the laws of chapter 2 ask, of the plain law alone. -/
import Derived.Test.YtfghlfolejpjjaaOwn
import Derived.Lib.Hide
import Derived.Below
namespace Go.Proofs.Ytfghlfolejpjjaa.Nr
open Go.RowKit
set_option linter.unusedVariables false
theorem changed_one (to : Int → Int) (burns : Bool) (pick : Int) (m : Nat) (l : List Int) (h : m < l.length) : changed to burns pick m 1 l = l.set m (way burns pick 0 (l.getD m 0) (to (l.getD m 0))) := by
  have := changed_succ to burns pick m 0 l (by omega)
  rw [changed_zero] at this
  simpa using this.symm
theorem changed_same {to : Int → Int} {burns : Bool} {pick : Int} {at_ k : Nat} {l : List Int} (h : ∀ i, i < l.length → at_ ≤ i → i < at_ + k → way burns pick (i - at_) (l.getD i 0) (to (l.getD i 0)) = l.getD i 0) : changed to burns pick at_ k l = l := by
  apply ext_getD (length_changed _ _ _ _ _ _)
  intro i hi
  rw [length_changed] at hi
  rw [getD_changed _ _ _ _ _ _ _ hi]
  split
  · rename_i g; exact h i hi g.1 g.2
  · rfl
theorem wrong_in {c : C} {m : Nat} {n : Int} (hoff : c.off = false) (h : (m : Int) < n) : wrong c m n = 0 := by
  unfold wrong; rw [if_neg (by simp [hoff]), if_neg (by omega)]
theorem wrong_dark {c : C} {m n : Int} (hoff : c.off = true) : wrong c m n = 4 := by unfold wrong; rw [if_pos hoff]
theorem programs_at {c : C} (hs : c.words.length = 64 * c.wear.length) {m : Nat} (hm : m < c.words.length) (hoff : c.off = false) (v : Int) :
    programs c m v = (ended c, { c with words := c.words.set m (way (decide (c.fuse = 1)) c.pick 0 (c.words.getD m 0) (bits .and .u32 (c.words.getD m 0) v)), fuse := max (c.fuse - 1) 0, off := decide (c.fuse = 1) }) := by
  unfold programs
  rw [if_pos (wrong_in hoff (by omega))]
  unfold program change
  rw [Int.toNat_natCast, changed_one _ _ _ _ _ hm]
theorem programs_calm {c : C} (hs : c.words.length = 64 * c.wear.length) {m : Nat} (hm : m < c.words.length) (hoff : c.off = false) (hf : c.fuse = 0) (v : Int) :
    programs c m v = (0, { c with words := c.words.set m (bits .and .u32 (c.words.getD m 0) v) }) := by
  rw [programs_at hs hm hoff]
  cases c
  simp only at hoff hf
  subst hoff hf
  simp [ended, way]
  decide
theorem and_ones {v : Int} (hv : 0 ≤ v) (hv' : v < 4294967296) : bits .and .u32 4294967295 v = v :=
  Bt.ext (Bt.rng_and (by decide) (by decide) hv hv').1 (Bt.rng_and (by decide) (by decide) hv hv').2 hv hv' fun i h h' => by
    rw [Bt.tb_and (by decide) (by decide) hv hv', Bt.tb_ones]; simp [h, h']
theorem reads_at {c : C} (hs : c.words.length = 64 * c.wear.length) {m : Nat} (hm : m < c.words.length) (hoff : c.off = false) : wrong c m ((c.wear.length : Int) * 64) = 0 := wrong_in hoff (by omega)

/-! NorWorn -/
def st (k j : Int) : C := ⟨List.replicate 128 4294967295, [0, j], k, 0, 0, false⟩
theorem st_new (k : Int) : new 2 k = st k 0 := rfl
theorem erases_st {k j : Int} (h : j < k) : erases (st k j) 1 = (0, st k (j + 1)) := by
  have e1 : wrong (st k j) 1 ((st k j).wear.length : Int) = 0 := wrong_in (m := 1) rfl (by show (1 : Int) < 2; decide)
  unfold erases
  rw [if_pos e1, if_pos (show (st k j).wear.getD (1 : Int).toNat 0 < (st k j).endure from h)]
  have e2 : changed (fun _ => 4294967295) (decide ((0 : Int) = 1)) 0 64 64 (List.replicate 128 4294967295) = List.replicate 128 4294967295 := changed_same fun i hi _ _ => by
    rw [List.length_replicate] at hi
    rw [getD_replicate, if_pos hi]; rfl
  show (ended (st k j), (⟨changed (fun _ => 4294967295) (decide ((0 : Int) = 1)) 0 64 64 (List.replicate 128 4294967295), [0, j + 1], k, max (0 - 1) 0, 0, decide ((0 : Int) = 1)⟩ : C)) = _
  rw [e2]; rfl
def sw (k v : Int) : C := ⟨(List.replicate 128 4294967295).set 70 v, [0, k], k, 0, 0, false⟩
theorem programs_st {k v : Int} (hv : 0 ≤ v) (hv' : v < 4294967296) : programs (st k k) 70 v = (0, sw k v) := by
  have := programs_calm (c := st k k) (by simp [st]) (m := 70) (by simp [st]) rfl rfl v
  rw [show (st k k).words.getD 70 0 = 4294967295 by show (List.replicate 128 (4294967295 : Int)).getD 70 0 = _; rw [getD_replicate, if_pos (by decide)], and_ones hv hv'] at this
  exact this
theorem erases_sw (k v : Int) : erases (sw k v) 1 = (5, sw k v) := by
  have e1 : wrong (sw k v) 1 ((sw k v).wear.length : Int) = 0 := wrong_in (m := 1) rfl (by show (1 : Int) < 2; decide)
  unfold erases
  rw [if_pos e1, if_neg (show ¬ (sw k v).wear.getD (1 : Int).toNat 0 < (sw k v).endure from Int.lt_irrefl k)]
theorem getD_set_self {l : List Int} {m : Nat} (h : m < l.length) (v : Int) : (l.set m v).getD m 0 = v := by rw [getD_set, if_pos ⟨rfl, h⟩]

/-! NorMeets -/
def me (k : Nat) (x : Int) : C := ⟨(List.replicate 128 4294967295).set k x, [0, 0], 0, 0, 0, false⟩
theorem me_new {k : Nat} (hk : k < 128) : new 2 0 = me k 4294967295 := by
  have : (List.replicate 128 (4294967295 : Int)).set k 4294967295 = List.replicate 128 4294967295 := ext_getD (by simp) fun i hi => by
    rw [getD_set, getD_replicate]; split
    · rw [if_pos (by simp at hi; omega)]
    · rfl
  show (⟨List.replicate 128 4294967295, [0, 0], 0, 0, 0, false⟩ : C) = _
  unfold me
  rw [this]
theorem programs_me {k : Nat} (hk : k < 128) (x v : Int) : programs (me k x) k v = (0, me k (bits .and .u32 x v)) := by
  have := programs_calm (c := me k x) (by simp [me]) (m := k) (by simpa [me] using hk) rfl rfl v
  rw [show (me k x).words.getD k 0 = x from getD_set_self (by simpa using hk) x] at this
  rw [this]
  unfold me
  simp only [List.set_set]

theorem reads_me {k : Nat} (hk : k < 128) (x : Int) : reads (me k x) k = (x, 0) := by
  have e : wrong (me k x) k (((me k x).wear.length : Int) * 64) = 0 := wrong_in rfl (by show (k : Int) < 128; omega)
  unfold reads
  rw [e, if_pos rfl, Int.toNat_natCast, show (me k x).words.getD k 0 = x from getD_set_self (by simpa using hk) x]

/-! NorFuses -/
theorem fuses_step {c : C} (ok : c.ok) (hw : c.wear.length = 2) {stop i : Nat} (hs : 1 ≤ stop) (hoff : c.off = decide (stop ≤ i)) (hf : i < stop → c.fuse = (stop : Int) - i) {m : Nat} (hm : m < 128) (v : Int) :
    ∃ e c', Hid (programs c m v = (e, c')) ∧ c'.wear.length = 2 ∧ Hid (c'.off = decide (stop ≤ i + 1)) ∧ Hid (i + 1 < stop → c'.fuse = (stop : Int) - ((i + 1 : Nat) : Int)) ∧ (i + 1 < stop → e = 0) ∧ (stop ≤ i + 1 → e = 4) := by
  have hl : c.words.length = 128 := by have := ok.size; omega
  by_cases h : stop ≤ i
  · have ho : c.off = true := by simpa [h] using hoff
    refine ⟨4, c, ?_, hw, ?_, fun g => by omega, fun g => by omega, fun _ => rfl⟩
    · show programs c m v = _
      unfold programs
      rw [wrong_dark ho, if_neg (by decide)]
    · show c.off = _
      rw [ho]; simp; omega
  · have ho : c.off = false := by simpa [h] using hoff
    have hf' := hf (by omega)
    refine ⟨_, _, programs_at ok.size (by omega) ho v, hw, ?_, fun g => ?_, fun g => ?_, fun g => ?_⟩
    · show decide (c.fuse = 1) = _
      apply decide_eq_decide.2; omega
    · show max (c.fuse - 1) 0 = _
      omega
    · unfold ended; rw [if_neg (by omega)]
    · unfold ended; rw [if_pos (by omega)]

/-! NorPart -/
theorem part_sub {x y p : Int} (hx : 0 ≤ x) (hx' : x < 4294967296) (hy : 0 ≤ y) (hy' : y < 4294967296) : bits .andNot .u32 (Bt.part x (bits .and .u32 x y) p) x = 0 :=
  Bt.ext (Bt.rng_andNot (Bt.part_rng _ _ _).1 (Bt.part_rng _ _ _).2 hx hx').1 (Bt.rng_andNot (Bt.part_rng _ _ _).1 (Bt.part_rng _ _ _).2 hx hx').2 (by decide) (by decide) fun i h h' => by
    rw [Bt.tb_andNot (Bt.part_rng _ _ _).1 (Bt.part_rng _ _ _).2 hx hx', Bt.tb_part h h', Bt.tb_and hx hx' hy hy', Bt.tb_zero]
    cases Bt.tb p i <;> cases Bt.tb x i <;> cases Bt.tb y i <;> rfl
theorem part_sup {x y p : Int} (hx : 0 ≤ x) (hx' : x < 4294967296) (hy : 0 ≤ y) (hy' : y < 4294967296) : bits .andNot .u32 (bits .and .u32 x y) (Bt.part x (bits .and .u32 x y) p) = 0 := by
  have r := Bt.rng_and hx hx' hy hy'
  refine Bt.ext (Bt.rng_andNot r.1 r.2 (Bt.part_rng _ _ _).1 (Bt.part_rng _ _ _).2).1 (Bt.rng_andNot r.1 r.2 (Bt.part_rng _ _ _).1 (Bt.part_rng _ _ _).2).2 (by decide) (by decide) fun i h h' => ?_
  rw [Bt.tb_andNot r.1 r.2 (Bt.part_rng _ _ _).1 (Bt.part_rng _ _ _).2, Bt.tb_part h h', Bt.tb_and hx hx' hy hy', Bt.tb_zero]
  cases Bt.tb p i <;> cases Bt.tb x i <;> cases Bt.tb y i <;> rfl
theorem turn_zero (k : Int) : Bt.turn 0 k = 0 := Bt.ext (Bt.turn_rng _ _).1 (Bt.turn_rng _ _).2 (by decide) (by decide) fun i h h' => by rw [Bt.tb_turn h h', Bt.tb_zero, Bt.tb_zero]
theorem turn_ones (k : Int) : Bt.turn 4294967295 k = 4294967295 := Bt.ext (Bt.turn_rng _ _).1 (Bt.turn_rng _ _).2 (by decide) (by decide) fun i h h' => by
  rw [Bt.tb_turn h h', Bt.tb_ones, Bt.tb_ones, Bool.eq_iff_iff]; simp only [Bool.and_eq_true, decide_eq_true_eq]; omega
/-- What a change in part leaves lies between. -/
theorem part_ones {x p : Int} (hx : 0 ≤ x) (hx' : x < 4294967296) : bits .andNot .u32 x (Bt.part x 4294967295 p) = 0 := by
  refine Bt.ext (Bt.rng_andNot hx hx' (Bt.part_rng _ _ _).1 (Bt.part_rng _ _ _).2).1 (Bt.rng_andNot hx hx' (Bt.part_rng _ _ _).1 (Bt.part_rng _ _ _).2).2 (by decide) (by decide) fun i h h' => ?_
  rw [Bt.tb_andNot hx hx' (Bt.part_rng _ _ _).1 (Bt.part_rng _ _ _).2, Bt.tb_part h h', Bt.tb_ones, Bt.tb_zero]
  cases Bt.tb p i <;> cases Bt.tb x i <;> simp [h, h']
def P (l : List Int) (e f p : Int) (o : Bool) : C := ⟨l, [e], 5, f, p, o⟩
def r64 : List Int := List.replicate 64 4294967295
theorem fuse_P (l : List Int) (e f p q : Int) (o : Bool) : fuse (P l e f p o) 1 q = P l e 1 q o := rfl
theorem on_P (l : List Int) (e f p : Int) (o : Bool) : on (P l e f p o) = P l e 0 p false := rfl
theorem worn_P (l : List Int) (e f p : Int) (o : Bool) : worn (P l e f p o) 0 = e := rfl
theorem set_set7 (a b : Int) : (r64.set 7 a).set 7 b = r64.set 7 b := by simp
theorem get7 (a : Int) : (r64.set 7 a).getD 7 0 = a := getD_set_self (by simp [r64]) a
theorem part_chain {w v pick : Int} (hw : 0 ≤ w) (hw' : w < 4294967296) (hv : 0 ≤ v) (hv' : v < 4294967296) (hp : 0 ≤ pick) (hp' : pick < 4294967296) :
    ∃ (x y : Int) (c0 c1 c2 c3 c4 c5 c6 c7 : C), (Hid (new 1 5 = c0) ∧ Hid (programs c0 7 w = (0, c1)) ∧ Hid (fuse c1 1 pick = c2) ∧ Hid (programs c2 7 v = (4, c3)) ∧ Hid ((!c3.off) = false) ∧ Hid (programs c3 8 0 = (4, c3)) ∧ Hid (on c3 = c4) ∧
      Hid (reads c4 7 = (x, 0)) ∧ Hid (fuse c4 1 pick = c5) ∧ Hid (erases c5 0 = (4, c6)) ∧ Hid (worn c6 0 = 1) ∧ Hid (on c6 = c7) ∧ Hid (reads c7 7 = (y, 0))) ∧
      bits .andNot .u32 x w = 0 ∧ bits .andNot .u32 (bits .and .u32 w v) x = 0 ∧ (pick = 0 → x = w) ∧ (pick = 4294967295 → x = bits .and .u32 w v) ∧ bits .andNot .u32 x y = 0 ∧ (pick = 0 → y = x) ∧ (pick = 4294967295 → y = 4294967295) := by
  have ra := Bt.rng_and hw hw' hv hv'
  have hx := Bt.part_rng w (bits .and .u32 w v) (Bt.turn pick 0)
  obtain ⟨x, hxe⟩ : ∃ x, x = Bt.part w (bits .and .u32 w v) (Bt.turn pick 0) := ⟨_, rfl⟩
  obtain ⟨y, hye⟩ : ∃ y, y = Bt.part x 4294967295 (Bt.turn pick 7) := ⟨_, rfl⟩
  obtain ⟨l6, hle⟩ : ∃ l6, l6 = changed (fun _ => 4294967295) true pick 0 64 (r64.set 7 x) := ⟨_, rfl⟩
  rw [← hxe] at hx
  have wr : ∀ (l : List Int) (e f p : Int), wrong (P l e f p false) 7 (((P l e f p false).wear.length : Int) * 64) = 0 := fun l e f p => wrong_in (m := 7) rfl (by show (7 : Int) < 64; decide)
  have l7 : l6.getD 7 0 = y := by
    rw [hle, getD_changed _ _ _ _ _ _ _ (by simp [r64]), if_pos (by decide), get7, hye]; rfl
  refine ⟨x, y, P r64 0 0 0 false, P (r64.set 7 w) 0 0 0 false, P (r64.set 7 w) 0 1 pick false, P (r64.set 7 x) 0 0 pick true, P (r64.set 7 x) 0 0 pick false, P (r64.set 7 x) 0 1 pick false, P l6 1 0 pick true, P l6 1 0 pick false,
    ⟨rfl, ?_, fuse_P _ _ _ _ _ _, ?_, rfl, ?_, on_P _ _ _ _ _, ?_, fuse_P _ _ _ _ _ _, ?_, worn_P _ _ _ _ _, on_P _ _ _ _ _, ?_⟩, hxe ▸ part_sub hw hw' hv hv', hxe ▸ part_sup hw hw' hv hv', ?_, ?_, hye ▸ part_ones hx.1 hx.2, ?_, ?_⟩
  · have := programs_calm (c := P r64 0 0 0 false) (by simp [P, r64]) (m := 7) (by simp [P, r64]) rfl rfl w
    rw [show (P r64 0 0 0 false).words.getD 7 0 = 4294967295 from rfl, and_ones hw hw'] at this
    exact this
  · have := programs_at (c := P (r64.set 7 w) 0 1 pick false) (by simp [P, r64]) (m := 7) (by simp [P, r64]) rfl v
    rw [show (P (r64.set 7 w) 0 1 pick false).words.getD 7 0 = w from get7 w] at this
    have e : (P (r64.set 7 w) 0 1 pick false).words.set 7 (way (decide ((P (r64.set 7 w) 0 1 pick false).fuse = 1)) (P (r64.set 7 w) 0 1 pick false).pick 0 w (bits .and .u32 w v)) = r64.set 7 x := by rw [hxe]; exact set_set7 _ _
    rw [e] at this
    exact this
  · show programs (P (r64.set 7 x) 0 0 pick true) 8 0 = _
    unfold programs
    rw [wrong_dark rfl, if_neg (by decide)]
  · show reads (P (r64.set 7 x) 0 0 pick false) 7 = _
    unfold reads
    rw [wr, if_pos rfl]
    exact congrArg (·, (0 : Int)) (get7 x)
  · show erases (P (r64.set 7 x) 0 1 pick false) 0 = _
    unfold erases
    have e0 : wrong (P (r64.set 7 x) 0 1 pick false) 0 ((P (r64.set 7 x) 0 1 pick false).wear.length : Int) = 0 := wrong_in (m := 0) rfl (by show (0 : Int) < 1; decide)
    rw [if_pos e0, if_pos (show (P (r64.set 7 x) 0 1 pick false).wear.getD (Int.toNat 0) 0 < (P (r64.set 7 x) 0 1 pick false).endure by show (0 : Int) < 5; decide), hle]
    rfl
  · show reads (P l6 1 0 pick false) 7 = _
    unfold reads
    rw [wr, if_pos rfl]
    exact congrArg (·, (0 : Int)) l7
  · rintro rfl
    rw [hxe, turn_zero]; exact eq_of_beq (Bt.part_none hw hw')
  · rintro rfl
    rw [hxe, turn_ones]; exact eq_of_beq (Bt.part_all ra.1 ra.2)
  · rintro rfl
    rw [hye, turn_zero]; exact eq_of_beq (Bt.part_none hx.1 hx.2)
  · rintro rfl
    rw [hye, turn_ones]; exact eq_of_beq (Bt.part_all (by decide) (by decide))

/-! NorCells -/
/-- What an act may do to the words. -/
def spares (er : Bool) (at_ : Int) (a b : List Int) : Prop := ∀ i : Nat, i < a.length → er = true ∧ (i : Int).tdiv 64 = at_ ∨ bits .andNot .u32 (b.getD i 0) (a.getD i 0) = 0 ∧ (a.getD i 0 = b.getD i 0 ∨ (i : Int) = at_)
theorem andNot_self {x : Int} (hx : 0 ≤ x) (hx' : x < 4294967296) : bits .andNot .u32 x x = 0 :=
  Bt.ext (Bt.rng_andNot hx hx' hx hx').1 (Bt.rng_andNot hx hx' hx hx').2 (by decide) (by decide) fun i h h' => by rw [Bt.tb_andNot hx hx' hx hx', Bt.tb_zero]; simp
theorem and_sub {x y : Int} (hx : 0 ≤ x) (hx' : x < 4294967296) (hy : 0 ≤ y) (hy' : y < 4294967296) : bits .andNot .u32 (bits .and .u32 x y) x = 0 := by
  have r := Bt.rng_and hx hx' hy hy'
  refine Bt.ext (Bt.rng_andNot r.1 r.2 hx hx').1 (Bt.rng_andNot r.1 r.2 hx hx').2 (by decide) (by decide) fun i h h' => ?_
  rw [Bt.tb_andNot r.1 r.2 hx hx', Bt.tb_and hx hx' hy hy', Bt.tb_zero]
  cases Bt.tb x i <;> cases Bt.tb y i <;> rfl
theorem spares_refl {c : C} (ok : c.ok) (er : Bool) (at_ : Int) : spares er at_ c.words c.words := fun i _ => .inr ⟨andNot_self (ok.words_lo i) (ok.words_hi i), .inl rfl⟩
theorem spares_program {c : C} (ok : c.ok) (at_ : Int) {v : Int} (hv : 0 ≤ v) (hv' : v < 4294967296) :
    ∃ e c', Hid (programs c at_ v = (e, c')) ∧ c'.wear.length = c.wear.length ∧ c'.words.length = c.words.length ∧ Hid (spares false at_ c.words c'.words) := by
  by_cases h : wrong c at_ ((c.wear.length : Int) * 64) = 0
  · obtain ⟨m, rfl, hm⟩ := wrong_zero ok h
    refine ⟨_, _, programs_at ok.size hm (wrong_on h) v, rfl, by simp, fun i hi => .inr ?_⟩
    simp only [getD_set]
    by_cases e : m = i
    · subst e
      rw [if_pos ⟨rfl, hm⟩]
      refine ⟨?_, .inr rfl⟩
      unfold way
      split
      · exact part_sub (ok.words_lo _) (ok.words_hi _) hv hv'
      · exact and_sub (ok.words_lo _) (ok.words_hi _) hv hv'
    · rw [if_neg (by omega)]
      exact ⟨andNot_self (ok.words_lo i) (ok.words_hi i), .inl rfl⟩
  · exact ⟨_, c, by show programs c at_ v = _; unfold programs; rw [if_neg h], rfl, rfl, spares_refl ok _ _⟩
theorem spares_erase {c : C} (ok : c.ok) (at_ : Int) :
    ∃ e c', Hid (erases c at_ = (e, c')) ∧ c'.wear.length = c.wear.length ∧ c'.words.length = c.words.length ∧ Hid (spares true at_ c.words c'.words) := by
  by_cases h : wrong c at_ (c.wear.length : Int) = 0
  · obtain ⟨m, rfl, hm⟩ := wrong_zero1 h
    by_cases h2 : c.wear.getD m 0 < c.endure
    · refine ⟨_, _, by show erases c m = _; unfold erases; rw [if_pos h, Int.toNat_natCast, if_pos h2], by simp [erase, change], by simp [erase, change, length_changed], fun i hi => ?_⟩
      show _ ∨ bits .andNot .u32 ((changed (fun _ => 4294967295) _ _ ((m : Int).toNat * 64) 64 c.words).getD i 0) _ = 0 ∧ _
      by_cases g : m * 64 ≤ i ∧ i < m * 64 + 64
      · left; refine ⟨rfl, ?_⟩
        rw [Int.tdiv_eq_ediv_of_nonneg (by omega)]; omega
      · right
        have e : (erase c m).words.getD i 0 = c.words.getD i 0 := by
          show (changed (fun _ => 4294967295) _ _ ((m : Int).toNat * 64) 64 c.words).getD i 0 = _
          rw [getD_changed _ _ _ _ _ _ _ hi, Int.toNat_natCast, if_neg g]
        rw [e]
        exact ⟨by
          have e2 : (changed (fun _ => 4294967295) (decide (c.fuse = 1)) c.pick ((m : Int).toNat * 64) 64 c.words).getD i 0 = c.words.getD i 0 := e
          show bits .andNot .u32 ((changed (fun _ => 4294967295) (decide (c.fuse = 1)) c.pick ((m : Int).toNat * 64) 64 c.words).getD i 0) _ = 0
          rw [e2]; exact andNot_self (ok.words_lo i) (ok.words_hi i), .inl rfl⟩
    · exact ⟨_, c, by show erases c m = _; unfold erases; rw [if_pos h, Int.toNat_natCast, if_neg h2], rfl, rfl, spares_refl ok _ _⟩
  · exact ⟨_, c, by show erases c at_ = _; unfold erases; rw [if_neg h], rfl, rfl, spares_refl ok _ _⟩
theorem spares_fuse {c : C} (ok : c.ok) (n p : Int) : ∃ (ee : Unit) (c' : C), Hid (fuse c n p = c') ∧ c'.wear.length = c.wear.length ∧ c'.words.length = c.words.length ∧ Hid (spares false n c.words c'.words) := ⟨(), _, rfl, rfl, rfl, spares_refl ok _ _⟩
theorem spares_on {c : C} (ok : c.ok) (n : Int) : ∃ (ee : Unit) (c' : C), Hid (on c = c') ∧ c'.wear.length = c.wear.length ∧ c'.words.length = c.words.length ∧ Hid (spares false n c.words c'.words) := ⟨(), _, rfl, rfl, rfl, spares_refl ok _ _⟩
end Go.Proofs.Ytfghlfolejpjjaa.Nr

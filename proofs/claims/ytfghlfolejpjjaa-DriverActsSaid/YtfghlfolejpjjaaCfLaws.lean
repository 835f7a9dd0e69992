/- What the laws of chapter 3 ask, of the plain law alone. -/
import Derived.Test.YtfghlfolejpjjaaCfiO
namespace Go.Proofs.Ytfghlfolejpjjaa.Cf
open Go.RowKit
set_option linter.unusedVariables false
theorem tb_small {w i : Int} {m : Nat} (h0 : 0 ≤ w) (h : w < 2 ^ m) (hi : (m : Int) ≤ i) : Bt.tb w i = false := by
  obtain ⟨n, rfl⟩ := Int.eq_ofNat_of_zero_le h0
  obtain ⟨k, rfl⟩ := Int.eq_ofNat_of_zero_le (show 0 ≤ i by omega)
  have h' : n < 2 ^ m := by exact_mod_cast h
  have : n.testBit k = false := Nat.testBit_lt_two_pow (Nat.lt_of_lt_of_le h' (Nat.pow_le_pow_right (by decide) (by omega)))
  simp [Bt.tb, this]
theorem or_small {a b : Int} (ha : 0 ≤ a) (ha' : a < 128) (hb : 0 ≤ b) (hb' : b < 128) : bits .or .u32 a b < 128 :=
  Bt.small_of_bits (Bt.rng_or ha (by omega) hb (by omega)).1 7 fun j hj => by
    rw [Bt.tb_or ha (by omega) hb (by omega), tb_small (m := 7) ha (by omega) hj, tb_small (m := 7) hb (by omega) hj]; rfl
theorem busy_no {a : Int} (ha : 0 ≤ a) (ha' : a < 128) : bits .and .u32 a 128 = 0 :=
  Bt.ext (Bt.rng_and ha (by omega) (by decide) (by decide)).1 (Bt.rng_and ha (by omega) (by decide) (by decide)).2 (by decide) (by decide) fun i h h' => by
    rw [Bt.tb_and ha (by omega) (by decide) (by decide), Bt.tb_zero]
    by_cases hi : 7 ≤ i
    · rw [tb_small (m := 7) ha (by omega) hi]; rfl
    · have : Bt.tb 128 i = false := by
        have : i = 0 ∨ i = 1 ∨ i = 2 ∨ i = 3 ∨ i = 4 ∨ i = 5 ∨ i = 6 := by omega
        rcases this with rfl | rfl | rfl | rfl | rfl | rfl | rfl <;> decide
      rw [this]; simp
theorem busy_yes {a : Int} (ha : 0 ≤ a) (ha' : a < 4294967296) : bits .and .u32 (bits .or .u32 a 128) 128 = 128 := by
  have r := Bt.rng_or ha ha' (y := 128) (by decide) (by decide)
  refine Bt.ext (Bt.rng_and r.1 r.2 (by decide) (by decide)).1 (Bt.rng_and r.1 r.2 (by decide) (by decide)).2 (by decide) (by decide) fun i h h' => ?_
  rw [Bt.tb_and r.1 r.2 (by decide) (by decide), Bt.tb_or ha ha' (by decide) (by decide)]
  cases Bt.tb a i <;> cases Bt.tb 128 i <;> rfl
theorem setE_c (s : Fl) (b : Int) : (setE s b).c = s.c := rfl
theorem command_c (s : Fl) (v : Int) : (command s v).c = s.c := by
  unfold command
  repeat' split
  all_goals rfl
theorem waited_c (s : Fl) (a v : Int) : (waited s a v).c = s.c := by
  unfold waited prog1 eras1 lock1
  repeat' split
  all_goals rfl
theorem write_chip (s : Fl) (a v : Int) : (write s a v).2.c = s.c := by
  unfold write
  split
  · show (match s.job with | some _ => s | none => if s.wait = 0 then command s v else waited s a v).c = s.c
    split
    · rfl
    · split
      · exact command_c s v
      · exact waited_c s a v
  · rfl
theorem setE_small {s : Fl} (h0 : 0 ≤ s.errs) (h : s.errs < 128) {b : Int} (hb : 0 ≤ b) (hb' : b < 128) : (setE s b).errs < 128 := or_small h0 h hb hb'
theorem command_small {s : Fl} (h0 : 0 ≤ s.errs) (h : s.errs < 128) (v : Int) : (command s v).errs < 128 := by
  have e48 : bits .or .u32 s.errs 48 < 128 := or_small h0 h (by decide) (by decide)
  have e0 : (0 : Int) < 128 := by decide
  unfold command setE
  repeat' split
  all_goals dsimp only
  all_goals with_reducible first | exact h | exact e0 | exact e48
theorem waited_small {s : Fl} (h0 : 0 ≤ s.errs) (h : s.errs < 128) (a v : Int) : (waited s a v).errs < 128 := by
  have e48 : bits .or .u32 s.errs 48 < 128 := or_small h0 h (by decide) (by decide)
  have e34 : bits .or .u32 s.errs 34 < 128 := or_small h0 h (by decide) (by decide)
  have e18 : bits .or .u32 s.errs 18 < 128 := or_small h0 h (by decide) (by decide)
  unfold waited prog1 eras1 lock1 setE
  repeat' split
  all_goals dsimp only
  all_goals with_reducible first | exact h | exact e18 | exact e34 | exact e48
theorem write_small {s : Fl} (h0 : 0 ≤ s.errs) (h : s.errs < 128) (a v : Int) : (write s a v).2.errs < 128 := by
  unfold write
  split
  · show (match s.job with | some _ => s | none => if s.wait = 0 then command s v else waited s a v).errs < 128
    split
    · exact h
    · split
      · exact command_small h0 h v
      · exact waited_small h0 h a v
  · exact h
theorem tick_small {s : Fl} (h0 : 0 ≤ s.errs) (h : s.errs < 128) (n : Int) : (tick s n).2.errs < 128 := by
  have e32 : bits .or .u32 s.errs 32 < 128 := or_small h0 h (by decide) (by decide)
  unfold tick
  split
  · split
    · exact h
    · split
      · exact h
      · split
        · exact h
        · split
          · exact e32
          · exact h
  · exact h
theorem tick_idle {s : Fl} (hj : s.job = none) (n : Int) : (tick s n).2.c = s.c := by
  unfold tick
  split
  · split
    · rfl
    · split
      · rfl
      · rename_i e; rw [hj] at e; cases e
  · rfl
theorem status_idle {s : Fl} (h : s.ok) (hj : s.job = none) : bits .and .u32 (status s) 128 = 128 := by
  have : status s = bits .or .u32 s.errs 128 := by unfold status; rw [hj]
  rw [this]; exact busy_yes h.elo h.ehi
theorem status_busy {s : Fl} (h : s.ok) (he : s.errs < 128) {j : Jb} (hj : s.job = some j) : bits .and .u32 (status s) 128 = 0 := by
  have : status s = s.errs := by unfold status; rw [hj]
  rw [this]; exact busy_no h.elo he
end Go.Proofs.Ytfghlfolejpjjaa.Cf

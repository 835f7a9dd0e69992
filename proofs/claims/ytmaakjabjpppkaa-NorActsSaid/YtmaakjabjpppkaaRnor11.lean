/- The reference's chip: each call's contract, its answer given by an equation. -/
import Derived.Test.YtmaakjabjpppkaaRnor10
namespace Go.Proofs.Ytmaakjabjpppkaa
open Go.RowKit
set_option linter.unusedVariables false
attribute [local go_sem] max2_int min2_int max_two min_two
namespace Rnor
/-- What a call leaves: its row of words, and its wear, are those that were there, or new ones. -/
structure RPost (w w' : World) (bw be a kap a2 kap2 : Nat) (c : Nr.C) : Prop where
  at_ : RAt w' a kap a2 kap2 c
  la : a = bw ∨ w.heap.size ≤ a
  lb : a2 = be ∨ w.heap.size ≤ a2
  below : Below w.heap.size w w'
theorem RPost.same {w w' : World} {bw kw be ke : Nat} {c : Nr.C} (h : RAt w bw kw be ke c) (hb : Below w.heap.size w w') : RPost w w' bw be bw kw be ke c := ⟨h.below hb, .inl rfl, .inl rfl, hb⟩
theorem words_len {c : Nr.C} (h : c.ok) : (c.words.length : Int) = (c.wear.length : Int) * 64 := by have := h.size; omega
theorem program_x {w : World} {bw kw be ke : Nat} {c c' : Nr.C} (h : RAt w bw kw be ke c) {at_ v e : Int} (hv : 0 ≤ v ∧ v < 4294967296) (q : Hid (Nr.programs c at_ v = (e, c'))) :
    Calls Try.prog 38 #[rv bw kw be ke c, .int .i64 at_, .int .u32 v] w fun x w' => ∃ a kap a2 kap2, x = .returned (.tuple #[rv a kap a2 kap2 c', .int .i64 e]) ∧ RPost w w' bw be a kap a2 kap2 c' := by
  have hl := words_len h.ok
  have q' := q.out
  unfold Nr.programs at q'
  rw [← hl] at q'
  by_cases ho : Nr.wrong c at_ (c.words.length : Int) = 0
  · rw [if_pos ho, Prod.mk.injEq] at q'
    have ho' := ho
    rw [hl] at ho'
    obtain ⟨m, rfl, hm⟩ := Nr.wrong_zero h.ok ho'
    refine (program_good h hm hv (Lib.hid ho) (Lib.hid (Nr.wrong_on ho)) (Lib.hid q'.2) (Lib.hid q'.1)).mono ?_
    rintro x w' ⟨a, kap, rfl, h1, h2, h3⟩
    exact ⟨a, kap, be, ke, rfl, h1, .inr h2, .inl rfl, h3⟩
  · rw [if_neg ho, Prod.mk.injEq] at q'
    obtain ⟨q1, rfl⟩ := q'
    refine (program_bad h at_ v (Lib.hid q1) (by rw [beq_eq_false_iff_ne, ← q1]; exact ho)).mono ?_
    rintro x w' ⟨rfl, h1⟩
    exact ⟨bw, kw, be, ke, rfl, RPost.same h h1⟩
theorem erase_x {w : World} {bw kw be ke : Nat} {c c' : Nr.C} (h : RAt w bw kw be ke c) {b e : Int} (q : Hid (Nr.erases c b = (e, c'))) :
    Calls Try.prog 34 #[rv bw kw be ke c, .int .i64 b] w fun x w' => ∃ a kap a2 kap2, x = .returned (.tuple #[rv a kap a2 kap2 c', .int .i64 e]) ∧ RPost w w' bw be a kap a2 kap2 c' := by
  have q' := q.out
  unfold Nr.erases at q'
  by_cases ho : Nr.wrong c b (c.wear.length : Int) = 0
  · rw [if_pos ho] at q'
    obtain ⟨m, rfl, hm⟩ := Nr.wrong_zero1 ho
    rw [Int.toNat_natCast] at q'
    by_cases hx : c.wear.getD m 0 < c.endure
    · rw [if_pos hx, Prod.mk.injEq] at q'
      refine (erase_good h hm (Lib.hid ho) (Lib.hid (Nr.wrong_on ho)) (Lib.hid rfl) hx (Lib.hid q'.2) (Lib.hid q'.1)).mono ?_
      rintro x w' ⟨a, kap, a2, kap2, rfl, h1, h2, h3, h4⟩
      exact ⟨a, kap, a2, kap2, rfl, h1, .inr h2, .inr h3, h4⟩
    · rw [if_neg hx, Prod.mk.injEq] at q'
      obtain ⟨rfl, rfl⟩ := q'
      refine (erase_worn h hm (Lib.hid ho) (by omega)).mono ?_
      rintro x w' ⟨rfl, h1⟩
      exact ⟨bw, kw, be, ke, rfl, RPost.same h h1⟩
  · rw [if_neg ho, Prod.mk.injEq] at q'
    obtain ⟨q1, rfl⟩ := q'
    refine (erase_bad h b (Lib.hid q1) (by rw [beq_eq_false_iff_ne, ← q1]; exact ho)).mono ?_
    rintro x w' ⟨rfl, h1⟩
    exact ⟨bw, kw, be, ke, rfl, RPost.same h h1⟩
theorem read_x {w : World} {bw kw be ke : Nat} {c : Nr.C} (h : RAt w bw kw be ke c) {at_ v e : Int} (q : Hid (Nr.reads c at_ = (v, e))) :
    Calls Try.prog 35 #[rv bw kw be ke c, .int .i64 at_] w fun x w' => x = .returned (.tuple #[.int .u32 v, .int .i64 e]) ∧ Below w.heap.size w w' := by
  have hl := words_len h.ok
  have q' := q.out
  unfold Nr.reads at q'
  rw [← hl, Prod.mk.injEq] at q'
  by_cases ho : Nr.wrong c at_ (c.words.length : Int) = 0
  · have ho' := ho
    rw [hl] at ho'
    obtain ⟨m, rfl, hm⟩ := Nr.wrong_zero h.ok ho'
    rw [if_pos ho, Int.toNat_natCast, ho] at q'
    obtain ⟨q1, rfl⟩ := q'
    exact read_good h hm (Lib.hid q1) (Lib.hid ho)
  · rw [if_neg ho] at q'
    obtain ⟨rfl, q2⟩ := q'
    exact read_bad h at_ (Lib.hid q2) (by rw [beq_eq_false_iff_ne, ← q2]; exact ho)
theorem fuse_x {w : World} {bw kw be ke : Nat} {c c' : Nr.C} (h : RAt w bw kw be ke c) {n p : Int} (hn : n ≤ 9223372036854775807) (hp : 0 ≤ p ∧ p < 4294967296) (q : Hid (Nr.fuse c n p = c')) :
    Calls Try.prog 36 #[rv bw kw be ke c, .int .i64 n, .int .u32 p] w fun x w' => ∃ a kap a2 kap2, x = .returned (rv a kap a2 kap2 c') ∧ RPost w w' bw be a kap a2 kap2 c' := by
  refine (fuse_c h.ok q).mono ?_
  rintro x w' ⟨rfl, h1⟩
  have o := Nr.fuse_ok h.ok hn hp.1 hp.2
  rw [q.out] at o
  refine ⟨bw, kw, be, ke, rfl, ⟨o, ?_, ?_, ?_, ?_⟩, .inl rfl, .inl rfl, h1⟩
  all_goals rw [← q.out]
  · exact h.kw
  · exact h.ke
  · exact h.words.below h1
  · exact h.wear.below h1
theorem on_x {w : World} {bw kw be ke : Nat} {c c' : Nr.C} (h : RAt w bw kw be ke c) (q : Hid (Nr.on c = c')) :
    Calls Try.prog 37 #[rv bw kw be ke c] w fun x w' => ∃ a kap a2 kap2, x = .returned (rv a kap a2 kap2 c') ∧ RPost w w' bw be a kap a2 kap2 c' := by
  refine on_c.mono ?_
  rintro x w' ⟨rfl, h1⟩
  have o := Nr.on_ok h.ok
  rw [q.out] at o
  rw [q.out]
  refine ⟨bw, kw, be, ke, rfl, ⟨o, ?_, ?_, ?_, ?_⟩, .inl rfl, .inl rfl, h1⟩
  all_goals rw [← q.out]
  · exact h.kw
  · exact h.ke
  · exact h.words.below h1
  · exact h.wear.below h1
end Rnor
end Go.Proofs.Ytmaakjabjpppkaa

/- The reference's chip: New. -/
import Derived.Test.YtmaakjabjpppkaaRnor9
import Derived.Test.YtmaakjabjpppkaaNew
namespace Go.Proofs.Ytmaakjabjpppkaa
open Go.RowKit
set_option linter.unusedVariables false
attribute [local go_sem] max2_int min2_int max_two min_two
namespace Rnor
theorem rep_snoc (k : Nat) : List.replicate k (4294967295 : Int) ++ [4294967295] = List.replicate (k + 1) 4294967295 := by rw [List.replicate_succ']
structure Ones (w wr : World) (v : Value) (k : Nat) : Prop where
  own : wr.ownsRow (w.heap.size + 1) 22 1 v k ((List.replicate k (4294967295 : Int)).map (Value.int .u32))
  below : Below w.heap.size w wr
  box : Hid (wr.heap[w.heap.size]? = some (.cells #[.slice none 0 0, .slice none 0 0, .int .i64 0, .int .i64 0, .int .u32 0, .bool false] 49 (0, 0)))
set_option maxHeartbeats 1000000 in
set_option maxRecDepth 100000 in
theorem new_c {w : World} {n : Nat} {endure : Int} (h1 : 1 ≤ n) (h2 : n ≤ 64) (he : 0 ≤ endure) (he2 : Hid (endure ≤ 9223372036854775807)) {c : Nr.C} (q : Hid (Nr.new n endure = c)) :
    Calls Try.prog 24 #[.int .i64 n, .int .i64 endure] w fun e w' => ∃ a kap a2 kap2, e = .returned (rv a kap a2 kap2 c) ∧ RAt w' a kap a2 kap2 c ∧ w.heap.size ≤ a ∧ w.heap.size ≤ a2 ∧ Below w.heap.size w w' := by
  have M0 : Ones w (w.alloc (.cells #[.slice none 0 0, .slice none 0 0, .int .i64 0, .int .i64 0, .int .u32 0, .bool false] 49)) (.slice none 0 0) 0 := ⟨World.ownsRow_nil _ _ _ _, alloc1_below w _, Lib.hid (heap_alloc_new w _)⟩
  go_enter Try.func24, Try.ntmps24
  go_wp2
  go_loopw [5, 6] (fun v i wr => ∃ k : Nat, k ≤ 64 * n ∧ i = .int .i64 k ∧ Ones w wr v k) (fun _ i _ => 64 * n - (intOf i).toNat)
  case atStart => exact ⟨0, Nat.zero_le _, rfl, M0⟩
  case round =>
    clear M0
    rename_i v wr _
    obtain ⟨k, hk, rfl, hM⟩ := hrel
    by_cases h3 : k < 64 * n
    · have h4 : (k : Int) < (n : Int) * 64 := by omega
      have hz := hM.below.size
      have hl := (Array.getElem?_eq_some_iff.1 hM.box.out).1
      go_wp2_with (at_builtin; refine append_r (by go_simp) _ _ rfl (w.heap.size + 1) _ k _ rfl (hM.own.alloc _) (b := wr.heap.size) (off := 0) (m := 1) (zs := [4294967295]) rfl rfl (one_cell wr 4294967295) (by omega) (by simp; omega) ?_; intro v1 w1 o1 g1; rw [rep_snoc] at o1; have B1 := own_grown (B := w.heap.size + 1) ((Below.refl _ wr).alloc hl _) (by simp; omega) (hM.own.alloc _) g1; clear g1)
      go_roundw
      case rel => exact ⟨k + 1, by omega, by go_num, o1, Below.trans' hM.below B1, Lib.hid ((B1.block _ (Nat.lt_succ_self _)).trans hM.box.out)⟩
      case measure => simp [intOf]; omega
    · obtain rfl : k = 64 * n := by omega
      obtain ⟨a, kap, rfl, p1, p2, p3, p4⟩ := row_own hM.own (by omega)
      have hof := of_c (w := wr) (b := a) (kap := kap) h1 h2 List.length_replicate he (fun i => by rw [Nr.getD_replicate]; split <;> decide) he2.out p4 (c := c) (Lib.hid (by rw [Nor.new_eq]; exact q.out))
      clear p3
      simp only [rv_eq] at hof
      go_wp2_with (go_at_call 33; refine hof.mono ?_; rintro e w2 ⟨a', ka', a2, ka2, rfl, q1, q2, q3, q4⟩; clear hof; have E2 := Lib.hid ((q4.block _ (Array.getElem?_eq_some_iff.1 hM.box.out).1).trans hM.box.out); obtain ⟨x0, x1, x2, x3, x4, x5, xf⟩ := cells6 E2.out)
      have BB : Below w.heap.size w w2 := Below.then hM.below q4
      have s1 := hM.below.size
      refine bodyPost_ret (retC rfl _ _ w.heap.size _ rfl (put6 E2.out _ _ _ _ _ _) rfl) rfl ⟨a', ka', a2, ka2, rfl, ⟨q1.ok, q1.kw, q1.ke, ?_, ?_⟩, by omega, by omega, put6_below BB (Nat.le_refl _) _ _ _ _ _ _⟩
      · obtain ⟨cur, ea, hc⟩ := q1.words
        refine ⟨cur, (put6_away ?_ _ _ _ _ _ _).trans ea, hc⟩
        intro d
        rw [d, E2.out] at ea
        cases ea
      · obtain ⟨cur, ea, hc⟩ := q1.wear
        refine ⟨cur, (put6_away ?_ _ _ _ _ _ _).trans ea, hc⟩
        intro d
        rw [d, E2.out] at ea
        cases ea
end Rnor
end Go.Proofs.Ytmaakjabjpppkaa

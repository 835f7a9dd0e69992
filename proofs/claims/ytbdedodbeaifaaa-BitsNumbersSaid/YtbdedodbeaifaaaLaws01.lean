/- The walks of the laws of package bits: each returns true for every input and writes nothing that was there. -/
import Derived.Test.YtbdedodbeaifaaaRef1
import Derived.Test.YtbdedodbeaifaaaBtLaws
import Derived.Test.YtbdedodbeaifaaaOpen
namespace Go.Proofs.Ytbdedodbeaifaaa
open Go.RowKit
namespace Laws01
theorem alive_c (w : World) : Calls Try.prog 9 #[] w fun e w' => e = .returned (.bool true) ∧ ∃ n, w' = w.drewN n := by
  have e1 : (Bt.field 43981 4 8 == 188) = true := by decide +kernel
  have e2 : (Bt.put 0 4 8 4028 == 3008) = true := by decide +kernel
  have e3 : (Bt.sign 8 4 == 4294967288) = true := by decide +kernel
  have e4 : (Bt.part 255 240 1 == 254) = true := by decide +kernel
  have e5 : (Bt.turn 1 (-1) == 2147483648) = true := by decide +kernel
  go_enter Try.func9, Try.ntmps9
  go_wp2_with (first | (go_at_call 10; refine (Bits.field_c _ _ _ _ (by decide) (by decide)).mono ?_; rintro e w' ⟨rfl, rfl⟩) | (go_at_call 12; refine (Bits.put_c _ _ _ _ _ (by decide) (by decide) (by decide) (by decide)).mono ?_; rintro e w' ⟨rfl, n, rfl⟩) | (go_at_call 14; refine (Bits.sign_c _ _ _ (by decide) (by decide)).mono ?_; rintro e w' ⟨rfl, rfl⟩) | (go_at_call 16; refine (Bits.part_c _ _ _ _ (by decide) (by decide) (by decide) (by decide) (by decide) (by decide)).mono ?_; rintro e w' ⟨rfl, rfl⟩) | (go_at_call 18; refine (Bits.turn_c _ _ _ (by decide) (by decide)).mono ?_; rintro e w' ⟨rfl, rfl⟩))
  go_ret
  exact ⟨rfl, _, rfl⟩


theorem BitsTells_c (a0 : Int) (cs1 : Array Value) (a2 : Int) (w : World) (w0 : (Lit.int .u32 a0).wf = true) (s1 : Sh.ok w (.agg 2 [(0, 1, .int .i64), (1, 1, .int .i64)]) cs1.toList) (w2 : (Lit.int .u32 a2).wf = true) :
    Calls Try.prog 3 #[.int .u32 a0, .agg cs1, .int .u32 a2] w fun e w' => e = .returned (.bool true) ∧ Below w.heap.size w w' := by
  obtain ⟨cs1⟩ := cs1
  simp only [Sh.ok, Sh.oks] at s1
  obtain ⟨hl, ⟨m, hm, wm⟩, ⟨n, hn, wn⟩, -⟩ := s1
  match cs1, hl with
  | [c0, c1], _ =>
    simp only [List.take, List.drop, List.cons.injEq, and_true] at hm hn
    subst hm hn
    obtain ⟨x0, y0⟩ := wf_u32 w0
    obtain ⟨x2, y2⟩ := wf_u32 w2
    have HA := Lib.hid (wf_i64 wm).1
    clear w0 w2 wm wn
    go_enter Try.func3, Try.ntmps3
    go_wp2_with (go_at_call 9; refine (alive_c _).mono ?_; rintro e w' ⟨rfl, n, rfl⟩)
    go_quiet ((first | (go_at_call 10; first | exact quiet_add_is (Bits.field_c _ _ _ _ x0 y0) | exact quiet_is (Bits.field_c _ _ _ _ x0 y0)) | (go_at_call 11; first | exact quiet_add_is (Ref1.field_c _ _ _ _ x0 y0 HA) | exact quiet_is (Ref1.field_c _ _ _ _ x0 y0 HA)) | (go_at_call 12; first | exact quiet_add (Bits.put_c _ _ _ _ _ x0 y0 x2 y2) | exact Calls.quiet_of (Bits.put_c _ _ _ _ _ x0 y0 x2 y2)) | (go_at_call 13; first | exact quiet_add_is (Ref1.put_c _ _ _ _ _ x0 y0 x2 y2 HA) | exact quiet_is (Ref1.put_c _ _ _ _ _ x0 y0 x2 y2 HA))))
    go_wp2
    go_ret
    exact ⟨rfl, below_step (below_step ((Below.refl _ _).alloc (Nat.le_refl _) _) _) _⟩

theorem BitsSigns_c (a0 a1 a2 : Int) (w : World) (w0 : (Lit.int .u32 a0).wf = true) (w1 : (Lit.int .u32 a1).wf = true) (_w2 : (Lit.int .i64 a2).wf = true) :
    Calls Try.prog 4 #[.int .u32 a0, .int .u32 a1, .int .i64 a2] w fun e w' => e = .returned (.bool true) ∧ Below w.heap.size w w' := by
  obtain ⟨x0, y0⟩ := wf_u32 w0
  obtain ⟨x1, y1⟩ := wf_u32 w1
  have x2 := Int.emod_nonneg a2 (by decide : (4294967296 : Int) ≠ 0)
  have y2 := Int.emod_lt_of_pos a2 (by decide : (0 : Int) < 4294967296)
  clear w0 w1
  go_enter Try.func4, Try.ntmps4
  go_wp2_with (first | (go_at_call 9; refine (alive_c _).mono ?_; rintro e w' ⟨rfl, n, rfl⟩) | (go_at_call 14; refine (Bits.sign_c _ _ _ x0 y0).mono ?_; rintro e w' ⟨rfl, rfl⟩) | (go_at_call 15; refine (Ref1.sign_c _ _ _ x0 y0).mono ?_; rintro e w' ⟨rfl, rfl⟩) | (go_at_call 16; refine (Bits.part_c _ _ _ _ x0 y0 x1 y1 x2 y2).mono ?_; rintro e w' ⟨rfl, rfl⟩) | (go_at_call 17; refine (Ref1.part_c _ _ _ _ x0 y0 x1 y1 x2 y2).mono ?_; rintro e w' ⟨rfl, rfl⟩) | (go_at_call 18; refine (Bits.turn_c _ _ _ x0 y0).mono ?_; rintro e w' ⟨rfl, rfl⟩) | (go_at_call 19; refine (Ref1.turn_c _ _ _ x0 y0).mono ?_; rintro e w' ⟨rfl, rfl⟩))
  go_ret
  exact ⟨rfl, below_drewN _ _⟩

theorem BitsWay_c (a0 a1 : Int) (cs2 : Array Value) (w : World) (w0 : (Lit.int .u32 a0).wf = true) (w1 : (Lit.int .u32 a1).wf = true) (s2 : Sh.ok w (.agg 2 [(0, 1, .int .u32), (1, 1, .int .u32)]) cs2.toList) :
    Calls Try.prog 5 #[.int .u32 a0, .int .u32 a1, .agg cs2] w fun e w' => e = .returned (.bool true) ∧ Below w.heap.size w w' := by
  obtain ⟨cs2⟩ := cs2
  simp only [Sh.ok, Sh.oks] at s2
  obtain ⟨hl, ⟨m, hm, wm⟩, ⟨n, hn, wn⟩, -⟩ := s2
  match cs2, hl with
  | [c0, c1], _ =>
    simp only [List.take, List.drop, List.cons.injEq, and_true] at hm hn
    subst hm hn
    obtain ⟨x0, y0⟩ := wf_u32 w0
    obtain ⟨x1, y1⟩ := wf_u32 w1
    obtain ⟨x2, y2⟩ := wf_u32 wm
    obtain ⟨x3, y3⟩ := wf_u32 wn
    clear w0 w1 wm wn
    obtain ⟨x4, y4⟩ := Bt.part_rng a0 a1 m
    obtain ⟨x5, y5⟩ := Bt.rng_or x2 y2 x3 y3
    have e1 := Bt.part_all (a := a0) x1 y1
    have e2 := Bt.part_none (b := a1) x0 y0
    have e3 := Bt.part_two (a := a0) (b := a1) x2 y2 x3 y3
    have e4 := Bt.part_same (p := m) x0 y0 x1 y1
    go_enter Try.func5, Try.ntmps5
    go_wp2_with (first | (go_at_call 9; refine (alive_c _).mono ?_; rintro e w' ⟨rfl, n, rfl⟩) | (go_at_call 16; refine (Bits.part_c _ _ _ _ (by omega) (by omega) (by omega) (by omega) (by omega) (by omega)).mono ?_; rintro e w' ⟨rfl, rfl⟩))
    go_quiet ((first | (go_at_call 16; first | exact quiet_add_is (Bits.part_c _ _ _ _ (by omega) (by omega) (by omega) (by omega) (by omega) (by omega)) | exact quiet_is (Bits.part_c _ _ _ _ (by omega) (by omega) (by omega) (by omega) (by omega) (by omega)))))
    go_wp2
    go_ret
    exact ⟨rfl, below_step (below_step ((Below.refl _ _).alloc (Nat.le_refl _) _) _) _⟩

theorem BitsTurns_c (a0 a1 a2 : Int) (w : World) (w0 : (Lit.int .u32 a0).wf = true) (w1 : (Lit.int .i8 a1).wf = true) (w2 : (Lit.int .i8 a2).wf = true) :
    Calls Try.prog 6 #[.int .u32 a0, .int .i8 a1, .int .i8 a2] w fun e w' => e = .returned (.bool true) ∧ Below w.heap.size w w' := by
  obtain ⟨x0, y0⟩ := wf_u32 w0
  obtain ⟨x1, y1⟩ := wf_i8 w1
  obtain ⟨x2, y2⟩ := wf_i8 w2
  obtain ⟨x3, y3⟩ := Bt.turn_rng a0 a1
  clear w0 w1 w2
  go_enter Try.func6, Try.ntmps6
  go_wp2_with (first | (go_at_call 9; refine (alive_c _).mono ?_; rintro e w' ⟨rfl, n, rfl⟩) | (go_at_call 18; refine (Bits.turn_c _ _ _ x0 y0).mono ?_; rintro e w' ⟨rfl, rfl⟩))
  go_loop [7, 8, 17] (fun p q i => ∃ k : Nat, k ≤ 32 ∧ i = .int .i64 k ∧ p = .int .i64 (Bt.ones a0 k) ∧ q = .int .i64 (Bt.ones (Bt.turn a0 a1) k)) (fun _ _ i => 32 - (intOf i).toNat)
  case atStart => exact ⟨0, Nat.zero_le _, rfl, rfl, rfl⟩
  case round =>
    obtain ⟨k, hk, rfl, rfl, rfl⟩ := hrel
    obtain ⟨f1, f2⟩ := Bt.ones_rng x0 y0 k
    obtain ⟨f3, f4⟩ := Bt.ones_rng x3 y3 k
    obtain ⟨g1, g2⟩ := Bt.and_rng k x0 y0
    obtain ⟨g3, g4⟩ := Bt.and_rng k x3 y3
    by_cases h2 : (k : Int) < 32
    · go_wp2
      go_round
      case rel => exact ⟨k + 1, by omega, by go_num, rfl, rfl⟩
      case measure => simp [intOf]; omega
    · obtain rfl : k = 32 := by omega
      have e1 := Bt.turn_turn a0 a1 a2
      have e2 := Bt.turn_32 x0 y0
      have e3 := Bt.turn_back (a := a1) x0 y0
      have e4 : (Bt.ones a0 32 == Bt.ones (Bt.turn a0 a1) 32) = true := by rw [Bt.ones_turn a1 x0 y0]; simp
      go_wp2_with (first | (go_at_call 18; refine (Bits.turn_c _ _ _ (by with_reducible first | exact x0 | exact x3) (by with_reducible first | exact y0 | exact y3)).mono ?_; rintro e w' ⟨rfl, rfl⟩))
      go_ret
      exact ⟨rfl, below_drewN _ _⟩

theorem BitsParts_c (a0 a1 : Int) (w : World) (w0 : (Lit.int .u32 a0).wf = true) (w1 : (Lit.int .u8 a1).wf = true) :
    Calls Try.prog 7 #[.int .u32 a0, .int .u8 a1] w fun e w' => e = .returned (.bool true) ∧ Below w.heap.size w w' := by
  obtain ⟨x0, y0⟩ := wf_u32 w0
  obtain ⟨x1, y1⟩ := wf_u8 w1
  clear w0 w1
  have e1 := Bt.parts (k := a1 % 33) x0 y0 (by omega) (by omega)
  have e2 := Bt.parts_high a0 (a1 % 33)
  go_enter Try.func7, Try.ntmps7
  go_wp2_with (first | (go_at_call 9; refine (alive_c _).mono ?_; rintro e w' ⟨rfl, n, rfl⟩) | (go_at_call 10; refine (Bits.field_c _ _ _ _ (by with_reducible first | exact x0 | exact (Bt.field_rng _ _ _).1) (by with_reducible first | exact y0 | exact (Bt.field_rng _ _ _).2)).mono ?_; rintro e w' ⟨rfl, rfl⟩) | (go_at_call 12; refine (Bits.put_c _ _ _ _ _ (by first | decide | with_reducible exact (Bt.put_rng _ _ _ _).1) (by first | decide | with_reducible exact (Bt.put_rng _ _ _ _).2) (Bt.field_rng _ _ _).1 (Bt.field_rng _ _ _).2).mono ?_; rintro e w' ⟨rfl, n, rfl⟩))
  go_ret
  exact ⟨rfl, below_drewN _ _⟩

theorem BitsNumbers_c (a0 a1 : Int) (w : World) (w0 : (Lit.int .u32 a0).wf = true) (w1 : (Lit.int .u8 a1).wf = true) :
    Calls Try.prog 8 #[.int .u32 a0, .int .u8 a1] w fun e w' => e = .returned (.bool true) ∧ Below w.heap.size w w' := by
  obtain ⟨x0, y0⟩ := wf_u32 w0
  obtain ⟨x1, y1⟩ := wf_u8 w1
  clear w0 w1
  obtain ⟨m, hm⟩ : ∃ m : Nat, a1 % 31 = m := ⟨(a1 % 31).toNat, by omega⟩
  have hm' : m ≤ 30 := by omega
  have HM := Lib.hid hm
  clear hm
  go_enter Try.func8, Try.ntmps8
  go_wp2_with fail
  refine (alive_c _).mono ?_
  rintro e w' ⟨rfl, n, rfl⟩
  go_wp2_with fail
  rw [HM.out]
  refine (Bits.sign_c _ _ _ x0 y0).mono ?_
  rintro e w' ⟨rfl, rfl⟩
  obtain ⟨s0, s1⟩ := Bt.sign_rng (m := 1 + (m : Int)) x0 y0
  obtain ⟨e1, e2⟩ := Bt.sign_ends' (m := m) x0 y0 hm'
  obtain ⟨p1, p2⟩ := Bt.power_rng (k := m) (by omega)
  have q1 : wrap64 (2 ^ m) = 2 ^ m := by unfold wrap64; omega
  have q2 : wrap64 (-2 ^ m) = -2 ^ m := by unfold wrap64; omega
  have e3 := Bt.sign_low (k := 1 + (m : Int)) x0 y0 (by omega) (by omega)
  have Z0 := Lib.hid (Int.emod_nonneg (wrap32 (Bt.sign a0 (1 + (m : Int)))) (by decide : (4294967296 : Int) ≠ 0))
  have Z1 := Lib.hid (Int.emod_lt_of_pos (wrap32 (Bt.sign a0 (1 + (m : Int)))) (by decide : (0 : Int) < 4294967296))
  obtain ⟨u1, u2⟩ := Bt.wrap32_rng (Bt.sign a0 (1 + (m : Int)))
  go_wp2_with (go_at_call 10; refine (Bits.field_c _ _ _ _ (by with_reducible first | exact x0 | exact Z0.out) (by with_reducible first | exact y0 | exact Z1.out)).mono ?_; rintro e w' ⟨rfl, rfl⟩)
  go_ret
  exact ⟨rfl, below_drewN _ _⟩

end Laws01
end Go.Proofs.Ytbdedodbeaifaaa
